/- filewatch.Batches as the printed function: the events cut into groups, each merged. Condition: at most 1000 events. -/
import Derived.Test.YtgigbllohagfmaaFwPb
import Derived.Test.YtgigbllohagfmaaFwx2
set_option linter.unusedVariables false
set_option linter.unusedSimpArgs false
namespace Go.Proofs.Ytgigbllohagfmaa.Fw
open Go.RowKit Go.Proofs.YtgigbllohagfmaaW.PrintWords Go.Proofs.YtgigbllohagfmaaW.PrintLast Go.Proofs.YtgigbllohagfmaaW.PrintMore
open Go.Proofs.Ytgigbllohagfmaa

def one (g : List S33) : List S33 := outK (merged g) (Sk.sortedKeys (merged g))
/-- bs are the batches of es, cut into groups -/
def Deliv (es : List S33) (bs : List S31) : Prop := (∃ gs : List (List S33), gs.flatten = es ∧ bs.flatMap (·.f1) = gs.flatMap one) ∧ bs.length ≤ es.length
theorem deliv_runs {es : List S33} {bs : List S31} (h : Deliv es bs) (hg : ∀ e ∈ es, e.f2 = 1 ∨ e.f2 = 2 ∨ e.f2 = 3) (p : ByteArray) {b c : Bool} (hr : run1 b (kp es p) = some c) : run1 b (kp (bs.flatMap (·.f1)) p) = some c := by
  obtain ⟨⟨gs, rfl, h2⟩, h9⟩ := h
  clear h9
  rw [h2]
  clear h2
  induction gs generalizing b with
  | nil => exact hr
  | cons g gs ih =>
    rw [List.flatten_cons, kp_append, run1_append] at hr
    obtain ⟨d, hd, hr⟩ := Option.bind_eq_some_iff.1 hr
    have hgg : good (kp g p) := by
      intro k hk
      unfold kp at hk
      obtain ⟨e, he, rfl⟩ := List.mem_map.1 hk
      exact hg e (by rw [List.flatten_cons]; exact List.mem_append_left _ (List.mem_filter.1 he).1)
    rw [List.flatMap_cons, kp_append, run1_append]
    unfold one
    rw [kp_outK, (merged_runs hgg hd).1, Option.bind_some]
    exact ih (fun e he => hg e (by rw [List.flatten_cons]; exact List.mem_append_right _ he)) hr
theorem deliv_good {es : List S33} {bs : List S31} (h : Deliv es bs) (hg : ∀ e ∈ es, e.f2 = 1 ∨ e.f2 = 2 ∨ e.f2 = 3) {b : ByteArray → Bool} (hr : ∀ p, (run1 (b p) (kp es p)).isSome = true) : ∀ e ∈ bs.flatMap (·.f1), e.f2 = 1 ∨ e.f2 = 2 ∨ e.f2 = 3 := by
  intro e he
  have hk : e.f2 ∈ kp (bs.flatMap (·.f1)) e.f1 := by
    unfold kp
    exact List.mem_map_of_mem (List.mem_filter.2 ⟨he, by simp⟩)
  obtain ⟨⟨gs, rfl, h2⟩, h9⟩ := h
  clear h9
  rw [h2] at hk
  clear h2 he
  revert hk
  have h0 := hr e.f1
  clear hr
  generalize e.f2 = k
  revert h0
  generalize e.f1 = p
  generalize b p = c
  intro h0
  induction gs generalizing c with
  | nil => intro hk; cases hk
  | cons g gs ih =>
    rw [List.flatten_cons, kp_append, run1_append] at h0
    cases hd : run1 c (kp g p) with
    | none => rw [hd] at h0; cases h0
    | some d =>
      rw [hd, Option.bind_some] at h0
      have hgg : good (kp g p) := by
        intro k hk
        unfold kp at hk
        obtain ⟨e, he, rfl⟩ := List.mem_map.1 hk
        exact hg e (by rw [List.flatten_cons]; exact List.mem_append_left _ (List.mem_filter.1 he).1)
      intro hk
      rw [List.flatMap_cons, kp_append, List.mem_append] at hk
      rcases hk with hk | hk
      · unfold one at hk
        rw [kp_outK] at hk
        split at hk
        · rename_i hz
          rw [List.mem_singleton] at hk
          rcases (merged_runs hgg hd).2 with h | h | h | h
          · exact absurd h hz
          · exact .inl (hk.trans h)
          · exact .inr (.inl (hk.trans h))
          · exact .inr (.inr (hk.trans h))
        · cases hk
      · exact ih (fun e he => hg e (by rw [List.flatten_cons]; exact List.mem_append_right _ he)) d h0 hk

theorem w64 {n : Int} (h : -9223372036854775808 ≤ n) (h' : n ≤ 9223372036854775807) : wrap64 n = n := by unfold wrap64; omega
theorem newBatch_is (g : List S33) (dl : Int) (h0 : 0 < g.length) (hl : g.length ≤ 1000) (hk : ∀ e ∈ g, e.f1.size ≤ 9223372036854775807) : ∃ t, filewatch_newBatch.f g dl = some (t, one g) := by
  unfold filewatch_newBatch.f
  rw [if_pos ⟨h0, by omega, List.all_eq_true.2 fun e he => decide_eq_true (hk e he)⟩]
  exact ⟨_, rfl⟩
theorem batches_loop (es : List S33) (dl : Int) (hl : es.length ≤ 1000) (hk : ∀ e ∈ es, e.f1.size ≤ 9223372036854775807) : ∀ (d i start : Nat) (bs : List S31) (k : Nat), i + d = es.length → start ≤ i → (i = es.length → start = i) → bs.length ≤ i → 2 * d + 1 ≤ k →
    ∃ bs', filewatch_Batches.l0 k es dl bs (start : Int) (es.length : Int) (i : Int) = some (bs ++ bs', 0) ∧ Deliv (es.drop start) bs' := by
  intro d
  induction d with
  | zero =>
    intro i start bs k hi hs he hb hkk
    obtain ⟨k, rfl⟩ : ∃ m, k = m + 1 := ⟨k - 1, by omega⟩
    refine ⟨[], ?_, ⟨[], ?_, rfl⟩, Nat.zero_le _⟩
    · simp only [filewatch_Batches.l0]
      rw [if_neg (by omega), List.append_nil]
    · have := he (by omega)
      rw [List.drop_eq_nil_of_le (by omega)]
      rfl
  | succ d ih =>
    intro i start bs k hi hs he hb hkk
    obtain ⟨k, rfl⟩ : ∃ m, k = m + 2 := ⟨k - 2, by omega⟩
    have hi' : i < es.length := by omega
    have hwi : wrap64 ((i : Int) + 1) = ((i + 1 : Nat) : Int) := by rw [w64 (by omega) (by omega)]; omega
    have tail : ∀ c : Bool, (c = true → i + 1 < es.length) → ∃ bs', filewatch_Batches.j1 (k + 1) es dl bs (start : Int) (i : Int) (es.length : Int) (i : Int) c = some (bs ++ bs', 0) ∧ Deliv (es.drop start) bs' := by
      intro c hc
      simp only [filewatch_Batches.j1]
      cases c with
      | true =>
        rw [if_pos rfl, hwi]
        exact ih (i + 1) start bs k (by omega) (by omega) (fun h => by have := hc rfl; omega) (by omega) (by omega)
      | false =>
        have hg : ((es.take (i + 1)).drop start).length = i + 1 - start := by rw [List.length_drop, List.length_take]; omega
        obtain ⟨t, ht⟩ := newBatch_is ((es.take (i + 1)).drop start) dl (by omega) (by omega) (fun e he => hk e (List.mem_of_mem_take (List.mem_of_mem_drop he)))
        rw [if_neg (by simp), if_pos (by omega), hwi, if_pos (by omega), if_pos (by omega), show (((i + 1 : Nat) : Int)).toNat = i + 1 from by omega, show ((start : Int)).toNat = start from by omega, ht, Option.bind_some]
        have hsplit : es.drop start = (es.take (i + 1)).drop start ++ es.drop (i + 1) := by
          conv => lhs; rw [← List.take_append_drop (i + 1) es]
          rw [List.drop_append_of_le_length (by rw [List.length_take]; omega)]
        have deliver : ∀ bs0 : List S31, bs0.length ≤ 1 → bs0.flatMap (·.f1) = one ((es.take (i + 1)).drop start) → ∀ bs', Deliv (es.drop (i + 1)) bs' → Deliv (es.drop start) (bs0 ++ bs') := by
          rintro bs0 hl0 h0 bs' ⟨⟨gs, h1, h2⟩, h3⟩
          refine ⟨⟨(es.take (i + 1)).drop start :: gs, ?_, ?_⟩, by rw [List.length_append, List.length_drop]; rw [List.length_drop] at h3; omega⟩
          · rw [List.flatten_cons, h1, hsplit]
          · rw [List.flatMap_append, h0, h2, List.flatMap_cons]
        simp only
        by_cases hz : ((one ((es.take (i + 1)).drop start)).length : Int) > 0
        · rw [if_pos hz, if_pos (by omega)]
          obtain ⟨bs', h1, h2⟩ := ih (i + 1) (i + 1) (bs ++ [(⟨t, one ((es.take (i + 1)).drop start)⟩ : S31)]) k (by omega) (Nat.le_refl _) (fun _ => rfl) (by rw [List.length_append, List.length_singleton]; omega) (by omega)
          refine ⟨[(⟨t, one ((es.take (i + 1)).drop start)⟩ : S31)] ++ bs', ?_, deliver _ (by simp) (by simp) _ h2⟩
          rw [h1, List.append_assoc]
        · rw [if_neg hz]
          obtain ⟨bs', h1, h2⟩ := ih (i + 1) (i + 1) bs k (by omega) (Nat.le_refl _) (fun _ => rfl) (by omega) (by omega)
          refine ⟨bs', h1, ?_⟩
          have := deliver [] (by simp) (by
            have : (one ((es.take (i + 1)).drop start)).length = 0 := by omega
            rw [List.eq_nil_of_length_eq_zero this]; rfl) bs' h2
          exact this
    rw [show k + 2 = (k + 1) + 1 from rfl]
    simp only [filewatch_Batches.l0]
    rw [if_pos (by omega)]
    by_cases hn : i + 1 < es.length
    · rw [hwi, if_pos (by omega), if_pos (by omega), if_pos (by omega), if_pos (by omega)]
      exact tail _ (fun _ => hn)
    · rw [hwi, if_neg (by omega)]
      exact tail false (fun h => by cases h)
end Go.Proofs.Ytgigbllohagfmaa.Fw
