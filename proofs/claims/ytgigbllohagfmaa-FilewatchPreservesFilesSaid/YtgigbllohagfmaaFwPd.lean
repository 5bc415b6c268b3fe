/- The events that the law makes of its argument: in order, of the three kinds; Batches takes them. Condition: at most 40 events are taken. -/
import Derived.Test.YtgigbllohagfmaaFwPc
import Derived.Test.YtgigbllohagfmaaFwx3
set_option linter.unusedVariables false
set_option linter.unusedSimpArgs false
namespace Go.Proofs.Ytgigbllohagfmaa.Fw
open Go.RowKit Go.Proofs.YtgigbllohagfmaaW.PrintWords Go.Proofs.YtgigbllohagfmaaW.PrintLast Go.Proofs.YtgigbllohagfmaaW.PrintMore
open Go.Proofs.Ytgigbllohagfmaa

theorem mod_range (a m : Int) (hm : 0 < m) (hm' : m ≤ 1000000) : ∃ r, glossatorref3_Mod.f a m = some r ∧ 0 ≤ r ∧ r < m := by
  unfold glossatorref3_Mod.f
  rw [if_neg (by omega)]
  have h1 := Int.tmod_lt_of_pos a hm
  by_cases h : Int.tmod a m < 0
  · rw [if_pos h]
    have h2 : -m < Int.tmod a m := Int.lt_tmod_of_pos a hm
    exact ⟨_, rfl, by rw [w64 (by omega) (by omega)]; omega, by rw [w64 (by omega) (by omega)]; omega⟩
  · rw [if_neg h]; exact ⟨_, rfl, by omega, h1⟩
theorem rd_get (xs : List S33) (i : Nat) (h : i < xs.length) : rd_T33 xs (i : Int) = xs[i] := by
  unfold rd_T33
  simp [h]
structure Tm (l : List S33) (t : Int) : Prop where
  kinds : ∀ e ∈ l, e.f2 = 1 ∨ e.f2 = 2 ∨ e.f2 = 3
  keys : ∀ e ∈ l, e.f1.size ≤ 9223372036854775807
  times : ∀ e ∈ l, 0 ≤ e.f0 ∧ e.f0 ≤ t
  order : l.Pairwise (fun a b => a.f0 ≤ b.f0)
theorem timed_loop (xs : List S33) (hx : xs.length ≤ 40) (hk : ∀ e ∈ xs, e.f1.size ≤ 9223372036854775807) : ∀ (d i : Nat) (acc : List S33) (t : Int) (k : Nat), i + d = xs.length → acc.length = i → 0 ≤ t → t ≤ 50 * i → Tm acc t → d < k →
    ∃ es t', glossatorkeep3_timed.l0 k acc t xs (xs.length : Int) (i : Int) = some es ∧ es.length ≤ 40 ∧ t' ≤ 2000 ∧ Tm es t' := by
  intro d
  induction d with
  | zero =>
    intro i acc t k hi ha h0 ht hT hkk
    obtain ⟨k, rfl⟩ : ∃ m, k = m + 1 := ⟨k - 1, by omega⟩
    refine ⟨acc, t, ?_, by omega, by omega, hT⟩
    simp only [glossatorkeep3_timed.l0]
    rw [if_neg (by omega)]
  | succ d ih =>
    intro i acc t k hi ha h0 ht hT hkk
    obtain ⟨k, rfl⟩ : ∃ m, k = m + 1 := ⟨k - 1, by omega⟩
    have hi' : i < xs.length := by omega
    obtain ⟨r, hr, r0, r1⟩ := mod_range xs[i].f0 50 (by omega) (by omega)
    obtain ⟨q, hq, q0, q1⟩ := mod_range (wrap64 (xs[i].f2 - 1)) 3 (by omega) (by omega)
    simp only [glossatorkeep3_timed.l0]
    rw [if_pos (by omega), if_pos (by omega), if_pos (by omega), rd_get xs i hi', hr, Option.bind_some, hq, Option.bind_some, if_pos (by omega), w64 (n := t + r) (by omega) (by omega), w64 (n := 1 + q) (by omega) (by omega), w64 (n := (i : Int) + 1) (by omega) (by omega), show ((i : Int) + 1) = ((i + 1 : Nat) : Int) from by omega]
    refine ih (i + 1) _ (t + r) k (by omega) (by rw [List.length_append, List.length_singleton, ha]) (by omega) (by omega) ⟨?_, ?_, ?_, ?_⟩ (by omega)
    · intro e he
      rcases List.mem_append.1 he with he | he
      · exact hT.kinds e he
      · rw [List.mem_singleton] at he
        rw [he]
        show 1 + q = 1 ∨ 1 + q = 2 ∨ 1 + q = 3
        omega
    · intro e he
      rcases List.mem_append.1 he with he | he
      · exact hT.keys e he
      · rw [List.mem_singleton] at he
        rw [he]
        exact hk xs[i] (List.getElem_mem hi')
    · intro e he
      rcases List.mem_append.1 he with he | he
      · have := hT.times e he
        omega
      · rw [List.mem_singleton] at he
        rw [he]
        show 0 ≤ t + r ∧ t + r ≤ t + r
        omega
    · rw [List.pairwise_append]
      refine ⟨hT.order, List.pairwise_singleton _ _, fun a ha' b hb => ?_⟩
      rw [List.mem_singleton] at hb
      rw [hb]
      have := hT.times a ha'
      show a.f0 ≤ t + r
      omega
theorem timed_is (l : List S33) (hl : l.length ≤ 9223372036854775807) (hk : ∀ e ∈ l, e.f1.size ≤ 9223372036854775807) (k : Nat) (hkk : 100 ≤ k) : ∃ es t, glossatorkeep3_timed.f k l = some es ∧ es.length ≤ 40 ∧ t ≤ 2000 ∧ Tm es t := by
  have hm : 0 ≤ mn (l.length : Int) 40 ∧ mn (l.length : Int) 40 ≤ l.length ∧ mn (l.length : Int) 40 ≤ 40 := by unfold mn; split <;> omega
  unfold glossatorkeep3_timed.f
  rw [if_pos hm.1, if_pos hm.2.1, Option.bind_some]
  have h40 : (l.take (mn (l.length : Int) 40).toNat).length ≤ 40 := by rw [List.length_take]; omega
  exact timed_loop _ h40 (fun e he => hk e (List.mem_of_mem_take he)) (l.take (mn (l.length : Int) 40).toNat).length 0 [] 0 k (by omega) rfl (by omega) (by omega) ⟨by simp, by simp, by simp, List.Pairwise.nil⟩ (by omega)
theorem validate_loop (es : List S33) (t : Int) (hT : Tm es t) (ht : t ≤ 2000) (hl : es.length ≤ 1000) : ∀ (d i k : Nat), i + d = es.length → d < k → filewatch_validate.l0 k es es (es.length : Int) (i : Int) = some 0 := by
  intro d
  induction d with
  | zero =>
    intro i k hi hkk
    obtain ⟨k, rfl⟩ : ∃ m, k = m + 1 := ⟨k - 1, by omega⟩
    simp only [filewatch_validate.l0]
    rw [if_neg (by omega)]
  | succ d ih =>
    intro i k hi hkk
    obtain ⟨k, rfl⟩ : ∃ m, k = m + 1 := ⟨k - 1, by omega⟩
    have hi' : i < es.length := by omega
    have h1 := hT.times es[i] (List.getElem_mem hi')
    have hw : wrap64 ((i : Int) + 1) = ((i + 1 : Nat) : Int) := by rw [w64 (by omega) (by omega)]; omega
    simp only [filewatch_validate.l0]
    rw [if_pos (by omega), if_pos (by omega), if_pos (by omega), rd_get es i hi', if_neg (by omega), if_neg (by omega), hw]
    by_cases h0 : (i : Int) > 0
    · have hi1 : i - 1 < es.length := by omega
      have e1 : wrap64 ((i : Int) - 1) = ((i - 1 : Nat) : Int) := by rw [w64 (by omega) (by omega)]; omega
      have h2 := List.pairwise_iff_getElem.1 hT.order (i - 1) i hi1 hi' (by omega)
      rw [if_pos h0, e1, if_pos (by omega), if_pos (by omega), rd_get es (i - 1) hi1, if_neg (by omega)]
      exact ih (i + 1) k (by omega) (by omega)
    · rw [if_neg h0]
      exact ih (i + 1) k (by omega) (by omega)
theorem validate_is (es : List S33) (t dl : Int) (hT : Tm es t) (ht : t ≤ 2000) (hl : es.length ≤ 1000) (h0 : 0 ≤ dl) (h1 : dl ≤ 1000000) (k : Nat) (hk : 3000 ≤ k) : filewatch_validate.f k es dl = some 0 := by
  unfold filewatch_validate.f
  obtain ⟨k, rfl⟩ : ∃ m, k = m + 1 := ⟨k - 1, by omega⟩
  rw [if_neg (by omega)]
  simp only [filewatch_validate.j0]
  have hany : api_QFileEvent_25.f es 26 = some false := by
    unfold api_QFileEvent_25.f
    rw [if_pos ⟨rfl, by omega⟩]
    congr 1
    rw [List.any_eq_false]
    intro e he
    rcases hT.kinds e he with h | h | h <;> rw [h] <;> simp [vk]
  rw [if_neg (by simp; omega), if_neg (by omega), hany, Option.bind_some, if_neg (by simp)]
  exact validate_loop es t hT ht hl es.length 0 k (by omega) (by omega)
theorem batches_is (es : List S33) (t dl : Int) (hT : Tm es t) (ht : t ≤ 2000) (hl : es.length ≤ 1000) (h0 : 0 ≤ dl) (h1 : dl ≤ 1000000) (k : Nat) (hk : 3000 ≤ k) : ∃ bs, filewatch_Batches.f k es dl = some (bs, 0) ∧ Deliv es bs := by
  have hv : filewatch_validate.f k es dl = some 0 := by
    unfold filewatch_validate.f
    obtain ⟨k, rfl⟩ : ∃ m, k = m + 1 := ⟨k - 1, by omega⟩
    rw [if_neg (by omega)]
    simp only [filewatch_validate.j0]
    have hany : api_QFileEvent_25.f es 26 = some false := by
      unfold api_QFileEvent_25.f
      rw [if_pos ⟨rfl, by omega⟩]
      congr 1
      rw [List.any_eq_false]
      intro e he
      rcases hT.kinds e he with h | h | h <;> rw [h] <;> simp [vk]
    rw [if_neg (by simp; omega), if_neg (by omega), hany, Option.bind_some, if_neg (by simp)]
    exact validate_loop es t hT ht hl es.length 0 k (by omega) (by omega)
  obtain ⟨bs, h2, h3⟩ := batches_loop es dl hl hT.keys es.length 0 0 [] k (by omega) (Nat.le_refl _) (fun h => by omega) (Nat.le_refl _) (by omega)
  refine ⟨bs, ?_, h3⟩
  unfold filewatch_Batches.f
  rw [hv, Option.bind_some, if_pos rfl]
  exact h2
end Go.Proofs.Ytgigbllohagfmaa.Fw
