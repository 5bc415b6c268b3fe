/- filewatch.Batches as the printed function: the batches are in order of time, each sorted by path, its events as old as the delay allows. Condition: at most 1000 events. -/
import Derived.Test.YtgigbllohagfmaaFiPa
import Derived.Test.YtgigbllohagfmaaFix3
import Derived.Test.YtgigbllohagfmaaFix4
set_option linter.unusedVariables false
set_option linter.unusedSimpArgs false
namespace Go.Proofs.Ytgigbllohagfmaa.Fi
open Go.RowKit Go.Proofs.YtgigbllohagfmaaW.PrintWords Go.Proofs.YtgigbllohagfmaaW.PrintLast Go.Proofs.YtgigbllohagfmaaW.PrintMore
open Go.Proofs.Ytgigbllohagfmaa

theorem w64 {n : Int} (h : -9223372036854775808 ≤ n) (h' : n ≤ 9223372036854775807) : wrap64 n = n := by unfold wrap64; omega
theorem mod_range (a m : Int) (hm : 0 < m) (hm' : m ≤ 1000000) : ∃ r, glossatorref3_Mod.f a m = some r ∧ 0 ≤ r ∧ r < m := by
  unfold glossatorref3_Mod.f
  rw [if_neg (by omega)]
  have h1 := Int.tmod_lt_of_pos a hm
  by_cases h : Int.tmod a m < 0
  · rw [if_pos h]
    have h2 : -m < Int.tmod a m := Int.lt_tmod_of_pos a hm
    exact ⟨_, rfl, by rw [w64 (by omega) (by omega)]; omega, by rw [w64 (by omega) (by omega)]; omega⟩
  · rw [if_neg h]; exact ⟨_, rfl, by omega, h1⟩
theorem rd_get (xs : List S33) (i : Nat) (h : i < xs.length) : rd_T33 xs (i : Int) = xs[i] := by
  unfold rd_T33
  simp [h]
theorem rd31 (xs : List S31) (i : Nat) (h : i < xs.length) : rd_T31 xs (i : Int) = xs[i] := by
  unfold rd_T31
  simp [h]
structure Tm (l : List S33) (t : Int) : Prop where
  kinds : ∀ e ∈ l, e.f2 = 1 ∨ e.f2 = 2 ∨ e.f2 = 3
  keys : ∀ e ∈ l, e.f1.size ≤ 9223372036854775807
  times : ∀ e ∈ l, 0 ≤ e.f0 ∧ e.f0 ≤ t
  order : l.Pairwise (fun a b => a.f0 ≤ b.f0)
theorem timed_loop (xs : List S33) (hx : xs.length ≤ 40) (hk : ∀ e ∈ xs, e.f1.size ≤ 9223372036854775807) : ∀ (d i : Nat) (acc : List S33) (t : Int) (k : Nat), i + d = xs.length → acc.length = i → 0 ≤ t → t ≤ 50 * i → Tm acc t → d < k →
    ∃ es t', glossatorkeep3_timed.l0 k acc t xs (xs.length : Int) (i : Int) = some es ∧ es.length ≤ 40 ∧ t' ≤ 2000 ∧ Tm es t' := by
  intro d
  induction d with
  | zero =>
    intro i acc t k hi ha h0 ht hT hkk
    obtain ⟨k, rfl⟩ : ∃ m, k = m + 1 := ⟨k - 1, by omega⟩
    refine ⟨acc, t, ?_, by omega, by omega, hT⟩
    simp only [glossatorkeep3_timed.l0]
    rw [if_neg (by omega)]
  | succ d ih =>
    intro i acc t k hi ha h0 ht hT hkk
    obtain ⟨k, rfl⟩ : ∃ m, k = m + 1 := ⟨k - 1, by omega⟩
    have hi' : i < xs.length := by omega
    obtain ⟨r, hr, r0, r1⟩ := mod_range xs[i].f0 50 (by omega) (by omega)
    obtain ⟨q, hq, q0, q1⟩ := mod_range (wrap64 (xs[i].f2 - 1)) 3 (by omega) (by omega)
    simp only [glossatorkeep3_timed.l0]
    rw [if_pos (by omega), if_pos (by omega), if_pos (by omega), rd_get xs i hi', hr, Option.bind_some, hq, Option.bind_some, if_pos (by omega), w64 (n := t + r) (by omega) (by omega), w64 (n := 1 + q) (by omega) (by omega), w64 (n := (i : Int) + 1) (by omega) (by omega), show ((i : Int) + 1) = ((i + 1 : Nat) : Int) from by omega]
    refine ih (i + 1) _ (t + r) k (by omega) (by rw [List.length_append, List.length_singleton, ha]) (by omega) (by omega) ⟨?_, ?_, ?_, ?_⟩ (by omega)
    · intro e he
      rcases List.mem_append.1 he with he | he
      · exact hT.kinds e he
      · rw [List.mem_singleton] at he
        rw [he]
        show 1 + q = 1 ∨ 1 + q = 2 ∨ 1 + q = 3
        omega
    · intro e he
      rcases List.mem_append.1 he with he | he
      · exact hT.keys e he
      · rw [List.mem_singleton] at he
        rw [he]
        exact hk xs[i] (List.getElem_mem hi')
    · intro e he
      rcases List.mem_append.1 he with he | he
      · have := hT.times e he
        omega
      · rw [List.mem_singleton] at he
        rw [he]
        show 0 ≤ t + r ∧ t + r ≤ t + r
        omega
    · rw [List.pairwise_append]
      refine ⟨hT.order, List.pairwise_singleton _ _, fun a ha' b hb => ?_⟩
      rw [List.mem_singleton] at hb
      rw [hb]
      have := hT.times a ha'
      show a.f0 ≤ t + r
      omega
theorem timed_is (l : List S33) (hl : l.length ≤ 9223372036854775807) (hk : ∀ e ∈ l, e.f1.size ≤ 9223372036854775807) (k : Nat) (hkk : 100 ≤ k) : ∃ es t, glossatorkeep3_timed.f k l = some es ∧ es.length ≤ 40 ∧ t ≤ 2000 ∧ Tm es t := by
  have hm : 0 ≤ mn (l.length : Int) 40 ∧ mn (l.length : Int) 40 ≤ l.length ∧ mn (l.length : Int) 40 ≤ 40 := by unfold mn; split <;> omega
  unfold glossatorkeep3_timed.f
  rw [if_pos hm.1, if_pos hm.2.1, Option.bind_some]
  have h40 : (l.take (mn (l.length : Int) 40).toNat).length ≤ 40 := by rw [List.length_take]; omega
  exact timed_loop _ h40 (fun e he => hk e (List.mem_of_mem_take he)) (l.take (mn (l.length : Int) 40).toNat).length 0 [] 0 k (by omega) rfl (by omega) (by omega) ⟨by simp, by simp, by simp, List.Pairwise.nil⟩ (by omega)
theorem validate_loop (es : List S33) (t : Int) (hT : Tm es t) (ht : t ≤ 2000) (hl : es.length ≤ 1000) : ∀ (d i k : Nat), i + d = es.length → d < k → filewatch_validate.l0 k es es (es.length : Int) (i : Int) = some 0 := by
  intro d
  induction d with
  | zero =>
    intro i k hi hkk
    obtain ⟨k, rfl⟩ : ∃ m, k = m + 1 := ⟨k - 1, by omega⟩
    simp only [filewatch_validate.l0]
    rw [if_neg (by omega)]
  | succ d ih =>
    intro i k hi hkk
    obtain ⟨k, rfl⟩ : ∃ m, k = m + 1 := ⟨k - 1, by omega⟩
    have hi' : i < es.length := by omega
    have h1 := hT.times es[i] (List.getElem_mem hi')
    have hw : wrap64 ((i : Int) + 1) = ((i + 1 : Nat) : Int) := by rw [w64 (by omega) (by omega)]; omega
    simp only [filewatch_validate.l0]
    rw [if_pos (by omega), if_pos (by omega), if_pos (by omega), rd_get es i hi', if_neg (by omega), if_neg (by omega), hw]
    by_cases h0 : (i : Int) > 0
    · have hi1 : i - 1 < es.length := by omega
      have e1 : wrap64 ((i : Int) - 1) = ((i - 1 : Nat) : Int) := by rw [w64 (by omega) (by omega)]; omega
      have h2 := List.pairwise_iff_getElem.1 hT.order (i - 1) i hi1 hi' (by omega)
      rw [if_pos h0, e1, if_pos (by omega), if_pos (by omega), rd_get es (i - 1) hi1, if_neg (by omega)]
      exact ih (i + 1) k (by omega) (by omega)
    · rw [if_neg h0]
      exact ih (i + 1) k (by omega) (by omega)
theorem validate_is (es : List S33) (t dl : Int) (hT : Tm es t) (ht : t ≤ 2000) (hl : es.length ≤ 1000) (h0 : 0 ≤ dl) (h1 : dl ≤ 1000000) (k : Nat) (hk : 3000 ≤ k) : filewatch_validate.f k es dl = some 0 := by
  unfold filewatch_validate.f
  rw [if_neg (by omega)]
  have hany : api_QFileEvent_25.f es 26 = some false := by
    unfold api_QFileEvent_25.f
    rw [if_pos ⟨rfl, by omega⟩]
    congr 1
    rw [List.any_eq_false]
    intro e he
    rcases hT.kinds e he with h | h | h <;> rw [h] <;> simp [vk]
  rw [if_neg (by omega), if_neg (by omega), hany, Option.bind_some, if_neg (by simp)]
  exact validate_loop es t hT ht hl es.length 0 k (by omega) (by omega)

theorem newBatch_is (g : List S33) (dl : Int) (h0 : 0 < g.length) (hl : g.length ≤ 1000) (hk : ∀ e ∈ g, e.f1.size ≤ 9223372036854775807) : filewatch_newBatch.f g dl = some (wrap64 ((rd_T33 g (wrap64 ((g.length : Int) - 1))).f0 + dl), one g) := by
  unfold filewatch_newBatch.f
  rw [if_pos ⟨h0, by omega, List.all_eq_true.2 fun e he => decide_eq_true (hk e he)⟩]
  rfl
/-- what a batch says of itself -/
structure Ok (dl : Int) (b : S31) : Prop where
  some : 0 < b.f1.length
  less : b.f1.Pairwise (fun a c => less a.f1 c.f1)
  old : ∀ e ∈ b.f1, 0 ≤ e.f0 ∧ e.f0 ≤ 2000 ∧ e.f0 + dl ≤ b.f0
structure Deliv (es : List S33) (dl : Int) (bs : List S31) : Prop where
  each : ∀ b ∈ bs, Ok dl b
  times : ∀ b ∈ bs, ∃ e ∈ es, b.f0 = e.f0 + dl
  order : bs.Pairwise (fun a b => a.f0 ≤ b.f0)
  len : bs.length ≤ es.length
  parts : ∀ b ∈ bs, b.f1.length ≤ 1000
def cut (k : Nat) (x0 : List S33) (x1 : Int) (x7 : List S31) (x8 x18 x19 : Int) : Option ((List (S31)) × Int) :=
  (if 0 ≤ x8 then (if x8 ≤ (wrap64 (x19 + 1)) then (if (wrap64 (x19 + 1)) ≤ (x0.length : Int) then ((filewatch_newBatch.f ((x0.take ((wrap64 (x19 + 1)) : Int).toNat).drop (x8 : Int).toNat) x1).bind fun bt112 => (if (bt112.2.length : Int) > 0 then (if x7.length < 4398046511104 then (filewatch_Batches.l0 k x0 x1 (x7 ++ [(⟨bt112.1, bt112.2⟩ : S31)]) (wrap64 (x19 + 1)) x18 (wrap64 (x19 + 1))) else (none)) else (filewatch_Batches.l0 k x0 x1 x7 (wrap64 (x19 + 1)) x18 (wrap64 (x19 + 1))))) else (none)) else (none)) else (none))
theorem l0_succ (k : Nat) (x0 : List S33) (x1 : Int) (x7 : List S31) (x8 x18 x19 : Int) : filewatch_Batches.l0 (k + 1) x0 x1 x7 x8 x18 x19 = if x19 < x18 then (if (wrap64 (x19 + 1)) < (x0.length : Int) then (if 0 ≤ (wrap64 (x19 + 1)) then (if 0 ≤ x19 then (if x19 < (x0.length : Int) then (if (wrap64 (((rd_T33 x0 (wrap64 (x19 + 1))).f0) - ((rd_T33 x0 x19).f0))) < x1 then (filewatch_Batches.l0 k x0 x1 x7 x8 x18 (wrap64 (x19 + 1))) else cut k x0 x1 x7 x8 x18 x19) else (none)) else (none)) else (none)) else cut k x0 x1 x7 x8 x18 x19) else (some (x7, 0)) := rfl
theorem one_length (g : List S33) : (one g).length ≤ g.length := by
  unfold one outK
  refine Nat.le_trans (List.length_filter_le _ _) ?_
  rw [List.length_map, keys_len]
  exact merged_length g
theorem batches_loop (es : List S33) (t dl : Int) (hT : Tm es t) (ht : t ≤ 2000) (hd0 : 0 ≤ dl) (hd1 : dl ≤ 1000000) (hl : es.length ≤ 1000) : ∀ (d i start : Nat) (bs : List S31) (k : Nat), i + d = es.length → start ≤ i → (i = es.length → start = i) → bs.length ≤ i → d + 1 ≤ k →
    ∃ bs', filewatch_Batches.l0 k es dl bs (start : Int) (es.length : Int) (i : Int) = some (bs ++ bs', 0) ∧ Deliv (es.drop start) dl bs' := by
  intro d
  induction d with
  | zero =>
    intro i start bs k hi hs he hb hkk
    obtain ⟨k, rfl⟩ : ∃ m, k = m + 1 := ⟨k - 1, by omega⟩
    refine ⟨[], ?_, ⟨by simp, by simp, List.Pairwise.nil, Nat.zero_le _, by simp⟩⟩
    rw [l0_succ, if_neg (by omega), List.append_nil]
  | succ d ih =>
    intro i start bs k hi hs he hb hkk
    obtain ⟨k, rfl⟩ : ∃ m, k = m + 1 := ⟨k - 1, by omega⟩
    have hi' : i < es.length := by omega
    have hwi : wrap64 ((i : Int) + 1) = ((i + 1 : Nat) : Int) := by rw [w64 (by omega) (by omega)]; omega
    have hcut : ∃ bs', cut k es dl bs (start : Int) (es.length : Int) (i : Int) = some (bs ++ bs', 0) ∧ Deliv (es.drop start) dl bs' := by
      have hg : ((es.take (i + 1)).drop start).length = i + 1 - start := by rw [List.length_drop, List.length_take]; omega
      have hgm : ∀ e ∈ (es.take (i + 1)).drop start, ∃ j, j < es.length ∧ j ≤ i ∧ start ≤ j ∧ es[j]? = some e := by
        intro e he
        obtain ⟨j, hj, hje⟩ := List.getElem_of_mem he
        rw [List.getElem_drop, List.getElem_take] at hje
        exact ⟨start + j, by omega, by omega, by omega, by rw [List.getElem?_eq_getElem (by omega), hje]⟩
      have hge : ∀ e ∈ (es.take (i + 1)).drop start, e.f0 ≤ es[i].f0 := by
        intro e he
        obtain ⟨j, h1, h2, h3, h4⟩ := hgm e he
        rw [List.getElem?_eq_getElem h1] at h4
        rw [← Option.some.inj h4]
        rcases Nat.lt_or_ge j i with h | h
        · exact List.pairwise_iff_getElem.1 hT.order j i h1 hi' h
        · have : j = i := by omega
          subst this
          exact Int.le_refl _
      have hti := hT.times es[i] (List.getElem_mem hi')
      have hlast : rd_T33 ((es.take (i + 1)).drop start) (wrap64 ((((es.take (i + 1)).drop start).length : Int) - 1)) = es[i] := by
        rw [w64 (by omega) (by omega), hg, show (((i + 1 - start : Nat) : Int) - 1) = ((i - start : Nat) : Int) from by omega, rd_get _ _ (by omega), List.getElem_drop, List.getElem_take]
        congr 1
        omega
      have hnb := newBatch_is ((es.take (i + 1)).drop start) dl (by omega) (by omega) (fun e he => hT.keys e (List.mem_of_mem_take (List.mem_of_mem_drop he)))
      rw [hlast, w64 (by omega) (by omega)] at hnb
      unfold cut
      rw [if_pos (by omega), hwi, if_pos (by omega), if_pos (by omega), show (((i + 1 : Nat) : Int)).toNat = i + 1 from by omega, show ((start : Int)).toNat = start from by omega, hnb, Option.bind_some]
      have hsplit : es.drop start = (es.take (i + 1)).drop start ++ es.drop (i + 1) := by
        conv => lhs; rw [← List.take_append_drop (i + 1) es]
        rw [List.drop_append_of_le_length (by rw [List.length_take]; omega)]
      simp only
      have hlo := one_length ((es.take (i + 1)).drop start)
      by_cases hz : ((one ((es.take (i + 1)).drop start)).length : Int) > 0
      · rw [if_pos hz, if_pos (by omega)]
        obtain ⟨bs', h1, h2⟩ := ih (i + 1) (i + 1) (bs ++ [(⟨es[i].f0 + dl, one ((es.take (i + 1)).drop start)⟩ : S31)]) k (by omega) (Nat.le_refl _) (fun _ => rfl) (by rw [List.length_append, List.length_singleton]; omega) (by omega)
        refine ⟨(⟨es[i].f0 + dl, one ((es.take (i + 1)).drop start)⟩ : S31) :: bs', by rw [h1]; simp, ⟨?_, ?_, ?_, ?_, ?_⟩⟩
        · intro b hb'
          rcases List.mem_cons.1 hb' with rfl | hb'
          · refine ⟨by show 0 < (one _).length; omega, one_less _, fun e he => ?_⟩
            obtain ⟨e', he', h0⟩ := one_time _ e he
            have h5 := hge e' he'
            have h6 := hT.times e' (List.mem_of_mem_take (List.mem_of_mem_drop he'))
            show 0 ≤ e.f0 ∧ e.f0 ≤ 2000 ∧ e.f0 + dl ≤ es[i].f0 + dl
            omega
          · exact h2.each b hb'
        · intro b hb'
          rcases List.mem_cons.1 hb' with rfl | hb'
          · refine ⟨es[i], ?_, rfl⟩
            refine List.mem_iff_getElem.2 ⟨i - start, by rw [List.length_drop]; omega, ?_⟩
            rw [List.getElem_drop]
            congr 1
            omega
          · obtain ⟨e, he, h⟩ := h2.times b hb'
            exact ⟨e, by rw [hsplit]; exact List.mem_append_right _ he, h⟩
        · refine List.pairwise_cons.2 ⟨fun b hb' => ?_, h2.order⟩
          obtain ⟨e, he, h⟩ := h2.times b hb'
          obtain ⟨j, hj, hje⟩ := List.getElem_of_mem he
          rw [List.getElem_drop] at hje
          rw [List.length_drop] at hj
          have := List.pairwise_iff_getElem.1 hT.order i (i + 1 + j) hi' (by omega) (by omega)
          show es[i].f0 + dl ≤ b.f0
          rw [h, ← hje]
          omega
        · have := h2.len
          rw [List.length_drop] at this
          rw [List.length_cons, List.length_drop]
          omega
        · intro b hb'
          rcases List.mem_cons.1 hb' with rfl | hb'
          · show (one _).length ≤ 1000
            omega
          · exact h2.parts b hb'
      · rw [if_neg hz]
        obtain ⟨bs', h1, h2⟩ := ih (i + 1) (i + 1) bs k (by omega) (Nat.le_refl _) (fun _ => rfl) (by omega) (by omega)
        refine ⟨bs', h1, ⟨h2.each, fun b hb' => ?_, h2.order, ?_, h2.parts⟩⟩
        · obtain ⟨e, he, h⟩ := h2.times b hb'
          exact ⟨e, by rw [hsplit]; exact List.mem_append_right _ he, h⟩
        · have := h2.len
          rw [List.length_drop] at this ⊢
          omega
    rw [l0_succ, if_pos (by omega)]
    by_cases hn : i + 1 < es.length
    · rw [hwi, if_pos (by omega), if_pos (by omega), if_pos (by omega), if_pos (by omega)]
      by_cases hc : wrap64 ((rd_T33 es ((i + 1 : Nat) : Int)).f0 - (rd_T33 es (i : Int)).f0) < dl
      · rw [if_pos hc]
        exact ih (i + 1) start bs k (by omega) (by omega) (fun h => by omega) (by omega) (by omega)
      · rw [if_neg hc]; exact hcut
    · rw [hwi, if_neg (by omega)]
      exact hcut
theorem batches_is (es : List S33) (t dl : Int) (hT : Tm es t) (ht : t ≤ 2000) (hl : es.length ≤ 1000) (h0 : 0 ≤ dl) (h1 : dl ≤ 1000000) (k : Nat) (hk : 3000 ≤ k) : ∃ bs, filewatch_Batches.f k es dl = some (bs, 0) ∧ Deliv es dl bs := by
  obtain ⟨bs, h2, h3⟩ := batches_loop es t dl hT ht h0 h1 hl es.length 0 0 [] k (by omega) (Nat.le_refl _) (fun h => by omega) (Nat.le_refl _) (by omega)
  refine ⟨bs, ?_, h3⟩
  unfold filewatch_Batches.f
  rw [validate_is es t dl hT ht hl h0 h1 k hk, Option.bind_some, if_pos rfl]
  exact h2
theorem one_ex : one [(⟨0, (⟨#[97]⟩ : ByteArray), 1⟩ : S33), (⟨50, (⟨#[97]⟩ : ByteArray), 2⟩ : S33)] = [(⟨50, (⟨#[97]⟩ : ByteArray), 1⟩ : S33)] := by
  have hm : merged [(⟨0, (⟨#[97]⟩ : ByteArray), 1⟩ : S33), (⟨50, (⟨#[97]⟩ : ByteArray), 2⟩ : S33)] = [((⟨#[97]⟩ : ByteArray), (⟨50, (⟨#[97]⟩ : ByteArray), 1⟩ : S33))] := by
    simp [merged, merge1, Mp.aset, Mp.aget, mg, vk, z33]
  unfold one
  rw [hm]
  simp [outK, Sk.sortedKeys, Sk.bytes, Mp.aget]
def ex : List S33 := [(⟨0, (⟨#[97]⟩ : ByteArray), 1⟩ : S33), (⟨50, (⟨#[97]⟩ : ByteArray), 2⟩ : S33)]
theorem nb_ex : filewatch_newBatch.f ex 100 = some (150, [(⟨50, (⟨#[97]⟩ : ByteArray), 1⟩ : S33)]) := by
  unfold filewatch_newBatch.f
  rw [if_pos (by decide)]
  have := one_ex
  unfold one at this
  rw [show ex = [(⟨0, (⟨#[97]⟩ : ByteArray), 1⟩ : S33), (⟨50, (⟨#[97]⟩ : ByteArray), 2⟩ : S33)] from rfl, this]
  congr 2
  decide +kernel
theorem b_ex (k : Nat) (hk : 3000 ≤ k) : filewatch_Batches.f k ex 100 = some ([(⟨150, [(⟨50, (⟨#[97]⟩ : ByteArray), 1⟩ : S33)]⟩ : S31)], 0) := by
  have hT : Tm ex 50 := ⟨by simp [ex], by intro e he; simp [ex] at he; rcases he with rfl | rfl <;> decide, by simp [ex], by simp [ex]⟩
  unfold filewatch_Batches.f
  rw [validate_is ex 50 100 hT (by omega) (by decide) (by omega) (by omega) k hk, Option.bind_some, if_pos rfl]
  obtain ⟨k, rfl⟩ : ∃ m, k = m + 5 := ⟨k - 5, by omega⟩
  have e1 : (ex.take 2).drop 0 = ex := rfl
  have s1 : filewatch_Batches.l0 (k + 3) ex 100 [(⟨150, [(⟨50, (⟨#[97]⟩ : ByteArray), 1⟩ : S33)]⟩ : S31)] 2 2 2 = some ([(⟨150, [(⟨50, (⟨#[97]⟩ : ByteArray), 1⟩ : S33)]⟩ : S31)], 0) := by
    rw [l0_succ, if_neg (by omega)]
  have s3 : filewatch_Batches.l0 (k + 4) ex 100 [] 0 2 1 = some ([(⟨150, [(⟨50, (⟨#[97]⟩ : ByteArray), 1⟩ : S33)]⟩ : S31)], 0) := by
    rw [l0_succ, if_pos (by omega), show wrap64 ((1 : Int) + 1) = 2 from by decide +kernel, if_neg (by decide)]
    unfold cut
    rw [if_pos (by omega), show wrap64 ((1 : Int) + 1) = 2 from by decide +kernel, if_pos (by omega), if_pos (by decide), show ((2 : Int)).toNat = 2 from rfl, show ((0 : Int)).toNat = 0 from rfl, e1, nb_ex, Option.bind_some]
    simp only
    rw [if_pos (by decide), if_pos (by decide)]
    exact s1
  show filewatch_Batches.l0 (k + 5) ex 100 [] 0 2 0 = _
  rw [l0_succ, if_pos (by omega), show wrap64 ((0 : Int) + 1) = 1 from by decide +kernel, if_pos (by decide), if_pos (by omega), if_pos (by omega), if_pos (by decide), if_pos (by decide +kernel)]
  exact s3
theorem example_is (k : Nat) (hk : 3000 ≤ k) : glossatorkeep3_watchExample.f k = some true := by
  unfold glossatorkeep3_watchExample.f
  have := b_ex k hk
  unfold ex at this
  rw [this, Option.bind_some]
  simp only
  rw [if_pos trivial, if_pos (by decide), if_pos (by decide), if_pos (by decide)]
  obtain ⟨k, rfl⟩ : ∃ m, k = m + 3 := ⟨k - 3, by omega⟩
  simp [api_QFileEvent_18.f, api_QFileEvent_18.l0, rd_T31, rd_T33, wrap64]
end Go.Proofs.Ytgigbllohagfmaa.Fi
