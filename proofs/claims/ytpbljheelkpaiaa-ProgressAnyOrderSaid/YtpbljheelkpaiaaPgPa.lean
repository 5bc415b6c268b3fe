import Derived.Test.YtpbljheelkpaiaaPgx2
/- The plain law of ProgressPercentages: what the code computes is true. -/
namespace Go.Proofs.Ytpbljheelkpaiaa.Pg
open Go.RowKit Go.Proofs.YtpbljheelkpaiaaW.PrintWords Go.Proofs.YtpbljheelkpaiaaW.PrintLast Go.Proofs.YtpbljheelkpaiaaW.PrintMore
open Go.Proofs.Ytpbljheelkpaiaa
set_option linter.unusedVariables false
theorem wr {n : Int} (h : -9223372036854775808 ≤ n) (h' : n ≤ 9223372036854775807) : wrap64 n = n := by unfold wrap64; omega
/-- the percentage of a number -/
def pct (T d : Int) : Int := Int.tdiv (mn (mx d 0) T * 100) T
theorem clip (T d : Int) (hT : 1 ≤ T) : 0 ≤ mn (mx d 0) T ∧ mn (mx d 0) T ≤ T ∧ (mn (mx d 0) T = T ↔ T ≤ d) := by
  unfold mn mx
  refine ⟨?_, ?_, ?_⟩ <;> (repeat' split) <;> omega
theorem pct_is (T d : Int) (hT : 1 ≤ T) : 0 ≤ pct T d ∧ pct T d ≤ 100 ∧ (pct T d = 100 ↔ T ≤ d) := by
  obtain ⟨h0, h1, h2⟩ := clip T d hT
  unfold pct
  generalize mn (mx d 0) T = m at *
  rw [Int.tdiv_eq_ediv_of_nonneg (by omega)]
  have e1 : 0 ≤ m * 100 / T := Int.ediv_nonneg (by omega) (by omega)
  have e2 : m * 100 / T ≤ 100 := by
    have := Int.ediv_le_ediv (c := T) (by omega) (show m * 100 ≤ T * 100 by omega)
    rwa [Int.mul_ediv_cancel_left _ (by omega)] at this
  refine ⟨e1, e2, ?_⟩
  rw [← h2]
  constructor
  · intro h
    by_cases hlt : m < T
    · have h3 : m * 100 / T < 100 := Int.ediv_lt_of_lt_mul (by omega) (by omega)
      omega
    · omega
  · intro h
    rw [h, Int.mul_ediv_cancel_left _ (by omega)]
/-- strictly increasing from 1 to 100 -/
def Up (x9 : Int) (o : List Int) : Prop := (∀ i : Nat, i < o.length → 1 ≤ o.getD i 0 ∧ o.getD i 0 ≤ 100) ∧ (∀ i : Nat, i + 1 < o.length → o.getD i 0 < o.getD (i + 1) 0) ∧ x9 = (if o.length = 0 then 0 else o.getD (o.length - 1) 0)
theorem getD_snoc (o : List Int) (x : Int) (i : Nat) : (o ++ [x]).getD i 0 = if i < o.length then o.getD i 0 else if i = o.length then x else 0 := by
  by_cases h : i < o.length
  · rw [if_pos h]
    simp [List.getD_eq_getElem?_getD, List.getElem?_append_left h]
  · rw [if_neg h]
    by_cases h2 : i = o.length
    · rw [if_pos h2]; subst h2; simp [List.getD_eq_getElem?_getD]
    · rw [if_neg h2]
      simp [List.getD_eq_getElem?_getD, List.getElem?_eq_none (show (o ++ [x]).length ≤ i by simp; omega)]
theorem Up.range {x9 : Int} {o : List Int} (h : Up x9 o) : 0 ≤ x9 ∧ x9 ≤ 100 := by
  obtain ⟨h1, _, h3⟩ := h
  by_cases hz : o.length = 0
  · rw [if_pos hz] at h3; omega
  · rw [if_neg hz] at h3
    have := h1 (o.length - 1) (by omega)
    omega
theorem Up.snoc {x9 p : Int} {o : List Int} (h : Up x9 o) (hp : x9 < p) (hp2 : p ≤ 100) : Up p (o ++ [p]) := by
  have hr := h.range
  obtain ⟨h1, h2, h3⟩ := h
  refine ⟨fun i hi => ?_, fun i hi => ?_, ?_⟩
  · rw [getD_snoc]
    rw [List.length_append, List.length_singleton] at hi
    split
    · rename_i hl; exact h1 i hl
    · rw [if_pos (by omega)]; omega
  · rw [List.length_append, List.length_singleton] at hi
    rw [getD_snoc, getD_snoc, if_pos (by omega)]
    split
    · rename_i hl; exact h2 i hl
    · rename_i hl
      rw [if_pos (by omega)]
      rw [if_neg (by omega)] at h3
      have : o.length - 1 = i := by omega
      rw [this] at h3
      omega
  · rw [List.length_append, List.length_singleton, if_neg (by omega), getD_snoc, if_neg (by omega), if_pos (by omega)]
theorem rd_nat (l : List Int) (i : Nat) : rd l (i : Int) = l.getD i 0 := by unfold rd; rw [Int.toNat_natCast]
theorem pstep (k : Nat) (T S : Int) (o : List Int) (x9 : Int) (l : List Int) (i : Nat) (hT : 1 ≤ T) (hT2 : T ≤ 1000000) (hS : 1 ≤ S) (hS2 : S ≤ 100) (h9 : 0 ≤ x9) (h9' : x9 ≤ 100) (ho : o.length ≤ 1000) (hi : i < l.length) (hl : l.length ≤ 1000) :
    progress_Percentages.l0 (k + 1) T S o x9 l (l.length : Int) (i : Int) =
      (if pct T (l.getD i 0) = 100 then (if x9 < 100 then progress_Percentages.l0 k T S (o ++ [pct T (l.getD i 0)]) (pct T (l.getD i 0)) l (l.length : Int) ((i + 1 : Nat) : Int) else if pct T (l.getD i 0) ≥ x9 + S then progress_Percentages.l0 k T S (o ++ [pct T (l.getD i 0)]) (pct T (l.getD i 0)) l (l.length : Int) ((i + 1 : Nat) : Int) else progress_Percentages.l0 k T S o x9 l (l.length : Int) ((i + 1 : Nat) : Int))
       else if pct T (l.getD i 0) ≥ x9 + S then progress_Percentages.l0 k T S (o ++ [pct T (l.getD i 0)]) (pct T (l.getD i 0)) l (l.length : Int) ((i + 1 : Nat) : Int) else progress_Percentages.l0 k T S o x9 l (l.length : Int) ((i + 1 : Nat) : Int)) := by
  obtain ⟨h0, h1, _⟩ := clip T (l.getD i 0) hT
  obtain ⟨p0, p1, _⟩ := pct_is T (l.getD i 0) hT
  rw [progress_Percentages.l0.eq_def]
  simp only
  rw [if_pos (show (i : Int) < (l.length : Int) by omega), if_pos (show (0 : Int) ≤ (i : Int) by omega), if_pos (show (i : Int) < (l.length : Int) by omega), if_neg (show ¬ T = 0 by omega), rd_nat, wr (n := mn (mx (l.getD i 0) 0) T * 100) (by omega) (by omega), wr (n := Int.tdiv (mn (mx (l.getD i 0) 0) T * 100) T) (show _ ≤ pct T (l.getD i 0) by omega) (show pct T (l.getD i 0) ≤ _ by omega), wr (n := x9 + S) (by omega) (by omega), wr (n := (i : Int) + 1) (by omega) (by omega), if_pos (show o.length < 17592186044416 by omega)]
  rfl
theorem run_pct : ∀ (k : Nat) (T S : Int) (o : List Int) (x9 : Int) (l : List Int) (i : Nat), 1 ≤ T → T ≤ 1000000 → 1 ≤ S → S ≤ 100 → l.length ≤ 100 → i ≤ l.length → l.length < k + i → o.length ≤ i → Up x9 o → (x9 = 100 ↔ ∃ j : Nat, j < i ∧ T ≤ l.getD j 0) →
    ∃ o2 x2, progress_Percentages.l0 k T S o x9 l (l.length : Int) (i : Int) = some (o2, 0) ∧ o2.length ≤ 100 ∧ Up x2 o2 ∧ (x2 = 100 ↔ ∃ j : Nat, j < l.length ∧ T ≤ l.getD j 0)
  | 0, _, _, _, _, _, _, _, _, _, _, _, _, hk, _, _, _ => by omega
  | k + 1, T, S, o, x9, l, i, hT, hT2, hS, hS2, hl, hi, hk, ho, hU, hX => by
    by_cases hlt : i < l.length
    · skip
      have hp := pct_is T (l.getD i 0) hT
      have hr := hU.range
      rw [pstep k T S o x9 l i hT hT2 hS hS2 hr.1 hr.2 (by omega) hlt (by omega)]
      obtain ⟨p0, p1, p2⟩ := hp
      generalize pct T (l.getD i 0) = p at *
      have hol : o.length < 17592186044416 := by omega
      have hon : (o ++ [p]).length ≤ i + 1 := by rw [List.length_append, List.length_singleton]; omega
      have step : ∀ (P : Prop), ((∃ j : Nat, j < i + 1 ∧ T ≤ l.getD j 0) ↔ ((∃ j : Nat, j < i ∧ T ≤ l.getD j 0) ∨ T ≤ l.getD i 0)) := fun _ => ⟨fun ⟨j, h1, h2⟩ => by
        by_cases hj : j = i
        · subst hj; exact .inr h2
        · exact .inl ⟨j, by omega, h2⟩, fun h => by
        rcases h with ⟨j, h1, h2⟩ | h
        · exact ⟨j, by omega, h2⟩
        · exact ⟨i, by omega, h⟩⟩
      have hstep := step True
      rw [← hX, ← p2] at hstep
      have put : x9 < p → ∃ o2 x2, progress_Percentages.l0 k T S (o ++ [p]) p l (l.length : Int) ((i + 1 : Nat) : Int) = some (o2, 0) ∧ o2.length ≤ 100 ∧ Up x2 o2 ∧ (x2 = 100 ↔ ∃ j : Nat, j < l.length ∧ T ≤ l.getD j 0) := fun hlt2 =>
        run_pct k T S (o ++ [p]) p l (i + 1) hT hT2 hS hS2 hl (by omega) (by omega) hon (hU.snoc hlt2 p1) (by rw [hstep]; omega)
      have keep : (p = 100 → x9 = 100) → ∃ o2 x2, progress_Percentages.l0 k T S o x9 l (l.length : Int) ((i + 1 : Nat) : Int) = some (o2, 0) ∧ o2.length ≤ 100 ∧ Up x2 o2 ∧ (x2 = 100 ↔ ∃ j : Nat, j < l.length ∧ T ≤ l.getD j 0) := fun hk2 =>
        run_pct k T S o x9 l (i + 1) hT hT2 hS hS2 hl (by omega) (by omega) (by omega) hU (by rw [hstep]; omega)
      by_cases c1 : p = 100
      · rw [if_pos c1]
        by_cases c2 : x9 < 100
        · rw [if_pos c2]; exact put (by omega)
        · rw [if_neg c2, if_neg (by omega)]; exact keep (by omega)
      · rw [if_neg c1]
        by_cases c2 : p ≥ x9 + S
        · rw [if_pos c2]; exact put (by omega)
        · rw [if_neg c2]; exact keep (by omega)
    · unfold progress_Percentages.l0
      rw [if_neg (by omega)]
      have : i = l.length := by omega
      subst this
      exact ⟨o, x9, rfl, by omega, hU, hX⟩
/-- the example of chunks is as it should be -/
theorem chunk_ok (k : Nat) (hk : 3 ≤ k) : glossatorkeep3_chunkExample.f k = some true := by
  obtain ⟨k, rfl⟩ : ∃ m, k = m + 3 := ⟨k - 3, by omega⟩
  have h1 : progress_Split.f 7 ([1, 2, 3, 4, 5] : List Int) 2 = some ([⟨7, 0, false, [1, 2]⟩, ⟨7, 1, false, [3, 4]⟩, ⟨7, 2, true, [5]⟩], 0) := by kernel_rfl
  unfold glossatorkeep3_chunkExample.f
  rw [h1]
  have h2 : glossatorref3_Equal_int.f (k + 3) [5] [5] = some true := by
    unfold glossatorref3_Equal_int.f
    simp [glossatorref3_Equal_int.l0, rd, wrap64]
  simp [rd_T39, h2]
theorem mod_is (a m : Int) (hm : 1 ≤ m) (hm2 : m ≤ 1000000) : ∃ t, glossatorref3_Mod.f a m = some t ∧ 0 ≤ t ∧ t < m := by
  unfold glossatorref3_Mod.f
  rw [if_neg (by omega)]
  have h1 : Int.tmod a m < m := Int.tmod_lt_of_pos _ (by omega)
  have h2 : -m < Int.tmod a m := Int.lt_tmod_of_pos _ (by omega)
  generalize Int.tmod a m = t at *
  by_cases h : t < 0
  · rw [if_pos h]
    exact ⟨_, rfl, by rw [wr (by omega) (by omega)]; omega, by rw [wr (by omega) (by omega)]; omega⟩
  · rw [if_neg h]
    exact ⟨_, rfl, by omega, h1⟩
theorem check : ∀ (k : Nat) (o : List Int) (fin : Bool) (x9 : Int) (i : Nat), o.length ≤ 100 → i ≤ o.length → o.length + 4 < k + i → Up x9 o → (x9 = 100 ↔ fin = true) → glossatorkeep3_ProgressPercentages.l1 k o fin (o.length : Int) (i : Int) = some true
  | 0, _, _, _, _, _, _, h, _, _ => by omega
  | k + 1, o, fin, x9, i, ho, hi, hk, hU, hX => by
    unfold glossatorkeep3_ProgressPercentages.l1
    have hr := hU.range
    obtain ⟨u1, u2, u3⟩ := hU
    by_cases hlt : i < o.length
    · have hi1 := u1 i hlt
      have w3 : wrap64 ((i : Int) + 1) = ((i + 1 : Nat) : Int) := by rw [wr (by omega) (by omega)]; omega
      have rec_ := check k o fin x9 (i + 1) ho (by omega) (by omega) ⟨u1, u2, u3⟩ hX
      rw [if_pos (by omega), if_pos (by omega), if_pos (by omega), rd_nat, if_neg (by omega), if_neg (by omega), w3, rec_]
      by_cases hz : (i : Int) > 0
      · obtain ⟨j, rfl⟩ : ∃ j, i = j + 1 := ⟨i - 1, by omega⟩
        have w4 : wrap64 (((j + 1 : Nat) : Int) - 1) = (j : Int) := by rw [wr (by omega) (by omega)]; omega
        have := u2 j hlt
        rw [if_pos hz, w4, if_pos (by omega), if_pos (by omega), rd_nat, if_neg (by omega)]
      · rw [if_neg hz]
    · rw [if_neg (by omega), chunk_ok k (by omega)]
      simp only [Option.bind_some, if_true]
      by_cases hz : (o.length : Int) > 0
      · have w4 : wrap64 ((o.length : Int) - 1) = ((o.length - 1 : Nat) : Int) := by rw [wr (by omega) (by omega)]; omega
        rw [if_pos hz, w4, if_pos (by omega), if_pos (by omega), rd_nat]
        rw [if_neg (by omega)] at u3
        rw [← u3]
        cases fin with
        | true => rw [hX.2 rfl]; rfl
        | false =>
          have : x9 ≠ 100 := fun e => by cases hX.1 e
          have : (x9 == 100) = false := beq_eq_false_iff_ne.mpr this
          rw [this]; rfl
      · rw [if_neg hz]
        rw [if_pos (by omega)] at u3
        cases fin with
        | true => have := hX.2 rfl; omega
        | false => rfl
theorem fin_run : ∀ (k : Nat) (l : List Int) (T : Int) (o : List Int) (fin : Bool) (x9 : Int) (i : Nat), l.length ≤ 100 → i ≤ l.length → l.length + 110 < k + i → o.length ≤ 100 → Up x9 o → (fin = true ↔ ∃ j : Nat, j < i ∧ T ≤ l.getD j 0) → (x9 = 100 ↔ ∃ j : Nat, j < l.length ∧ T ≤ l.getD j 0) → glossatorkeep3_ProgressPercentages.l0 k l T o fin (l.length : Int) (i : Int) = some true
  | 0, _, _, _, _, _, _, _, _, h, _, _, _, _ => by omega
  | k + 1, l, T, o, fin, x9, i, hl, hi, hk, ho, hU, hF, hX => by
    unfold glossatorkeep3_ProgressPercentages.l0
    by_cases hlt : i < l.length
    · have w3 : wrap64 ((i : Int) + 1) = ((i + 1 : Nat) : Int) := by rw [wr (by omega) (by omega)]; omega
      rw [if_pos (by omega), w3]
      cases fin with
      | true =>
        rw [if_pos rfl]
        refine fin_run k l T o true x9 (i + 1) hl (by omega) (by omega) ho hU ⟨fun _ => ?_, fun _ => rfl⟩ hX
        obtain ⟨j, h1, h2⟩ := hF.1 rfl
        exact ⟨j, by omega, h2⟩
      | false =>
        rw [if_neg (by decide), if_pos (by omega), if_pos (by omega), rd_nat]
        refine fin_run k l T o _ x9 (i + 1) hl (by omega) (by omega) ho hU ⟨fun h => ⟨i, by omega, of_decide_eq_true h⟩, fun ⟨j, h1, h2⟩ => decide_eq_true ?_⟩ hX
        by_cases hj : j = i
        · subst hj; exact h2
        · exact absurd (hF.2 ⟨j, by omega, h2⟩) (by decide)
    · rw [if_neg (by omega)]
      have : i = l.length := by omega
      subst this
      exact check k o fin x9 0 ho (by omega) (by omega) hU (by rw [hX, hF])
theorem pct_law (l : List Int) (a1 a2 : Int) : glossatorkeep3_ProgressPercentages.f 400 l a1 a2 = some true := by
  unfold glossatorkeep3_ProgressPercentages.f
  obtain ⟨t, ht, t0, t1⟩ := mod_is a1 1000000 (by omega) (by omega)
  obtain ⟨s, hs, s0, s1⟩ := mod_is a2 100 (by omega) (by omega)
  have hm : 0 ≤ mn (l.length : Int) 100 ∧ mn (l.length : Int) 100 ≤ (l.length : Int) ∧ mn (l.length : Int) 100 ≤ 100 := by unfold mn; split <;> omega
  rw [chunk_ok 400 (by omega), Option.bind_some, if_pos rfl, ht, Option.bind_some, hs, Option.bind_some, if_pos hm.1, if_pos hm.2.1]
  have hll : (l.take (mn (l.length : Int) 100).toNat).length ≤ 100 := by rw [List.length_take]; omega
  generalize l.take (mn (l.length : Int) 100).toNat = y at *
  rw [wr (n := 1 + t) (by omega) (by omega), wr (n := 1 + s) (by omega) (by omega)]
  obtain ⟨o, x9, hrun, ho, hU, hX⟩ := run_pct 400 (1 + t) (1 + s) [] 0 y 0 (by omega) (by omega) (by omega) (by omega) hll (by omega) (by omega) (by simp) ⟨fun i hi => by simp at hi, fun i hi => by simp at hi, rfl⟩ ⟨fun h => by omega, fun ⟨j, h, _⟩ => by omega⟩
  have hP : progress_Percentages.f 400 y (1 + t) (1 + s) = some (o, 0) := by
    unfold progress_Percentages.f
    rw [if_neg (by omega), if_neg (by omega), if_neg (by omega), if_neg (by omega), if_neg (by omega)]
    exact hrun
  rw [hP, Option.bind_some, if_pos rfl]
  exact fin_run 400 y (1 + t) o false x9 0 hll (by omega) (by omega) ho hU ⟨(fun h => by cases h), (fun ⟨j, h, _⟩ => by omega)⟩ hX
end Go.Proofs.Ytpbljheelkpaiaa.Pg
