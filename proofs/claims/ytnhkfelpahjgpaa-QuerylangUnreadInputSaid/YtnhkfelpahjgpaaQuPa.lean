/- The laws of query programs in plain words: a valid program's queries have values, and these come of the inputs' residues and of the earlier queries alone. No condition. -/
import Derived.Test.YtnhkfelpahjgpaaQux9
set_option linter.unusedVariables false
set_option linter.unusedSimpArgs false
namespace Go.Proofs.Ytnhkfelpahjgpaa.Qu
open Go.RowKit Go.Proofs.YtnhkfelpahjgpaaW.PrintWords
abbrev In (v : Int) : Prop := 0 ≤ v ∧ v < 1000003
theorem reduce_is (a : Int) : querylang_reduce.f a = some (a % 1000003) := by
  unfold querylang_reduce.f
  have h1 : Int.tmod a 1000003 = a - 1000003 * (Int.tdiv a 1000003) := by have := Int.tmod_add_mul_tdiv a 1000003; omega
  split
  · rename_i h
    have h2 : -1000003 < Int.tmod a 1000003 := by have := Int.lt_tmod_of_pos a (b := 1000003) (by decide); omega
    congr 1
    rw [w64_id _ (by omega) (by omega)]
    omega
  · rename_i h
    have h2 : Int.tmod a 1000003 < 1000003 := Int.tmod_lt_of_pos a (by decide)
    congr 1
    omega
theorem mod_is (a b : Int) (hb : 0 < b) (hb2 : b < 1000000000000) : glossatorref3_Mod.f a b = some (a % b) := by
  unfold glossatorref3_Mod.f
  rw [if_neg (by omega)]
  have h1 : Int.tmod a b + b * (Int.tdiv a b) = a := Int.tmod_add_mul_tdiv a b
  have h2 : Int.tmod a b < b := Int.tmod_lt_of_pos a hb
  have h3 : -b < Int.tmod a b := Int.lt_tmod_of_pos a hb
  have h4 : a % b = Int.tmod a b ∨ a % b = Int.tmod a b + b := by
    by_cases h : 0 ≤ Int.tmod a b
    · left
      conv => lhs; rw [← h1]
      rw [Int.add_mul_emod_self_left, Int.emod_eq_of_lt h h2]
    · right
      conv => lhs; rw [← h1]
      rw [Int.add_mul_emod_self_left, ← Int.add_emod_right, Int.emod_eq_of_lt (by omega) (by omega)]
  have h5 := Int.emod_nonneg a (by omega : b ≠ 0)
  have h6 := Int.emod_lt_of_pos a hb
  split
  · rename_i h
    rw [w64_id _ (by omega) (by omega)]
    congr 1; omega
  · rename_i h
    congr 1; omega
theorem binary_in (o x y : Int) (hx : In x) (hy : In y) : ∃ v, querylang_binary.f o x y = some v ∧ In v := by
  unfold querylang_binary.f
  have hr : ∀ a : Int, In (a % 1000003) := fun a => ⟨Int.emod_nonneg a (by decide), Int.emod_lt_of_pos a (by decide)⟩
  split
  · rw [reduce_is]; exact ⟨_, rfl, hr _⟩
  split
  · rw [reduce_is]; exact ⟨_, rfl, hr _⟩
  split
  · rw [reduce_is]; exact ⟨_, rfl, hr _⟩
  split
  · refine ⟨_, rfl, ?_⟩; unfold mn; split <;> assumption
  split
  · refine ⟨_, rfl, ?_⟩; unfold mx; split <;> assumption
  split
  · exact ⟨_, rfl, by decide, by decide⟩
  · exact ⟨_, rfl, by decide, by decide⟩
/-- what the checks ask of a query's instructions -/
def okQ (n idx : Int) : List S43 → Int → Bool
  | [], d => d == 1
  | op :: r, d => decide (1 ≤ op.f0) && decide (op.f0 < 12) && (opnd n idx op.f0 op.f1 op.f2).2 && decide ((opnd n idx op.f0 op.f1 op.f2).1 ≤ d) && okQ n idx r (d + (1 - (opnd n idx op.f0 op.f1 op.f2).1))
theorem opnd_le (n idx o a b : Int) : 0 ≤ (opnd n idx o a b).1 ∧ (opnd n idx o a b).1 ≤ 2 := by
  unfold opnd
  repeat' split
  all_goals (constructor <;> simp)
theorem cq (n idx : Int) (qs : List (List S43)) (l : List S43) (hl : l.length ≤ 20) : ∀ (m i k : Nat) (d : Int), i + m = l.length → m < k → 0 ≤ d → d ≤ i → ∃ e, querylang_checkQuery.l0 k idx d l (l.length : Int) (i : Int) n qs = some e ∧ (e = 0 ↔ okQ n idx (l.drop i) d = true)
  | 0, i, k, d, hi, hk, h0, h1 => by
    obtain ⟨k, rfl⟩ : ∃ j, k = j + 1 := ⟨k - 1, by omega⟩
    rw [show l.drop i = [] from List.drop_eq_nil_of_le (by omega)]
    unfold querylang_checkQuery.l0
    rw [if_neg (by omega)]
    by_cases h : d = 1
    · rw [if_pos h]; exact ⟨0, rfl, by simp [okQ, h]⟩
    · rw [if_neg h]; exact ⟨3, rfl, by simp [okQ, h]⟩
  | m + 1, i, k, d, hi, hk, h0, h1 => by
    obtain ⟨k, rfl⟩ : ∃ j, k = j + 1 := ⟨k - 1, by omega⟩
    rw [take43 l i (by omega)]
    generalize hop : rd_T43 l (i : Int) = op
    have hp := opnd_le n idx op.f0 op.f1 op.f2
    unfold querylang_checkQuery.l0
    rw [if_pos (by omega), if_pos (by omega), if_pos (by omega), hop]
    unfold okQ
    by_cases c1 : op.f0 < 1
    · rw [if_pos c1]; exact ⟨7, rfl, by simp; intro; omega⟩
    rw [if_neg c1]
    by_cases c2 : op.f0 ≥ 12
    · rw [if_pos c2]; exact ⟨7, rfl, by simp; intro; omega⟩
    rw [if_neg c2]
    unfold querylang_operands.f
    generalize opnd n idx op.f0 op.f1 op.f2 = t at hp ⊢
    rw [Option.bind_some]
    cases c3 : t.2 with
    | false => exact ⟨3, rfl, by simp⟩
    | true =>
      rw [if_pos rfl]
      by_cases c4 : d < t.1
      · rw [if_pos c4]; exact ⟨3, rfl, by simp; intro _ _; omega⟩
      rw [if_neg c4, w64_id (1 - t.1) (by omega) (by omega), w64_id _ (by omega) (by omega), w64_id _ (by omega) (by omega)]
      obtain ⟨e, he, hi'⟩ := cq n idx qs l hl m (i + 1) k (d + (1 - t.1)) (by omega) (by omega) (by omega) (by omega)
      refine ⟨e, by rw [← he]; norm_cast, hi'.trans ?_⟩
      have e1 : decide (1 ≤ op.f0) = true := by simp; omega
      have e2 : decide (op.f0 < 12) = true := by simp; omega
      have e3 : decide (t.1 ≤ d) = true := by simp; omega
      rw [e1, e2, e3]
      simp
/-- a valid program -/
def Valid (n : Int) (qs : List (List S43)) : Prop := (0 ≤ n ∧ n ≤ 40) ∧ qs.length ≤ 40 ∧ (∀ l ∈ qs, l.length ≤ 20) ∧ ∀ i : Nat, i < qs.length → okQ n i (rd_L2 qs (i : Int)) 0 = true
theorem rdL2_mem (qs : List (List S43)) (i : Nat) (h : i < qs.length) : rd_L2 qs (i : Int) ∈ qs := by
  unfold rd_L2
  rw [List.getD_eq_getElem?_getD, Int.toNat_natCast, List.getElem?_eq_getElem h]
  exact List.getElem_mem _
theorem ck (n : Int) (qs : List (List S43)) (hq : qs.length ≤ 40) (hl : ∀ l ∈ qs, l.length ≤ 20) : ∀ (m i k : Nat), i + m = qs.length → m + 22 ≤ k → ∃ e, querylang_Check.l0 k (qs.length : Int) (i : Int) n qs = some e ∧ (e = 0 ↔ ∀ j : Nat, i ≤ j → j < qs.length → okQ n j (rd_L2 qs (j : Int)) 0 = true)
  | 0, i, k, hi, hk => by
    obtain ⟨k, rfl⟩ : ∃ j, k = j + 1 := ⟨k - 1, by omega⟩
    unfold querylang_Check.l0
    rw [if_neg (by omega)]
    exact ⟨0, rfl, by simp; intro j h1 h2; omega⟩
  | m + 1, i, k, hi, hk => by
    obtain ⟨k, rfl⟩ : ∃ j, k = j + 1 := ⟨k - 1, by omega⟩
    have hm := hl _ (rdL2_mem qs i (by omega))
    obtain ⟨e, he, hok⟩ := cq n (i : Int) qs (rd_L2 qs (i : Int)) hm (rd_L2 qs (i : Int)).length 0 k 0 (by omega) (by omega) (by omega) (by omega)
    rw [List.drop_zero] at hok
    unfold querylang_Check.l0
    rw [if_pos (by omega)]
    unfold querylang_checkQuery.f
    rw [if_pos (by omega), if_pos (by omega)]
    rw [show ((0 : Nat) : Int) = 0 from rfl] at he
    rw [he, Option.bind_some]
    by_cases h0 : e = 0
    · rw [if_pos h0, w64_id _ (by omega) (by omega)]
      obtain ⟨e2, he2, hok2⟩ := ck n qs hq hl m (i + 1) k (by omega) (by omega)
      refine ⟨e2, by rw [← he2]; norm_cast, hok2.trans ⟨fun h j h1 h2 => ?_, fun h j h1 h2 => h j (by omega) h2⟩⟩
      rcases Nat.eq_or_lt_of_le h1 with rfl | h3
      · exact hok.1 h0
      · exact h j h3 h2
    · rw [if_neg h0]
      exact ⟨e, rfl, ⟨fun h => absurd h h0, fun h => absurd (hok.2 (h i (Nat.le_refl _) (by omega))) h0⟩⟩
theorem check_is (n : Int) (qs : List (List S43)) (k : Nat) (hk : 62 ≤ k) : ∃ e, querylang_Check.f k n qs = some e ∧ (e = 0 ↔ Valid n qs) := by
  unfold querylang_Check.f Valid
  by_cases c1 : n > 40
  · rw [if_pos c1]; exact ⟨2, rfl, by simp; intro; omega⟩
  rw [if_neg c1]
  by_cases c2 : (qs.length : Int) > 40
  · rw [if_pos c2]; exact ⟨2, rfl, by simp; intro _ _ _; omega⟩
  rw [if_neg c2]
  unfold api_QOp.f
  rw [if_pos ⟨rfl, by omega⟩, Option.bind_some]
  by_cases c3 : qs.any longQ = true
  · rw [if_pos c3]
    refine ⟨2, rfl, by simp, fun h => ?_⟩
    obtain ⟨l, h1, h2⟩ := List.any_eq_true.1 c3
    have := h.2.2.1 l h1
    unfold longQ at h2
    simp at h2
    omega
  rw [if_neg c3]
  have hl : ∀ l ∈ qs, l.length ≤ 20 := fun l hm => by
    have := (List.any_eq_false.1 (by simpa using c3)) l hm
    unfold longQ at this
    simp at this
    omega
  by_cases c4 : n < 0
  · rw [if_pos c4]; exact ⟨1, rfl, by simp; intro; omega⟩
  rw [if_neg c4]
  obtain ⟨e, he, hok⟩ := ck n qs (by omega) hl qs.length 0 k (by omega) (by omega)
  exact ⟨e, he, hok.trans ⟨fun h => ⟨⟨by omega, by omega⟩, by omega, hl, fun i hi => h i (by omega) hi⟩, fun h j _ h2 => h.2.2.2 j h2⟩⟩
theorem popL_of {st : List Int} (h : 0 < st.length) : ∃ s x, popL st = some (s, x) ∧ st = s ++ [x] := by
  have hne : st ≠ [] := by intro e; rw [e] at h; cases h
  refine ⟨st.dropLast, st.getLast hne, ?_, (List.dropLast_concat_getLast hne).symm⟩
  unfold popL
  rw [dif_neg hne]
/-- a key that a valid query may ask -/
def okK (n idx : Int) (t : K3) : Prop := (t.1 = 0 ∧ 0 ≤ t.2.1 ∧ t.2.1 < n ∨ t.1 = 1 ∧ 0 ≤ t.2.1 ∧ t.2.1 < idx) ∧ t.2.2 = 0
section
variable {n idx : Int} {gt gt' : Int → Int → Option Int} (hg : ∀ kind a : Int, (kind = 0 ∧ 0 ≤ a ∧ a < n ∨ kind = 1 ∧ 0 ≤ a ∧ a < idx) → ∃ v, In v ∧ gt kind a = some v ∧ gt' kind a = some v)
include hg
theorem ask (kind a : Int) (s : List Int) (tr : List K3) (q : Option (Int × Int × Int × Bool)) (b : Bool) (hq : q = some (kind, a, 0, b)) (hk : kind = 0 ∧ 0 ≤ a ∧ a < n ∨ kind = 1 ∧ 0 ≤ a ∧ a < idx) (hs : ∀ v ∈ s, In v) :
    ∃ st1 tr1, (q.bind fun q => (gt q.1 q.2.1).bind fun v => some (s ++ [v], tr ++ [(q.1, q.2.1, q.2.2.1)])) = some (st1, tr1) ∧ (q.bind fun q => (gt' q.1 q.2.1).bind fun v => some (s ++ [v], tr ++ [(q.1, q.2.1, q.2.2.1)])) = some (st1, tr1) ∧ (∀ v ∈ st1, In v) ∧ st1.length = s.length + 1 ∧ (∀ t ∈ tr1, t ∈ tr ∨ okK n idx t) ∧ tr1.length ≤ tr.length + 1 := by
  obtain ⟨v, h1, h2, h3⟩ := hg kind a hk
  subst hq
  simp only [Option.bind_some]
  rw [h2, h3]
  refine ⟨s ++ [v], tr ++ [(kind, a, 0)], rfl, rfl, fun u hu => ?_, by simp, fun t ht => (List.mem_append.1 ht).imp_right (fun e => by rw [List.mem_singleton] at e; rw [e]; exact ⟨hk, rfl⟩), by simp⟩
  rcases List.mem_append.1 hu with hu | hu
  · exact hs u hu
  · rw [List.mem_singleton] at hu; rw [hu]; exact h1
theorem step2 (op : S43) (st : List Int) (tr : List K3) (h1 : 1 ≤ op.f0) (h2 : op.f0 < 12) (h3 : (opnd n idx op.f0 op.f1 op.f2).2 = true) (h4 : (opnd n idx op.f0 op.f1 op.f2).1 ≤ (st.length : Int)) (hs : ∀ v ∈ st, In v) :
    ∃ st1 tr1, stepT gt idx op st tr = some (st1, tr1) ∧ stepT gt' idx op st tr = some (st1, tr1) ∧ (∀ v ∈ st1, In v) ∧ (st1.length : Int) = st.length + (1 - (opnd n idx op.f0 op.f1 op.f2).1) ∧ (∀ t ∈ tr1, t ∈ tr ∨ okK n idx t) ∧ tr1.length ≤ tr.length + 1 := by
  unfold stepT
  by_cases c4 : op.f0 = 4
  · have hO : opnd n idx op.f0 op.f1 op.f2 = (1, (op.f1 == 0) && (op.f2 == 0) && decide (0 < idx)) := by unfold opnd; rw [if_neg (show ¬ op.f0 = 1 by omega), if_neg (show ¬ op.f0 = 2 by omega), if_neg (show ¬ op.f0 = 3 by omega), if_pos c4]
    rw [hO] at h3 h4 ⊢
    rw [if_pos (show op.f0 = 4 ∨ op.f0 = 5 from .inl c4), if_pos (show op.f0 = 4 ∨ op.f0 = 5 from .inl c4)]
    simp only [Bool.and_eq_true, decide_eq_true_eq] at h3 h4
    obtain ⟨s, x, hp, rfl⟩ := popL_of (st := st) (by omega)
    have hx := hs x (by simp)
    rw [hp]
    simp only [Option.bind_some]
    have e1 : Int.tmod x idx < idx := Int.tmod_lt_of_pos x (by omega)
    have e2 : 0 ≤ Int.tmod x idx := Int.tmod_nonneg idx hx.1
    obtain ⟨s1, t1, r1, r2, r3, r4, r5⟩ := ask hg 1 (Int.tmod x idx) s tr (querylang_operandKey.f op.f0 op.f1 op.f2 idx x) true (by unfold querylang_operandKey.f; rw [if_neg (show ¬ op.f0 = 2 by omega), if_neg (show ¬ op.f0 = 3 by omega), if_pos c4, if_neg (show ¬ idx = 0 by omega)]) (.inr ⟨rfl, e2, e1⟩) (fun v hv => hs v (List.mem_append_left _ hv))
    exact ⟨s1, t1, r1, r2, r3, by rw [r4]; simp, r5⟩
  by_cases c5 : op.f0 = 5
  · have hO : opnd n idx op.f0 op.f1 op.f2 = (1, earl idx op.f1 && earl idx op.f2) := by unfold opnd; rw [if_neg (show ¬ op.f0 = 1 by omega), if_neg (show ¬ op.f0 = 2 by omega), if_neg (show ¬ op.f0 = 3 by omega), if_neg (show ¬ op.f0 = 4 by omega), if_pos c5]
    rw [hO] at h3 h4 ⊢
    rw [if_pos (show op.f0 = 4 ∨ op.f0 = 5 from .inr c5), if_pos (show op.f0 = 4 ∨ op.f0 = 5 from .inr c5)]
    unfold earl at h3
    simp only [Bool.and_eq_true, decide_eq_true_eq] at h3 h4
    obtain ⟨s, x, hp, rfl⟩ := popL_of (st := st) (by omega)
    rw [hp]
    simp only [Option.bind_some]
    by_cases hx : x = 0
    · obtain ⟨s1, t1, r1, r2, r3, r4, r5⟩ := ask hg 1 op.f2 s tr (querylang_operandKey.f op.f0 op.f1 op.f2 idx x) true (by unfold querylang_operandKey.f; rw [if_neg (show ¬ op.f0 = 2 by omega), if_neg (show ¬ op.f0 = 3 by omega), if_neg (show ¬ op.f0 = 4 by omega), if_pos c5, if_pos hx]) (.inr ⟨rfl, h3.2.1, h3.2.2⟩) (fun v hv => hs v (List.mem_append_left _ hv))
      exact ⟨s1, t1, r1, r2, r3, by rw [r4]; simp, r5⟩
    · obtain ⟨s1, t1, r1, r2, r3, r4, r5⟩ := ask hg 1 op.f1 s tr (querylang_operandKey.f op.f0 op.f1 op.f2 idx x) true (by unfold querylang_operandKey.f; rw [if_neg (show ¬ op.f0 = 2 by omega), if_neg (show ¬ op.f0 = 3 by omega), if_neg (show ¬ op.f0 = 4 by omega), if_pos c5, if_neg hx]) (.inr ⟨rfl, h3.1.1, h3.1.2⟩) (fun v hv => hs v (List.mem_append_left _ hv))
      exact ⟨s1, t1, r1, r2, r3, by rw [r4]; simp, r5⟩
  rw [if_neg (show ¬ (op.f0 = 4 ∨ op.f0 = 5) by omega), if_neg (show ¬ (op.f0 = 4 ∨ op.f0 = 5) by omega)]
  by_cases c2 : op.f0 = 2
  · have hO : opnd n idx op.f0 op.f1 op.f2 = (0, (op.f2 == 0) && decide (0 ≤ op.f1) && decide (op.f1 < n)) := by unfold opnd; rw [if_neg (show ¬ op.f0 = 1 by omega), if_pos c2]
    rw [hO] at h3 h4 ⊢
    rw [if_pos (show op.f0 = 2 ∨ op.f0 = 3 from .inl c2), if_pos (show op.f0 = 2 ∨ op.f0 = 3 from .inl c2)]
    simp only [Bool.and_eq_true, decide_eq_true_eq] at h3 h4
    obtain ⟨s1, t1, r1, r2, r3, r4, r5⟩ := ask hg 0 op.f1 st tr (querylang_operandKey.f op.f0 op.f1 op.f2 idx 0) true (by unfold querylang_operandKey.f; rw [if_pos c2]) (.inl ⟨rfl, h3.1.2, h3.2⟩) hs
    exact ⟨s1, t1, r1, r2, r3, by rw [r4]; simp, r5⟩
  by_cases c3 : op.f0 = 3
  · have hO : opnd n idx op.f0 op.f1 op.f2 = (0, (op.f2 == 0) && earl idx op.f1) := by unfold opnd; rw [if_neg (show ¬ op.f0 = 1 by omega), if_neg (show ¬ op.f0 = 2 by omega), if_pos c3]
    rw [hO] at h3 h4 ⊢
    rw [if_pos (show op.f0 = 2 ∨ op.f0 = 3 from .inr c3), if_pos (show op.f0 = 2 ∨ op.f0 = 3 from .inr c3)]
    unfold earl at h3
    simp only [Bool.and_eq_true, decide_eq_true_eq] at h3 h4
    obtain ⟨s1, t1, r1, r2, r3, r4, r5⟩ := ask hg 1 op.f1 st tr (querylang_operandKey.f op.f0 op.f1 op.f2 idx 0) true (by unfold querylang_operandKey.f; rw [if_neg c2, if_pos c3]) (.inr ⟨rfl, h3.2.1, h3.2.2⟩) hs
    exact ⟨s1, t1, r1, r2, r3, by rw [r4]; simp, r5⟩
  rw [if_neg (show ¬ (op.f0 = 2 ∨ op.f0 = 3) by omega), if_neg (show ¬ (op.f0 = 2 ∨ op.f0 = 3) by omega)]
  by_cases c1 : op.f0 = 1
  · have hO : opnd n idx op.f0 op.f1 op.f2 = (0, op.f2 == 0) := by unfold opnd; rw [if_pos c1]
    rw [hO]
    rw [if_pos c1, reduce_is]
    refine ⟨st ++ [op.f1 % 1000003], tr, rfl, rfl, fun u hu => ?_, by simp, fun t ht => .inl ht, by omega⟩
    rcases List.mem_append.1 hu with hu | hu
    · exact hs u hu
    · rw [List.mem_singleton] at hu; rw [hu]; exact ⟨Int.emod_nonneg _ (by decide), Int.emod_lt_of_pos _ (by decide)⟩
  have hO : opnd n idx op.f0 op.f1 op.f2 = (2, (op.f1 == 0) && (op.f2 == 0)) := by unfold opnd; rw [if_neg c1, if_neg c2, if_neg c3, if_neg c4, if_neg c5]
  rw [hO] at h3 h4 ⊢
  rw [if_neg c1]
  obtain ⟨s, y, hp, rfl⟩ := popL_of (st := st) (by simp only at h4; omega)
  simp only [List.length_append, List.length_singleton] at h4
  obtain ⟨s, x, hp2, rfl⟩ := popL_of (st := s) (by omega)
  rw [hp]
  simp only [Option.bind_some]
  rw [hp2]
  simp only [Option.bind_some]
  obtain ⟨v, hv, hin⟩ := binary_in op.f0 x y (hs x (by simp)) (hs y (by simp))
  rw [hv]
  refine ⟨s ++ [v], tr, rfl, rfl, fun u hu => ?_, by simp; omega, fun t ht => .inl ht, by omega⟩
  rcases List.mem_append.1 hu with hu | hu
  · exact hs u (by simp [hu])
  · rw [List.mem_singleton] at hu; rw [hu]; exact hin
theorem run2 : ∀ (l : List S43) (st : List Int) (tr : List K3), okQ n idx l (st.length : Int) = true → (∀ v ∈ st, In v) → ∃ x tr1, goT gt idx l st tr = some ([x], tr1) ∧ goT gt' idx l st tr = some ([x], tr1) ∧ In x ∧ (∀ t ∈ tr1, t ∈ tr ∨ okK n idx t) ∧ tr1.length ≤ tr.length + l.length
  | [], st, tr, h, hs => by
    unfold okQ at h
    have h1 : st.length = 1 := by have := eq_of_beq h; omega
    obtain ⟨x, rfl⟩ := List.length_eq_one_iff.1 h1
    exact ⟨x, tr, rfl, rfl, hs x (by simp), fun t ht => .inl ht, by simp⟩
  | op :: l, st, tr, h, hs => by
    unfold okQ at h
    simp only [Bool.and_eq_true, decide_eq_true_eq] at h
    obtain ⟨⟨⟨⟨h1, h2⟩, h3⟩, h4⟩, h5⟩ := h
    obtain ⟨s1, t1, r1, r2, r3, r4, r5, r6⟩ := step2 hg op st tr h1 h2 h3 h4 hs
    rw [← r4] at h5
    obtain ⟨x, t2, e1, e2, e3, e4, e5⟩ := run2 l s1 t1 h5 r3
    exact ⟨x, t2, by rw [goT_cons, r1]; exact e1, by rw [goT_cons, r2]; exact e2, e3, fun t ht => (e4 t ht).elim (r5 t) .inr, by rw [List.length_cons]; omega⟩
end
/-- a valid program's queries have values; other inputs with the same residues, other queries behind: the same -/
theorem evalAll (n : Int) (qs qs' : List (List S43)) (ins ins' : List Int) (hv : Valid n qs) (hi : (ins.length : Int) = n) (hi' : (ins'.length : Int) = n) (hr : ∀ a : Int, 0 ≤ a → a < n → rd ins a % 1000003 = rd ins' a % 1000003) : ∀ q : Nat, q < qs.length → (∀ j : Nat, j ≤ q → j < qs'.length ∧ rd_L2 qs' (j : Int) = rd_L2 qs (j : Int)) → ∃ r, In r ∧ G qs ins (q + 1) 1 (q : Int) = some r ∧ G qs' ins' (q + 1) 1 (q : Int) = some r := by
  intro q
  induction q using Nat.strongRecOn with
  | ind q ih =>
    intro hq hsame
    have hlen := hv.2.2.1 _ (rdL2_mem qs q hq)
    have hq40 := hv.2.1
    rw [G_1 _ _ _ _ _ (by decide), G_1 _ _ _ _ _ (by decide), (hsame q (Nat.le_refl _)).2]
    have hqs' := (hsame q (Nat.le_refl _)).1
    rw [if_pos ⟨⟨by omega, by omega⟩, by omega, by omega⟩, if_pos ⟨⟨by omega, by omega⟩, by omega, by omega⟩]
    obtain ⟨x, tr1, e1, e2, e3, _⟩ := run2 (n := n) (idx := q) (gt := G qs ins q) (gt' := G qs' ins' q) (fun kind a hk => by
      rcases hk with ⟨rfl, h1, h2⟩ | ⟨rfl, h1, h2⟩
      · rw [G_0, G_0, if_pos ⟨h1, by omega⟩, if_pos ⟨h1, by omega⟩, reduce_is, reduce_is, ← hr a h1 h2]
        exact ⟨_, ⟨Int.emod_nonneg _ (by decide), Int.emod_lt_of_pos _ (by decide)⟩, rfl, rfl⟩
      · obtain ⟨j, rfl⟩ : ∃ j : Nat, a = j := ⟨a.toNat, by omega⟩
        obtain ⟨r, h3, h4, h5⟩ := ih j (by omega) (by omega) (fun i hi => hsame i (by omega))
        exact ⟨r, h3, G_le _ _ (by omega) h4, G_le _ _ (by omega) h5⟩) (rd_L2 qs (q : Int)) [] [] (hv.2.2.2 q hq) (fun v hv => by cases hv)
    exact ⟨x, e3, by rw [e1]; rfl, by rw [e2]; rfl⟩
theorem pre_ok (n : Int) (qs : List (List S43)) (ins : List Int) (q : Int) (hv : Valid n qs) (hi : (ins.length : Int) = n) (h0 : 0 ≤ q) (h1 : q < (qs.length : Int)) : pre_ n qs ins q = some 0 := by
  unfold pre_
  obtain ⟨e, he, hok⟩ := check_is n qs 100 (by omega)
  rw [he, Option.bind_some, hok.2 hv, if_neg (by omega), if_neg (by omega)]
theorem eval_is (n : Int) (qs : List (List S43)) (ins : List Int) (q : Nat) (hv : Valid n qs) (hi : (ins.length : Int) = n) (h1 : q < qs.length) {r : Int} (hg : G qs ins (q + 1) 1 (q : Int) = some r) : querylang_Eval.f n qs ins (q : Int) = some (r, 0) := by
  unfold querylang_Eval.f
  rw [pre_ok n qs ins q hv hi (by omega) (by omega), Option.bind_some, if_neg (by omega), G_le qs ins (by have := hv.2.1; omega : q + 1 ≤ 50) hg]
  rfl
theorem fit_is (l : List Int) (n : Int) (h0 : 0 ≤ n) (h1 : n ≤ 40) : ∃ r, glossatorkeep3_fit.f l n = some r ∧ (r.length : Int) = n := by
  unfold glossatorkeep3_fit.f
  rw [if_pos ⟨h0, by omega⟩]
  refine ⟨_, rfl, ?_⟩
  unfold fitL
  simp only [List.length_append, List.length_take, List.length_drop, List.length_replicate]
  omega
theorem example_is : glossatorkeep3_queryExample.f = some true := by kernel_rfl
theorem usable_is (n : Int) (qs : List (List S43)) (k : Nat) (hk : 62 ≤ k) : ∃ b, glossatorkeep3_usable.f k n qs = some b ∧ (b = true → Valid n qs ∧ 0 < qs.length ∧ 0 < n) := by
  unfold glossatorkeep3_usable.f
  obtain ⟨e, he, hok⟩ := check_is n qs k hk
  rw [he, Option.bind_some]
  by_cases h : e = 0
  · rw [if_pos h]
    by_cases h1 : (qs.length : Int) > 0
    · rw [if_pos h1]; exact ⟨_, rfl, fun hb => ⟨hok.1 h, by omega, by simpa using hb⟩⟩
    · rw [if_neg h1]; exact ⟨_, rfl, fun hb => by cases hb⟩
  · rw [if_neg h]; exact ⟨_, rfl, fun hb => by cases hb⟩
theorem rd_set (l : List Int) (i a v : Int) (h0 : 0 ≤ i) (ha : 0 ≤ a) (h1 : i < (l.length : Int)) : rd (l.set i.toNat v) a = if a = i then v else rd l a := by
  unfold rd
  rw [List.getD_eq_getElem?_getD, List.getD_eq_getElem?_getD, List.getElem?_set]
  by_cases h : a = i
  · rw [if_pos h, if_pos (by omega), if_pos (by omega)]; rfl
  · rw [if_neg h, if_neg (by omega)]
end Go.Proofs.Ytnhkfelpahjgpaa.Qu
