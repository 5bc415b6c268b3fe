/- Sets as numbers of 20 bits, and what rules derive: the printed functions as plain folds. No condition. -/
import Derived.Test.YtgjcembdmohhkaaFshSc
import Derived.Laws.BitsLemmas
set_option linter.unusedVariables false
set_option linter.unusedSimpArgs false
namespace Go.Proofs.Ytgjcembdmohhkaa.Fs
open Go.RowKit Go.Proofs.YtgjcembdmohhkaaW.PrintWords Go.Proofs.YtgjcembdmohhkaaW.PrintLast Go.Proofs.YtgjcembdmohhkaaW.PrintMore
open Go.Proofs.Ytgjcembdmohhkaa

theorem ev_ge {α : Type} {g : Nat → Option α} (hm : ∀ k, LeO (g k) (g (k + 1))) {r : α} (h : ∃ k, g k = some r) (m : Nat) : ∃ k, m ≤ k ∧ g k = some r := by
  obtain ⟨k, hk⟩ := h
  exact ⟨max k m, Nat.le_max_right _ _, at_rounds hm (Nat.le_max_left _ _) hk⟩
theorem i64_63 (n : Int) (h0 : 0 ≤ n) (h1 : n < 2 ^ 63) : IntKind.i64.wrap n = n := by
  rw [IntKind.wrap_i64]
  have : (2 : Int) ^ 63 = 9223372036854775808 := by decide
  omega
theorem p20 : (2 : Nat) ^ 20 = 1048576 := by decide
theorem p20_63 {a : Nat} (h : a < 1048576) : a < 2 ^ 63 := Nat.lt_of_lt_of_le h (by decide)
theorem and_nat {a b : Nat} (ha : a < 1048576) (hb : b < 1048576) : Go.bits .and .i64 (a : Int) (b : Int) = ((a &&& b : Nat) : Int) := (bits_nat .i64 63 (by decide) i64_63 a b (p20_63 ha) (p20_63 hb)).1
theorem or_nat {a b : Nat} (ha : a < 1048576) (hb : b < 1048576) : Go.bits .or .i64 (a : Int) (b : Int) = ((a ||| b : Nat) : Int) := (bits_nat .i64 63 (by decide) i64_63 a b (p20_63 ha) (p20_63 hb)).2
theorem and_lt {a b : Nat} (hb : b < 1048576) : a &&& b < 1048576 := by rw [← p20] at hb ⊢; exact Nat.and_lt_two_pow _ hb
theorem or_lt {a b : Nat} (ha : a < 1048576) (hb : b < 1048576) : a ||| b < 1048576 := by rw [← p20] at ha hb ⊢; exact Nat.or_lt_two_pow ha hb
theorem andNot_nat {a b : Nat} (ha : a < 1048576) (hb : b < 1048576) : Go.bits .andNot .i64 (a : Int) (b : Int) = 0 ↔ ∀ e, a.testBit e = true → b.testBit e = true := by
  have ha' : a % 2 ^ 64 = a := Nat.mod_eq_of_lt (Nat.lt_of_lt_of_le ha (by decide))
  have hb' : b % 2 ^ 64 = b := Nat.mod_eq_of_lt (Nat.lt_of_lt_of_le hb (by decide))
  have e1 : Go.bits .andNot .i64 (a : Int) (b : Int) = IntKind.i64.wrap (((BitVec.ofNat 64 a) &&& ~~~(BitVec.ofNat 64 b)).toNat : Int) := by
    unfold Go.bits
    rw [BitVec.ofInt_natCast, BitVec.ofInt_natCast]
    rfl
  have hle : ((BitVec.ofNat 64 a) &&& ~~~(BitVec.ofNat 64 b)).toNat < 1048576 := by
    rw [BitVec.toNat_and, BitVec.toNat_ofNat, ha', Nat.and_comm]
    exact and_lt ha
  rw [e1, i64_63 _ (Int.natCast_nonneg _) (by have : ((2 : Int) ^ 63) = 9223372036854775808 := by decide
                                              omega)]
  constructor
  · intro h e he
    have h0 : ((BitVec.ofNat 64 a) &&& ~~~(BitVec.ofNat 64 b)).toNat = 0 := by omega
    have h1 : ((BitVec.ofNat 64 a) &&& ~~~(BitVec.ofNat 64 b)).getLsbD e = false := by
      rw [BitVec.getLsbD, h0]; exact Nat.zero_testBit _
    rw [BitVec.getLsbD_and, BitVec.getLsbD_not, BitVec.getLsbD_ofNat, BitVec.getLsbD_ofNat, he] at h1
    have he64 : e < 64 := by
      rcases Nat.lt_or_ge e 64 with h | h
      · exact h
      · have : a < 2 ^ e := Nat.lt_of_lt_of_le ha (Nat.le_trans (by decide : 1048576 ≤ 2 ^ 64) (Nat.pow_le_pow_right (by decide) h))
        rw [Nat.testBit_lt_two_pow this] at he
        cases he
    simpa [he64] using h1
  · intro h
    have : ((BitVec.ofNat 64 a) &&& ~~~(BitVec.ofNat 64 b)) = 0#64 := by
      apply BitVec.eq_of_getLsbD_eq
      intro e he
      rw [BitVec.getLsbD_and, BitVec.getLsbD_not, BitVec.getLsbD_ofNat, BitVec.getLsbD_ofNat]
      cases hae : a.testBit e with
      | false => simp
      | true => simp [h e hae]
    rw [this]
    rfl
theorem w64 {n : Int} (h : -9223372036854775808 ≤ n) (h' : n ≤ 9223372036854775807) : wrap64 n = n := by unfold wrap64; omega
theorem rd_get (xs : List Int) (i : Nat) (h : i < xs.length) : rd xs (i : Int) = xs[i] := by unfold rd; simp [h]
theorem rdL_get (xs : List (List S31)) (i : Nat) (h : i < xs.length) : rd_L3 xs (i : Int) = xs[i] := by unfold rd_L3; simp [h]
theorem rdT_get (xs : List S31) (i : Nat) (h : i < xs.length) : rd_T31 xs (i : Int) = xs[i] := by unfold rd_T31; simp [h]
theorem rdM_get (xs : List (List Int)) (i : Nat) (h : i < xs.length) : rd_L1 xs (i : Int) = xs[i] := by unfold rd_L1; simp [h]

/-- a vector of sets -/
structure Good (n : Nat) (s : List Int) : Prop where
  len : s.length = n
  rng : ∀ x ∈ s, 0 ≤ x ∧ x < 1048576
def g (s : List Int) (i : Int) : Nat := (rd s i).toNat
def has (s : List Int) (i : Int) (e : Nat) : Prop := (g s i).testBit e = true
theorem g_lt {n : Nat} {s : List Int} (h : Good n s) (i : Int) : g s i < 1048576 := by
  unfold g rd
  rcases Nat.lt_or_ge i.toNat s.length with hi | hi
  · rw [List.getD_eq_getElem?_getD, List.getElem?_eq_getElem hi]
    have := h.rng _ (List.getElem_mem hi)
    simp only [Option.getD_some]
    omega
  · rw [List.getD_eq_getElem?_getD, List.getElem?_eq_none hi]
    decide
theorem rd_g {n : Nat} {s : List Int} (h : Good n s) (i : Int) : rd s i = (g s i : Int) := by
  unfold g
  have : 0 ≤ rd s i := by
    unfold rd
    rcases Nat.lt_or_ge i.toNat s.length with hi | hi
    · rw [List.getD_eq_getElem?_getD, List.getElem?_eq_getElem hi]
      exact (h.rng _ (List.getElem_mem hi)).1
    · rw [List.getD_eq_getElem?_getD, List.getElem?_eq_none hi]
      decide
  omega
def dv (r : S31) (s : List Int) : Nat := r.f1.foldl (fun a j => a &&& g s j) r.f0.toNat
def da (L : List S31) (s : List Int) : Nat := L.foldl (fun a r => a ||| dv r s) 0
theorem fold_and_bit (s : List Int) (l : List Int) : ∀ (a e : Nat), (l.foldl (fun a j => a &&& g s j) a).testBit e = true ↔ a.testBit e = true ∧ ∀ j ∈ l, has s j e := by
  induction l with
  | nil => intro a e; simp
  | cons j l ih =>
    intro a e
    rw [List.foldl_cons, ih, Nat.testBit_and]
    unfold has
    simp only [Bool.and_eq_true, List.mem_cons, forall_eq_or_imp, and_assoc]
def drv (r : S31) (s : List Int) (e : Nat) : Prop := r.f0.toNat.testBit e = true ∧ ∀ j ∈ r.f1, has s j e
theorem dv_bit (r : S31) (s : List Int) (e : Nat) : (dv r s).testBit e = true ↔ drv r s e := fold_and_bit s r.f1 _ e
theorem fold_or_bit (s : List Int) (L : List S31) : ∀ (a e : Nat), (L.foldl (fun a r => a ||| dv r s) a).testBit e = true ↔ a.testBit e = true ∨ ∃ r ∈ L, drv r s e := by
  induction L with
  | nil => intro a e; simp
  | cons r L ih =>
    intro a e
    rw [List.foldl_cons, ih, Nat.testBit_or]
    simp only [Bool.or_eq_true, dv_bit, List.mem_cons]
    constructor
    · rintro ((h | h) | ⟨q, hq, h⟩)
      · exact .inl h
      · exact .inr ⟨r, .inl rfl, h⟩
      · exact .inr ⟨q, .inr hq, h⟩
    · rintro (h | ⟨q, rfl | hq, h⟩)
      · exact .inl (.inl h)
      · exact .inl (.inr h)
      · exact .inr ⟨q, hq, h⟩
theorem da_bit (L : List S31) (s : List Int) (e : Nat) : (da L s).testBit e = true ↔ ∃ r ∈ L, drv r s e := by
  unfold da
  rw [fold_or_bit]
  simp
theorem dv_lt {n : Nat} {s : List Int} (h : Good n s) {r : S31} (hm : 0 ≤ r.f0 ∧ r.f0 ≤ 1048575) : dv r s < 1048576 := by
  unfold dv
  have : ∀ (l : List Int) (a : Nat), a < 1048576 → l.foldl (fun a j => a &&& g s j) a < 1048576 := by
    intro l
    induction l with
    | nil => intro a ha; exact ha
    | cons j l ih => intro a ha; rw [List.foldl_cons]; exact ih _ (and_lt (g_lt h j))
  exact this _ _ (by omega)
theorem da_lt {n : Nat} {s : List Int} (h : Good n s) {L : List S31} (hm : ∀ r ∈ L, 0 ≤ r.f0 ∧ r.f0 ≤ 1048575) : da L s < 1048576 := by
  unfold da
  have : ∀ (l : List S31) (a : Nat), (∀ r ∈ l, 0 ≤ r.f0 ∧ r.f0 ≤ 1048575) → a < 1048576 → l.foldl (fun a r => a ||| dv r s) a < 1048576 := by
    intro l
    induction l with
    | nil => intro a _ ha; exact ha
    | cons r l ih => intro a hl ha; rw [List.foldl_cons]; exact ih _ (fun q hq => hl q (List.mem_cons_of_mem _ hq)) (or_lt ha (dv_lt h (hl r List.mem_cons_self)))
  exact this _ _ hm (by decide)
theorem derive_loop {n : Nat} {s : List Int} (hs : Good n s) (A : List Int) (hA : A.length ≤ 60) (hj : ∀ j ∈ A, 0 ≤ j ∧ j < (n : Int)) : ∀ (d i a k : Nat), i + d = A.length → a < 1048576 → d < k →
    fixpoint_derive.l0 k s (a : Int) A (A.length : Int) (i : Int) = some (((A.drop i).foldl (fun a j => a &&& g s j) a : Nat) : Int) := by
  intro d
  induction d with
  | zero =>
    intro i a k hi ha hk
    obtain ⟨k, rfl⟩ : ∃ m, k = m + 1 := ⟨k - 1, by omega⟩
    simp only [fixpoint_derive.l0]
    rw [if_neg (by omega), List.drop_eq_nil_of_le (by omega)]
    rfl
  | succ d ih =>
    intro i a k hi ha hk
    obtain ⟨k, rfl⟩ : ∃ m, k = m + 1 := ⟨k - 1, by omega⟩
    have hi' : i < A.length := by omega
    have hr := hj _ (List.getElem_mem hi')
    have hl := hs.len
    have hw : wrap64 ((i : Int) + 1) = ((i + 1 : Nat) : Int) := by rw [w64 (by omega) (by omega)]; omega
    have hnext := ih (i + 1) (a &&& g s A[i]) k (by omega) (and_lt (g_lt hs _)) (by omega)
    have c1 : (i : Int) < (A.length : Int) := by omega
    have c2 : A[i] < (s.length : Int) := by omega
    simp only [fixpoint_derive.l0]
    rw [if_pos c1, if_pos (Int.natCast_nonneg _), if_pos c1, rd_get A i hi', if_pos hr.1, if_pos c2, rd_g hs A[i], and_nat ha (g_lt hs _), hw, hnext, List.drop_eq_getElem_cons hi', List.foldl_cons]
theorem derive_is {n : Nat} {s : List Int} (hs : Good n s) {r : S31} (hm : 0 ≤ r.f0 ∧ r.f0 ≤ 1048575) (hA : r.f1.length ≤ 60) (hj : ∀ j ∈ r.f1, 0 ≤ j ∧ j < (n : Int)) (k : Nat) (hk : 61 ≤ k) : fixpoint_derive.f k r.f0 r.f1 s = some (dv r s : Int) := by
  unfold fixpoint_derive.f dv
  have := derive_loop hs r.f1 hA hj r.f1.length 0 r.f0.toNat k (by omega) (by omega) (by omega)
  rw [show ((r.f0.toNat : Nat) : Int) = r.f0 from by omega] at this
  exact this
theorem deriveAll_loop {n : Nat} {s : List Int} (hs : Good n s) (L : List S31) (hL : L.length ≤ 20) (hm : ∀ r ∈ L, 0 ≤ r.f0 ∧ r.f0 ≤ 1048575) (hA : ∀ r ∈ L, r.f1.length ≤ 60) (hj : ∀ r ∈ L, ∀ j ∈ r.f1, 0 ≤ j ∧ j < (n : Int)) :
    ∀ (d i a k : Nat), i + d = L.length → a < 1048576 → 61 + d < k → fixpoint_deriveAll.l0 k s (a : Int) L (L.length : Int) (i : Int) = some (((L.drop i).foldl (fun a r => a ||| dv r s) a : Nat) : Int) := by
  intro d
  induction d with
  | zero =>
    intro i a k hi ha hk
    obtain ⟨k, rfl⟩ : ∃ m, k = m + 1 := ⟨k - 1, by omega⟩
    simp only [fixpoint_deriveAll.l0]
    rw [if_neg (by omega), List.drop_eq_nil_of_le (by omega)]
    rfl
  | succ d ih =>
    intro i a k hi ha hk
    obtain ⟨k, rfl⟩ : ∃ m, k = m + 1 := ⟨k - 1, by omega⟩
    have hi' : i < L.length := by omega
    have hmem := List.getElem_mem hi'
    have hw : wrap64 ((i : Int) + 1) = ((i + 1 : Nat) : Int) := by rw [w64 (by omega) (by omega)]; omega
    have hd := dv_lt hs (hm _ hmem)
    have hnext := ih (i + 1) (a ||| dv L[i] s) k (by omega) (or_lt ha hd) (by omega)
    have c1 : (i : Int) < (L.length : Int) := by omega
    have hk' : 61 ≤ k := by omega
    simp only [fixpoint_deriveAll.l0]
    rw [if_pos c1, if_pos (Int.natCast_nonneg _), if_pos c1, rdT_get L i hi', derive_is hs (hm _ hmem) (hA _ hmem) (hj _ hmem) k hk', Option.bind_some, or_nat ha hd, hw, hnext, List.drop_eq_getElem_cons hi', List.foldl_cons]
theorem deriveAll_is {R : List (List S31)} (hR : Okr R) {s : List Int} (hs : Good R.length s) {L : List S31} (hL : L ∈ R) (k : Nat) (hk : 100 ≤ k) : fixpoint_deriveAll.f k L s = some (da L s : Int) := by
  have := hR.l20 L hL
  exact deriveAll_loop hs L this (hR.mask L hL) (hR.a60 L hL) (hR.idx L hL) L.length 0 0 k (by omega) (by decide) (by omega)
theorem index_loop (l : List Int) (a : Int) (hl : l.length ≤ 1000) : ∀ (d i k : Nat), i + d = l.length → d < k → ∃ v, slices_Index_int_int.l0 k l a (l.length : Int) (i : Int) = some v ∧ (v ≥ 0 ↔ a ∈ l.drop i) := by
  intro d
  induction d with
  | zero =>
    intro i k hi hk
    obtain ⟨k, rfl⟩ : ∃ m, k = m + 1 := ⟨k - 1, by omega⟩
    simp only [slices_Index_int_int.l0]
    rw [if_neg (by omega), List.drop_eq_nil_of_le (by omega)]
    exact ⟨_, rfl, by simp⟩
  | succ d ih =>
    intro i k hi hk
    obtain ⟨k, rfl⟩ : ∃ m, k = m + 1 := ⟨k - 1, by omega⟩
    have hi' : i < l.length := by omega
    have hw : wrap64 ((i : Int) + 1) = ((i + 1 : Nat) : Int) := by rw [w64 (by omega) (by omega)]; omega
    obtain ⟨v, h1, h2⟩ := ih (i + 1) k (by omega) (by omega)
    have c1 : (i : Int) < (l.length : Int) := by omega
    simp only [slices_Index_int_int.l0]
    rw [if_pos c1, if_pos (Int.natCast_nonneg _), if_pos c1, rd_get l i hi', hw, List.drop_eq_getElem_cons hi']
    by_cases h : a = l[i]
    · rw [if_pos h]
      exact ⟨_, rfl, ⟨fun _ => by rw [h]; exact List.mem_cons_self, fun _ => Int.natCast_nonneg _⟩⟩
    · rw [if_neg h]
      exact ⟨v, h1, by rw [h2, List.mem_cons]; simp [h]⟩
theorem contains_is (l : List Int) (a : Int) (hl : l.length ≤ 1000) (k : Nat) (hk : 1001 ≤ k) : slices_Contains_int_int.f k l a = some (decide (a ∈ l)) := by
  unfold slices_Contains_int_int.f slices_Index_int_int.f
  obtain ⟨v, h1, h2⟩ := index_loop l a hl l.length 0 k (by omega) (by omega)
  rw [show ((0 : Nat) : Int) = 0 from rfl] at h1
  rw [h1, Option.bind_some]
  congr 1
  rw [List.drop_zero] at h2
  exact decide_eq_decide.2 h2
end Go.Proofs.Ytgjcembdmohhkaa.Fs
