/- The law WordindexWords: the words increase, and those of two texts with a separator between are those of the one or the other. No condition. -/
import Derived.Test.YtngolmiegfgmmaaWiPa
import Derived.Test.YtngolmiegfgmmaaWix4
set_option linter.unusedVariables false
set_option linter.unusedSimpArgs false
namespace Go.Proofs.Ytngolmiegfgmmaa.Wi
open Go.RowKit Go.Sort Go.Proofs.YtngolmiegfgmmaaW.PrintWords Go.Proofs.YtngolmiegfgmmaaW.PrintLast Go.Proofs.YtngolmiegfgmmaaW.PrintMore
open Go.Proofs.Ytngolmiegfgmmaa

theorem w64 {n : Int} (h : -9223372036854775808 ≤ n) (h' : n ≤ 9223372036854775807) : wrap64 n = n := by unfold wrap64; omega
theorem toList_lb (s : ByteArray) : s.toList = lb s := ByteArray.toList_eq s
theorem rdS (l : List BL) (i : Nat) (h : i < l.length) : (rdOf ByteArray.empty (strs l) (i : Int)).toList = l[i] := by
  rw [toList_lb]
  unfold rdOf strs lb
  simp [h]
theorem index_loop (l : List BL) (a : ByteArray) (hl : l.length ≤ 1000) : ∀ (d i k : Nat), i + d = l.length → d < k → ∃ v, glossatorref3_Index_string.l0 k a (strs l) ((strs l).length : Int) (i : Int) = some v ∧ (v ≥ 0 ↔ lb a ∈ l.drop i) := by
  intro d
  have hs := strs_len l
  induction d with
  | zero =>
    intro i k hi hk
    obtain ⟨k, rfl⟩ : ∃ m, k = m + 1 := ⟨k - 1, by omega⟩
    simp only [glossatorref3_Index_string.l0]
    rw [if_neg (by omega), List.drop_eq_nil_of_le (by omega)]
    exact ⟨_, rfl, by simp⟩
  | succ d ih =>
    intro i k hi hk
    obtain ⟨k, rfl⟩ : ∃ m, k = m + 1 := ⟨k - 1, by omega⟩
    have hi' : i < l.length := by omega
    have hw : wrap64 ((i : Int) + 1) = ((i + 1 : Nat) : Int) := by rw [w64 (by omega) (by omega)]; omega
    obtain ⟨v, h1, h2⟩ := ih (i + 1) k (by omega) (by omega)
    simp only [glossatorref3_Index_string.l0]
    rw [if_pos (by omega), if_pos (Int.natCast_nonneg _), if_pos (by omega), rdS l i hi', toList_lb, hw, List.drop_eq_getElem_cons hi']
    by_cases h : lb a = l[i]
    · rw [if_pos h]
      exact ⟨_, rfl, ⟨fun _ => by rw [h]; exact List.mem_cons_self, fun _ => Int.natCast_nonneg _⟩⟩
    · rw [if_neg h]
      exact ⟨v, h1, by rw [h2, List.mem_cons]; simp [h]⟩
theorem contains_is (l : List BL) (a : ByteArray) (hl : l.length ≤ 1000) (k : Nat) (hk : 1001 ≤ k) : glossatorref3_Contains_string.f k (strs l) a = some (decide (lb a ∈ l)) := by
  unfold glossatorref3_Contains_string.f glossatorref3_Index_string.f
  obtain ⟨v, h1, h2⟩ := index_loop l a hl l.length 0 k (by omega) (by omega)
  rw [show ((0 : Nat) : Int) = 0 from rfl] at h1
  rw [h1, Option.bind_some]
  congr 1
  rw [List.drop_zero] at h2
  exact decide_eq_decide.2 h2
theorem ex_ge (k : Nat) (hk : 20 ≤ k) : glossatorkeep3_indexExample.f k = some true := at_rounds (fun k => glossatorkeep3_indexExample.mono k) hk (by
  have hB : wordindex_Build.f [(⟨(⟨#[100]⟩ : ByteArray), 0, (⟨#[98, 32, 97, 95, 49, 44, 32, 98]⟩ : ByteArray)⟩ : S35)] = some ([⟨exN, exSum, exW⟩], 0) := by
    show (if (exN : ByteArray) = exN ∧ exT = exT then some ([(⟨exN, exSum, exW⟩ : S43)], (0 : Int)) else none) = _
    rw [if_pos ⟨rfl, rfl⟩]
  unfold glossatorkeep3_indexExample.f
  rw [hB, Option.bind_some, if_pos (by rfl), if_pos (by simp), if_pos (by simp)]
  have hE : glossatorref3_Equal_string.f 20 exW exW = some true := by
    unfold glossatorref3_Equal_string.f
    rw [if_pos rfl]
    simp only [glossatorref3_Equal_string.l0, exW, ByteArray.toList_eq]
    kernel_rfl
  show (glossatorref3_Equal_string.f 20 exW exW).bind _ = _
  rw [hE]
  rfl)
theorem lb_rd (l : List BL) (i : Nat) (h : i < l.length) : lb (rdOf ByteArray.empty (strs l) (i : Int)) = l[i] := by rw [← toList_lb]; exact rdS l i h
section
variable (X Y B : List BL) (hX : X.length ≤ 1000) (hY : Y.length ≤ 1000) (hB : B.length ≤ 1000)
set_option linter.unusedSectionVars false
include hX hY hB
theorem l2_ok (hYB : ∀ x ∈ Y, x ∈ B) : ∀ (d i k : Nat), i + d = Y.length → d + 1100 < k → glossatorkeep3_WordindexWords.l2 k (strs Y) (strs B) ((strs Y).length : Int) (i : Int) = some true := by
  intro d
  have hs := strs_len Y
  induction d with
  | zero =>
    intro i k hi hk
    obtain ⟨k, rfl⟩ : ∃ m, k = m + 1 := ⟨k - 1, by omega⟩
    simp only [glossatorkeep3_WordindexWords.l2]
    rw [if_neg (by omega), ex_ge k (by omega)]
    rfl
  | succ d ih =>
    intro i k hi hk
    obtain ⟨k, rfl⟩ : ∃ m, k = m + 1 := ⟨k - 1, by omega⟩
    have hi' : i < Y.length := by omega
    have hw : wrap64 ((i : Int) + 1) = ((i + 1 : Nat) : Int) := by rw [w64 (by omega) (by omega)]; omega
    simp only [glossatorkeep3_WordindexWords.l2]
    rw [if_pos (by omega), if_pos (Int.natCast_nonneg _), if_pos (by omega), contains_is B _ hB k (by omega), lb_rd Y i hi', Option.bind_some, if_pos (decide_eq_true (hYB _ (List.getElem_mem hi'))), hw]
    exact ih (i + 1) k (by omega) (by omega)
theorem l1_ok (hXB : ∀ x ∈ X, x ∈ B) (hYB : ∀ x ∈ Y, x ∈ B) : ∀ (d i k : Nat), i + d = X.length → d + 2200 < k → glossatorkeep3_WordindexWords.l1 k (strs X) (strs Y) (strs B) ((strs X).length : Int) (i : Int) = some true := by
  intro d
  have hs := strs_len X
  induction d with
  | zero =>
    intro i k hi hk
    obtain ⟨k, rfl⟩ : ∃ m, k = m + 1 := ⟨k - 1, by omega⟩
    simp only [glossatorkeep3_WordindexWords.l1]
    rw [if_neg (by omega)]
    exact l2_ok X Y B hX hY hB hYB Y.length 0 k (by omega) (by omega)
  | succ d ih =>
    intro i k hi hk
    obtain ⟨k, rfl⟩ : ∃ m, k = m + 1 := ⟨k - 1, by omega⟩
    have hi' : i < X.length := by omega
    have hw : wrap64 ((i : Int) + 1) = ((i + 1 : Nat) : Int) := by rw [w64 (by omega) (by omega)]; omega
    simp only [glossatorkeep3_WordindexWords.l1]
    rw [if_pos (by omega), if_pos (Int.natCast_nonneg _), if_pos (by omega), contains_is B _ hB k (by omega), lb_rd X i hi', Option.bind_some, if_pos (decide_eq_true (hXB _ (List.getElem_mem hi'))), hw]
    exact ih (i + 1) k (by omega) (by omega)
theorem l0_ok (hBX : ∀ x ∈ B, x ∈ X ∨ x ∈ Y) (hlt : B.Pairwise (fun x y => x < y)) (hXB : ∀ x ∈ X, x ∈ B) (hYB : ∀ x ∈ Y, x ∈ B) : ∀ (d i k : Nat), i + d = B.length → d + 4400 < k → glossatorkeep3_WordindexWords.l0 k (strs X) (strs Y) (strs B) ((strs B).length : Int) (i : Int) = some true := by
  intro d
  have hs := strs_len B
  induction d with
  | zero =>
    intro i k hi hk
    obtain ⟨k, rfl⟩ : ∃ m, k = m + 1 := ⟨k - 1, by omega⟩
    simp only [glossatorkeep3_WordindexWords.l0]
    rw [if_neg (by omega)]
    exact l1_ok X Y B hX hY hB hXB hYB X.length 0 k (by omega) (by omega)
  | succ d ih =>
    intro i k hi hk
    obtain ⟨k, rfl⟩ : ∃ m, k = m + 1 := ⟨k - 1, by omega⟩
    have hi' : i < B.length := by omega
    have hw : wrap64 ((i : Int) + 1) = ((i + 1 : Nat) : Int) := by rw [w64 (by omega) (by omega)]; omega
    have hm := hBX _ (List.getElem_mem hi')
    have hnext := ih (i + 1) k (by omega) (by omega)
    have tail : ((glossatorref3_Contains_string.f k (strs X) (rdOf ByteArray.empty (strs B) (i : Int))).bind fun t130 => (if t130 = true then (glossatorkeep3_WordindexWords.l0 k (strs X) (strs Y) (strs B) ((strs B).length : Int) (wrap64 ((i : Int) + 1))) else ((glossatorref3_Contains_string.f k (strs Y) (rdOf ByteArray.empty (strs B) (i : Int))).bind fun t132 => (if t132 = true then (glossatorkeep3_WordindexWords.l0 k (strs X) (strs Y) (strs B) ((strs B).length : Int) (wrap64 ((i : Int) + 1))) else (some false))))) = some true := by
      rw [contains_is X _ hX k (by omega), contains_is Y _ hY k (by omega), lb_rd B i hi', hw, hnext, Option.bind_some, Option.bind_some]
      by_cases h1 : B[i] ∈ X
      · rw [if_pos (decide_eq_true h1)]
      · rw [if_neg (by simp [h1]), if_pos (decide_eq_true (hm.resolve_left h1))]
    simp only [glossatorkeep3_WordindexWords.l0]
    rw [if_pos (by omega)]
    by_cases h0 : (i : Int) > 0
    · have hw2 : wrap64 ((i : Int) - 1) = ((i - 1 : Nat) : Int) := by rw [w64 (by omega) (by omega)]; omega
      rw [if_pos h0, hw2, if_pos (Int.natCast_nonneg _), if_pos (by omega), if_pos (Int.natCast_nonneg _), if_pos (by omega), rdS B (i - 1) (by omega), rdS B i hi', bytesLess_eq, if_pos (decide_eq_true (List.pairwise_iff_getElem.1 hlt (i - 1) i (by omega) hi' (by omega)))]
      exact tail
    · rw [if_neg h0, if_pos (Int.natCast_nonneg _), if_pos (by omega)]
      exact tail
end
theorem words_all (a0 a1 : ByteArray) : glossatorkeep3_WordindexWords.f 10000 a0 a1 = some true := by
  obtain ⟨m0, e0⟩ : ∃ m0 : Nat, mn (a0.size : Int) 200 = (m0 : Int) ∧ m0 ≤ a0.size ∧ m0 ≤ 200 := ⟨min a0.size 200, by unfold mn; (repeat' split) <;> omega, by omega, by omega⟩
  obtain ⟨m1, e1⟩ : ∃ m1 : Nat, mn (a1.size : Int) 200 = (m1 : Int) ∧ m1 ≤ a1.size ∧ m1 ≤ 200 := ⟨min a1.size 200, by unfold mn; (repeat' split) <;> omega, by omega, by omega⟩
  have s0 : (a0.extract 0 m0).size = m0 := by rw [ByteArray.size_extract]; omega
  have s1 : (a1.extract 0 m1).size = m1 := by rw [ByteArray.size_extract]; omega
  have s2 : (a0.extract 0 m0 ++ (⟨#[32]⟩ : ByteArray)).size = m0 + 1 := by rw [ByteArray.size_append, s0]; rfl
  have s3 : (a0.extract 0 m0 ++ (⟨#[32]⟩ : ByteArray) ++ a1.extract 0 m1).size = m0 + 1 + m1 := by rw [ByteArray.size_append, s2, s1]
  unfold glossatorkeep3_WordindexWords.f
  rw [ex_ge 10000 (by omega), Option.bind_some, if_pos rfl, e0.1, e1.1, if_pos (Int.natCast_nonneg _), if_pos (by omega), if_pos (Int.natCast_nonneg _), if_pos (by omega), Int.toNat_natCast, Int.toNat_natCast, words_is _ (by rw [s0]; omega), words_is _ (by rw [s1]; omega), Option.bind_some, Option.bind_some, if_pos (by rw [s0]; omega), if_pos (by rw [s2, s1]; omega), words_is _ (by rw [s3]; omega), Option.bind_some]
  have u0 := U_len (a0.extract 0 m0)
  have u1 := U_len (a1.extract 0 m1)
  have u2 := U_len (a0.extract 0 m0 ++ (⟨#[32]⟩ : ByteArray) ++ a1.extract 0 m1)
  refine l0_ok _ _ _ (by omega) (by omega) (by omega) (fun x hx => (U_cat _ _ x).1 hx) (uniq_lt _) (fun x hx => (U_cat _ _ x).2 (.inl hx)) (fun x hx => (U_cat _ _ x).2 (.inr hx)) (U (a0.extract 0 m0 ++ (⟨#[32]⟩ : ByteArray) ++ a1.extract 0 m1)).length 0 10000 (by omega) (by omega)
theorem words_law : glossatorkeep3_WordindexWords.Pure := fun a0 a1 _ _ => ⟨10000, words_all a0 a1⟩
end Go.Proofs.Ytngolmiegfgmmaa.Wi
