/- The words of a text: each once, in order; the words of two texts with a separator between them. No condition. -/
import Derived.Test.YtngolmiegfgmmaaWfhWd
import Derived.Sort.Walk0
set_option linter.unusedVariables false
set_option linter.unusedSimpArgs false
namespace Go.Proofs.Ytngolmiegfgmmaa.Wf
open Go.RowKit Go.Sort Go.Proofs.YtngolmiegfgmmaaW.PrintWords Go.Proofs.YtngolmiegfgmmaaW.PrintLast Go.Proofs.YtngolmiegfgmmaaW.PrintMore
open Go.Proofs.Ytngolmiegfgmmaa

abbrev BL := List UInt8
theorem bl_trans (a b c : BL) (h1 : a ≤ b) (h2 : b ≤ c) : a ≤ c := List.le_trans h1 h2
theorem bl_total (a b : BL) : a ≤ b ∨ b ≤ a := List.le_total a b
theorem bl_lt (a b : BL) (h1 : a ≤ b) (h2 : a ≠ b) : a < b := by
  rcases List.le_total a b with h | h
  · exact List.not_le.1 (fun h3 => h2 (List.le_antisymm h1 h3))
  · exact absurd (List.le_antisymm h1 h) h2
theorem bl_le_lt (a b c : BL) (h1 : a ≤ b) (h2 : b < c) : a < c := List.lt_of_le_of_lt h1 h2
theorem sort_pair (l : List BL) : (l.mergeSort fun x y => decide (x ≤ y)).Pairwise (fun x y => x ≤ y) := by
  have := List.pairwise_mergeSort (le := fun x y : BL => decide (x ≤ y)) (fun a b c h1 h2 => by
    rw [decide_eq_true_iff] at h1 h2 ⊢
    exact bl_trans a b c h1 h2) (fun a b => by
    rw [Bool.or_eq_true, decide_eq_true_iff, decide_eq_true_iff]
    exact bl_total a b) l
  exact this.imp (fun h => of_decide_eq_true h)
section
variable {zs : List BL} (hz : zs.Pairwise (fun x y => x ≤ y))
theorem at_zs (j : Nat) (h : j < zs.length) : zs.toArray[j]! = zs[j] := by simp [h]
include hz in
theorem comp_is : ∀ m, m ≤ zs.length → (∀ x ∈ Lib.compactUpTo zs.toArray m, ∃ j, ∃ (h : j < zs.length), j < m ∧ zs[j] = x) ∧ (∀ j, ∀ (h : j < zs.length), j < m → zs[j] ∈ Lib.compactUpTo zs.toArray m) ∧ (Lib.compactUpTo zs.toArray m).Pairwise (fun x y => x < y)
  | 0, _ => ⟨fun x hx => by simp [Lib.compactUpTo] at hx, fun j _ hj => by omega, by simp [Lib.compactUpTo]⟩
  | m + 1, hm => by
    obtain ⟨i1, i2, i3⟩ := comp_is m (by omega)
    have hm' : m < zs.length := by omega
    rw [Lib.compactUpTo_succ, at_zs m hm']
    by_cases hk : Lib.keeps zs.toArray m = true
    · rw [if_pos hk]
      refine ⟨fun x hx => ?_, fun j hjl hj => ?_, ?_⟩
      · rcases List.mem_append.1 hx with hx | hx
        · obtain ⟨j, h1, h2, h3⟩ := i1 x hx
          exact ⟨j, h1, by omega, h3⟩
        · rw [List.mem_singleton] at hx
          exact ⟨m, hm', by omega, hx.symm⟩
      · rcases Nat.lt_or_ge j m with h | h
        · exact List.mem_append_left _ (i2 j hjl h)
        · have : j = m := by omega
          subst this
          exact List.mem_append_right _ (List.mem_singleton.2 rfl)
      · rw [List.pairwise_append]
        refine ⟨i3, List.pairwise_singleton _ _, fun x hx y hy => ?_⟩
        rw [List.mem_singleton] at hy
        subst hy
        obtain ⟨j, h1, h2, h3⟩ := i1 x hx
        have hne : m ≠ 0 := by omega
        have hk2 : zs[m] ≠ zs[m - 1] := by
          unfold Lib.keeps at hk
          rw [decide_eq_true_iff, at_zs m hm', at_zs (m - 1) (by omega)] at hk
          exact hk.resolve_left hne
        have hlt : zs[m - 1] < zs[m] := bl_lt _ _ (List.pairwise_iff_getElem.1 hz (m - 1) m (by omega) hm' (by omega)) (fun e => hk2 e.symm)
        rw [← h3]
        rcases Nat.lt_or_ge j (m - 1) with h | h
        · exact bl_le_lt _ _ _ (List.pairwise_iff_getElem.1 hz j (m - 1) h1 (by omega) h) hlt
        · have : j = m - 1 := by omega
          subst this
          exact hlt
    · rw [if_neg hk, List.append_nil]
      refine ⟨fun x hx => ?_, fun j hjl hj => ?_, i3⟩
      · obtain ⟨j, h1, h2, h3⟩ := i1 x hx
        exact ⟨j, h1, by omega, h3⟩
      · rcases Nat.lt_or_ge j m with h | h
        · exact i2 j hjl h
        · have hjm : j = m := by omega
          subst hjm
          unfold Lib.keeps at hk
          rw [decide_eq_true_iff, not_or, at_zs j hjl] at hk
          have hne := hk.1
          have h2 := Decidable.not_not.1 hk.2
          rw [at_zs (j - 1) (by omega)] at h2
          rw [h2]
          exact i2 (j - 1) (by omega) (by omega)
end
theorem uniq_mem (l : List BL) (x : BL) : x ∈ uniqL l ↔ x ∈ l := by
  obtain ⟨i1, i2, _⟩ := comp_is (sort_pair l) _ (Nat.le_refl _)
  have hm : x ∈ (l.mergeSort fun x y => decide (x ≤ y)) ↔ x ∈ l := List.mem_mergeSort
  unfold uniqL Lib.compact
  rw [← hm]
  constructor
  · intro h
    obtain ⟨j, h1, _, h3⟩ := i1 x h
    rw [← h3]
    exact List.getElem_mem _
  · intro h
    obtain ⟨j, h1, h3⟩ := List.getElem_of_mem h
    rw [← h3]
    exact i2 j h1 h1
theorem uniq_lt (l : List BL) : (uniqL l).Pairwise (fun x y => x < y) := (comp_is (sort_pair l) _ (Nat.le_refl _)).2.2
theorem uniq_len (l : List BL) : (uniqL l).length ≤ l.length := by
  unfold uniqL
  have := Lib.compact_length_le (l.mergeSort fun x y => decide (x ≤ y))
  rwa [List.length_mergeSort] at this
theorem tok_len : ∀ (l cur : BL), 2 * (tok cur l).length ≤ l.length + 1 + (if cur = [] then 0 else 1)
  | [], cur => by
    rw [tok_nil]
    split <;> simp
  | c :: cs, cur => by
    rw [tok_cons, List.length_cons]
    split
    · have := tok_len cs (cur ++ [c])
      rw [if_neg (by simp)] at this
      split <;> omega
    · split
      · have := tok_len cs []
        rw [if_pos rfl] at this
        omega
      · have := tok_len cs []
        rw [if_pos rfl] at this
        rw [List.length_cons]
        omega
theorem wb32 : wb 32 = false := by kernel_rfl
theorem tok_cat (b : BL) : ∀ (a cur : BL), tok cur (a ++ 32 :: b) = tok cur a ++ tok [] b
  | [], cur => by
    rw [List.nil_append, tok_cons, if_neg (by rw [wb32]; simp), tok_nil]
    split <;> simp
  | c :: cs, cur => by
    rw [List.cons_append, tok_cons, tok_cons]
    split
    · exact tok_cat b cs _
    · split
      · exact tok_cat b cs _
      · rw [tok_cat b cs [], List.cons_append]
def U (s : ByteArray) : List BL := uniqL (tok [] (lb s))
theorem U_len (s : ByteArray) : 2 * (U s).length ≤ s.size + 1 := by
  have h1 := uniq_len (tok [] (lb s))
  have h2 := tok_len (lb s) []
  rw [if_pos rfl, lb_len] at h2
  unfold U
  omega
theorem words_is (s : ByteArray) (h : s.size ≤ 401) : wordindex_Words.f s = some (strs (U s)) := by
  unfold wordindex_Words.f wordsL
  rw [if_pos (by omega), List.take_of_length_le (by have := U_len s; unfold U at this; omega)]
  rfl
theorem lb_cat (a b : ByteArray) : lb ((a ++ (⟨#[32]⟩ : ByteArray)) ++ b) = lb a ++ 32 :: lb b := by
  unfold lb
  simp
theorem U_cat (a b : ByteArray) (x : BL) : x ∈ U ((a ++ (⟨#[32]⟩ : ByteArray)) ++ b) ↔ x ∈ U a ∨ x ∈ U b := by
  unfold U
  rw [uniq_mem, uniq_mem, uniq_mem, lb_cat, tok_cat, List.mem_append]
end Go.Proofs.Ytngolmiegfgmmaa.Wf
