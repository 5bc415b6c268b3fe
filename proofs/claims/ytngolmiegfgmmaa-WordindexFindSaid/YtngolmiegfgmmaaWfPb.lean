/- The words of a text are valid: each of word bytes alone, not empty, in order, and together not longer than the text. No condition but the text's size. -/
import Derived.Test.YtngolmiegfgmmaaWfPa
import Derived.Test.YtngolmiegfgmmaaWfhUp
set_option linter.unusedVariables false
set_option linter.unusedSimpArgs false
namespace Go.Proofs.Ytngolmiegfgmmaa.Wf
open Go.RowKit Go.Sort Go.Proofs.YtngolmiegfgmmaaW.PrintWords Go.Proofs.YtngolmiegfgmmaaW.PrintLast Go.Proofs.YtngolmiegfgmmaaW.PrintMore
open Go.Proofs.Ytngolmiegfgmmaa
theorem toList_lb (s : ByteArray) : s.toList = lb s := ByteArray.toList_eq s
def sz1 (l : List BL) : Nat := (l.map fun x => x.length + 1).sum
theorem tok_mem : ∀ (l cur : BL), (∀ c ∈ cur, wb c = true) → ∀ x ∈ tok cur l, x ≠ [] ∧ ∀ c ∈ x, wb c = true
  | [], cur, hc, x, hx => by
    rw [tok_nil] at hx
    split at hx
    · cases hx
    · rename_i h
      rw [List.mem_singleton] at hx
      subst hx
      exact ⟨h, hc⟩
  | c :: cs, cur, hc, x, hx => by
    rw [tok_cons] at hx
    split at hx
    · rename_i h
      refine tok_mem cs (cur ++ [c]) (fun d hd => ?_) x hx
      rcases List.mem_append.1 hd with hd | hd
      · exact hc d hd
      · rw [List.mem_singleton] at hd; rw [hd]; exact h
    · split at hx
      · exact tok_mem cs [] (fun d hd => by cases hd) x hx
      · rename_i h
        rcases List.mem_cons.1 hx with rfl | hx
        · exact ⟨h, hc⟩
        · exact tok_mem cs [] (fun d hd => by cases hd) x hx
theorem tok_sum : ∀ (l cur : BL), sz1 (tok cur l) ≤ l.length + 1 + cur.length
  | [], cur => by
    rw [tok_nil]
    split
    · simp [sz1]
    · simp [sz1]; omega
  | c :: cs, cur => by
    rw [tok_cons, List.length_cons]
    split
    · have := tok_sum cs (cur ++ [c])
      rw [List.length_append, List.length_singleton] at this
      omega
    · split
      · have := tok_sum cs []
        rw [List.length_nil] at this
        omega
      · have := tok_sum cs []
        rw [List.length_nil] at this
        unfold sz1 at this ⊢
        rw [List.map_cons, List.sum_cons]
        omega
theorem sz1_append (a b : List BL) : sz1 (a ++ b) = sz1 a + sz1 b := by unfold sz1; rw [List.map_append, List.sum_append]
theorem comp_sum (zs : List BL) : ∀ m, m ≤ zs.length → sz1 (Lib.compactUpTo zs.toArray m) ≤ sz1 (zs.take m)
  | 0, _ => by simp [Lib.compactUpTo, sz1]
  | m + 1, hm => by
    have := comp_sum zs m (by omega)
    have hm' : m < zs.length := by omega
    rw [Lib.compactUpTo_succ, at_zs m hm', List.take_succ_eq_append_getElem hm', sz1_append, sz1_append]
    split
    · omega
    · have : sz1 ([] : List BL) = 0 := rfl
      omega
theorem sz1_perm {a b : List BL} (h : a.Perm b) : sz1 a = sz1 b := by
  unfold sz1
  exact (h.map _).sum_nat
theorem uniq_sum (l : List BL) : sz1 (uniqL l) ≤ sz1 l := by
  have h1 := comp_sum (l.mergeSort fun x y => decide (x ≤ y)) _ (Nat.le_refl _)
  rw [List.take_length, sz1_perm (List.mergeSort_perm l _)] at h1
  exact h1
theorem wordsF_is (s : ByteArray) (h : s.size ≤ 401) : wordsF s = strs (U s) := by unfold wordsF; rw [words_is s h]; rfl
theorem U_mem (s : ByteArray) (x : BL) (hx : x ∈ U s) : x ≠ [] ∧ ∀ c ∈ x, wb c = true := by
  unfold U at hx
  rw [uniq_mem] at hx
  exact tok_mem _ _ (fun c hc => by cases hc) x hx
theorem U_sum (s : ByteArray) : sz1 (U s) ≤ s.size + 1 := by
  have h1 := uniq_sum (tok [] (lb s))
  have h2 := tok_sum (lb s) []
  rw [lb_len, List.length_nil] at h2
  unfold U
  omega
theorem szW_strs (l : List BL) : szW (strs l) = sz1 l := by
  unfold szW sz1 strs
  rw [List.map_map]
  congr 1
theorem rdS (l : List BL) (i : Nat) (h : i < l.length) : (rdOf ByteArray.empty (strs l) (i : Int)).toList = l[i] := by
  rw [toList_lb]
  unfold rdOf strs lb
  simp [h]
theorem okW_U (s : ByteArray) (h : s.size ≤ 401) : okW (strs (U s)) := by
  have h1 := U_len s
  have h2 := U_sum s
  refine ⟨by rw [strs_len]; omega, by rw [szW_strs]; omega, fun x hx => ?_, fun i h0 hi => ?_⟩
  · have hm : lb x ∈ U s := by
      rw [← lb_strs (U s)]
      exact List.mem_map_of_mem hx
    obtain ⟨a, b⟩ := U_mem s _ hm
    refine ⟨by rw [toList_lb]; exact a, fun j hj => ?_⟩
    obtain ⟨c, hc, hb⟩ := bt_nat x j hj
    rw [hb]
    refine b c ?_
    have : c ∈ (lb x).drop j := by rw [hc]; exact List.mem_cons_self
    exact List.mem_of_mem_drop this
  · rw [strs_len] at hi
    rw [rdS _ _ (by omega), rdS _ _ hi, bytesLess_eq]
    exact decide_eq_true (List.pairwise_iff_getElem.1 (uniq_lt (tok [] (lb s))) (i - 1) i (by unfold U at hi; omega) hi (by omega))
theorem valid_words (s : ByteArray) (h : s.size ≤ 401) : wordindex_validWords.f (wordsF s) = some true := by
  rw [wordsF_is s h]
  unfold wordindex_validWords.f
  rw [if_pos (okW_U s h)]
end Go.Proofs.Ytngolmiegfgmmaa.Wf
