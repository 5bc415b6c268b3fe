/- The plain law of reversed values, second part: equality, members, clones. -/
import Derived.Test.YtmonbhoeplmieaaDoorJsPa
namespace Go.Proofs.YtmonbhoeplmieaaDoor.Js
open Go.RowKit Go.Proofs.YtmonbhoeplmieaaDoorW.PrintWords
open Go.Proofs.YtmonbhoeplmieaaDoor
set_option linter.unusedVariables false
set_option linter.unusedSimpArgs false
attribute [local instance 0] Classical.propDecidable
theorem tl_inj {a b : ByteArray} (h : a.toList = b.toList) : a = b := by
  rw [ByteArray.toList_eq, ByteArray.toList_eq] at h
  exact ByteArray.ext (Array.toList_inj.1 h)
theorem rd_at {l : List ByteArray} {i : Nat} {a : ByteArray} (h : l[i]? = some a) : rdOf ByteArray.empty l (i : Int) = a := by
  unfold rdOf
  rw [Int.toNat_natCast, List.getD_eq_getElem?_getD, h]
  rfl
theorem rdT_at {l : List S25} {i : Nat} {a : S25} (h : l[i]? = some a) : rd_T25 l (i : Int) = a := by
  unfold rd_T25
  rw [Int.toNat_natCast, List.getD_eq_getElem?_getD, h]
  rfl
theorem w1_ {i : Nat} (h : i ≤ 1000) : wrap64 ((i : Int) + 1) = ((i + 1 : Nat) : Int) := by unfold wrap64; omega
theorem l0_found (l : List ByteArray) (a : ByteArray) (q : Nat) (hl : l.length ≤ 400) (hq : l[q]? = some a) (hf : ∀ p, p < q → l[p]? ≠ some a) :
    ∀ m i, i + m = q → slices_Index_string_string.l0 (m + 1) l a (l.length : Int) (i : Int) = some (q : Int) := by
  have hql : q < l.length := (List.getElem?_eq_some_iff.1 hq).1
  intro m
  induction m with
  | zero =>
    intro i hi
    obtain rfl : i = q := by omega
    rw [slices_Index_string_string.l0, if_pos (by omega), if_pos (by omega), if_pos (by omega), rd_at hq, if_pos rfl]
  | succ m ih =>
    intro i hi
    have hil : i < l.length := by omega
    have hne : ¬ a.toList = (rdOf ByteArray.empty l (i : Int)).toList := fun h => by
      rw [rd_at (List.getElem?_eq_getElem hil)] at h
      exact hf i (by omega) (by rw [List.getElem?_eq_getElem hil, ← tl_inj h])
    rw [slices_Index_string_string.l0, if_pos (by omega), if_pos (by omega), if_pos (by omega), if_neg hne, w1_ (by omega)]
    exact ih (i + 1) (by omega)
theorem l0_none (l : List ByteArray) (a : ByteArray) (hl : l.length ≤ 400) (hn : a ∉ l) :
    ∀ m i, i + m = l.length → slices_Index_string_string.l0 (m + 1) l a (l.length : Int) (i : Int) = some (-1) := by
  intro m
  induction m with
  | zero =>
    intro i hi
    rw [slices_Index_string_string.l0, if_neg (by omega)]
  | succ m ih =>
    intro i hi
    have hil : i < l.length := by omega
    have hne : ¬ a.toList = (rdOf ByteArray.empty l (i : Int)).toList := fun h => by
      rw [rd_at (List.getElem?_eq_getElem hil)] at h
      exact hn (by rw [tl_inj h]; exact List.getElem_mem _)
    rw [slices_Index_string_string.l0, if_pos (by omega), if_pos (by omega), if_pos (by omega), if_neg hne, w1_ (by omega)]
    exact ih (i + 1) (by omega)
theorem ix_found {l : List ByteArray} {a : ByteArray} {q : Nat} (hl : l.length ≤ 400) (hn : l.Nodup) (hq : l[q]? = some a) : ∃ k, slices_Index_string_string.f k l a = some (q : Int) :=
  ⟨q + 1, l0_found l a q hl hq (fun p hp h => by
    obtain ⟨h1, h2⟩ := List.getElem?_eq_some_iff.1 hq
    obtain ⟨h3, h4⟩ := List.getElem?_eq_some_iff.1 h
    exact List.pairwise_iff_getElem.1 hn p q h3 h1 hp (h4.trans h2.symm)) q 0 (by omega)⟩
theorem ixn_ {l : List ByteArray} {a : ByteArray} (hl : l.length ≤ 400) (hn : a ∉ l) : ∃ k, slices_Index_string_string.f k l a = some (-1) := ⟨l.length + 1, l0_none l a hl hn l.length 0 (by omega)⟩
def cpf (k : Nat) (a b : S25) (i : Int) : Option (Int × Int × ByteArray × List ByteArray × List S25 × Bool) := jsonval_counterpart.f k a.f0 a.f1 a.f2 a.f3 a.f4 b.f0 b.f1 b.f2 b.f3 b.f4 i
theorem cp_row (a b : S25) (i : Nat) (y : S25) (hk : ¬ a.f0 = 5) (hy : b.f4[i]? = some y) : cpf 0 a b (i : Int) = some (y.f0, y.f1, y.f2, y.f3, y.f4, true) := by
  have hl := (List.getElem?_eq_some_iff.1 hy).1
  unfold cpf jsonval_counterpart.f
  rw [if_neg hk, if_pos (by omega), if_pos (by omega), rdT_at hy]
theorem cp_obj (a b : S25) (i q : Nat) (nm : ByteArray) (y : S25) (hk : a.f0 = 5) (hnm : a.f3[i]? = some nm) (hq : ∃ k, slices_Index_string_string.f k b.f3 nm = some (q : Int)) (hy : b.f4[q]? = some y) : ∃ k, cpf k a b (i : Int) = some (y.f0, y.f1, y.f2, y.f3, y.f4, true) := by
  obtain ⟨k, hq⟩ := hq
  have hl := (List.getElem?_eq_some_iff.1 hy).1
  have hn := (List.getElem?_eq_some_iff.1 hnm).1
  refine ⟨k, ?_⟩
  unfold cpf jsonval_counterpart.f
  rw [if_pos hk, if_neg (by omega), if_pos (by omega), if_pos (by omega), rd_at hnm, hq, Option.bind_some, if_neg (by omega), if_neg (by omega), if_pos (by omega), if_pos (by omega), rdT_at hy]
def eql (k : Nat) (a b : S25) (i : Int) : Option Bool := jsonval_equal.l0 k a.f4 (a.f4.length : Int) i a.f0 a.f1 a.f2 a.f3 a.f4 b.f0 b.f1 b.f2 b.f3 b.f4
theorem eql_mono (a b : S25) (i : Int) (k : Nat) : LeO (eql k a b i) (eql (k + 1) a b i) := (jsonval_equal.mono_l k).2 _ _ _ _ _ _ _ _ _ _ _ _ _
theorem equal_loop (a b : S25) (hl : a.f4.length ≤ 400) (H : ∀ (i : Nat) (x : S25), a.f4[i]? = some x → ∃ y : S25, (∃ k, cpf k a b (i : Int) = some (y.f0, y.f1, y.f2, y.f3, y.f4, true)) ∧ ∃ k, eqf k x y = some true) :
    ∀ m i, i + m = a.f4.length → ∃ k, eql k a b (i : Int) = some true := by
  intro m
  induction m with
  | zero =>
    intro i hi
    refine ⟨1, ?_⟩
    unfold eql
    rw [jsonval_equal.l0, if_neg (by omega)]
  | succ m ih =>
    intro i hi
    have hil : i < a.f4.length := by omega
    obtain ⟨y, ⟨k1, h1⟩, k2, h2⟩ := H i _ (List.getElem?_eq_getElem hil)
    obtain ⟨k3, h3⟩ := ih (i + 1) (by omega)
    have g1 : cpf (k1 + k2 + k3) a b (i : Int) = some (y.f0, y.f1, y.f2, y.f3, y.f4, true) := at_rounds (g := fun k => cpf k a b (i : Int)) (fun k => jsonval_counterpart.mono _ _ _ _ _ _ _ _ _ _ _ k) (show k1 ≤ k1 + k2 + k3 by omega) h1
    have g2 : eqf (k1 + k2 + k3) a.f4[i] y = some true := at_rounds (g := fun k => eqf k a.f4[i] y) (fun k => jsonval_equal.mono _ _ _ _ _ _ _ _ _ _ k) (show k2 ≤ k1 + k2 + k3 by omega) h2
    have g3 : eql (k1 + k2 + k3) a b ((i + 1 : Nat) : Int) = some true := at_rounds (g := fun k => eql k a b ((i + 1 : Nat) : Int)) (fun k => eql_mono a b _ k) (show k3 ≤ k1 + k2 + k3 by omega) h3
    refine ⟨k1 + k2 + k3 + 1, ?_⟩
    unfold cpf at g1
    unfold eqf at g2
    unfold eql at g3 ⊢
    rw [jsonval_equal.l0, if_pos (by omega), if_pos (by omega), if_pos (by omega), g1, Option.bind_some, if_pos rfl, rdT_at (List.getElem?_eq_getElem hil), g2, Option.bind_some, if_pos rfl, w1_ (by omega)]
    exact g3
theorem equal_level (a b : S25) (h1 : a.f0 = b.f0) (h2 : a.f1 = b.f1) (h3 : a.f2 = b.f2) (h4 : a.f4.length = b.f4.length) (h5 : a.f3.length = b.f3.length) (hl : a.f4.length ≤ 400)
    (H : ∀ (i : Nat) (x : S25), a.f4[i]? = some x → ∃ y : S25, (∃ k, cpf k a b (i : Int) = some (y.f0, y.f1, y.f2, y.f3, y.f4, true)) ∧ ∃ k, eqf k x y = some true) : ∃ k, eqf k a b = some true := by
  obtain ⟨k, hk⟩ := equal_loop a b hl H a.f4.length 0 (by omega)
  refine ⟨k + 1, ?_⟩
  unfold eqf
  rw [jsonval_equal.f, if_pos h1, if_pos h2, if_pos (by rw [h3]), if_pos (by omega), if_pos (by omega)]
  exact hk
theorem rev_at {α : Type} {l : List α} {i : Nat} {x : α} (h : l[i]? = some x) : l.reverse[l.length - 1 - i]? = some x := by
  have hl := (List.getElem?_eq_some_iff.1 h).1
  rw [List.getElem?_reverse (by omega), show l.length - 1 - (l.length - 1 - i) = i from by omega]
  exact h
theorem rev_of {α : Type} {l : List α} {i : Nat} {x : α} (h : l.reverse[i]? = some x) : l[l.length - 1 - i]? = some x := by
  have hl := (List.getElem?_eq_some_iff.1 h).1
  rw [List.length_reverse] at hl
  rwa [List.getElem?_reverse hl] at h
theorem rv_fields (j : S25) : (rv j).f0 = j.f0 ∧ (rv j).f1 = j.f1 ∧ (rv j).f2 = j.f2 ∧ (rv j).f4.length = j.f4.length ∧ (rv j).f3.length = j.f3.length := by
  by_cases hk : j.f0 = 5
  · rw [rv_obj hk]; exact ⟨rfl, rfl, rfl, by show ((j.f4.map rv).reverse).length = _; rw [List.length_reverse, List.length_map], by show j.f3.reverse.length = _; rw [List.length_reverse]⟩
  · rw [rv_other hk]; exact ⟨rfl, rfl, rfl, by show (j.f4.map rv).length = _; rw [List.length_map], rfl⟩
theorem eq_all : ∀ n (j : S25), SizeOf.sizeOf j < n → va j = 0 → nd j ≤ 400 → (∃ k, eqf k j j = some true) ∧ (∃ k, eqf k j (rv j) = some true) ∧ (∃ k, eqf k (rv j) j = some true)
  | 0, _, h, _, _ => absurd h (Nat.not_lt_zero _)
  | n + 1, j, h, hv, hn => by
    have h1 := (va_iff j).1 hv
    have h2 : 1 + nds j.f4 ≤ 400 := by rw [← nd_eq]; exact hn
    have h3 := nds_len j.f4
    have IH : ∀ x ∈ j.f4, (∃ k, eqf k x x = some true) ∧ (∃ k, eqf k x (rv x) = some true) ∧ (∃ k, eqf k (rv x) x = some true) := fun x hx =>
      eq_all n x (by have := elem_lt hx; omega) (h1.2.2 x hx) (by have := nd_le_nds hx; omega)
    have hf := rv_fields j
    have hl : j.f4.length ≤ 400 := by omega
    by_cases hk : j.f0 = 5
    · obtain ⟨hlen, hnd⟩ := wf_obj h1.2.1 hk
      have hrn : (rv j).f3 = j.f3.reverse := by rw [rv_obj hk]
      have hre : (rv j).f4 = (j.f4.map rv).reverse := by rw [rv_obj hk]
      refine ⟨equal_level j j rfl rfl rfl rfl rfl hl fun i x hx => ?_, equal_level j (rv j) hf.1.symm hf.2.1.symm hf.2.2.1.symm hf.2.2.2.1.symm hf.2.2.2.2.symm hl fun i x hx => ?_, equal_level (rv j) j hf.1 hf.2.1 hf.2.2.1 hf.2.2.2.1 hf.2.2.2.2 (by omega) fun i x hx => ?_⟩
      · have hil := (List.getElem?_eq_some_iff.1 hx).1
        exact ⟨x, cp_obj j j i i j.f3[i] x hk (List.getElem?_eq_getElem (by omega)) (ix_found (by omega) hnd (List.getElem?_eq_getElem (by omega))) hx, (IH x (List.mem_of_getElem? hx)).1⟩
      · have hil := (List.getElem?_eq_some_iff.1 hx).1
        have hnm : j.f3[i]? = some (j.f3[i]'(by omega)) := List.getElem?_eq_getElem (by omega)
        refine ⟨rv x, cp_obj j (rv j) i (j.f3.length - 1 - i) _ (rv x) hk hnm ?_ ?_, (IH x (List.mem_of_getElem? hx)).2.1⟩
        · rw [hrn]
          exact ix_found (by rw [List.length_reverse]; omega) ((nodup_rev _).2 hnd) (rev_at hnm)
        · have h_ : (j.f4.map rv)[i]? = some (rv x) := by rw [List.getElem?_map, hx]; rfl
          have h2_ := rev_at h_
          rw [hre, hlen]
          rwa [List.length_map] at h2_
      · rw [hre] at hx
        have hx2 := rev_of hx
        rw [List.length_map] at hx2
        rw [List.getElem?_map] at hx2
        obtain ⟨e, he, rfl⟩ := Option.map_eq_some_iff.1 hx2
        have hil := (List.getElem?_eq_some_iff.1 hx).1
        rw [List.length_reverse, List.length_map] at hil
        have hnm : (rv j).f3[i]? = some (j.f3[j.f3.length - 1 - i]'(by omega)) := by
          rw [hrn, List.getElem?_reverse (by omega)]
          exact List.getElem?_eq_getElem (by omega)
        refine ⟨e, cp_obj (rv j) j i (j.f4.length - 1 - i) _ e (hf.1.trans hk) hnm ?_ he, (IH e (List.mem_of_getElem? he)).2.2⟩
        rw [← hlen]
        exact ix_found (by omega) hnd (List.getElem?_eq_getElem (by omega))
    · have hre : (rv j).f4 = j.f4.map rv := by rw [rv_other hk]
      refine ⟨equal_level j j rfl rfl rfl rfl rfl hl fun i x hx => ?_, equal_level j (rv j) hf.1.symm hf.2.1.symm hf.2.2.1.symm hf.2.2.2.1.symm hf.2.2.2.2.symm hl fun i x hx => ?_, equal_level (rv j) j hf.1 hf.2.1 hf.2.2.1 hf.2.2.2.1 hf.2.2.2.2 (by omega) fun i x hx => ?_⟩
      · exact ⟨x, ⟨0, cp_row j j i x hk hx⟩, (IH x (List.mem_of_getElem? hx)).1⟩
      · exact ⟨rv x, ⟨0, cp_row j (rv j) i (rv x) hk (by rw [hre, List.getElem?_map, hx]; rfl)⟩, (IH x (List.mem_of_getElem? hx)).2.1⟩
      · rw [hre, List.getElem?_map] at hx
        obtain ⟨e, he, rfl⟩ := Option.map_eq_some_iff.1 hx
        exact ⟨e, ⟨0, cp_row (rv j) j i e (by rw [hf.1]; exact hk) he⟩, (IH e (List.mem_of_getElem? he)).2.2⟩
def clf (k : Nat) (j : S25) : Option (Int × Int × ByteArray × List ByteArray × List S25) := jsonval_clone.f k j.f0 j.f1 j.f2 j.f3 j.f4
def cll (k : Nat) (j : S25) (i : Int) (acc : List S25) : Option (Int × Int × ByteArray × List ByteArray × List S25) := jsonval_clone.l0 k j.f4 (j.f4.length : Int) i j.f0 j.f1 j.f2 j.f3 acc
theorem cll_mono (j : S25) (i : Int) (acc : List S25) (k : Nat) : LeO (cll k j i acc) (cll (k + 1) j i acc) := (jsonval_clone.mono_l k).2 _ _ _ _ _ _ _ _
theorem eta_ (y : S25) : (S25.mk y.f0 y.f1 y.f2 y.f3 y.f4 : S25) = y := by cases y; rfl
theorem clone_loop (j : S25) (hl : j.f4.length ≤ 400) (H : ∀ x ∈ j.f4, ∃ k, clf k x = some (x.f0, x.f1, x.f2, x.f3, x.f4)) :
    ∀ m i, i + m = j.f4.length → ∃ k, cll k j (i : Int) (j.f4.take i) = some (j.f0, j.f1, j.f2, j.f3, j.f4) := by
  intro m
  induction m with
  | zero =>
    intro i hi
    refine ⟨1, ?_⟩
    unfold cll
    rw [jsonval_clone.l0, if_neg (by omega), List.take_of_length_le (by omega)]
  | succ m ih =>
    intro i hi
    have hil : i < j.f4.length := by omega
    obtain ⟨k1, h1⟩ := H _ (List.getElem_mem hil)
    obtain ⟨k2, h2⟩ := ih (i + 1) (by omega)
    have g1 : clf (k1 + k2) j.f4[i] = some (j.f4[i].f0, j.f4[i].f1, j.f4[i].f2, j.f4[i].f3, j.f4[i].f4) := at_rounds (g := fun k => clf k j.f4[i]) (fun k => jsonval_clone.mono _ _ _ _ _ k) (show k1 ≤ k1 + k2 by omega) h1
    have g2 : cll (k1 + k2) j ((i + 1 : Nat) : Int) (j.f4.take (i + 1)) = some (j.f0, j.f1, j.f2, j.f3, j.f4) := at_rounds (g := fun k => cll k j ((i + 1 : Nat) : Int) (j.f4.take (i + 1))) (fun k => cll_mono j _ _ k) (show k2 ≤ k1 + k2 by omega) h2
    refine ⟨k1 + k2 + 1, ?_⟩
    unfold clf at g1
    unfold cll at g2 ⊢
    rw [jsonval_clone.l0, if_pos (by omega), if_pos (by omega), if_pos (by omega), rdT_at (List.getElem?_eq_getElem hil), g1, Option.bind_some, if_pos (by rw [List.length_take]; omega), w1_ (by omega)]
    rw [List.take_succ_eq_append_getElem hil] at g2
    simp only [eta_]
    exact g2
theorem clone_all : ∀ n (j : S25), SizeOf.sizeOf j < n → nice j → ∃ k, clf k j = some (j.f0, j.f1, j.f2, j.f3, j.f4)
  | 0, _, h, _ => absurd h (Nat.not_lt_zero _)
  | n + 1, j, h, hc => by
    have h1 := (nice_eq j).1 hc
    obtain ⟨k, hk⟩ := clone_loop j h1.2.1 (fun x hx => clone_all n x (by have := elem_lt hx; omega) (nices_mem h1.2.2.2 hx)) j.f4.length 0 (by omega)
    refine ⟨k + 1, ?_⟩
    unfold clf
    have hs : slices_Clone_string_string.f j.f3 = some j.f3 := by unfold slices_Clone_string_string.f; rw [if_pos (by omega)]
    rw [jsonval_clone.f, hs, Option.bind_some]
    exact hk
def zJ : S25 := ⟨0, 0, ByteArray.empty, [], []⟩
theorem valid_z : valid zJ = 0 := by
  rw [valid_iff]
  refine ⟨⟨by rw [nd_eq]; show 1 + nds [] ≤ 400; rw [nds_nil]; omega, fun e he => by cases he⟩, ?_⟩
  rw [va_iff]
  exact ⟨by decide, by unfold wf wfp zJ; simp [lowJ, highJ, e0, v0], fun e he => by cases he⟩
theorem szd_z : szd zJ := by unfold zJ; rw [szd]; exact ⟨by decide, by simp, by rw [szds]; trivial⟩
theorem ord_of (v : S25) (name : ByteArray) (hs : szd v) (hv : valid v = 0) : ∃ a b f, Ord v name a b f := by
  have h0 := (valid_iff v).1 hv
  have h1 := (va_iff v).1 h0.2
  have hq := eq_all _ v (Nat.lt_succ_self _) h0.2 h0.1.1
  have hnc := valid_nice hv
  have hn := (nice_eq v).1 hnc
  have hsr := szd_rv _ v (Nat.lt_succ_self _) hs
  have hf := rv_fields v
  by_cases hin : v.f0 = 5 ∧ name ∈ v.f3
  · obtain ⟨hk, hin⟩ := hin
    obtain ⟨hlen, hnd⟩ := wf_obj h1.2.1 hk
    obtain ⟨q, hql, hqn⟩ := List.mem_iff_getElem.1 hin
    have hnm : v.f3[q]? = some name := by rw [List.getElem?_eq_getElem hql, hqn]
    have hql2 : q < v.f4.length := by omega
    obtain ⟨a, ha⟩ : ∃ a, v.f4[q]? = some a := ⟨_, List.getElem?_eq_getElem hql2⟩
    have hm := List.mem_of_getElem? ha
    have va1 := valid_elem hv hm
    have hrn : (rv v).f3 = v.f3.reverse := by rw [rv_obj hk]
    have hre : (rv v).f4 = (v.f4.map rv).reverse := by rw [rv_obj hk]
    obtain ⟨k1, i1⟩ := ix_found hn.1 hnd hnm
    obtain ⟨k2, i2⟩ := ix_found (l := v.f3.reverse) (by rw [List.length_reverse]; exact hn.1) ((nodup_rev _).2 hnd) (rev_at hnm)
    have hb : (rv v).f4[v.f3.length - 1 - q]? = some (rv a) := by
      have h_ : (v.f4.map rv)[q]? = some (rv a) := by rw [List.getElem?_map, ha]; rfl
      have h2_ := rev_at h_
      rw [hre, hlen]
      rwa [List.length_map] at h2_
    have sa := szds_mem ((szd_eq v).1 hs).2.2 hm
    have ea := eq_all _ a (Nat.lt_succ_self _) ((valid_iff a).1 va1).2 ((valid_iff a).1 va1).1.1
    exact ⟨a, rv a, true, {
      nice := hnc, szr := hsr, vr := valid_rv hv, vv := hq.1, vr1 := hq.2.1, vr2 := hq.2.2
      la := ⟨k1, (q : Int), i1, Or.inr ⟨rfl, hk, q, rfl, ha, clone_all _ a (Nat.lt_succ_self _) (valid_nice va1)⟩⟩
      lb := ⟨k2, ((v.f3.length - 1 - q : Nat) : Int), by rw [hrn]; exact i2, Or.inr ⟨rfl, hf.1.trans hk, _, rfl, hb, clone_all _ (rv a) (Nat.lt_succ_self _) (valid_nice (valid_rv va1))⟩⟩
      sa := sa, sb := szd_rv _ a (Nat.lt_succ_self _) sa, va := va1, vb := valid_rv va1, ab := ea.2.1 }⟩
  · have hz := (valid_iff zJ).1 valid_z
    have ez := eq_all _ zJ (Nat.lt_succ_self _) hz.2 hz.1.1
    have hno : ∀ (l : List ByteArray), l.length ≤ 400 → name ∉ l → ∃ (k : Nat) (r : Int), slices_Index_string_string.f k l name = some r ∧ (¬ v.f0 = 5 ∨ r < 0) := fun l hl hm => by
      obtain ⟨k, h⟩ := ixn_ hl hm
      exact ⟨k, -1, h, Or.inr (by decide)⟩
    have hnn : name ∉ v.f3 := fun h => by
      by_cases hk : v.f0 = 5
      · exact hin ⟨hk, h⟩
      · rw [wf_other h1.2.1 hk] at h; cases h
    have hnr : name ∉ (rv v).f3 := fun h => by
      by_cases hk : v.f0 = 5
      · rw [rv_obj hk] at h; exact hnn (List.mem_reverse.1 h)
      · rw [rv_other hk] at h; exact hnn h
    obtain ⟨k1, r1, i1, j1⟩ := hno v.f3 hn.1 hnn
    obtain ⟨k2, r2, i2, j2⟩ := hno (rv v).f3 (by rw [hf.2.2.2.2]; exact hn.1) hnr
    exact ⟨zJ, zJ, false, {
      nice := hnc, szr := hsr, vr := valid_rv hv, vv := hq.1, vr1 := hq.2.1, vr2 := hq.2.2
      la := ⟨k1, r1, i1, Or.inl ⟨rfl, rfl, j1.elim Or.inl (fun h => Or.inr (Or.inl h))⟩⟩
      lb := ⟨k2, r2, i2, Or.inl ⟨rfl, rfl, by rw [hf.1]; exact j2.elim Or.inl (fun h => Or.inr (Or.inl h))⟩⟩
      sa := szd_z, sb := szd_z, va := valid_z, vb := valid_z, ab := ez.1 }⟩
end Go.Proofs.YtmonbhoeplmieaaDoor.Js
