/- fixpoint.propagate as the printed function: the readers' rows, and the work list's end in the least solution. No condition. -/
import Derived.Test.YtgjcembdmohhkaaFsPa
set_option linter.unusedVariables false
set_option linter.unusedSimpArgs false
namespace Go.Proofs.Ytgjcembdmohhkaa.Fs
open Go.RowKit Go.Proofs.YtgjcembdmohhkaaW.PrintWords Go.Proofs.YtgjcembdmohhkaaW.PrintLast Go.Proofs.YtgjcembdmohhkaaW.PrintMore
open Go.Proofs.Ytgjcembdmohhkaa

theorem nodup_le : ∀ (n : Nat) (l : List Int), l.Nodup → (∀ x ∈ l, 0 ≤ x ∧ x < (n : Int)) → l.length ≤ n
  | 0, l, _, h => by
    cases l with
    | nil => exact Nat.le_refl _
    | cons x l => have := h x List.mem_cons_self; omega
  | n + 1, l, hn, h => by
    have h1 := nodup_le n (l.filter fun x => decide (x ≠ (n : Int))) (hn.filter _) (fun x hx => by
      have := h x (List.mem_filter.1 hx).1
      have h2 := of_decide_eq_true (List.mem_filter.1 hx).2
      omega)
    have h3 : ∀ l : List Int, l.Nodup → l.length ≤ (l.filter fun x => decide (x ≠ (n : Int))).length + 1 := by
      intro l
      induction l with
      | nil => intro _; exact Nat.zero_le _
      | cons y l ih =>
        intro hn
        rw [List.nodup_cons] at hn
        by_cases hy : y = (n : Int)
        · have : (l.filter fun x => decide (x ≠ (n : Int))) = l := List.filter_eq_self.2 fun x hx => decide_eq_true (fun e => hn.1 (by rw [hy, ← e]; exact hx))
          rw [List.filter_cons_of_neg (by simp [hy]), this, List.length_cons]
          omega
        · rw [List.filter_cons_of_pos (by simp [hy]), List.length_cons, List.length_cons]
          have := ih hn.2
          omega
    have := h3 l hn
    omega
structure Well (n : Nat) (m : List (List Int)) : Prop where
  len : m.length = n
  nodup : ∀ l ∈ m, l.Nodup
  rng : ∀ l ∈ m, ∀ v ∈ l, 0 ≤ v ∧ v < (n : Int)
theorem row_mem {n : Nat} {m : List (List Int)} (h : Well n m) {j : Int} (h0 : 0 ≤ j) (h1 : j < (n : Int)) : rd_L1 m j ∈ m := by
  have hl := h.len
  have : j.toNat < m.length := by omega
  unfold rd_L1
  rw [List.getD_eq_getElem?_getD, List.getElem?_eq_getElem this]
  exact List.getElem_mem _
theorem row_le {n : Nat} {m : List (List Int)} (h : Well n m) {j : Int} (h0 : 0 ≤ j) (h1 : j < (n : Int)) : (rd_L1 m j).length ≤ n := nodup_le n _ (h.nodup _ (row_mem h h0 h1)) (h.rng _ (row_mem h h0 h1))
def addR (i : Int) (m : List (List Int)) (j : Int) : List (List Int) := if i ∈ rd_L1 m j then m else m.set j.toNat (rd_L1 m j ++ [i])
theorem addR_well {n : Nat} {m : List (List Int)} (h : Well n m) {i j : Int} (hi : 0 ≤ i ∧ i < (n : Int)) (h0 : 0 ≤ j) (h1 : j < (n : Int)) : Well n (addR i m j) := by
  unfold addR
  split
  · exact h
  · rename_i hni
    have hr := row_mem h h0 h1
    refine ⟨by rw [List.length_set]; exact h.len, fun l hl => ?_, fun l hl v hv => ?_⟩
    · rcases List.mem_or_eq_of_mem_set hl with hl | rfl
      · exact h.nodup l hl
      · rw [List.nodup_append]
        refine ⟨h.nodup _ hr, by simp, fun a ha b hb => ?_⟩
        rw [List.mem_singleton] at hb
        rw [hb]
        exact fun e => hni (by rw [← e]; exact ha)
    · rcases List.mem_or_eq_of_mem_set hl with hl | rfl
      · exact h.rng l hl v hv
      · rcases List.mem_append.1 hv with hv | hv
        · exact h.rng _ hr v hv
        · rw [List.mem_singleton] at hv; rw [hv]; exact hi
theorem rd_set_row (m : List (List Int)) (a : List Int) {j q : Int} (h0 : 0 ≤ j) (hj : j < (m.length : Int)) (hq : 0 ≤ q) : rd_L1 (m.set j.toNat a) q = if q = j then a else rd_L1 m q := by
  unfold rd_L1
  rw [List.getD_eq_getElem?_getD, List.getElem?_set, List.getD_eq_getElem?_getD]
  by_cases h : q = j
  · have e : j.toNat < m.length := by omega
    rw [if_pos (by rw [h]), if_pos e, if_pos h]
    rfl
  · rw [if_neg (by omega), if_neg h]
theorem addR_mono {n : Nat} {m : List (List Int)} (h : Well n m) {i j : Int} (h0 : 0 ≤ j) (h1 : j < (n : Int)) {q : Int} (hq : 0 ≤ q) {v : Int} (hv : v ∈ rd_L1 m q) : v ∈ rd_L1 (addR i m j) q := by
  have hl := h.len
  unfold addR
  split
  · exact hv
  · rw [rd_set_row m _ h0 (by omega) hq]
    split
    · rename_i e; rw [e] at hv; exact List.mem_append_left _ hv
    · exact hv
theorem addR_has {n : Nat} {m : List (List Int)} (h : Well n m) {i j : Int} (h0 : 0 ≤ j) (h1 : j < (n : Int)) : i ∈ rd_L1 (addR i m j) j := by
  have hl := h.len
  unfold addR
  split
  · assumption
  · rw [rd_set_row m _ h0 (by omega) h0, if_pos rfl]
    simp
/-- a rule's sets, a set's rules, all: who reads them -/
def addA (i : Int) (m : List (List Int)) (A : List Int) : List (List Int) := A.foldl (addR i) m
def addL (i : Int) (m : List (List Int)) (L : List S31) : List (List Int) := L.foldl (fun m r => addA i m r.f1) m
theorem addA_all {n : Nat} {i : Int} (hi : 0 ≤ i ∧ i < (n : Int)) (A : List Int) : ∀ (m : List (List Int)), Well n m → (∀ j ∈ A, 0 ≤ j ∧ j < (n : Int)) → Well n (addA i m A) ∧ (∀ j ∈ A, i ∈ rd_L1 (addA i m A) j) ∧ ∀ q : Int, 0 ≤ q → ∀ v ∈ rd_L1 m q, v ∈ rd_L1 (addA i m A) q := by
  induction A with
  | nil => intro m h _; exact ⟨h, by simp, fun q _ v hv => hv⟩
  | cons j A ih =>
    intro m h hA
    have hj := hA j List.mem_cons_self
    obtain ⟨h1, h2, h3⟩ := ih (addR i m j) (addR_well h hi hj.1 hj.2) (fun x hx => hA x (List.mem_cons_of_mem _ hx))
    refine ⟨h1, fun x hx => ?_, fun q hq v hv => h3 q hq v (addR_mono h hj.1 hj.2 hq hv)⟩
    rcases List.mem_cons.1 hx with rfl | hx
    · exact h3 _ hj.1 _ (addR_has h hj.1 hj.2)
    · exact h2 x hx
theorem addL_all {n : Nat} {i : Int} (hi : 0 ≤ i ∧ i < (n : Int)) (L : List S31) : ∀ (m : List (List Int)), Well n m → (∀ r ∈ L, ∀ j ∈ r.f1, 0 ≤ j ∧ j < (n : Int)) → Well n (addL i m L) ∧ (∀ r ∈ L, ∀ j ∈ r.f1, i ∈ rd_L1 (addL i m L) j) ∧ ∀ q : Int, 0 ≤ q → ∀ v ∈ rd_L1 m q, v ∈ rd_L1 (addL i m L) q := by
  induction L with
  | nil => intro m h _; exact ⟨h, by simp, fun q _ v hv => hv⟩
  | cons r L ih =>
    intro m h hL
    obtain ⟨a1, a2, a3⟩ := addA_all hi r.f1 m h (hL r List.mem_cons_self)
    obtain ⟨h1, h2, h3⟩ := ih (addA i m r.f1) a1 (fun x hx => hL x (List.mem_cons_of_mem _ hx))
    refine ⟨h1, fun x hx j hj => ?_, fun q hq v hv => h3 q hq v (a3 q hq v hv)⟩
    rcases List.mem_cons.1 hx with rfl | hx
    · exact h3 _ (hL _ List.mem_cons_self j hj).1 _ (a2 j hj)
    · exact h2 x hx j hj
section
variable {R : List (List S31)} (hR : Okr R) (s p : List Int) {res : List Int}
include hR
/-- the loop over a rule's sets -/
theorem l2_ok (i : Nat) (hi : i < R.length) (L : List S31) (y : Int) (A : List Int) (hA : A.length ≤ 60) (hj : ∀ j ∈ A, 0 ≤ j ∧ j < (R.length : Int)) : ∀ (d q : Nat) (m : List (List Int)), q + d = A.length → Well R.length m →
    (∃ k, fixpoint_propagate.l1 k R s p (addA i m (A.drop q)) (i : Int) R (R.length : Int) (i : Int) L (L.length : Int) (wrap64 (y + 1)) = some res) →
    ∃ k, fixpoint_propagate.l2 k R s p m (i : Int) R (R.length : Int) (i : Int) L (L.length : Int) y A (A.length : Int) (q : Int) = some res := by
  intro d
  induction d with
  | zero =>
    intro q m hq hm h
    obtain ⟨k, hk⟩ := h
    rw [List.drop_eq_nil_of_le (by omega)] at hk
    refine ⟨k + 1, ?_⟩
    simp only [fixpoint_propagate.l2]
    rw [if_neg (by omega)]
    exact hk
  | succ d ih =>
    intro q m hq hm h
    have hq' : q < A.length := by omega
    have hjq := hj _ (List.getElem_mem hq')
    have hn := hR.n60
    have hlen := hm.len
    have hrow := row_le hm hjq.1 hjq.2
    rw [List.drop_eq_getElem_cons hq'] at h
    have h2 := ih (q + 1) (addR i m A[q]) (by omega) (addR_well hm ⟨Int.natCast_nonneg _, by omega⟩ hjq.1 hjq.2) h
    obtain ⟨k, hk, hk2⟩ := ev_ge (fun k => (fixpoint_propagate.mono_l k).2.2.1 _ _ _ _ _ _ _ _ _ _ _ _ _ _) h2 2000
    have hw : wrap64 ((q : Int) + 1) = ((q + 1 : Nat) : Int) := by rw [w64 (by omega) (by omega)]; omega
    have c1 : (q : Int) < (A.length : Int) := by omega
    have c2 : A[q] < (m.length : Int) := by omega
    have c3 : (rd_L1 m A[q]).length ≤ 1000 := by omega
    refine ⟨k + 1, ?_⟩
    simp only [fixpoint_propagate.l2]
    rw [if_pos c1, if_pos (Int.natCast_nonneg _), if_pos c1, rd_get A q hq', if_pos hjq.1, if_pos c2, contains_is _ _ c3 k (by omega), Option.bind_some, hw]
    unfold addR at hk2
    by_cases hc : (i : Int) ∈ rd_L1 m A[q]
    · rw [if_pos hc] at hk2
      rw [if_pos (decide_eq_true hc)]
      exact hk2
    · rw [if_neg hc] at hk2
      rw [if_neg (by simpa using hc), if_pos (by omega)]
      exact hk2
/-- the loop over a set's rules -/
theorem l1_ok (i : Nat) (hi : i < R.length) (L : List S31) (hL : L ∈ R) : ∀ (d q : Nat) (m : List (List Int)), q + d = L.length → Well R.length m →
    (∃ k, fixpoint_propagate.l0 k R s p (addL i m (L.drop q)) R (R.length : Int) (wrap64 ((i : Int) + 1)) = some res) →
    ∃ k, fixpoint_propagate.l1 k R s p m (i : Int) R (R.length : Int) (i : Int) L (L.length : Int) (q : Int) = some res := by
  intro d
  induction d with
  | zero =>
    intro q m hq hm h
    obtain ⟨k, hk⟩ := h
    rw [List.drop_eq_nil_of_le (by omega)] at hk
    refine ⟨k + 1, ?_⟩
    simp only [fixpoint_propagate.l1]
    rw [if_neg (by omega)]
    exact hk
  | succ d ih =>
    intro q m hq hm h
    have hq' : q < L.length := by omega
    have hmem := List.getElem_mem hq'
    have hl20 := hR.l20 L hL
    have hn := hR.n60
    rw [List.drop_eq_getElem_cons hq'] at h
    have hall := addA_all (n := R.length) (i := i) ⟨Int.natCast_nonneg _, by omega⟩ L[q].f1 m hm (hR.idx L hL _ hmem)
    have h2 := ih (q + 1) (addA i m L[q].f1) (by omega) hall.1 h
    have hw : wrap64 ((q : Int) + 1) = ((q + 1 : Nat) : Int) := by rw [w64 (by omega) (by omega)]; omega
    rw [← hw] at h2
    obtain ⟨k, hk⟩ := l2_ok hR s p i hi L (q : Int) L[q].f1 (hR.a60 L hL _ hmem) (hR.idx L hL _ hmem) L[q].f1.length 0 m (by omega) hm h2
    have c1 : (q : Int) < (L.length : Int) := by omega
    refine ⟨k + 1, ?_⟩
    simp only [fixpoint_propagate.l1]
    rw [if_pos c1, if_pos (Int.natCast_nonneg _), if_pos c1, rdT_get L q hq']
    exact hk
/-- the readers: whoever reads a set stands in its row -/
def Full (R : List (List S31)) (m : List (List Int)) (i : Nat) : Prop := ∀ j, j < i → ∀ (hj : j < R.length), ∀ r ∈ R[j], ∀ q ∈ r.f1, (j : Int) ∈ rd_L1 m q
theorem l0_ok (h : ∀ m, Well R.length m → Full R m R.length → ∃ k, fixpoint_propagate.l3 k R s p m = some res) : ∀ (d i : Nat) (m : List (List Int)), i + d = R.length → Well R.length m → Full R m i →
    ∃ k, fixpoint_propagate.l0 k R s p m R (R.length : Int) (i : Int) = some res := by
  intro d
  induction d with
  | zero =>
    intro i m hi hm hf
    obtain ⟨k, hk⟩ := h m hm (by rw [show R.length = i from by omega]; exact hf)
    refine ⟨k + 1, ?_⟩
    simp only [fixpoint_propagate.l0]
    rw [if_neg (by omega)]
    exact hk
  | succ d ih =>
    intro i m hi hm hf
    have hi' : i < R.length := by omega
    have hmem := List.getElem_mem hi'
    have hn := hR.n60
    have hall := addL_all (n := R.length) (i := i) ⟨Int.natCast_nonneg _, by omega⟩ R[i] m hm (hR.idx _ hmem)
    have h2 := ih (i + 1) (addL i m R[i]) (by omega) hall.1 (fun j hj hjl r hr q hq => by
      rcases Nat.lt_or_ge j i with hji | hji
      · exact hall.2.2 q (hR.idx _ (List.getElem_mem hjl) r hr q hq).1 _ (hf j hji hjl r hr q hq)
      · have : j = i := by omega
        subst this
        exact hall.2.1 r hr q hq)
    have hw : wrap64 ((i : Int) + 1) = ((i + 1 : Nat) : Int) := by rw [w64 (by omega) (by omega)]; omega
    rw [← hw] at h2
    obtain ⟨k, hk⟩ := l1_ok hR s p i hi' R[i] hmem R[i].length 0 m (by omega) hm h2
    have c1 : (i : Int) < (R.length : Int) := by omega
    refine ⟨k + 1, ?_⟩
    simp only [fixpoint_propagate.l0]
    rw [if_pos c1, if_pos (Int.natCast_nonneg _), if_pos c1, rdL_get R i hi']
    exact hk
end
/-- what is pushed onto the work list -/
def push (p : List Int) (A : List Int) : List Int := A.foldl (fun p j => if j ∈ p then p else p ++ [j]) p
structure Pend (n : Nat) (p : List Int) : Prop where
  nodup : p.Nodup
  rng : ∀ x ∈ p, 0 ≤ x ∧ x < (n : Int)
theorem push1 {n : Nat} {p : List Int} (h : Pend n p) {j : Int} (hj : 0 ≤ j ∧ j < (n : Int)) : Pend n (if j ∈ p then p else p ++ [j]) := by
  split
  · exact h
  · rename_i hn
    refine ⟨?_, fun x hx => ?_⟩
    · rw [List.nodup_append]
      refine ⟨h.nodup, by simp, fun a ha b hb => ?_⟩
      rw [List.mem_singleton] at hb
      rw [hb]
      exact fun e => hn (by rw [← e]; exact ha)
    · rcases List.mem_append.1 hx with hx | hx
      · exact h.rng x hx
      · rw [List.mem_singleton] at hx; rw [hx]; exact hj
theorem push_all {n : Nat} (A : List Int) : ∀ p : List Int, Pend n p → (∀ j ∈ A, 0 ≤ j ∧ j < (n : Int)) → Pend n (push p A) ∧ (∀ x ∈ p, x ∈ push p A) ∧ ∀ x ∈ A, x ∈ push p A := by
  induction A with
  | nil => intro p h _; exact ⟨h, fun x hx => hx, by simp⟩
  | cons j A ih =>
    intro p h hA
    obtain ⟨h1, h2, h3⟩ := ih _ (push1 h (hA j List.mem_cons_self)) (fun x hx => hA x (List.mem_cons_of_mem _ hx))
    refine ⟨h1, fun x hx => h2 x (by split <;> simp [hx]), fun x hx => ?_⟩
    rcases List.mem_cons.1 hx with rfl | hx
    · refine h2 x ?_
      split
      · assumption
      · simp
    · exact h3 x hx
section
variable {R : List (List S31)} (hR : Okr R) (s : List Int) {res : List Int}
include hR
theorem l4_ok (m : List (List Int)) (A : List Int) (hA : A.length ≤ 60) (hj : ∀ j ∈ A, 0 ≤ j ∧ j < (R.length : Int)) : ∀ (d q : Nat) (p : List Int), q + d = A.length → Pend R.length p →
    (∃ k, fixpoint_propagate.l3 k R s (push p (A.drop q)) m = some res) → ∃ k, fixpoint_propagate.l4 k R s p m A (A.length : Int) (q : Int) = some res := by
  intro d
  induction d with
  | zero =>
    intro q p hq hp h
    obtain ⟨k, hk⟩ := h
    rw [List.drop_eq_nil_of_le (by omega)] at hk
    refine ⟨k + 1, ?_⟩
    simp only [fixpoint_propagate.l4]
    rw [if_neg (by omega)]
    exact hk
  | succ d ih =>
    intro q p hq hp h
    have hq' : q < A.length := by omega
    have hjq := hj _ (List.getElem_mem hq')
    have hn := hR.n60
    have hlen := nodup_le _ _ hp.nodup hp.rng
    rw [List.drop_eq_getElem_cons hq'] at h
    have h2 := ih (q + 1) _ (by omega) (push1 hp hjq) h
    obtain ⟨k, hk, hk2⟩ := ev_ge (fun k => (fixpoint_propagate.mono_l k).2.2.2.2 _ _ _ _ _ _ _) h2 2000
    have hw : wrap64 ((q : Int) + 1) = ((q + 1 : Nat) : Int) := by rw [w64 (by omega) (by omega)]; omega
    have c1 : (q : Int) < (A.length : Int) := by omega
    have c3 : p.length ≤ 1000 := by omega
    refine ⟨k + 1, ?_⟩
    simp only [fixpoint_propagate.l4]
    rw [if_pos c1, if_pos (Int.natCast_nonneg _), if_pos c1, rd_get A q hq', contains_is _ _ c3 k (by omega), Option.bind_some, hw]
    by_cases hc : A[q] ∈ p
    · rw [if_pos hc] at hk2
      rw [if_pos (decide_eq_true hc)]
      exact hk2
    · rw [if_neg hc] at hk2
      rw [if_neg (by simpa using hc), if_pos (by omega)]
      exact hk2
end
def tot (s : List Int) : Nat := (s.map Int.toNat).sum
theorem tot_le : ∀ s : List Int, (∀ x ∈ s, 0 ≤ x ∧ x < 1048576) → tot s ≤ s.length * 1048576
  | [], _ => Nat.le_refl _
  | x :: s, h => by
    have h1 := tot_le s (fun y hy => h y (List.mem_cons_of_mem _ hy))
    have h2 := h x List.mem_cons_self
    unfold tot at h1 ⊢
    rw [List.map_cons, List.sum_cons, List.length_cons]
    omega
theorem tot_set : ∀ (s : List Int) (i : Nat) (v : Int) (hi : i < s.length), tot (s.set i v) + (s[i]).toNat = tot s + v.toNat
  | [], i, v, hi => by simp at hi
  | x :: s, 0, v, hi => by
    unfold tot
    simp only [List.set_cons_zero, List.map_cons, List.sum_cons, List.getElem_cons_zero]
    omega
  | x :: s, i + 1, v, hi => by
    have := tot_set s i v (by simpa using hi)
    unfold tot at this ⊢
    simp only [List.set_cons_succ, List.map_cons, List.sum_cons, List.getElem_cons_succ]
    omega
/-- a solution; what stays to be looked at -/
def Sol (R : List (List S31)) (s : List Int) : Prop := ∀ i (hi : i < R.length), ∀ r ∈ R[i], ∀ e, drv r s e → has s i e
def Closed (R : List (List S31)) (s p : List Int) : Prop := ∀ i (hi : i < R.length), ¬ (i : Int) ∈ p → ∀ r ∈ R[i], ∀ e, drv r s e → has s i e
theorem g_set {s : List Int} {i : Nat} (hi : i < s.length) (v : Nat) {q : Int} (hq : 0 ≤ q) : g (s.set i (v : Int)) q = if q = (i : Int) then v else g s q := by
  unfold g rd
  rw [List.getD_eq_getElem?_getD, List.getElem?_set, List.getD_eq_getElem?_getD]
  by_cases h : q = (i : Int)
  · rw [if_pos (by omega), if_pos hi, if_pos h]
    simp
  · rw [if_neg (by omega), if_neg h]
theorem l3_main {R : List (List S31)} (hR : Okr R) (m : List (List Int)) (hm : Well R.length m) (hf : Full R m R.length) : ∀ (N : Nat) (s p : List Int), Good R.length s → Pend R.length p → Closed R s p → (R.length * 1048576 - tot s) * 61 + p.length ≤ N →
    ∃ res, (∃ k, fixpoint_propagate.l3 k R s p m = some res) ∧ Good R.length res ∧ Sol R res ∧ ∀ c : List Int, Sol R c → (∀ i : Int, 0 ≤ i → ∀ e, has s i e → has c i e) → ∀ i : Int, 0 ≤ i → ∀ e, has res i e → has c i e := by
  intro N
  induction N with
  | zero =>
    intro s p hs hp hc hN
    have hp0 : p = [] := List.eq_nil_of_length_eq_zero (by omega)
    subst hp0
    refine ⟨s, ⟨1, ?_⟩, hs, fun i hi r hr e hd => hc i hi (by simp) r hr e hd, fun c _ h => h⟩
    simp [fixpoint_propagate.l3]
  | succ N ih =>
    intro s p hs hp hc hN
    cases p with
    | nil =>
      refine ⟨s, ⟨1, ?_⟩, hs, fun i hi r hr e hd => hc i hi (by simp) r hr e hd, fun c _ h => h⟩
      simp [fixpoint_propagate.l3]
    | cons z p =>
      obtain ⟨i, rfl⟩ : ∃ i : Nat, z = i := ⟨z.toNat, by have := hp.rng z List.mem_cons_self; omega⟩
      have hir := hp.rng _ List.mem_cons_self
      have hi : i < R.length := by omega
      have hmem := List.getElem_mem hi
      have hn := hR.n60
      have hsl := hs.len
      have his : i < s.length := by omega
      have hml := hm.len
      have hp' : Pend R.length p := ⟨(List.nodup_cons.1 hp.nodup).2, fun x hx => hp.rng x (List.mem_cons_of_mem _ hx)⟩
      have hdl := da_lt hs (hR.mask _ hmem)
      have hgl := g_lt hs (i : Int)
      have hbit : ∀ e, (g s i ||| da R[i] s).testBit e = true ↔ has s i e ∨ ∃ r ∈ R[i], drv r s e := fun e => by
        rw [Nat.testBit_or, Bool.or_eq_true, da_bit]
        rfl
      have hrd : rd (((i : Nat) : Int) :: p) 0 = (i : Int) := rfl
      have step : ∀ k, 100 ≤ k → fixpoint_propagate.l3 (k + 1) R s ((i : Int) :: p) m = if ((g s i ||| da R[i] s : Nat) : Int) = (g s i : Int) then fixpoint_propagate.l3 k R s p m else fixpoint_propagate.l4 k R (s.set i ((g s i ||| da R[i] s : Nat) : Int)) p m (rd_L1 m i) ((rd_L1 m i).length : Int) 0 := by
        intro k hk
        have c0 : ((((i : Nat) : Int) :: p).length : Int) > 0 := by rw [List.length_cons]; omega
        have c1 : (1 : Int) ≤ ((((i : Nat) : Int) :: p).length : Int) := by rw [List.length_cons]; omega
        have c2 : ((i : Nat) : Int) < (s.length : Int) := by omega
        have c3 : ((i : Nat) : Int) < (R.length : Int) := by omega
        have c4 : ((i : Nat) : Int) < (m.length : Int) := by omega
        simp only [fixpoint_propagate.l3]
        rw [if_pos c0, if_pos c0, if_pos c1, Option.bind_some, hrd, if_pos hir.1, if_pos c2, if_pos c3, rdL_get R i hi, deriveAll_is hR hs hmem k hk, Option.bind_some, rd_g hs, or_nat hgl hdl, if_pos c4]
        rfl
      by_cases heq : (g s i ||| da R[i] s) = g s i
      · obtain ⟨res, ⟨k, hk⟩, h1, h2, h3⟩ := ih s p hs hp' (fun j hj hnp r hr e hd => by
          by_cases hji : j = i
          · subst hji
            have := (hbit e).2 (.inr ⟨r, hr, hd⟩)
            rw [heq] at this
            exact this
          · exact hc j hj (by simp [hnp]; omega) r hr e hd) (by rw [List.length_cons] at hN; omega)
        obtain ⟨k', hk', hk2⟩ := ev_ge (fun k => (fixpoint_propagate.mono_l k).2.2.2.1 _ _ _ _) ⟨k, hk⟩ 100
        refine ⟨res, ⟨k' + 1, ?_⟩, h1, h2, h3⟩
        rw [step k' hk', if_pos (by rw [heq])]
        exact hk2
      · have hlt : g s i < g s i ||| da R[i] s := Nat.lt_of_le_of_ne (Nat.left_le_or) (fun e => heq e.symm)
        have hs' : Good R.length (s.set i ((g s i ||| da R[i] s : Nat) : Int)) := ⟨by rw [List.length_set]; exact hsl, fun x hx => by
          rcases List.mem_or_eq_of_mem_set hx with hx | rfl
          · exact hs.rng x hx
          · have := or_lt hgl hdl
            omega⟩
        have hgs : ∀ q : Int, 0 ≤ q → g (s.set i ((g s i ||| da R[i] s : Nat) : Int)) q = if q = (i : Int) then g s i ||| da R[i] s else g s q := fun q hq => g_set his _ hq
        have hrow := row_mem hm hir.1 hir.2
        obtain ⟨q1, q2, q3⟩ := push_all (n := R.length) (rd_L1 m i) p hp' (hm.rng _ hrow)
        have hbig : ∀ q : Int, 0 ≤ q → ∀ e, has s q e → has (s.set i ((g s i ||| da R[i] s : Nat) : Int)) q e := fun q hq e h => by
          unfold has
          rw [hgs q hq]
          split
          · rename_i e1
            rw [e1] at h
            exact (hbit e).2 (.inl h)
          · exact h
        have hcl : Closed R (s.set i ((g s i ||| da R[i] s : Nat) : Int)) (push p (rd_L1 m i)) := fun j hj hnp r hr e hd => by
          have hjp : ¬ (j : Int) ∈ p := fun h => hnp (q2 _ h)
          have hjr : ¬ (j : Int) ∈ rd_L1 m i := fun h => hnp (q3 _ h)
          have hni : ∀ q ∈ r.f1, q ≠ (i : Int) := fun q hq e1 => hjr (by rw [← e1]; exact hf j hj hj r hr q hq)
          have hd' : drv r s e := ⟨hd.1, fun q hq => by
            have := hd.2 q hq
            unfold has at this ⊢
            rw [hgs q (hR.idx _ (List.getElem_mem hj) r hr q hq).1, if_neg (hni q hq)] at this
            exact this⟩
          by_cases hji : j = i
          · subst hji
            unfold has
            rw [hgs _ (Int.natCast_nonneg _), if_pos rfl]
            exact (hbit e).2 (.inr ⟨r, hr, hd'⟩)
          · exact hbig _ (Int.natCast_nonneg _) e (hc j hj (by simp [hjp]; omega) r hr e hd')
        have hts := tot_set s i ((g s i ||| da R[i] s : Nat) : Int) his
        have htl := tot_le _ hs'.rng
        have hgi : (s[i]).toNat = g s i := by unfold g; rw [rd_get s i his]
        have hpl := nodup_le _ _ q1.nodup q1.rng
        have hl' := hs'.len
        obtain ⟨res, hk, h1, h2, h3⟩ := ih (s.set i ((g s i ||| da R[i] s : Nat) : Int)) (push p (rd_L1 m i)) hs' q1 hcl (by
          rw [hl'] at htl
          rw [List.length_cons] at hN
          rw [hgi] at hts
          have e1 : ((g s i ||| da R[i] s : Nat) : Int).toNat = g s i ||| da R[i] s := by omega
          rw [e1] at hts
          omega)
        obtain ⟨k, hk2⟩ := l4_ok hR _ m (rd_L1 m i) (Nat.le_trans (row_le hm hir.1 hir.2) hn) (hm.rng _ hrow) (rd_L1 m i).length 0 p (by omega) hp' (by rw [List.drop_zero]; exact hk)
        obtain ⟨k', hk', hk3⟩ := ev_ge (fun k => (fixpoint_propagate.mono_l k).2.2.2.2 _ _ _ _ _ _ _) ⟨k, hk2⟩ 100
        refine ⟨res, ⟨k' + 1, ?_⟩, h1, h2, fun c hc' hsub => h3 c hc' (fun q hq e h => ?_)⟩
        · rw [step k' hk', if_neg (by intro e1; exact heq (by omega))]
          exact hk3
        · unfold has at h
          rw [hgs q hq] at h
          split at h
          · rename_i e1
            rw [e1]
            rcases (hbit e).1 h with h | ⟨r, hr, hd⟩
            · exact hsub _ (Int.natCast_nonneg _) e h
            · exact hc' i hi r hr e ⟨hd.1, fun j hj => hsub j (hR.idx _ hmem r hr j hj).1 e (hd.2 j hj)⟩
          · exact hsub q hq e h
end Go.Proofs.Ytgjcembdmohhkaa.Fs
