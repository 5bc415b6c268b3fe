/- KNASTER and TARSKI: the printed law answers true. No condition beside the arguments' size. -/
import Derived.Test.YtgjcembdmohhkaaFxPb
import Derived.Test.YtgjcembdmohhkaaFxx4
set_option linter.unusedVariables false
set_option linter.unusedSimpArgs false
set_option linter.unusedSectionVars false
namespace Go.Proofs.Ytgjcembdmohhkaa.Fx
open Go.RowKit Go.Proofs.YtgjcembdmohhkaaW.PrintWords Go.Proofs.YtgjcembdmohhkaaW.PrintLast Go.Proofs.YtgjcembdmohhkaaW.PrintMore
open Go.Proofs.Ytgjcembdmohhkaa

def idxs (n : Nat) : List Int := (List.range n).map fun i : Nat => (i : Int)
theorem indices_loop (n : Nat) (hn : n ≤ 1000) : ∀ (d i k : Nat) (l : List Int), i + d = n → l.length = n → (∀ j (hj : j < l.length), j < i → l[j] = (j : Int)) → d < k → fixpoint_indices.l0 k l (n : Int) (i : Int) = some (idxs n) := by
  intro d
  induction d with
  | zero =>
    intro i k l hi hl h hk
    obtain ⟨k, rfl⟩ : ∃ m, k = m + 1 := ⟨k - 1, by omega⟩
    simp only [fixpoint_indices.l0]
    rw [if_neg (by omega)]
    congr 1
    refine List.ext_getElem (by simp [idxs, hl]) fun j h1 h2 => ?_
    rw [h j h1 (by omega)]
    exact (show (idxs n)[j] = (j : Int) from by simp [idxs]).symm
  | succ d ih =>
    intro i k l hi hl h hk
    obtain ⟨k, rfl⟩ : ∃ m, k = m + 1 := ⟨k - 1, by omega⟩
    have hw : wrap64 ((i : Int) + 1) = ((i + 1 : Nat) : Int) := by rw [w64 (by omega) (by omega)]; omega
    have hnext := ih (i + 1) k (l.set i (i : Int)) (by omega) (by rw [List.length_set]; exact hl) (fun j hj hji => by
      rw [List.getElem_set]
      split
      · omega
      · exact h j (by rw [List.length_set] at hj; exact hj) (by omega)) (by omega)
    have c1 : (i : Int) < (n : Int) := by omega
    have c2 : (i : Int) < (l.length : Int) := by omega
    simp only [fixpoint_indices.l0]
    rw [if_pos c1, if_pos (Int.natCast_nonneg _), if_pos c2, hw, show ((i : Int)).toNat = i from by omega]
    exact hnext
theorem indices_is (n : Nat) (hn : n ≤ 1000) (k : Nat) (hk : 1001 ≤ k) : fixpoint_indices.f k (n : Int) = some (idxs n) := by
  unfold fixpoint_indices.f
  have c1 : ((n : Int)).toNat ≤ 35184372088832 := by omega
  rw [if_pos (Int.natCast_nonneg _), if_pos c1, Option.bind_some, show ((n : Int)).toNat = n from by omega]
  have := indices_loop n hn n 0 k (List.replicate n 0) (by omega) (by simp) (fun j _ hj => by omega) (by omega)
  rw [show ((List.replicate n (0 : Int)).length : Int) = (n : Int) from by simp]
  exact this
theorem idxs_pend (n : Nat) : Pend n (idxs n) := by
  refine ⟨?_, fun x hx => ?_⟩
  · unfold idxs
    exact List.pairwise_map.2 (List.nodup_range.imp fun h e => h (by omega))
  · unfold idxs at hx
    obtain ⟨i, hi, rfl⟩ := List.mem_map.1 hx
    have := List.mem_range.1 hi
    omega
theorem idxs_mem {n i : Nat} (h : i < n) : (i : Int) ∈ idxs n := List.mem_map.2 ⟨i, List.mem_range.2 h, rfl⟩
theorem zeros (n : Nat) (i : Int) (e : Nat) : ¬ has (List.replicate n 0) i e := by
  unfold has g rd
  rw [List.getD_eq_getElem?_getD, List.getElem?_replicate]
  split <;> simp
theorem least_is {R : List (List S31)} (hR : Okr R) (hc : fixpoint_Check.f R = some 0) : ∃ res, (∃ k, fixpoint_Least.f k R = some (res, 0)) ∧ Good R.length res ∧ Sol R res ∧ ∀ c : List Int, Sol R c → ∀ i : Int, 0 ≤ i → ∀ e, has res i e → has c i e := by
  have hn := hR.n60
  have hgood : Good R.length (List.replicate R.length 0) := ⟨by simp, fun x hx => by rw [List.eq_of_mem_replicate hx]; omega⟩
  have hcl : Closed R (List.replicate R.length 0) (idxs R.length) := fun i hi hnp => absurd (idxs_mem hi) hnp
  have hwell : Well R.length (List.replicate R.length []) := ⟨by simp, fun l hl => by rw [List.eq_of_mem_replicate hl]; exact List.nodup_nil, fun l hl v hv => by rw [List.eq_of_mem_replicate hl] at hv; cases hv⟩
  have hex : ∃ res, (∃ k, fixpoint_propagate.l0 k R (List.replicate R.length 0) (idxs R.length) (List.replicate R.length []) R (R.length : Int) ((0 : Nat) : Int) = some res) ∧ Good R.length res ∧ Sol R res ∧ ∀ c : List Int, Sol R c → ∀ i : Int, 0 ≤ i → ∀ e, has res i e → has c i e := by
    -- the readers are the same whatever the sets: take the work list's end over them
    have key : ∀ (d i : Nat) (m : List (List Int)), i + d = R.length → Well R.length m → Full R m i → ∃ m', Well R.length m' ∧ Full R m' R.length ∧ ∀ res, (∃ k, fixpoint_propagate.l3 k R (List.replicate R.length 0) (idxs R.length) m' = some res) → ∃ k, fixpoint_propagate.l0 k R (List.replicate R.length 0) (idxs R.length) m R (R.length : Int) (i : Int) = some res := by
      intro d
      induction d with
      | zero =>
        intro i m hi hm hf
        refine ⟨m, hm, by rw [show R.length = i from by omega]; exact hf, fun res h => ?_⟩
        obtain ⟨k, hk⟩ := h
        refine ⟨k + 1, ?_⟩
        simp only [fixpoint_propagate.l0]
        rw [if_neg (by omega)]
        exact hk
      | succ d ih =>
        intro i m hi hm hf
        have hi' : i < R.length := by omega
        have hmem := List.getElem_mem hi'
        have hall := addL_all (n := R.length) (i := i) ⟨Int.natCast_nonneg _, by omega⟩ R[i] m hm (hR.idx _ hmem)
        obtain ⟨m', h1, h2, h3⟩ := ih (i + 1) (addL i m R[i]) (by omega) hall.1 (fun j hj hjl r hr q hq => by
          rcases Nat.lt_or_ge j i with hji | hji
          · exact hall.2.2 q (hR.idx _ (List.getElem_mem hjl) r hr q hq).1 _ (hf j hji hjl r hr q hq)
          · have : j = i := by omega
            subst this
            exact hall.2.1 r hr q hq)
        refine ⟨m', h1, h2, fun res h => ?_⟩
        have h4 := h3 res h
        have hw : wrap64 ((i : Int) + 1) = ((i + 1 : Nat) : Int) := by rw [w64 (by omega) (by omega)]; omega
        rw [← hw] at h4
        obtain ⟨k, hk⟩ := l1_ok hR _ _ i hi' R[i] hmem R[i].length 0 m (by omega) hm h4
        have c1 : (i : Int) < (R.length : Int) := by omega
        refine ⟨k + 1, ?_⟩
        simp only [fixpoint_propagate.l0]
        rw [if_pos c1, if_pos (Int.natCast_nonneg _), if_pos c1, rdL_get R i hi']
        exact hk
    obtain ⟨m', h1, h2, h3⟩ := key R.length 0 (List.replicate R.length []) (by omega) hwell (fun j hj => by omega)
    obtain ⟨res, h4, h5, h6, h7⟩ := l3_main hR m' h1 h2 _ (List.replicate R.length 0) (idxs R.length) hgood (idxs_pend _) hcl (Nat.le_refl _)
    exact ⟨res, h3 res h4, h5, h6, fun c hc i hi e h => h7 c hc (fun q hq e h => absurd h (zeros _ _ _)) i hi e h⟩
  obtain ⟨res, hk, h5, h6, h7⟩ := hex
  refine ⟨res, ?_, h5, h6, h7⟩
  obtain ⟨k, hk0, hk1⟩ := ev_ge (fun k => (fixpoint_propagate.mono_l k).1 _ _ _ _ _ _ _) hk 2000
  refine ⟨k, ?_⟩
  have c1 : ((R.length : Int)).toNat ≤ 35184372088832 := by omega
  have c2 : ((R.length : Int)).toNat ≤ 11728124029610 := by omega
  unfold fixpoint_Least.f
  rw [hc, Option.bind_some, if_pos rfl, if_pos (Int.natCast_nonneg _), if_pos c1, indices_is R.length (by omega) k (by omega), Option.bind_some]
  unfold fixpoint_propagate.f
  rw [if_pos (Int.natCast_nonneg _), if_pos c2, show ((R.length : Int)).toNat = R.length from by omega]
  rw [show ((0 : Nat) : Int) = 0 from rfl] at hk1
  rw [hk1, Option.bind_some]
theorem dv_step (s : List Int) (A : List Int) (q a : Nat) (hq : q < A.length) : (A.drop q).foldl (fun a j => a &&& g s j) a = (A.drop (q + 1)).foldl (fun a j => a &&& g s j) (a &&& g s A[q]) := by
  rw [List.drop_eq_getElem_cons hq, List.foldl_cons]
section
variable {R : List (List S31)} (hR : Okr R) {c : List Int} (hc : Good R.length c)
include hR hc
theorem is2 (i : Nat) (hi : i < R.length) (L : List S31) (y : Int) (A : List Int) (hA : A.length ≤ 60) (hj : ∀ j ∈ A, 0 ≤ j ∧ j < (R.length : Int)) : ∀ (d q a : Nat) (r : Bool), q + d = A.length → a < 1048576 →
    ((∀ e, ((A.drop q).foldl (fun a j => a &&& g c j) a).testBit e = true → has c i e) → ∃ k, glossatorkeep3_isSolution.l1 k R c (i : Int) (R.length : Int) (i : Int) L (L.length : Int) (wrap64 (y + 1)) = some r) →
    (¬ (∀ e, ((A.drop q).foldl (fun a j => a &&& g c j) a).testBit e = true → has c i e) → r = false) →
    ∃ k, glossatorkeep3_isSolution.l2 k R c (i : Int) (a : Int) (R.length : Int) (i : Int) L (L.length : Int) y A (A.length : Int) (q : Int) = some r := by
  intro d
  induction d with
  | zero =>
    intro q a r hq ha h1 h2
    rw [List.drop_eq_nil_of_le (by omega)] at h1 h2
    have hcl := hc.len
    have c2 : (i : Int) < (c.length : Int) := by omega
    by_cases hsub : ∀ e, a.testBit e = true → has c i e
    · obtain ⟨k, hk⟩ := h1 hsub
      refine ⟨k + 1, ?_⟩
      simp only [glossatorkeep3_isSolution.l2]
      rw [if_neg (by omega), if_pos (Int.natCast_nonneg _), if_pos c2, rd_g hc, if_pos ((andNot_nat ha (g_lt hc _)).2 hsub)]
      exact hk
    · refine ⟨1, ?_⟩
      simp only [glossatorkeep3_isSolution.l2]
      rw [if_neg (by omega), if_pos (Int.natCast_nonneg _), if_pos c2, rd_g hc, if_neg (fun e => hsub ((andNot_nat ha (g_lt hc _)).1 e)), h2 hsub]
  | succ d ih =>
    intro q a r hq ha h1 h2
    have hq' : q < A.length := by omega
    have hjq := hj _ (List.getElem_mem hq')
    have hcl := hc.len
    rw [dv_step c A q a hq'] at h1 h2
    obtain ⟨k, hk⟩ := ih (q + 1) (a &&& g c A[q]) r (by omega) (and_lt (g_lt hc _)) h1 h2
    have hw : wrap64 ((q : Int) + 1) = ((q + 1 : Nat) : Int) := by rw [w64 (by omega) (by omega)]; omega
    have c1 : (q : Int) < (A.length : Int) := by omega
    have c2 : A[q] < (c.length : Int) := by omega
    refine ⟨k + 1, ?_⟩
    simp only [glossatorkeep3_isSolution.l2]
    rw [if_pos c1, if_pos (Int.natCast_nonneg _), if_pos c1, rd_get A q hq', if_pos hjq.1, if_pos c2, rd_g hc, and_nat ha (g_lt hc _), hw]
    exact hk
def okRule (c : List Int) (i : Nat) (r : S31) : Prop := ∀ e, drv r c e → has c i e
omit hR hc in
theorem okRule_dv (c : List Int) (i : Nat) (r : S31) : okRule c i r ↔ ∀ e, (dv r c).testBit e = true → has c i e := ⟨fun h e he => h e ((dv_bit _ _ _).1 he), fun h e he => h e ((dv_bit _ _ _).2 he)⟩
theorem is1 (i : Nat) (hi : i < R.length) : ∀ (d q : Nat) (r : Bool), q + d = R[i].length →
    ((∀ x ∈ R[i].drop q, okRule c i x) → ∃ k, glossatorkeep3_isSolution.l0 k R c (R.length : Int) (wrap64 ((i : Int) + 1)) = some r) →
    (¬ (∀ x ∈ R[i].drop q, okRule c i x) → r = false) →
    ∃ k, glossatorkeep3_isSolution.l1 k R c (i : Int) (R.length : Int) (i : Int) R[i] (R[i].length : Int) (q : Int) = some r := by
  have hmem := List.getElem_mem hi
  intro d
  induction d with
  | zero =>
    intro q r hq h1 h2
    obtain ⟨k, hk⟩ := h1 (by rw [List.drop_eq_nil_of_le (by omega)]; simp)
    refine ⟨k + 1, ?_⟩
    simp only [glossatorkeep3_isSolution.l1]
    rw [if_neg (by omega)]
    exact hk
  | succ d ih =>
    intro q r hq h1 h2
    have hq' : q < R[i].length := by omega
    have hm2 := List.getElem_mem hq'
    have hl20 := hR.l20 _ hmem
    have hmask := hR.mask _ hmem _ hm2
    have hw : wrap64 ((q : Int) + 1) = ((q + 1 : Nat) : Int) := by rw [w64 (by omega) (by omega)]; omega
    have hdrop : R[i].drop q = R[i][q] :: R[i].drop (q + 1) := List.drop_eq_getElem_cons hq'
    have c1 : (q : Int) < (R[i].length : Int) := by omega
    have h3 := is2 hR hc i hi R[i] (q : Int) R[i][q].f1 (hR.a60 _ hmem _ hm2) (hR.idx _ hmem _ hm2) R[i][q].f1.length 0 R[i][q].f0.toNat r (by omega) (by omega)
      (fun hok => by
        rw [hw]
        refine ih (q + 1) r (by omega) (fun hall => h1 (by rw [hdrop]; intro x hx; rcases List.mem_cons.1 hx with rfl | hx; exact (okRule_dv _ _ _).2 hok; exact hall x hx)) (fun hn => h2 (fun hall => hn (fun x hx => hall x (by rw [hdrop]; exact List.mem_cons_of_mem _ hx)))))
      (fun hn => h2 (fun hall => hn ((okRule_dv _ _ _).1 (hall _ (by rw [hdrop]; exact List.mem_cons_self)))))
    obtain ⟨k, hk⟩ := h3
    refine ⟨k + 1, ?_⟩
    simp only [glossatorkeep3_isSolution.l1]
    rw [if_pos c1, if_pos (Int.natCast_nonneg _), if_pos c1, rdT_get R[i] q hq']
    rw [show ((R[i][q].f0.toNat : Nat) : Int) = R[i][q].f0 from by omega] at hk
    exact hk
theorem is0 : ∀ (d i : Nat) (r : Bool), i + d = R.length → (r = true ↔ ∀ j, i ≤ j → ∀ (hj : j < R.length), ∀ x ∈ R[j], okRule c j x) → ∃ k, glossatorkeep3_isSolution.l0 k R c (R.length : Int) (i : Int) = some r := by
  have hn := hR.n60
  intro d
  induction d with
  | zero =>
    intro i r hi h
    refine ⟨1, ?_⟩
    simp only [glossatorkeep3_isSolution.l0]
    rw [if_neg (by omega), h.2 (fun j hj hj2 => by omega)]
  | succ d ih =>
    intro i r hi h
    have hi' : i < R.length := by omega
    have hw : wrap64 ((i : Int) + 1) = ((i + 1 : Nat) : Int) := by rw [w64 (by omega) (by omega)]; omega
    have c1 : (i : Int) < (R.length : Int) := by omega
    obtain ⟨k, hk⟩ := is1 hR hc i hi' R[i].length 0 r (by omega) (fun hall => by
      rw [hw]
      rw [List.drop_zero] at hall
      refine ih (i + 1) r (by omega) ⟨fun hr j hj hj2 => h.1 hr j (by omega) hj2, fun hr => h.2 (fun j hj hj2 => by
        rcases Nat.lt_or_ge i j with hij | hij
        · exact hr j hij hj2
        · have : j = i := by omega
          subst this
          exact hall)⟩) (fun hno => by
      rw [List.drop_zero] at hno
      cases hrb : r with
      | false => rfl
      | true => exact absurd (h.1 hrb i (Nat.le_refl _) hi') hno)
    refine ⟨k + 1, ?_⟩
    simp only [glossatorkeep3_isSolution.l0]
    rw [if_pos c1, if_pos (Int.natCast_nonneg _), if_pos c1, rdL_get R i hi']
    exact hk
theorem isSolution_is : ∃ r, (r = true ↔ Sol R c) ∧ ∃ k, glossatorkeep3_isSolution.f k R c = some r := by
  classical
  refine ⟨decide (Sol R c), by simp, ?_⟩
  exact is0 hR hc R.length 0 _ (by omega) ⟨fun h j _ hj x hx => of_decide_eq_true h j hj x hx, fun h => decide_eq_true (fun j hj x hx => h j (Nat.zero_le _) hj x hx)⟩
end
theorem example_is : glossatorkeep3_ruleExample.f 60 = some true := by kernel_rfl
theorem example_ge (k : Nat) (hk : 60 ≤ k) : glossatorkeep3_ruleExample.f k = some true := at_rounds (fun k => glossatorkeep3_ruleExample.mono k) hk example_is
theorem mod_range (a m : Int) (hm : 0 < m) (hm' : m ≤ 2000000) : ∃ r, glossatorref3_Mod.f a m = some r ∧ 0 ≤ r ∧ r < m := by
  unfold glossatorref3_Mod.f
  rw [if_neg (by omega)]
  have h1 := Int.tmod_lt_of_pos a hm
  by_cases h : Int.tmod a m < 0
  · rw [if_pos h]
    have h2 : -m < Int.tmod a m := Int.lt_tmod_of_pos a hm
    exact ⟨_, rfl, by rw [w64 (by omega) (by omega)]; omega, by rw [w64 (by omega) (by omega)]; omega⟩
  · rw [if_neg h]; exact ⟨_, rfl, by omega, h1⟩
theorem kt1 {n : Nat} (hn : n ≤ 60) {res c : List Int} (hr : Good n res) (hc : Good n c) (hsub : ∀ i : Int, 0 ≤ i → ∀ e, has res i e → has c i e) : ∀ (d i : Nat), i + d = n → ∃ k, glossatorkeep3_FixpointKnasterTarski.l1 k res c (res.length : Int) (i : Int) = some true := by
  have h1 := hr.len
  have h2 := hc.len
  intro d
  induction d with
  | zero =>
    intro i hi
    obtain ⟨k, hk⟩ : ∃ k : Nat, 60 ≤ k := ⟨60, Nat.le_refl _⟩
    refine ⟨k + 1, ?_⟩
    simp only [glossatorkeep3_FixpointKnasterTarski.l1]
    rw [if_neg (by omega), example_ge k hk, Option.bind_some]
  | succ d ih =>
    intro i hi
    obtain ⟨k, hk⟩ := ih (i + 1) (by omega)
    have hw : wrap64 ((i : Int) + 1) = ((i + 1 : Nat) : Int) := by rw [w64 (by omega) (by omega)]; omega
    have c1 : (i : Int) < (res.length : Int) := by omega
    have c2 : (i : Int) < (c.length : Int) := by omega
    refine ⟨k + 1, ?_⟩
    simp only [glossatorkeep3_FixpointKnasterTarski.l1]
    rw [if_pos c1, if_pos (Int.natCast_nonneg _), if_pos c1, if_pos c2, rd_g hr, rd_g hc, if_pos ((andNot_nat (g_lt hr _) (g_lt hc _)).2 (hsub _ (Int.natCast_nonneg _))), hw]
    exact hk
theorem set_good {n : Nat} {y : List Int} (h : Good n y) (i : Nat) {v : Int} (h0 : 0 ≤ v) (h1 : v < 1048576) : Good n (y.set i v) := ⟨by rw [List.length_set]; exact h.len, fun x hx => by
  rcases List.mem_or_eq_of_mem_set hx with hx | rfl
  · exact h.rng x hx
  · exact ⟨h0, h1⟩⟩
theorem kt0 {R : List (List S31)} (hR : Okr R) (other : List Int) {res : List Int} (hr : Good R.length res) (hmin : ∀ c : List Int, Sol R c → ∀ i : Int, 0 ≤ i → ∀ e, has res i e → has c i e) : ∀ (d i : Nat) (y : List Int), i + d = R.length → Good R.length y → ∃ k, glossatorkeep3_FixpointKnasterTarski.l0 k R other res y (R.length : Int) (i : Int) = some true := by
  have hn := hR.n60
  intro d
  induction d with
  | zero =>
    intro i y hi hy
    obtain ⟨r, h1, h2⟩ := isSolution_is hR hy
    obtain ⟨k, hk0, hk⟩ := ev_ge (fun k => glossatorkeep3_isSolution.mono _ _ k) h2 60
    cases r with
    | false =>
      refine ⟨k + 1, ?_⟩
      simp only [glossatorkeep3_FixpointKnasterTarski.l0]
      rw [if_neg (by omega), hk, Option.bind_some, if_neg (by simp), example_ge k hk0, Option.bind_some]
    | true =>
      obtain ⟨k2, hk3, hk4⟩ := ev_ge (fun k => (glossatorkeep3_FixpointKnasterTarski.mono_l k).2 _ _ _ _) (kt1 hn hr hy (hmin y (h1.1 rfl)) R.length 0 (by omega)) k
      refine ⟨k2 + 1, ?_⟩
      simp only [glossatorkeep3_FixpointKnasterTarski.l0]
      rw [if_neg (by omega), at_rounds (fun k => glossatorkeep3_isSolution.mono _ _ k) hk3 hk, Option.bind_some, if_pos rfl]
      exact hk4
  | succ d ih =>
    intro i y hi hy
    have hyl := hy.len
    have hw : wrap64 ((i : Int) + 1) = ((i + 1 : Nat) : Int) := by rw [w64 (by omega) (by omega)]; omega
    have c1 : (i : Int) < (R.length : Int) := by omega
    have c2 : (i : Int) < (y.length : Int) := by omega
    have e1 : ((i : Int)).toNat = i := by omega
    obtain ⟨t, ht, t0, t1⟩ := mod_range (rd other (i : Int)) 1048576 (by omega) (by omega)
    by_cases ho : (i : Int) < (other.length : Int)
    · obtain ⟨k, hk⟩ := ih (i + 1) ((y.set i 1048575).set i t) (by omega) (set_good (set_good hy i (by omega) (by omega)) i t0 t1)
      refine ⟨k + 1, ?_⟩
      simp only [glossatorkeep3_FixpointKnasterTarski.l0]
      rw [if_pos c1, if_pos (Int.natCast_nonneg _), if_pos c2, Option.bind_some, if_pos ho, ht, Option.bind_some, hw, e1]
      exact hk
    · obtain ⟨k, hk⟩ := ih (i + 1) (y.set i 1048575) (by omega) (set_good hy i (by omega) (by omega))
      refine ⟨k + 1, ?_⟩
      simp only [glossatorkeep3_FixpointKnasterTarski.l0]
      rw [if_pos c1, if_pos (Int.natCast_nonneg _), if_pos c2, Option.bind_some, if_neg ho, hw, e1]
      exact hk
theorem KnasterTarski (R : List (List S31)) (other : List Int) : ∃ k, glossatorkeep3_FixpointKnasterTarski.f k R other = some true := by
  obtain ⟨v, hv⟩ : ∃ v, fixpoint_Check.f R = some v := ⟨_, rfl⟩
  by_cases h0 : v = 0
  · subst h0
    have hR := okr_of hv
    have hn := hR.n60
    obtain ⟨res, hl, hr, hs, hmin⟩ := least_is hR hv
    have hrl := hr.len
    obtain ⟨b, hb1, hb2⟩ := isSolution_is hR hr
    have hbt : b = true := hb1.2 hs
    subst hbt
    have hgood : Good R.length (List.replicate R.length 0) := ⟨by simp, fun x hx => by rw [List.eq_of_mem_replicate hx]; omega⟩
    obtain ⟨k1, hk1⟩ := hl
    obtain ⟨k2, hk2a, hk2⟩ := ev_ge (fun k => glossatorkeep3_isSolution.mono _ _ k) hb2 (max k1 60)
    obtain ⟨k3, hk3a, hk3⟩ := ev_ge (fun k => (glossatorkeep3_FixpointKnasterTarski.mono_l k).1 _ _ _ _ _ _) (kt0 hR other hr hmin R.length 0 (List.replicate R.length 0) (by omega) hgood) k2
    have hm1 := Nat.le_max_left k1 60
    have hm2 := Nat.le_max_right k1 60
    have c1 : ((R.length : Int)).toNat ≤ 35184372088832 := by omega
    have c2 : (res.length : Int) = (R.length : Int) := by omega
    refine ⟨k3, ?_⟩
    unfold glossatorkeep3_FixpointKnasterTarski.f
    rw [example_ge k3 (by omega), Option.bind_some, if_pos rfl, at_rounds (fun k => fixpoint_Least.mono R k) (show k1 ≤ k3 from by omega) hk1, Option.bind_some]
    simp only
    rw [if_pos trivial, if_pos c2, at_rounds (fun k => glossatorkeep3_isSolution.mono _ _ k) hk3a hk2, Option.bind_some, if_pos rfl, if_pos (Int.natCast_nonneg _), if_pos c1, Option.bind_some, show ((R.length : Int)).toNat = R.length from by omega, show ((List.replicate R.length (0 : Int)).length : Int) = (R.length : Int) from by simp]
    exact hk3
  · refine ⟨60, ?_⟩
    unfold glossatorkeep3_FixpointKnasterTarski.f
    rw [example_ge 60 (Nat.le_refl _), Option.bind_some, if_pos rfl]
    unfold fixpoint_Least.f
    rw [hv, Option.bind_some, if_neg h0, Option.bind_some]
    simp only
    rw [if_neg h0, Option.bind_some, if_pos rfl]
    rfl
end Go.Proofs.Ytgjcembdmohhkaa.Fx
