/- KNASTER and TARSKI: the printed law answers true. No condition beside the arguments' size. -/
import Derived.Test.YtgjcembdmohhkaaFsPb
set_option linter.unusedVariables false
set_option linter.unusedSimpArgs false
set_option linter.unusedSectionVars false
namespace Go.Proofs.Ytgjcembdmohhkaa.Fs
open Go.RowKit Go.Proofs.YtgjcembdmohhkaaW.PrintWords Go.Proofs.YtgjcembdmohhkaaW.PrintLast Go.Proofs.YtgjcembdmohhkaaW.PrintMore
open Go.Proofs.Ytgjcembdmohhkaa

def idxs (n : Nat) : List Int := (List.range n).map fun i : Nat => (i : Int)
theorem indices_loop (n : Nat) (hn : n ≤ 1000) : ∀ (d i k : Nat) (l : List Int), i + d = n → l.length = n → (∀ j (hj : j < l.length), j < i → l[j] = (j : Int)) → d < k → fixpoint_indices.l0 k l (n : Int) (i : Int) = some (idxs n) := by
  intro d
  induction d with
  | zero =>
    intro i k l hi hl h hk
    obtain ⟨k, rfl⟩ : ∃ m, k = m + 1 := ⟨k - 1, by omega⟩
    simp only [fixpoint_indices.l0]
    rw [if_neg (by omega)]
    congr 1
    refine List.ext_getElem (by simp [idxs, hl]) fun j h1 h2 => ?_
    rw [h j h1 (by omega)]
    exact (show (idxs n)[j] = (j : Int) from by simp [idxs]).symm
  | succ d ih =>
    intro i k l hi hl h hk
    obtain ⟨k, rfl⟩ : ∃ m, k = m + 1 := ⟨k - 1, by omega⟩
    have hw : wrap64 ((i : Int) + 1) = ((i + 1 : Nat) : Int) := by rw [w64 (by omega) (by omega)]; omega
    have hnext := ih (i + 1) k (l.set i (i : Int)) (by omega) (by rw [List.length_set]; exact hl) (fun j hj hji => by
      rw [List.getElem_set]
      split
      · omega
      · exact h j (by rw [List.length_set] at hj; exact hj) (by omega)) (by omega)
    have c1 : (i : Int) < (n : Int) := by omega
    have c2 : (i : Int) < (l.length : Int) := by omega
    simp only [fixpoint_indices.l0]
    rw [if_pos c1, if_pos (Int.natCast_nonneg _), if_pos c2, hw, show ((i : Int)).toNat = i from by omega]
    exact hnext
theorem indices_is (n : Nat) (hn : n ≤ 1000) (k : Nat) (hk : 1001 ≤ k) : fixpoint_indices.f k (n : Int) = some (idxs n) := by
  unfold fixpoint_indices.f
  have c1 : ((n : Int)).toNat ≤ 35184372088832 := by omega
  rw [if_pos (Int.natCast_nonneg _), if_pos c1, Option.bind_some, show ((n : Int)).toNat = n from by omega]
  have := indices_loop n hn n 0 k (List.replicate n 0) (by omega) (by simp) (fun j _ hj => by omega) (by omega)
  rw [show ((List.replicate n (0 : Int)).length : Int) = (n : Int) from by simp]
  exact this
theorem idxs_pend (n : Nat) : Pend n (idxs n) := by
  refine ⟨?_, fun x hx => ?_⟩
  · unfold idxs
    exact List.pairwise_map.2 (List.nodup_range.imp fun h e => h (by omega))
  · unfold idxs at hx
    obtain ⟨i, hi, rfl⟩ := List.mem_map.1 hx
    have := List.mem_range.1 hi
    omega
theorem idxs_mem {n i : Nat} (h : i < n) : (i : Int) ∈ idxs n := List.mem_map.2 ⟨i, List.mem_range.2 h, rfl⟩
theorem zeros (n : Nat) (i : Int) (e : Nat) : ¬ has (List.replicate n 0) i e := by
  unfold has g rd
  rw [List.getD_eq_getElem?_getD, List.getElem?_replicate]
  split <;> simp
theorem least_is {R : List (List S31)} (hR : Okr R) (hc : fixpoint_Check.f R = some 0) : ∃ res, (∃ k, fixpoint_Least.f k R = some (res, 0)) ∧ Good R.length res ∧ Sol R res ∧ ∀ c : List Int, Sol R c → ∀ i : Int, 0 ≤ i → ∀ e, has res i e → has c i e := by
  have hn := hR.n60
  have hgood : Good R.length (List.replicate R.length 0) := ⟨by simp, fun x hx => by rw [List.eq_of_mem_replicate hx]; omega⟩
  have hcl : Closed R (List.replicate R.length 0) (idxs R.length) := fun i hi hnp => absurd (idxs_mem hi) hnp
  have hwell : Well R.length (List.replicate R.length []) := ⟨by simp, fun l hl => by rw [List.eq_of_mem_replicate hl]; exact List.nodup_nil, fun l hl v hv => by rw [List.eq_of_mem_replicate hl] at hv; cases hv⟩
  have hex : ∃ res, (∃ k, fixpoint_propagate.l0 k R (List.replicate R.length 0) (idxs R.length) (List.replicate R.length []) R (R.length : Int) ((0 : Nat) : Int) = some res) ∧ Good R.length res ∧ Sol R res ∧ ∀ c : List Int, Sol R c → ∀ i : Int, 0 ≤ i → ∀ e, has res i e → has c i e := by
    -- the readers are the same whatever the sets: take the work list's end over them
    have key : ∀ (d i : Nat) (m : List (List Int)), i + d = R.length → Well R.length m → Full R m i → ∃ m', Well R.length m' ∧ Full R m' R.length ∧ ∀ res, (∃ k, fixpoint_propagate.l3 k R (List.replicate R.length 0) (idxs R.length) m' = some res) → ∃ k, fixpoint_propagate.l0 k R (List.replicate R.length 0) (idxs R.length) m R (R.length : Int) (i : Int) = some res := by
      intro d
      induction d with
      | zero =>
        intro i m hi hm hf
        refine ⟨m, hm, by rw [show R.length = i from by omega]; exact hf, fun res h => ?_⟩
        obtain ⟨k, hk⟩ := h
        refine ⟨k + 1, ?_⟩
        simp only [fixpoint_propagate.l0]
        rw [if_neg (by omega)]
        exact hk
      | succ d ih =>
        intro i m hi hm hf
        have hi' : i < R.length := by omega
        have hmem := List.getElem_mem hi'
        have hall := addL_all (n := R.length) (i := i) ⟨Int.natCast_nonneg _, by omega⟩ R[i] m hm (hR.idx _ hmem)
        obtain ⟨m', h1, h2, h3⟩ := ih (i + 1) (addL i m R[i]) (by omega) hall.1 (fun j hj hjl r hr q hq => by
          rcases Nat.lt_or_ge j i with hji | hji
          · exact hall.2.2 q (hR.idx _ (List.getElem_mem hjl) r hr q hq).1 _ (hf j hji hjl r hr q hq)
          · have : j = i := by omega
            subst this
            exact hall.2.1 r hr q hq)
        refine ⟨m', h1, h2, fun res h => ?_⟩
        have h4 := h3 res h
        have hw : wrap64 ((i : Int) + 1) = ((i + 1 : Nat) : Int) := by rw [w64 (by omega) (by omega)]; omega
        rw [← hw] at h4
        obtain ⟨k, hk⟩ := l1_ok hR _ _ i hi' R[i] hmem R[i].length 0 m (by omega) hm h4
        have c1 : (i : Int) < (R.length : Int) := by omega
        refine ⟨k + 1, ?_⟩
        simp only [fixpoint_propagate.l0]
        rw [if_pos c1, if_pos (Int.natCast_nonneg _), if_pos c1, rdL_get R i hi']
        exact hk
    obtain ⟨m', h1, h2, h3⟩ := key R.length 0 (List.replicate R.length []) (by omega) hwell (fun j hj => by omega)
    obtain ⟨res, h4, h5, h6, h7⟩ := l3_main hR m' h1 h2 _ (List.replicate R.length 0) (idxs R.length) hgood (idxs_pend _) hcl (Nat.le_refl _)
    exact ⟨res, h3 res h4, h5, h6, fun c hc i hi e h => h7 c hc (fun q hq e h => absurd h (zeros _ _ _)) i hi e h⟩
  obtain ⟨res, hk, h5, h6, h7⟩ := hex
  refine ⟨res, ?_, h5, h6, h7⟩
  obtain ⟨k, hk0, hk1⟩ := ev_ge (fun k => (fixpoint_propagate.mono_l k).1 _ _ _ _ _ _ _) hk 2000
  refine ⟨k, ?_⟩
  have c1 : ((R.length : Int)).toNat ≤ 35184372088832 := by omega
  have c2 : ((R.length : Int)).toNat ≤ 11728124029610 := by omega
  unfold fixpoint_Least.f
  rw [hc, Option.bind_some, if_pos rfl, if_pos (Int.natCast_nonneg _), if_pos c1, indices_is R.length (by omega) k (by omega), Option.bind_some]
  unfold fixpoint_propagate.f
  rw [if_pos (Int.natCast_nonneg _), if_pos c2, show ((R.length : Int)).toNat = R.length from by omega]
  rw [show ((0 : Nat) : Int) = 0 from rfl] at hk1
  rw [hk1, Option.bind_some]
theorem example_is : glossatorkeep3_ruleExample.f 60 = some true := by kernel_rfl
theorem example_ge (k : Nat) (hk : 60 ≤ k) : glossatorkeep3_ruleExample.f k = some true := at_rounds (fun k => glossatorkeep3_ruleExample.mono k) hk example_is
theorem mod_range (a m : Int) (hm : 0 < m) (hm' : m ≤ 2000000) : ∃ r, glossatorref3_Mod.f a m = some r ∧ 0 ≤ r ∧ r < m := by
  unfold glossatorref3_Mod.f
  rw [if_neg (by omega)]
  have h1 := Int.tmod_lt_of_pos a hm
  by_cases h : Int.tmod a m < 0
  · rw [if_pos h]
    have h2 : -m < Int.tmod a m := Int.lt_tmod_of_pos a hm
    exact ⟨_, rfl, by rw [w64 (by omega) (by omega)]; omega, by rw [w64 (by omega) (by omega)]; omega⟩
  · rw [if_neg h]; exact ⟨_, rfl, by omega, h1⟩
end Go.Proofs.Ytgjcembdmohhkaa.Fs
