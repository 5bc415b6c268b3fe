/- The law FixpointMonotone: adding a rule never removes elements; adding and removing it gives the least solution back. Condition: the rule's list of sets within the form's own reach. -/
import Derived.Test.YtgjcembdmohhkaaFsPm
import Derived.Test.YtgjcembdmohhkaaFshMo
set_option linter.unusedVariables false
set_option linter.unusedSimpArgs false
namespace Go.Proofs.Ytgjcembdmohhkaa.Fs
open Go.RowKit Go.Proofs.YtgjcembdmohhkaaW.PrintWords Go.Proofs.YtgjcembdmohhkaaW.PrintLast Go.Proofs.YtgjcembdmohhkaaW.PrintMore
open Go.Proofs.Ytgjcembdmohhkaa

/-- propagate from whatever start: the least solution above it. -/
theorem prop_is {R : List (List S31)} (hR : Okr R) (s p : List Int) (hgood : Good R.length s) (hp : Pend R.length p) (hcl : Closed R s p) : ∃ res, (∃ k, fixpoint_propagate.f k R s p = some res) ∧ Good R.length res ∧ Sol R res ∧ ∀ c : List Int, Sol R c → (∀ i : Int, 0 ≤ i → ∀ e, has s i e → has c i e) → ∀ i : Int, 0 ≤ i → ∀ e, has res i e → has c i e := by
  have hn := hR.n60
  have hwell : Well R.length (List.replicate R.length []) := ⟨by simp, fun l hl => by rw [List.eq_of_mem_replicate hl]; exact List.nodup_nil, fun l hl v hv => by rw [List.eq_of_mem_replicate hl] at hv; cases hv⟩
  have key : ∀ (d i : Nat) (m : List (List Int)), i + d = R.length → Well R.length m → Full R m i → ∃ m', Well R.length m' ∧ Full R m' R.length ∧ ∀ res, (∃ k, fixpoint_propagate.l3 k R s p m' = some res) → ∃ k, fixpoint_propagate.l0 k R s p m R (R.length : Int) (i : Int) = some res := by
    intro d
    induction d with
    | zero =>
      intro i m hi hm hf
      refine ⟨m, hm, by rw [show R.length = i from by omega]; exact hf, fun res h => ?_⟩
      obtain ⟨k, hk⟩ := h
      refine ⟨k + 1, ?_⟩
      simp only [fixpoint_propagate.l0]
      rw [if_neg (by omega)]
      exact hk
    | succ d ih =>
      intro i m hi hm hf
      have hi' : i < R.length := by omega
      have hmem := List.getElem_mem hi'
      have hall := addL_all (n := R.length) (i := i) ⟨Int.natCast_nonneg _, by omega⟩ R[i] m hm (hR.idx _ hmem)
      obtain ⟨m', h1, h2, h3⟩ := ih (i + 1) (addL i m R[i]) (by omega) hall.1 (fun j hj hjl r hr q hq => by
        rcases Nat.lt_or_ge j i with hji | hji
        · exact hall.2.2 q (hR.idx _ (List.getElem_mem hjl) r hr q hq).1 _ (hf j hji hjl r hr q hq)
        · have : j = i := by omega
          subst this
          exact hall.2.1 r hr q hq)
      refine ⟨m', h1, h2, fun res h => ?_⟩
      have h4 := h3 res h
      have hw : wrap64 ((i : Int) + 1) = ((i + 1 : Nat) : Int) := by rw [w64 (by omega) (by omega)]; omega
      rw [← hw] at h4
      obtain ⟨k, hk⟩ := l1_ok hR _ _ i hi' R[i] hmem R[i].length 0 m (by omega) hm h4
      have c1 : (i : Int) < (R.length : Int) := by omega
      refine ⟨k + 1, ?_⟩
      simp only [fixpoint_propagate.l0]
      rw [if_pos c1, if_pos (Int.natCast_nonneg _), if_pos c1, rdL_get R i hi']
      exact hk
  obtain ⟨m', h1, h2, h3⟩ := key R.length 0 (List.replicate R.length []) (by omega) hwell (fun j hj => by omega)
  obtain ⟨res, h4, h5, h6, h7⟩ := l3_main hR m' h1 h2 _ s p hgood hp hcl (Nat.le_refl _)
  obtain ⟨k, hk⟩ := h3 res h4
  refine ⟨res, ⟨k, ?_⟩, h5, h6, h7⟩
  have c2 : ((R.length : Int)).toNat ≤ 11728124029610 := by omega
  unfold fixpoint_propagate.f
  rw [if_pos (Int.natCast_nonneg _), if_pos c2, show ((R.length : Int)).toNat = R.length from by omega]
  exact hk
theorem equal_loop (l : List Int) (hl : l.length ≤ 1000) : ∀ (d i k : Nat), i + d = l.length → d < k → glossatorref3_Equal_int.l0 k l l (l.length : Int) (i : Int) = some true := by
  intro d
  induction d with
  | zero =>
    intro i k hi hk
    obtain ⟨k, rfl⟩ : ∃ m, k = m + 1 := ⟨k - 1, by omega⟩
    simp only [glossatorref3_Equal_int.l0]
    rw [if_neg (by omega)]
  | succ d ih =>
    intro i k hi hk
    obtain ⟨k, rfl⟩ : ∃ m, k = m + 1 := ⟨k - 1, by omega⟩
    have hw : wrap64 ((i : Int) + 1) = ((i + 1 : Nat) : Int) := by rw [w64 (by omega) (by omega)]; omega
    have c1 : (i : Int) < (l.length : Int) := by omega
    simp only [glossatorref3_Equal_int.l0]
    rw [if_pos c1, if_pos (Int.natCast_nonneg _), if_pos c1, if_pos c1, if_pos trivial, hw]
    exact ih (i + 1) k (by omega) (by omega)
theorem equal_self (l : List Int) (hl : l.length ≤ 1000) (k : Nat) (hk : 1001 ≤ k) : glossatorref3_Equal_int.f k l l = some true := by
  unfold glossatorref3_Equal_int.f
  rw [if_pos rfl]
  exact equal_loop l hl l.length 0 k (by omega) (by omega)
/-- vectors with the same elements are the same -/
theorem good_ext {n : Nat} {a b : List Int} (ha : Good n a) (hb : Good n b) (h1 : ∀ i : Int, 0 ≤ i → ∀ e, has a i e → has b i e) (h2 : ∀ i : Int, 0 ≤ i → ∀ e, has b i e → has a i e) : a = b := by
  apply List.ext_getElem
  · rw [ha.len, hb.len]
  · intro i h3 h4
    have e1 : g a (i : Int) = g b (i : Int) := by
      apply Nat.eq_of_testBit_eq
      intro e
      have q1 := h1 (i : Int) (Int.natCast_nonneg _) e
      have q2 := h2 (i : Int) (Int.natCast_nonneg _) e
      unfold has at q1 q2
      cases hx : (g a (i : Int)).testBit e <;> cases hy : (g b (i : Int)).testBit e <;> simp_all
    have e2 := rd_g ha (i : Int)
    have e3 := rd_g hb (i : Int)
    rw [rd_get a i h3] at e2
    rw [rd_get b i h4] at e3
    rw [e2, e3, e1]
/-- the rules of a set, one more -/
theorem ext_mem {R : List (List S31)} {s : Nat} (hs : s < R.length) (rule : S31) {i : Nat} (hi : i < (R.set s (R.getD s [] ++ [rule])).length) {r : S31} (hr : r ∈ (R.set s (R.getD s [] ++ [rule]))[i]) : (∃ hi' : i < R.length, r ∈ R[i]) ∨ (i = s ∧ r = rule) := by
  have hi' : i < R.length := by rwa [List.length_set] at hi
  rw [List.getElem_set] at hr
  split at hr
  · rename_i h
    subst h
    rcases List.mem_append.1 hr with h2 | h2
    · rw [List.getD_eq_getElem?_getD, List.getElem?_eq_getElem hs] at h2
      exact .inl ⟨hs, h2⟩
    · exact .inr ⟨rfl, List.mem_singleton.1 h2⟩
  · exact .inl ⟨hi', hr⟩
theorem ext_has {R : List (List S31)} {s : Nat} (hs : s < R.length) (rule : S31) {i : Nat} (hi : i < R.length) {r : S31} (hr : r ∈ R[i]) : r ∈ (R.set s (R.getD s [] ++ [rule]))[i]'(by rw [List.length_set]; exact hi) := by
  rw [List.getElem_set]
  split
  · rename_i h
    subst h
    rw [List.getD_eq_getElem?_getD, List.getElem?_eq_getElem hi]
    exact List.mem_append_left _ hr
  · exact hr
theorem sol_ext {R : List (List S31)} {s : Nat} (hs : s < R.length) (rule : S31) {c : List Int} (h : Sol (R.set s (R.getD s [] ++ [rule])) c) : Sol R c := fun i hi r hr e hd => h i (by rw [List.length_set]; exact hi) r (ext_has hs rule hi hr) e hd
/-- what is kept is within the least solution without the rule -/
theorem kept_within {R : List (List S31)} {s : Nat} (hs : s < R.length) (rule : S31) {ext : List (List S31)} (hx : ext = R.set s (R.getD s [] ++ [rule])) (hok : Okr ext) {sets aft d : List Int} (hgs : Good R.length sets) (hga : Good R.length aft) (hSs : Sol R sets) (hSa : Sol ext aft)
    (hmin : ∀ c : List Int, Sol ext c → ∀ i : Int, 0 ≤ i → ∀ e, has aft i e → has c i e) (hgd : Good R.length d) (seed : ∀ e, (dv rule aft).testBit e = true → has d (s : Int) e) (hc1 : C1 aft d ext ext.length) :
    ∀ i : Nat, i < R.length → ∀ e, has aft (i : Int) e → has d (i : Int) e ∨ has sets (i : Int) e := by
  have hl : ext.length = R.length := by rw [hx, List.length_set]
  let c : List Int := (List.range R.length).map fun i : Nat => ((g aft (i : Int) &&& (g d (i : Int) ||| g sets (i : Int)) : Nat) : Int)
  have hcl : c.length = R.length := by simp [c]
  have hhas : ∀ i : Nat, i < R.length → ∀ e, has c (i : Int) e ↔ has aft (i : Int) e ∧ (has d (i : Int) e ∨ has sets (i : Int) e) := by
    intro i hi e
    have e1 : g c (i : Int) = g aft (i : Int) &&& (g d (i : Int) ||| g sets (i : Int)) := by
      show (rd c (i : Int)).toNat = _
      rw [rd_get c i (by omega)]
      simp [c]
    unfold has
    rw [e1, Nat.testBit_and, Nat.testBit_or]
    simp
  have hSc : Sol ext c := by
    intro i hi r hr e hd
    have hi' : i < R.length := by omega
    have hrng := hok.idx _ (List.getElem_mem hi) r hr
    have hda : drv r aft e := ⟨hd.1, fun j hj => by
      obtain ⟨q1, q2⟩ := hrng j hj
      obtain ⟨jn, rfl⟩ : ∃ jn : Nat, j = (jn : Int) := ⟨j.toNat, by omega⟩
      exact ((hhas jn (by omega) e).1 (hd.2 _ hj)).1⟩
    refine (hhas i hi' e).2 ⟨hSa i hi r hr e hda, ?_⟩
    have hr2 := hr
    simp only [hx] at hr2
    rcases ext_mem hs rule _ hr2 with ⟨_, hrR⟩ | ⟨rfl, rfl⟩
    · by_cases hj : ∃ j ∈ r.f1, has d j e
      · obtain ⟨j, hj1, hj2⟩ := hj
        left
        obtain ⟨a, ha, ra⟩ := List.getElem_of_mem hr
        obtain ⟨b, hb, rb⟩ := List.getElem_of_mem hj1
        have h2 := hc1 i hi a (by rw [rdL_get ext i hi]; exact ha) b (by rw [rdL_get ext i hi, rdT_get _ a ha, ra]; exact hb)
        rw [rdL_get ext i hi, rdT_get _ a ha, ra, rd_get _ b hb, rb] at h2
        have h3 := more_bit (s := aft) hgd r (i : Int) j e
        rw [h2, Nat.zero_testBit] at h3
        have h4 : (dv r aft).testBit e = true := (dv_bit r aft e).2 hda
        have h5 : (g d j).testBit e = true := hj2
        rw [h4, h5] at h3
        unfold has
        simpa using h3
      · right
        refine hSs i hi' r hrR e ⟨hd.1, fun j hjm => ?_⟩
        obtain ⟨q1, q2⟩ := hrng j hjm
        obtain ⟨jn, rfl⟩ : ∃ jn : Nat, j = (jn : Int) := ⟨j.toNat, by omega⟩
        rcases ((hhas jn (by omega) e).1 (hd.2 _ hjm)).2 with h | h
        · exact absurd ⟨_, hjm, h⟩ hj
        · exact h
    · exact .inl (seed e ((dv_bit r aft e).2 hda))
  exact fun i hi e he => ((hhas i hi e).1 (hmin c hSc (i : Int) (Int.natCast_nonneg _) e he)).2
theorem diffF_rd2 {n : Nat} {s d : List Int} (hs : Good n s) (hd : Good n d) (i : Nat) (hi : i < n) : rd (diffF s d n) (i : Int) = ((andNotN (g s (i : Int)) (g d (i : Int)) : Nat) : Int) := by
  rw [rd_get _ i (by rw [diffF_len, hs.len]; exact hi)]
  unfold diffF
  rw [List.getElem_mapIdx, if_pos hi, ← rd_get s i (by rw [hs.len]; exact hi), rd_g hs, rd_g hd]
  exact (andNot_val (g_lt hs _) (g_lt hd _)).1
theorem diffF_has {n : Nat} {s d : List Int} (hs : Good n s) (hd : Good n d) (i : Nat) (hi : i < n) (e : Nat) : has (diffF s d n) (i : Int) e ↔ has s (i : Int) e ∧ ¬ has d (i : Int) e := by
  have e1 : rd (diffF s d n) (i : Int) = ((andNotN (g s (i : Int)) (g d (i : Int)) : Nat) : Int) := by
    rw [rd_get _ i (by rw [diffF_len, hs.len]; exact hi)]
    unfold diffF
    rw [List.getElem_mapIdx, if_pos hi, ← rd_get s i (by rw [hs.len]; exact hi), rd_g hs, rd_g hd]
    exact (andNot_val (g_lt hs _) (g_lt hd _)).1
  unfold has
  rw [show g (diffF s d n) (i : Int) = andNotN (g s (i : Int)) (g d (i : Int)) from by
    show (rd (diffF s d n) (i : Int)).toNat = _
    rw [e1, Int.toNat_natCast], (andNot_val (g_lt hs _) (g_lt hd _)).2.2 e]
  simp
theorem diffF_good {n : Nat} {s d : List Int} (hs : Good n s) (hd : Good n d) : Good n (diffF s d n) := by
  refine ⟨by rw [diffF_len]; exact hs.len, fun x hx => ?_⟩
  obtain ⟨i, hi, rfl⟩ := List.getElem_of_mem hx
  have hi' : i < n := by rw [diffF_len, hs.len] at hi; exact hi
  have hq : (diffF s d n)[i] = ((andNotN (g s (i : Int)) (g d (i : Int)) : Nat) : Int) := by rw [← rd_get _ i hi]; exact diffF_rd2 hs hd i hi'
  have := (andNot_val (g_lt hs (i : Int)) (g_lt hd (i : Int))).2.1
  rw [hq]; omega
theorem out_has {n : Nat} {s : List Int} (hs : Good n s) (i : Int) (hi : (n : Int) ≤ i) (e : Nat) : ¬ has s i e := by
  unfold has g rd
  rw [List.getD_eq_getElem?_getD, List.getElem?_eq_none (by rw [hs.len]; omega)]
  simp
theorem chk_some (R : List (List S31)) : ∃ t, fixpoint_Check.f R = some t := ⟨_, rfl⟩
theorem monotone_law (A0 : Option Addr) (c0 : Nat) (l0 : List (List S31)) (x1 : Int) (rule : S31) (A3 : Option Addr) (c3 : Nat) (w : World) (hr0 : Kd.C (Kd.slice 31 k31) w A0 l0.length l0) (hc0 : l0.length ≤ c0) (hr3 : Kd.C (Kd.int .i64) w A3 rule.f1.length rule.f1) (hc3 : rule.f1.length ≤ c3) (hl3 : rule.f1.length * 8 ≤ 140737488351232) :
    Calls Try.prog 4 #[.slice A0 l0.length c0, .int .i64 x1, .agg #[.int .i64 rule.f0, .slice A3 rule.f1.length c3]] w fun e w' => e = .returned (.bool true) ∧ Below w.heap.size w w' := by
  obtain ⟨t, ht⟩ := chk_some l0
  by_cases t0 : t = 0
  · subst t0
    have hR := okr_of ht
    obtain ⟨sets, ⟨k1, hk1⟩, hgood, hsol, hmin⟩ := least_is hR ht
    have hn60 := hR.n60
    by_cases hn0 : l0.length = 0
    · obtain ⟨K, hK1, hK2⟩ : ∃ K, k1 ≤ K ∧ 1001 ≤ K := ⟨max k1 1001, Nat.le_max_left _ _, Nat.le_max_right _ _⟩
      exact mo_empty K A0 c0 l0 x1 rule A3 c3 sets w hr0 hc0 hr3 hc3 (example_ge K (by omega)) (at_rounds (fun k => fixpoint_Least.mono l0 k) hK1 hk1) hR hn0
    · obtain ⟨st, hm1, hs0, hs1⟩ := mod_range x1 (l0.length : Int) (by omega) (by omega)
      obtain ⟨s, rfl⟩ : ∃ s : Nat, st = (s : Int) := ⟨st.toNat, by omega⟩
      have hs : s < l0.length := by omega
      obtain ⟨ext, hx⟩ : ∃ ext, ext = l0.set s (l0.getD s [] ++ [rule]) := ⟨_, rfl⟩
      have hxl : ext.length = l0.length := by rw [hx, List.length_set]
      obtain ⟨t, hck⟩ := chk_some ext
      by_cases t1 : t = 0
      · subst t1
        have hX := okr_of hck
        have hcl : Closed ext sets [(s : Int)] := by
          intro i hi hni r hr e hd
          simp only [hx] at hr
          rcases ext_mem hs rule _ hr with ⟨hi', hrR⟩ | ⟨rfl, _⟩
          · exact hsol i hi' r hrR e hd
          · exact absurd (List.mem_singleton.2 rfl) hni
        have hpend : Pend ext.length [(s : Int)] := ⟨by simp, fun x hx' => by rw [List.mem_singleton.1 hx']; omega⟩
        obtain ⟨aft, ⟨k2, hk2⟩, hga, hsa, hma⟩ := prop_is hX sets [(s : Int)] (hxl ▸ hgood) hpend hcl
        have hga2 : Good l0.length aft := hxl ▸ hga
        have hmin2 : ∀ c : List Int, Sol ext c → ∀ i : Int, 0 ≤ i → ∀ e, has aft i e → has c i e := fun c hc i hi e he => hma c hc (hmin c (sol_ext hs rule (hx ▸ hc))) i hi e he
        obtain ⟨K, hK1, hK2, hK3⟩ : ∃ K, k1 ≤ K ∧ 1001 ≤ K ∧ k2 ≤ K := ⟨max (max k1 1001) k2, by omega, by omega, by omega⟩
        have hsubset : ∀ i : Int, 0 ≤ i → ∀ e, has sets i e → has aft i e := hmin aft (sol_ext hs rule (hx ▸ hsa))
        obtain ⟨m, hm⟩ : ∃ m, (rd_L3 l0 (s : Int)).length = m := ⟨_, rfl⟩
        have hgetD : l0.getD s [] = rd_L3 l0 (s : Int) := by unfold rd_L3; rw [Int.toNat_natCast]
        have hxs : rd_L3 ext (s : Int) = rd_L3 l0 (s : Int) ++ [rule] := by
          rw [rdL_get ext s (by omega)]
          simp only [hx]
          rw [List.getElem_set_self, hgetD]
        have hxm : (rd_L3 ext (s : Int)).length = m + 1 := by rw [hxs, List.length_append, hm]; rfl
        have hxr : rule = rd_T31 (rd_L3 ext (s : Int)) (m : Int) := by
          rw [hxs, rdT_get _ m (by rw [List.length_append, hm]; simp)]
          rw [List.getElem_append_right (by omega)]
          simp [hm]
        have hxd : l0 = ext.set s ((ext.getD s []).take m) := by
          have e1 : ext.getD s [] = rd_L3 ext (s : Int) := by unfold rd_L3; rw [Int.toNat_natCast]
          rw [e1, hxs, List.take_append_of_le_length (by omega), List.take_of_length_le (by omega), hx, List.set_set, rdL_get l0 s hs]
          exact (List.set_getElem_self hs).symm
        refine mo_main K A0 c0 l0 x1 rule A3 c3 sets w hr0 hc0 hr3 hc3 (example_ge K (by omega)) s ext (at_rounds (fun k => fixpoint_Least.mono l0 k) hK1 hk1) hR hl3 hgood hm1 hs hx (equal_self sets (by rw [hgood.len]; omega) K hK2) hK2 hck aft (at_rounds (fun k => fixpoint_propagate.mono ext sets [(s : Int)] k) hK3 hk2) hX hga ?_ m hm hxm hxr hxd ?_
        · intro i hi
          rw [rd_g hgood (i : Int), rd_g hga2 (i : Int)]
          exact (andNot_nat (g_lt hgood _) (g_lt hga2 _)).2 (fun e he => hsubset (i : Int) (Int.natCast_nonneg _) e he)
        · intro d hd hc1
          rw [hxl]
          have hgd : Good l0.length d := hxl ▸ hd.good
          have hkeep := kept_within hs rule hx hX hgood hga2 hsol hsa hmin2 hgd hd.seed hc1
          have hgdiff : Good l0.length (diffF aft d l0.length) := diffF_good hga2 hgd
          have hin : ∀ i : Int, 0 ≤ i → ∀ e, has (diffF aft d l0.length) i e → has sets i e := by
            intro i hi e he
            rcases Int.lt_or_le i (l0.length : Int) with h | h
            · obtain ⟨i, rfl⟩ : ∃ n : Nat, i = (n : Int) := ⟨i.toNat, by omega⟩
              obtain ⟨h1, h2⟩ := (diffF_has hga2 hgd i (by omega) e).1 he
              exact (hkeep i (by omega) e h1).resolve_left h2
            · exact absurd he (out_has hgdiff i h e)
          obtain ⟨res, ⟨k3, hk3⟩, hgr, hsr, hmr⟩ := prop_is hR (diffF aft d l0.length) (idxs l0.length) hgdiff (idxs_pend _) (fun i hi hnp => absurd (idxs_mem hi) hnp)
          have : res = sets := good_ext hgr hgood (hmr sets hsol hin) (hmin res hsr)
          exact ⟨k3, this ▸ hk3⟩
      · obtain ⟨K, hK1, hK2⟩ : ∃ K, k1 ≤ K ∧ 1001 ≤ K := ⟨max k1 1001, Nat.le_max_left _ _, Nat.le_max_right _ _⟩
        exact mo_addno K A0 c0 l0 x1 rule A3 c3 sets w hr0 hc0 hr3 hc3 (example_ge K (by omega)) s ext (at_rounds (fun k => fixpoint_Least.mono l0 k) hK1 hk1) hR hl3 hgood hm1 hs hx (equal_self sets (by rw [hgood.len]; omega) K hK2) t hck t1
  · have hle : fixpoint_Least.f 60 l0 = some ([], t) := by
      unfold fixpoint_Least.f
      rw [ht, Option.bind_some, if_neg t0]
    exact mo_no 60 A0 c0 l0 x1 rule A3 c3 [] w hr0 hc0 hr3 hc3 (example_ge 60 (by omega)) t hle t0
end Go.Proofs.Ytgjcembdmohhkaa.Fs
