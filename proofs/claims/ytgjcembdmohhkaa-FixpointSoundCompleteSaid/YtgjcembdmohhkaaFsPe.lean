/- The law FixpointSoundComplete: a set has an element iff Derive proves it, and the proof stays valid. No condition. -/
import Derived.Test.YtgjcembdmohhkaaFsPd
set_option linter.unusedVariables false
set_option linter.unusedSimpArgs false
namespace Go.Proofs.Ytgjcembdmohhkaa.Fs
open Go.RowKit Go.Proofs.YtgjcembdmohhkaaW.PrintWords Go.Proofs.YtgjcembdmohhkaaW.PrintLast Go.Proofs.YtgjcembdmohhkaaW.PrintMore
open Go.Proofs.Ytgjcembdmohhkaa

def bkR (R : List (List S31)) (p : List Bool × List S59) (xs : List S59) : List Bool × List S59 := xs.foldr (fun s p => bkStep R p s) p
theorem xs_map (xs : List S59) : (List.range xs.length).map (fun k : Nat => rd_T59 xs (k : Int)) = xs := by
  apply List.ext_getElem?
  intro i
  rw [List.getElem?_map]
  rcases Nat.lt_or_ge i xs.length with h | h
  · rw [List.getElem?_range h, List.getElem?_eq_getElem h]
    unfold rd_T59
    simp [h]
  · rw [List.getElem?_eq_none (by rw [List.length_range]; exact h), List.getElem?_eq_none h]
    rfl
theorem bkF_R (R : List (List S31)) (set : Int) (xs : List S59) : bkF R set xs (List.range xs.length).reverse = bkR R ((List.replicate R.length false).set set.toNat true, []) xs := by
  unfold bkF bkR
  rw [List.foldl_reverse]
  conv => rhs; rw [← xs_map xs]
  rw [List.foldr_map]
theorem needs_dd : ∀ (A : List Int) (N : List Bool), (∀ j ∈ A, 0 ≤ j ∧ j < (N.length : Int)) → ∀ j : Int, 0 ≤ j → (dd (A.foldl (fun N (j : Int) => N.set j.toNat true) N) j ↔ dd N j ∨ j ∈ A)
  | [], N, _, j, _ => by simp
  | a :: A, N, h, j, hj => by
    have ha := h a List.mem_cons_self
    rw [List.foldl_cons, needs_dd A (N.set a.toNat true) (fun x hx => by rw [List.length_set]; exact h x (List.mem_cons_of_mem _ hx)) j hj, dd_set ha.1 ha.2 hj, List.mem_cons]
    constructor
    · rintro ((h1 | h1) | h1)
      · exact .inl h1
      · exact .inr (.inl h1)
      · exact .inr (.inr h1)
    · rintro (h1 | h1 | h1)
      · exact .inl (.inl h1)
      · exact .inl (.inr h1)
      · exact .inr h1
section
variable {R : List (List S31)} (hR : Okr R) {el : Int}
theorem bkR_len (p : List Bool × List S59) (hp : p.1.length = R.length) : ∀ xs : List S59, (bkR R p xs).1.length = R.length
  | [] => hp
  | s :: xs => by
    have ih := bkR_len p hp xs
    show (bkStep R (bkR R p xs) s).1.length = R.length
    unfold bkStep
    split
    · rw [needs_len]; exact ih
    · exact ih
theorem bkR_mem (p : List Bool × List S59) : ∀ xs : List S59, ∀ q ∈ (bkR R p xs).2, q ∈ p.2 ∨ q ∈ xs
  | [], q, hq => .inl hq
  | s :: xs, q, hq => by
    have ih := bkR_mem p xs
    change q ∈ (bkStep R (bkR R p xs) s).2 at hq
    unfold bkStep at hq
    split at hq
    · rcases List.mem_append.1 hq with hq | hq
      · exact (ih q hq).imp id (List.mem_cons_of_mem _)
      · rw [List.mem_singleton] at hq; exact .inr (hq ▸ List.mem_cons_self)
    · exact (ih q hq).imp id (List.mem_cons_of_mem _)
theorem bkR_pre (p : List Bool × List S59) : ∀ xs : List S59, ∃ t, (bkR R p xs).2 = p.2 ++ t
  | [] => ⟨[], by simp [bkR]⟩
  | s :: xs => by
    obtain ⟨t, ht⟩ := bkR_pre p xs
    change ∃ t, (bkStep R (bkR R p xs) s).2 = p.2 ++ t
    unfold bkStep
    split
    · exact ⟨t ++ [s], by rw [ht, List.append_assoc]⟩
    · exact ⟨t, ht⟩
include hR in
theorem bk_valid (N0 : List Bool) (hN0 : N0.length = R.length) : ∀ (xs : List S59) (B A : Int → Prop), Vd R B xs → (∀ s ∈ xs, Gs R el s) → (∀ j : Int, 0 ≤ j → B j → dd (bkR R (N0, []) xs).1 j → A j) → Vd R A (bkR R (N0, []) xs).2.reverse
  | [], B, A, _, _, _ => by simp [bkR, Vd]
  | s :: xs, B, A, hv, hg, hA => by
    have gs := hg s List.mem_cons_self
    have hidx := hR.idx _ gs.mem.1 _ gs.mem.2
    have hlen := bkR_len (R := R) (N0, []) hN0 xs
    have e : bkR R (N0, []) (s :: xs) = bkStep R (bkR R (N0, []) xs) s := rfl
    rw [e] at hA ⊢
    have hgt : ∀ s ∈ xs, Gs R el s := fun q hq => hg q (List.mem_cons_of_mem _ hq)
    unfold bkStep at hA ⊢
    by_cases hk : rdOf false (bkR R (N0, []) xs).1 s.f0 = true
    · rw [if_pos hk] at hA ⊢
      have hdd := needs_dd (ruleOf R s).f1 (bkR R (N0, []) xs).1 (fun j hj => by rw [hlen]; exact hidx j hj)
      simp only [List.reverse_append, List.reverse_cons, List.reverse_nil, List.nil_append, List.singleton_append]
      refine ⟨fun j hj => hA j (hidx j hj).1 (hv.1 j hj) ((hdd j (hidx j hj).1).2 (.inr hj)), ?_⟩
      refine bk_valid N0 hN0 xs _ _ hv.2 hgt (fun j h0 hb hd => ?_)
      rcases hb with hb | hb
      · exact .inl (hA j h0 hb ((hdd j h0).2 (.inl hd)))
      · exact .inr hb
    · rw [if_neg hk] at hA ⊢
      refine bk_valid N0 hN0 xs _ _ hv.2 hgt (fun j h0 hb hd => ?_)
      rcases hb with hb | hb
      · exact hA j h0 hb hd
      · subst hb; exact absurd hd hk
end
/-- a valid list of steps passes validStep -/
theorem vsF_true {S : List (List S31)} (hS : Okr S) {el : Int} (h0 : 0 ≤ el) (h1 : el < 20) {Q : List S59} (hg : ∀ s ∈ Q, Gs S el s) (hv : Vd S (fun _ => False) Q) (i : Nat) (hi : i < Q.length) : fixpoint_validStep.f S Q (i : Int) = if Q.length < 1000000000 then some true else none := by
  have hs : rd_T59 Q (i : Int) = Q[i] := by unfold rd_T59; simp [hi]
  have g := hg _ (List.getElem_mem hi)
  have hm := g.mem
  have hmask := hS.mask _ hm.1 _ hm.2
  have ha60 := hS.a60 _ hm.1 _ hm.2
  have er : rd_T31 (rd_L3 S Q[i].f0) Q[i].f1 = ruleOf S Q[i] := rfl
  unfold fixpoint_validStep.f
  rw [hs, er]
  by_cases hl : Q.length < 1000000000
  · rw [if_pos ⟨⟨by omega, by omega⟩, hl, by omega⟩, if_pos hl]
    congr 1
    unfold vsF
    rw [Int.toNat_natCast, hs, er, if_neg (by have := g.s0; omega), if_neg (by have := g.s0; omega), if_neg (by have := g.s1; omega), if_neg (by have := g.s1; omega), if_neg (by rw [g.s2]; omega), if_neg (by rw [g.s2]; omega), g.s2, bitF_is _ _ hmask.1 (by omega), g.bit, Bool.true_and, Bool.not_eq_true', List.any_eq_false]
    intro j hj hmiss
    rcases hv.at i hi j hj with h2 | ⟨d, hd, e⟩
    · exact h2
    · unfold missF at hmiss
      rw [Bool.not_eq_true', List.any_eq_false] at hmiss
      have h3 := hmiss d hd
      unfold hasF at h3
      have h4 := (hg d (List.mem_of_mem_take hd)).s2
      rw [e, h4] at h3
      simp at h3
  · rw [if_neg (fun h => hl h.2.1), if_neg hl]
theorem verify_loop {S : List (List S31)} (hS : Okr S) {el : Int} (h0 : 0 ≤ el) (h1 : el < 20) {Q : List S59} (hg : ∀ s ∈ Q, Gs S el s) (hv : Vd S (fun _ => False) Q) (hl : Q.length < 1000000) (hp : 0 < Q.length) (st : Int) (hlast : (Q.getD (Q.length - 1) z59).f0 = st) : ∀ (d i k : Nat), i + d = Q.length → d < k → fixpoint_Verify.l0 k S Q st el (Q.length : Int) (i : Int) = some true := by
  intro d
  induction d with
  | zero =>
    intro i k hi hk
    obtain ⟨k, rfl⟩ : ∃ m, k = m + 1 := ⟨k - 1, by omega⟩
    have hw : wrap64 ((Q.length : Int) - 1) = ((Q.length - 1 : Nat) : Int) := by rw [w64 (by omega) (by omega)]; omega
    have hr : rd_T59 Q ((Q.length - 1 : Nat) : Int) = Q.getD (Q.length - 1) z59 := by unfold rd_T59; rw [Int.toNat_natCast]
    have hm : Q.getD (Q.length - 1) z59 ∈ Q := by
      rw [List.getD_eq_getElem?_getD, List.getElem?_eq_getElem (by omega)]
      exact List.getElem_mem _
    simp only [fixpoint_Verify.l0]
    rw [if_neg (by omega), hw, if_pos (by omega), if_pos (by omega), hr, if_pos hlast, (hg _ hm).s2]
    simp
  | succ d ih =>
    intro i k hi hk
    obtain ⟨k, rfl⟩ : ∃ m, k = m + 1 := ⟨k - 1, by omega⟩
    have hi' : i < Q.length := by omega
    have hw : wrap64 ((i : Int) + 1) = ((i + 1 : Nat) : Int) := by rw [w64 (by omega) (by omega)]; omega
    simp only [fixpoint_Verify.l0]
    rw [if_pos (by omega), vsF_true hS h0 h1 hg hv i hi', if_pos (by omega), Option.bind_some, if_pos rfl, hw]
    exact ih (i + 1) k (by omega) (by omega)
theorem verify_ok {S : List (List S31)} (hck : fixpoint_Check.f S = some 0) {el : Int} (h0 : 0 ≤ el) (h1 : el < 20) {Q : List S59} (hg : ∀ s ∈ Q, Gs S el s) (hv : Vd S (fun _ => False) Q) (hl : Q.length < 1000000) (hp : 0 < Q.length) (st : Int) (hlast : (Q.getD (Q.length - 1) z59).f0 = st) (k : Nat) (hk : Q.length < k) : fixpoint_Verify.f k S Q st el = some true := by
  unfold fixpoint_Verify.f
  rw [hck, Option.bind_some, if_pos rfl, if_neg (by omega)]
  exact verify_loop (okr_of hck) h0 h1 hg hv hl hp st hlast Q.length 0 k (by omega) hk
/-- a rule more at the end of each list: the steps stay valid -/
theorem ext_rule {R : List (List S31)} (rule : S31) {el : Int} {s : S59} (h : Gs R el s) : ruleOf (R.map (· ++ [rule])) s = ruleOf R s ∧ Gs (R.map (· ++ [rule])) el s := by
  have h0 := h.s0
  have h1 := h.s1
  have e1 : rd_L3 R s.f0 = R[s.f0.toNat] := by unfold rd_L3; simp [show s.f0.toNat < R.length from by omega]
  have e2 : rd_L3 (R.map (· ++ [rule])) s.f0 = rd_L3 R s.f0 ++ [rule] := by
    rw [e1]
    unfold rd_L3
    simp [show s.f0.toNat < R.length from by omega]
  have e3 : ruleOf (R.map (· ++ [rule])) s = ruleOf R s := by
    unfold ruleOf
    rw [e2]
    unfold rd_T31
    rw [List.getD_eq_getElem?_getD, List.getD_eq_getElem?_getD, List.getElem?_append_left (by omega)]
  exact ⟨e3, ⟨by rw [List.length_map]; exact h0, ⟨h1.1, by rw [e2, List.length_append]; omega⟩, h.s2, by rw [e3]; exact h.bit⟩⟩
theorem ext_vd {R : List (List S31)} (rule : S31) {el : Int} : ∀ {Q : List S59} {A : Int → Prop}, Vd R A Q → (∀ s ∈ Q, Gs R el s) → Vd (R.map (· ++ [rule])) A Q
  | [], _, _, _ => trivial
  | s :: Q, A, h, hg => ⟨by rw [(ext_rule rule (hg s List.mem_cons_self)).1]; exact h.1, ext_vd rule h.2 (fun q hq => hg q (List.mem_cons_of_mem _ hq))⟩
theorem check_some (R : List (List S31)) : ∃ t, fixpoint_Check.f R = some t := ⟨_, rfl⟩
theorem sc_law (A0 : Option Addr) (c0 : Nat) (l0 : List (List S31)) (x1 x2 : Int) (rule : S31) (A3 : Option Addr) (c3 : Nat) (w : World) (hr0 : Kd.C (Kd.slice 31 k31) w A0 l0.length l0) (hc0 : l0.length ≤ c0) (hr3 : Kd.C (Kd.int .i64) w A3 rule.f1.length rule.f1) (hc3 : rule.f1.length ≤ c3) :
    Calls Try.prog 5 #[.slice A0 l0.length c0, .int .i64 x1, .int .i64 x2, .agg #[.int .i64 rule.f0, .slice A3 rule.f1.length c3]] w fun e w' => e = .returned (.bool true) ∧ Below w.heap.size w w' := by
  obtain ⟨t, ht⟩ := check_some l0
  by_cases t0 : t = 0
  · subst t0
    have hR := okr_of ht
    obtain ⟨res, ⟨k1, hk1⟩, hgood, hsol, hmin⟩ := least_is hR ht
    have hlee : ∀ k, k1 ≤ k → fixpoint_Least.f k l0 = some (res, 0) := fun k hk => at_rounds (fun k => fixpoint_Least.mono l0 k) hk hk1
    obtain ⟨K, hK⟩ : ∃ K, K = k1 + 10000 := ⟨_, rfl⟩
    have hle := hlee K (by omega)
    have hex := example_ge K (by omega)
    by_cases hn : l0.length = 0
    · exact sc_early K A0 c0 l0 x1 x2 rule A3 c3 res 0 w hr0 hc0 hr3 hc3 hex hle (.inr hn)
    · have hn60 := hR.n60
      obtain ⟨st, hm1, hs0, hs1⟩ := mod_range x1 (l0.length : Int) (by omega) (by omega)
      obtain ⟨el, hm2, he0, he1⟩ := mod_range x2 20 (by omega) (by omega)
      obtain ⟨D, steps, hd, hiv, hend⟩ := dloop_iv hR el (l0.length + 2) _ _ (iv_nil l0 el) (by omega)
      have hsound := vd_sound (el := el) hsol steps _ hiv.vd hiv.gs (fun j h => h.elim)
      have hrd := rd_g hgood st
      have hbit : Go.bits .and .i64 (rd res st / 2 ^ el.toNat) 1 = if (g res st).testBit el.toNat = true then 1 else 0 := by rw [hrd]; exact bit_nat _ (g_lt hgood st) _
      by_cases hh : has res st el.toNat
      · -- the set has the element
        have hdd := dd_complete hR hgood hsol hmin el D hend st hs0 hs1 hh
        obtain ⟨s, hs, es⟩ := (hiv.iff st hs0).1 hdd
        have hix : 0 ≤ ixs (setF st) steps 0 := by
          rcases Int.lt_or_le (ixs (setF st) steps 0) 0 with h | h
          · have := ixs_none (setF st) steps 0 (Int.le_refl _) h s hs
            unfold setF at this
            rw [es] at this
            simp at this
          · exact h
        obtain ⟨l, hlm, hlp, hlg⟩ := ixs_at (setF st) steps 0 (Int.le_refl _) hix
        obtain ⟨_, hlt⟩ := ixs_lt (setF st) steps 0 hix
        have hl0 : l.f0 = st := by unfold setF at hlp; simpa using hlp
        obtain ⟨kx, hkx⟩ : ∃ kx, kx = (ixs (setF st) steps 0).toNat := ⟨_, rfl⟩
        have hkl : kx < steps.length := by omega
        have hlg2 : steps[kx] = l := by
          rw [show (ixs (setF st) steps 0 - 0).toNat = kx from by omega, List.getElem?_eq_getElem hkl] at hlg
          exact Option.some.inj hlg
        have hxs : steps.take (kx + 1) = steps.take kx ++ [l] := by rw [List.take_succ_eq_append_getElem hkl, hlg2]
        obtain ⟨xs, hxse⟩ : ∃ xs, xs = steps.take (kx + 1) := ⟨_, rfl⟩
        have hN0 : ((List.replicate l0.length false).set st.toNat true).length = l0.length := by rw [List.length_set, List.length_replicate]
        obtain ⟨Q, hQ⟩ : ∃ Q, Q = proofF l0 st xs := ⟨_, rfl⟩
        have hQR : Q = (bkR l0 ((List.replicate l0.length false).set st.toNat true, []) xs).2.reverse := by rw [hQ]; unfold proofF; rw [bkF_R]
        have hgx : ∀ s ∈ xs, Gs l0 el s := fun s hs => hiv.gs s (List.mem_of_mem_take (hxse ▸ hs))
        have hvx : Vd l0 (fun _ => False) xs := hxse ▸ hiv.vd.take _
        have hgQ : ∀ s ∈ Q, Gs l0 el s := fun s hs => by
          rw [hQR, List.mem_reverse] at hs
          rcases bkR_mem _ xs s hs with h | h
          · cases h
          · exact hgx s h
        have hvQ : Vd l0 (fun _ => False) Q := by
          rw [hQR]
          exact bk_valid hR _ hN0 xs _ _ hvx hgx (fun j _ h _ => h)
        have hQlast : ∃ t, Q = t ++ [l] := by
          have e1 : bkR l0 ((List.replicate l0.length false).set st.toNat true, []) xs = bkR l0 (bkStep l0 ((List.replicate l0.length false).set st.toNat true, []) l) (steps.take kx) := by
            rw [hxse, hxs]
            unfold bkR
            rw [List.foldr_append]
            rfl
          have e2 : (bkStep l0 ((List.replicate l0.length false).set st.toNat true, []) l).2 = [l] := by
            unfold bkStep
            rw [if_pos (by rw [hl0]; exact (dd_set hs0 (by rw [List.length_replicate]; exact hs1) hs0).2 (.inr rfl))]
            rfl
          obtain ⟨t, ht2⟩ := bkR_pre (R := l0) (bkStep l0 ((List.replicate l0.length false).set st.toNat true, []) l) (steps.take kx)
          rw [hQR, e1, ht2, e2]
          exact ⟨t.reverse, by simp⟩
        obtain ⟨tq, htq⟩ := hQlast
        have hQp : 0 < Q.length := by rw [htq, List.length_append]; simp
        have hQl : Q.length < 10000 := by
          have h1 := (bkF_len l0 st xs (List.range xs.length).reverse).2
          rw [hQ]
          unfold proofF
          rw [List.length_reverse]
          rw [List.length_reverse, List.length_range] at h1
          have h2 : xs.length ≤ steps.length := by rw [hxse, List.length_take]; omega
          have h3 := dloop_len el l0 _ _ _ _ hd
          have h4 : (l0.length + 2) * l0.length ≤ 62 * 60 := Nat.mul_le_mul (by omega) hn60
          simp only [List.length_nil, Nat.zero_add] at h3
          omega
        have hlast : (Q.getD (Q.length - 1) z59).f0 = st := by
          rw [htq, List.getD_eq_getElem?_getD, List.getElem?_append_right (by rw [List.length_append]; simp), List.length_append]
          simp [hl0]
        have hde : fixpoint_Derive.f l0 st el = some (Q, 0) := by
          unfold fixpoint_Derive.f
          rw [ht, Option.bind_some, if_pos rfl, if_neg (by omega), hd, Option.bind_some, if_neg (by omega), hQ, hxse, hkx]
        obtain ⟨t2, ht2⟩ := check_some (l0.map (· ++ [rule]))
        refine sc_main K A0 c0 l0 x1 x2 rule A3 c3 res w hr0 hc0 hr3 hc3 hex hle st el Q 0 hm1 hm2 ⟨hs0, hs1⟩ ⟨he0, he1⟩ hgood.len hde ?_ rfl (verify_ok ht he0 he1 hgQ hvQ (by omega) hQp st hlast K (by omega)) hR _ rfl t2 ht2 (fun e => ?_)
        · rw [hbit, if_pos (show (g res st).testBit el.toNat = true from hh)]; rfl
        · subst e
          exact verify_ok ht2 he0 he1 (fun s hs => (ext_rule rule (hgQ s hs)).2) (ext_vd rule hvQ hgQ) (by omega) hQp st hlast K (by omega)
      · have hnone : ixs (setF st) steps 0 < 0 := by
          rcases Int.lt_or_le (ixs (setF st) steps 0) 0 with h | h
          · exact h
          · obtain ⟨l, hlm, hlp, _⟩ := ixs_at (setF st) steps 0 (Int.le_refl _) h
            have hl0 : l.f0 = st := by unfold setF at hlp; simpa using hlp
            exact absurd (hl0 ▸ hsound l hlm) hh
        have hde : fixpoint_Derive.f l0 st el = some ([], 5) := by
          unfold fixpoint_Derive.f
          rw [ht, Option.bind_some, if_pos rfl, if_neg (by omega), hd, Option.bind_some, if_pos hnone]
        refine sc_zero K A0 c0 l0 x1 x2 rule A3 c3 res w hr0 hc0 hr3 hc3 hex hle st el [] 5 hm1 hm2 ⟨hs0, hs1⟩ ⟨he0, he1⟩ hgood.len hde ?_ rfl ?_
        · unfold has at hh
          rw [hbit, if_neg hh]; rfl
        · unfold fixpoint_Verify.f
          rw [ht, Option.bind_some, if_pos rfl, if_pos (by simp)]
  · have hle : fixpoint_Least.f 60 l0 = some ([], t) := by
      unfold fixpoint_Least.f
      rw [ht, Option.bind_some, if_neg t0]
    exact sc_early 60 A0 c0 l0 x1 x2 rule A3 c3 [] t w hr0 hc0 hr3 hc3 (example_ge 60 (by omega)) hle (.inl t0)
end Go.Proofs.Ytgjcembdmohhkaa.Fs
