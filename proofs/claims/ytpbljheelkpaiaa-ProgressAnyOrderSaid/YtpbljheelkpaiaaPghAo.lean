/- ProgressAnyOrder: the walk. -/
import Derived.Test.YtpbljheelkpaiaaPghAa
import Derived.Test.YtpbljheelkpaiaaPgx1
import Derived.Test.YtpbljheelkpaiaaMp
import Derived.Laws.IdiomRangeMap
namespace Go.Proofs.Ytpbljheelkpaiaa.Pg
open Go.RowKit Go.Proofs.YtpbljheelkpaiaaW.PrintWords Go.Proofs.YtpbljheelkpaiaaW.PrintLast Go.Proofs.YtpbljheelkpaiaaW.PrintMore
open Go.Proofs.Ytpbljheelkpaiaa
set_option linter.unusedVariables false
set_option linter.unusedSimpArgs false
attribute [local go_sem] Oper.semAt_some max2_int min2_int max_two min_two
set_option maxHeartbeats 16000000 in
set_option maxRecDepth 100000 in
theorem any_order (tok : Int) (A1 : Option Addr) (c1 : Nat) (l1 : List Int) (size : Int) (A3 : Option Addr) (c3 : Nat) (l3 : List Int) (w : World) (htok : (Lit.int .i64 tok).wf = true) (hr1 : Kd.C (Kd.int .i64) w A1 l1.length l1) (hc1 : l1.length ≤ c1) (hr3 : Kd.C (Kd.int .i64) w A3 l3.length l3) (hc3 : l3.length ≤ c3) :
    Calls Try.prog 4 #[.int .i64 tok, .slice A1 l1.length c1, .int .i64 size, .slice A3 l3.length c3] w fun e w' => e = .returned (.bool true) ∧ Below w.heap.size w w' := by
  obtain ⟨T, hTT⟩ : ∃ T, (if tok < 0 then (0 : Int) else tok) = T := ⟨_, rfl⟩
  have hT0 : 0 ≤ T ∧ (Lit.int .i64 T).wf = true := by
    rw [← hTT]
    split
    · exact ⟨by omega, by decide⟩
    · exact ⟨by omega, htok⟩
  obtain ⟨nT, hnT, hnl⟩ : ∃ nT : Nat, (if (100 : Int) < (l1.length : Int) then (100 : Int) else (l1.length : Int)) = (nT : Int) ∧ nT ≤ l1.length ∧ nT ≤ 100 := by
    by_cases h : 100 < l1.length
    · exact ⟨100, by rw [if_pos (by omega)]; rfl, by omega, by omega⟩
    · exact ⟨l1.length, by rw [if_neg (by omega)], by omega, by omega⟩
  have hmn : (if 100 < l1.length then (100 : Int) else (l1.length : Int)) = (nT : Int) := by
    rw [← hnT]
    by_cases h : 100 < l1.length
    · rw [if_pos h, if_pos (by omega)]
    · rw [if_neg h, if_neg (by omega)]
  obtain ⟨y, hy⟩ : ∃ y, y = l1.take nT := ⟨_, rfl⟩
  have hyl : y.length = nT := by rw [hy, List.length_take]; omega
  have hry : Kd.C (Kd.int .i64) w A1 y.length y := by rw [hy]; exact Kd.C_take hr1 hnl.1
  obtain ⟨i03, hi03, _, hsz3, _⟩ := info_parts info3
  have hcut : ∀ W : World, (Instr.slice 22 (.slice A1 l1.length c1) none (some (.int .i64 (nT : Int))) none).run Try.prog W = .ok (.slice A1 y.length c1) W := by
    intro W
    have h1 := cut_to (P := Try.prog) 22 3 .i64 Try.underlying22 hi03 A1 l1.length c1 (nT : Int) (by omega) (by omega) hc1 W
    rw [h1, Int.toNat_natCast, hyl]
  obtain ⟨s, hM, hs0, hs1⟩ := mod_is size 20 (by omega) (by omega)
  obtain ⟨sz, hsz⟩ : ∃ sz : Nat, 1 + s = (sz : Int) := ⟨(1 + s).toNat, by omega⟩
  have hz1 : wrap64 (1 + s) = (sz : Int) := by rw [wr (by omega) (by omega)]; exact hsz
  have hz2 : IntKind.i64.wrap (1 + s) = (sz : Int) := (i64_w _).trans hz1
  obtain ⟨f, it, cs, hsp, hcl, hf, hcs, hil, hflat⟩ := chunks_are T y sz hT0.1 (by omega) (by omega) (by omega)
  have HT := Aside0.mk hT0
  have HY := Aside0.mk (And.intro hyl (And.intro hnl (Nat.le_trans (Nat.le_of_eq hyl) (Nat.le_trans hnl.1 hc1))))
  have HRY := Aside0.mk hry
  have HR3 := Aside0.mk hr3
  have HM := Aside0.mk hM
  have HSP := Aside0.mk hsp
  have HCS := Aside0.mk (show (cs.length = f + 1 ∧ f + 1 ≤ 1000) ∧ (∀ j : Nat, j < f + 1 → cs[j]? = some ⟨T, (j : Int), decide (j + 1 = f + 1), it j⟩) ∧ (∀ j : Nat, (it j).length ≤ 1000) ∧ (List.range (f + 1)).flatMap it = y from ⟨⟨hcl, hf⟩, hcs, hil, hflat⟩)
  have CEX := Aside0.mk (chunk_ok 400 (by omega))
  have z1_ : ((cs.length : Int) == 0) = false := beq_eq_false_iff_ne.mpr (by omega)
  have HB := Aside0.mk (Below.refl w.heap.size w)
  clear hT0 hyl hnl hry hr1 hr3 hM hsp hcl hf hcs hil hflat hi03 hsz3 htok hy hsz hs0 hs1 hc1 hc3
  go_enter Try.func4, Try.ntmps4
  go_wp2_with (first | (go_at_call 5; refine (glossatorkeep3_chunkExample.calls 400 true _ CEX.out).mono ?_; rintro e_ w2 ⟨rfl, hb⟩; have n_HB := Aside0.mk (below_step HB.out hb); clear HB; have HB := n_HB; clear n_HB hb))
  refine start_ (n := 10) (S := fun _ => True) (ds := []) #[false, false, false, false, false, false, false, false, false, false] (by kernel_rfl) rfl rfl trivial (fun hHeld => ?_)
  have n_HB := Aside0.mk (below_drew1 HB.out)
  clear HB
  have HB := n_HB
  clear n_HB
  generalize w2.drew = w3 at HB hHeld ⊢
  refine pure_ (i := 0) (N := some 25) (v := ?_) (a' := ?_) #[true, false, false, false, false, false, false, false, false, false] rfl rfl (by kernel_rfl) (fun _ _ _ h => h) (Or.inl ⟨by rfl, ?_⟩) ?_ ?_
  rotate_left
  · intro w'
    go_simp
    with_reducible rfl
  rotate_left
  · simp only [Act.put, List.setIfInBounds_toArray, List.set_cons_zero, List.set_cons_succ, i64_w, i32_w]
    rfl
  refine pure_ (i := 1) (N := some 26) (v := ?_) (a' := ?_) #[true, true, false, false, false, false, false, false, false, false] rfl rfl (by kernel_rfl) (fun _ _ _ h => h) (Or.inl ⟨by rfl, ?_⟩) ?_ ?_
  rotate_left
  · intro w'
    go_simp
    with_reducible rfl
  rotate_left
  · simp only [Act.put, List.setIfInBounds_toArray, List.set_cons_zero, List.set_cons_succ, i64_w, i32_w]
    rfl
  refine pure_ (i := 2) (N := some 27) (v := ?_) (a' := ?_) #[true, true, true, false, false, false, false, false, false, false] rfl rfl (by kernel_rfl) (fun _ _ _ h => h) (Or.inl ⟨by rfl, ?_⟩) ?_ ?_
  rotate_left
  · intro w'
    go_simp
    with_reducible rfl
  rotate_left
  · simp only [Act.put, List.setIfInBounds_toArray, List.set_cons_zero, List.set_cons_succ, i64_w, i32_w]
    rfl
  refine pure_ (i := 3) (N := some 28) (v := .int .i64 (nT : Int)) (a' := ?_) #[true, true, true, true, false, false, false, false, false, false] rfl rfl (by kernel_rfl) (fun _ _ _ h => h) (Or.inl ⟨by rfl, ?_⟩) ?_ ?_
  · intro w'
    have hrun := hmn
    go_simp
    all_goals first | done | (rw [hrun]; done) | (rw [hrun]; rfl) | (simp [hrun]; done) | exact hrun
  rotate_left
  · simp only [Act.put, List.setIfInBounds_toArray, List.set_cons_zero, List.set_cons_succ, i64_w, i32_w]
    rfl
  refine pure_ (i := 4) (N := some 29) (v := .slice A1 y.length c1) (a' := ?_) #[true, true, true, true, true, false, false, false, false, false] rfl rfl (by kernel_rfl) (fun _ _ _ h => h) (Or.inl ⟨by rfl, ?_⟩) ?_ ?_
  · intro w'
    have hrun := hcut w'
    go_simp
    all_goals first | done | (rw [hrun]; done) | (rw [hrun]; rfl) | (simp [hrun]; done) | exact hrun
  rotate_left
  · simp only [Act.put, List.setIfInBounds_toArray, List.set_cons_zero, List.set_cons_succ, i64_w, i32_w]
    rfl
  refine pure_ (i := 5) (N := some 30) (v := ?_) (a' := ?_) #[true, true, true, true, true, true, false, false, false, false] rfl rfl (by kernel_rfl) (fun _ _ _ h => h) (Or.inl ⟨by rfl, ?_⟩) ?_ ?_
  rotate_left
  · intro w'
    go_simp
    with_reducible rfl
  rotate_left
  · simp only [Act.put, List.setIfInBounds_toArray, List.set_cons_zero, List.set_cons_succ, i64_w, i32_w]
    rfl
  refine one_ (i := 6) (N := some 31) #[true, true, true, true, true, true, true, false, false, false] rfl rfl (by kernel_rfl) (by decide) (fun K hK => ?_)
  refine goes_ Try.func6 (by kernel_rfl) rfl #[.int .i64 size, .int .i64 20] (by rfl) rfl rfl (by (try simp only [List.map_toArray, List.map_cons, List.map_nil]); first | done | rfl) ?_
  refine (glossatorref3_Mod.calls size 20 s _ HM.out).mono ?_
  rintro e_ w' ⟨rfl, ⟨nd, rfl⟩⟩
  refine ⟨_, rfl, ?_⟩
  have n_HB := Aside0.mk (pw_below_drewN HB.out nd)
  clear HB
  have HB := n_HB
  clear n_HB
  generalize w3.drewN nd = w4 at HB ⊢
  refine hK.out _ _ trivial (fun hHeld => ?_)
  clear hK K
  refine norm_ (a' := ?_) ?_ ?_
  rotate_left
  · show Act.put _ (some 31) _ = _
    simp only [Act.put, List.setIfInBounds_toArray, List.set_cons_zero, List.set_cons_succ, i64_w, i32_w]
    rfl
  refine pure_ (i := 7) (N := some 32) (v := .int .i64 (sz : Int)) (a' := ?_) #[true, true, true, true, true, true, true, true, false, false] rfl rfl (by kernel_rfl) (fun _ _ _ h => h) (Or.inl ⟨by rfl, ?_⟩) ?_ ?_
  · intro w'
    have hrun := hz2
    go_simp
    all_goals first | done | (rw [hrun]; done) | (rw [hrun]; rfl) | (simp [hrun]; done) | exact hrun
  rotate_left
  · simp only [Act.put, List.setIfInBounds_toArray, List.set_cons_zero, List.set_cons_succ, i64_w, i32_w]
    rfl
  refine pure_ (i := 8) (N := some 1) (v := ?_) (a' := ?_) #[true, true, true, true, true, true, true, true, true, false] rfl rfl (by kernel_rfl) (fun _ _ _ h => h) (Or.inl ⟨by rfl, ?_⟩) ?_ ?_
  rotate_left
  · intro w'
    go_simp
    with_reducible rfl
  rotate_left
  · simp only [Act.put, List.setIfInBounds_toArray, List.set_cons_zero, List.set_cons_succ, i64_w, i32_w]
    rfl
  refine pure_ (i := 9) (N := some 2) (v := ?_) (a' := ?_) #[true, true, true, true, true, true, true, true, true, true] rfl rfl (by kernel_rfl) (fun _ _ _ h => h) (Or.inl ⟨by rfl, ?_⟩) ?_ ?_
  rotate_left
  · intro w'
    go_simp
    with_reducible rfl
  rotate_left
  · simp only [Act.put, List.setIfInBounds_toArray, List.set_cons_zero, List.set_cons_succ, i64_w, i32_w]
    rfl
  refine done_ (by kernel_rfl) ?_
  clear hHeld hcut hz1 hz2 hmn hnT
  go_wp2_with (first | (go_at_call 8; refine (progress_Split.calls T A1 c1 y (sz : Int) cs 0 _ (Kd.C_below HRY.out HB.out) HY.out.2.2 HSP.out).mono ?_; rintro e_ w5 ⟨v0, rfl, hS, hb⟩; obtain ⟨A9, c9, rfl⟩ := Kd.S_slice hS; have HC5 := Aside0.mk (show Kd.C (kF w5) w5 A9 cs.length cs from (Kd.S_reads' hS).2.2); have n_HB := Aside0.mk (below_step HB.out hb); clear HB; have HB := n_HB; have HB5 := Aside0.mk HB.out.size; clear n_HB hb hS) | (go_at_call 9; refine (new_calls T _).mono ?_; rintro e_ w6 ⟨gs, ob, rfl, hb, hAs, hgs, hob⟩; have HO := Aside0.mk (show Own w5.heap.size gs ob T [] none w6 from ⟨hAs, (fun _ => rfl), ⟨hob, (fun ib e => by cases e)⟩⟩); have H5 := Aside0.mk hb; have n_HB := Aside0.mk (below_step HB.out hb); clear HB; have HB := n_HB; clear n_HB hb hAs hgs hob) | (at_builtin; (refine Kd.R_append_rows (kF w5) (w0 := w) w.heap.size rfl (.tmp 55) (.tmp 56) 29 39 (.agg #[.int .i64 0, .int .i64 0, .bool false, .slice none 0 0]) 48 rfl Try.underlying29 info39 rfl (show 0 < 4 by decide) (by omega) (.slice none 0 0) [] cs A9 cs.length c9 (fun _ => True) (fun _ => False) rfl rfl (Kd.R_nil _ _ _ _ _) (Kd.C_below HC5.out H5.out) (fun _ _ h => h) (fun _ h => h.elim) (fun _ _ => trivial) HB.out HB.out.size (by have h_ := HCS.out.1; simp only [List.length_nil]; omega) ?_; rintro v7 w7 hv hb hg _; have HP := Aside0.mk (show Kd.R (kF w5) 39 w7 w.heap.size (fun _ => True) v7 cs from hv); have hb6 : Below w6.heap.size w6 w7 := (Below.refl _ _).grown hg (Nat.le_refl _) (fun k e => by cases e); have n1_ := Aside0.mk (HO.out.below hb6); have n2_ := Aside0.mk (H5.out.trans (hb6.mono H5.out.size)); have n3_ := Aside0.mk hb; clear HB HO H5; have HO := n1_; have H5 := n2_; have HB := n3_; clear n1_ n2_ n3_ hb hb6 hg hv)))
  have HSZ := Aside0.mk (show w.heap.size ≤ w5.heap.size from HB5.out)
  obtain ⟨F, hF⟩ : ∃ F : Nat → S39, ∀ j : Nat, F j = ⟨T, (j : Int), decide (j + 1 = f + 1), it j⟩ := ⟨_, fun _ => rfl⟩
  have HF := Aside0.mk hF
  have hcsF : cs = (List.range (f + 1)).map F := by
    refine List.ext_getElem? fun j => ?_
    by_cases hj : j < f + 1
    · rw [HCS.out.2.1 j hj, List.getElem?_map, List.getElem?_eq_getElem (by rw [List.length_range]; exact hj), List.getElem_range, Option.map_some, hF]
    · rw [List.getElem?_eq_none (by have h_ := HCS.out.1; omega), List.getElem?_eq_none (by rw [List.length_map, List.length_range]; omega)]
  have HP2 := Aside0.mk (hcsF ▸ HP.out : Kd.R (kF w5) 39 w7 w.heap.size (fun _ => True) v7 ((List.range (f + 1)).map F))
  clear hF hcsF HP hTT z1_
  go_loopg [12, 13] (f + 1) (fun kq v12 v13 w' => ∃ (i : Int) (ps : List Nat) (inn : Option Nat) (m : List (Int × S39)), v13 = .int .i64 i ∧ Aside0 (kq = ps.length ∧ i + kq = ((f + 1 : Nat) : Int) ∧ Kept T f it ps m) ∧ Aside0 (Kd.R (kF w5) 39 w' w.heap.size (fun _ => True) v12 (ps.map F)) ∧ Aside0 (Own w5.heap.size gs ob T m inn w') ∧ Aside0 (Below w.heap.size w w') ∧ Aside0 (Below w5.heap.size w5 w'))
  case atStart => exact ⟨0, List.range (f + 1), none, [], rfl, ⟨by rw [List.length_range], by omega, kept0 T f it⟩, HP2, HO, HB, H5⟩
  case round =>
    clear HP2 HO HB H5
    obtain ⟨i, ps, inn, m, rfl, HK, HP, HO, HB, H5⟩ := hrel
    obtain ⟨Ap, cp, hv12⟩ := Kd.R_slice HP.out
    subst hv12
    rcases Nat.eq_zero_or_pos ps.length with hps | hps
    · have hp0 := List.eq_nil_of_length_eq_zero hps
      subst hp0
      obtain ⟨hk1, hk2, hkept⟩ := HK.out
      have hml : m.length = f + 1 := by have h_ := hkept.len; simpa using h_
      obtain ⟨ib, hib⟩ : ∃ ib, inn = some ib := by
        cases hi : inn with
        | some ib => exact ⟨ib, rfl⟩
        | none =>
          have h_ := HO.out.nil hi
          rw [h_] at hml
          simp at hml
      subst hib
      have hgets : ∀ j : Nat, j < f + 1 → Mp.aget m (j : Int) = some ⟨T, (j : Int), decide (j + 1 = f + 1), it j⟩ := fun j hj => (hkept.has j hj).2 (by simp)
      have HG := Aside0.mk (show Fit (f + 1) m ∧ m.length = f + 1 ∧ (∀ j : Nat, j < f + 1 → ∃ c, Mp.aget m (j : Int) = some c ∧ c.f3 = it j) ∧ (∀ j : Nat, j < f + 1 → ∃ c, Mp.aget m (j : Int) = some c) from ⟨hkept.fit, hml, fun j hj => ⟨_, hgets j hj, rfl⟩, fun j hj => ⟨_, hgets j hj⟩⟩)
      clear HK HP H5 hk1 hk2 hkept hml hgets hps
      go_wp2_with (first | (go_at_call 10; refine (result_yes gs ob ib T f m _ HO.out.as_ HT.out.2 HG.out.1 HCS.out.1.2 HG.out.2.1 it HG.out.2.2.1 HCS.out.2.2.1).mono ?_; rintro e_ w8 ⟨v8, rfl, hv, hb⟩; rw [HCS.out.2.2.2] at hv; obtain ⟨A8, c8, rfl⟩ := Kd.R_slice hv; have HGC := Aside0.mk (show Kd.C (Kd.int .i64) w8 A8 y.length y ∧ y.length ≤ c8 from ⟨(Kd.R_reads' hv).2.2, (Kd.R_reads' hv).2.1⟩); have n1_ := Aside0.mk (below_step HB.out hb); have n2_ := Aside0.mk (HO.out.below hb); clear HB HO; have HB := n1_; have HO := n2_; clear n1_ n2_ hb hv) | (go_at_call 5; refine (glossatorkeep3_chunkExample.calls 400 true _ CEX.out).mono ?_; rintro e_ w9 ⟨rfl, hb⟩; have n1_ := Aside0.mk (below_step HB.out hb); have n2_ := Aside0.mk (HO.out.below hb); have n3_ := Aside0.mk (Kd.C_below HGC.out.1 hb); clear HB HO; have HB := n1_; have HO := n2_; have HGD := n3_; clear n1_ n2_ n3_ hb) | (go_at_call 13; refine (glossatorref3_Equal_int.calls 400 A8 c8 y A1 c1 y true _ HGD.out HGC.out.2 (Kd.C_below HRY.out HB.out) HY.out.2.2 (eq_self y (by have h_ := HY.out; omega))).mono ?_; rintro e_ w' ⟨rfl, ⟨nd, rfl⟩⟩) | (go_at_call 14; refine (missing_none gs ob ib T f m _ (HO.out.as_.below (by repeat (first | exact Below.refl _ _ | apply pw_below_drewN | apply below_drew1))) HT.out.2 HG.out.1 HCS.out.1.2 HG.out.2.2.2).mono ?_; rintro e_ w11 ⟨rfl, hb⟩; have n1_ := Aside0.mk (below_step (by repeat (first | exact HB.out | apply pw_below_drewN | apply below_drew1)) hb); clear HB; have HB := n1_; clear n1_ hb))
      go_ret
      exact ⟨rfl, HB.out⟩
    · have c1_ : decide ((ps.length : Int) > 0) = true := decide_eq_true (by omega)
      have c2_ : decide (0 < (ps.length : Int)) = true := c1_
      have c3_ : decide (0 < ps.length) = true := decide_eq_true hps
      obtain ⟨k1, rfl⟩ : ∃ k1, gk = k1 + 1 := ⟨gk - 1, by have h_ := HK.out.1; omega⟩
      have i0 : 0 ≤ i ∧ i ≤ 1000 := by have h_ := HK.out.2.1; have h2_ := HK.out.2.2.len; have h3_ := HK.out.1; have h4_ := HCS.out.1; omega
      have wi_ : wrap64 (i + 1) = i + 1 := w64_id (by omega) (by omega)
      have HPS := Aside0.mk hps
      obtain ⟨kz, hkz⟩ : ∃ kz : Int, kz = 0 := ⟨_, rfl⟩
      have HKZ := Aside0.mk hkz
      clear hkz
      by_cases hio : i < (l3.length : Int)
      · have o1_ : decide (i < (l3.length : Int)) = true := decide_eq_true hio
        obtain ⟨ad3, e3, hx3⟩ := Kd.at_int HR3.out i i0.1 hio
        cases e3
        have hx3' := (HB.out.cell (World.block_lt_of_cell? w _ hx3)).trans hx3
        obtain ⟨kk, hM2, hk0, hk1⟩ := mod_is (rd l3 i) (ps.length : Int) (by omega) (by have h_ := HK.out.2.2.len; have h4_ := HCS.out.1; omega)
        obtain ⟨k, hk⟩ : ∃ k : Nat, kk = (k : Int) := ⟨kk.toNat, by omega⟩
        have HKX := Aside0.mk (show kk = (k : Int) ∧ k < ps.length from ⟨hk, by omega⟩)
        have HM2 := Aside0.mk hM2
        have p1_ := eq_true i0.1
        have q1_ := eq_true hio
        clear hx3 hM2 hk0 hk1 hk hio i0 hps
        obtain ⟨pk, hpk⟩ : ∃ pk : Nat, ps[k]? = some pk := ⟨_, List.getElem?_eq_getElem HKX.out.2⟩
        obtain ⟨bb, hbb⟩ : ∃ bb : Bool, bb = decide (pk + 1 = f + 1) := ⟨_, rfl⟩
        have HPK := Aside0.mk (show (ps[k]? = some pk ∧ bb = decide (pk + 1 = f + 1)) ∧ pk < f + 1 ∧ Mp.aget m (pk : Int) = none ∧ Kept T f it (ps.eraseIdx k) (Mp.aset m (pk : Int) ⟨T, (pk : Int), bb, it pk⟩) from by
          have h1 := HK.out.2.2.step k HKX.out.2
          have h2 : ps[k]'HKX.out.2 = pk := by rw [List.getElem?_eq_getElem HKX.out.2] at hpk; injection hpk
          rw [h2] at h1
          exact ⟨⟨hpk, hbb⟩, HK.out.2.2.lt pk (List.mem_of_getElem? hpk), h1.1, by rw [hbb]; exact h1.2⟩)
        have RDF := Aside0.mk (show rd_T39 (ps.map F) kk = ⟨T, (pk : Int), bb, it pk⟩ from by
          have e : ∀ z : Int, z = ((k : Nat) : Int) → (ps.map F).getD z.toNat z39 = ⟨T, (pk : Int), bb, it pk⟩ := by
            intro z hz
            subst hz
            rw [Int.toNat_natCast, List.getD_eq_getElem?_getD, List.getElem?_map, hpk, hbb]
            exact HF.out pk
          exact e _ HKX.out.1)
        clear hpk hbb
        have KPB := Aside0.mk (show (0 : Int) ≤ kk ∧ kk < (ps.length : Int) from by have h_ := HKX.out; omega)
        go_upto_region 20 with (first | ((with_reducible refine gate_dst (N := 14) rfl ?_); refine Kd.event_run (v := .int .i64 kz) (w1 := wr) rfl (by rw [HKZ.out]; first | rfl | (go_simp; done) | (go_simp; rfl)) ?_) | (go_at_call 6; refine (glossatorref3_Mod.calls (rd l3 i) (ps.length : Int) kk _ HM2.out).mono ?_; rintro e_ w' ⟨rfl, ⟨nd, rfl⟩⟩; have n1_ := Aside0.mk (pw_below_drewN HB.out nd); have n2_ := Aside0.mk (HO.out.below (pw_below_drewN (Below.refl _ _) nd)); have n3_ := Aside0.mk (pw_below_drewN H5.out nd); have n4_ := Aside0.mk (Kd.R_below HP.out (pw_below_drewN (Below.refl _ _) nd)); clear HB HO H5 HP hx3'; have HB := n1_; have HO := n2_; have H5 := n3_; have HP := n4_; clear n1_ n2_ n3_ n4_) | (go_at_call 10; refine (result_any w5.heap.size gs ob inn T f m _ HO.out HT.out.2 HK.out.2.2.fit HCS.out.1.2 (by have h_ := HK.out.2.2.len; have h2_ := HPS.out; omega)).mono ?_; rintro e_ w8 ⟨rfl, hb⟩; have n1_ := Aside0.mk (below_step HB.out hb); have n2_ := Aside0.mk (HO.out.below hb); have n3_ := Aside0.mk (H5.out.trans (hb.mono H5.out.size)); have n4_ := Aside0.mk (Kd.R_below HP.out hb); clear HB HO H5 HP; have HB := n1_; have HO := n2_; have H5 := n3_; have HP := n4_; clear n1_ n2_ n3_ n4_ hb; obtain ⟨adp, A9', c9', eA, hx0, hx1, hx2, hx3, hl9, hc9⟩ := at_F (Kd.R_reads' HP.out).2.2 kk (by have h_ := HKX.out; omega) (by have h_ := HKX.out; rw [List.length_map]; omega); cases eA; have hrd := RDF.out; rw [hrd] at hx0 hx1 hx2 hx3 hl9 hc9; simp only at hx0 hx1 hx2 hx3 hl9 hc9; have HL9 := Aside0.mk hl9; have HC9 := Aside0.mk hc9; have kp_ := KPB.out; clear hrd hl9 hc9))
        go_upto_region 21 with (go_at_call 11; refine (add_any w5.heap.size gs ob inn T (f + 1) m _ HO.out H5.out.size HT.out.1 HT.out.2 HK.out.2.2.fit HCS.out.1.2 pk HPK.out.2.1 (pk : Int) rfl bb HPK.out.1.2 A9' c9' (it pk) (Kd.C_below HC9.out H5.out) HL9.out (HCS.out.2.2.1 pk) HPK.out.2.2.1).mono ?_; rintro e_ w9 ⟨rfl, ib, hO, hK, hcells⟩; have n1_ := Aside0.mk (hK.below' HB.out HB.out.size HSZ.out); have n2_ := Aside0.mk hO; have n3_ := Aside0.mk (hK.below' H5.out H5.out.size (Nat.le_refl _)); have n4_ := Aside0.mk (Kd.R_mono (Kd.R_step (Kd.R_bound HP.out) (fun k hk hlt => by obtain ⟨_, _, _, q, _, cells, hc⟩ := hk; exact hcells k _ _ _ hc)) (fun _ _ => trivial) : Kd.R (kF w5) 39 w9 w.heap.size (fun _ => True) _ (ps.map F)); clear HB HO H5 HP hO hK hcells hx0 hx1 hx2 hx3 HL9 HC9; have HB := n1_; have HO := n2_; have H5 := n3_; have HP := n4_; clear n1_ n2_ n3_ n4_; obtain ⟨adp, A9', c9', eA, hx0, hx1, hx2, hx3, hl9, hc9⟩ := at_F (Kd.R_reads' HP.out).2.2 kk (by have h_ := HKX.out; omega) (by have h_ := HKX.out; rw [List.length_map]; omega); cases eA; have hrd := RDF.out; rw [hrd] at hx0 hx1 hx2 hx3 hl9 hc9; simp only at hx0 hx1 hx2 hx3 hl9 hc9; have HL9 := Aside0.mk hl9; have HC9 := Aside0.mk hc9; clear hrd hl9 hc9)
        go_upto_region 24 with (go_at_call 11; refine (add_again gs ob ib T (f + 1) _ _ HO.out.as_ HT.out.1 HT.out.2 HPK.out.2.2.2.fit HCS.out.1.2 pk HPK.out.2.1 (pk : Int) rfl bb HPK.out.1.2 A9' c9' (it pk) (Kd.C_below HC9.out H5.out) HL9.out (HCS.out.2.2.1 pk) (by rw [Mp.aget_aset, if_pos rfl])).mono ?_; rintro e_ w10 ⟨rfl, hb⟩; have n1_ := Aside0.mk (below_step HB.out hb); have n2_ := Aside0.mk (HO.out.below hb); have n3_ := Aside0.mk (H5.out.trans (hb.mono H5.out.size)); have n4_ := Aside0.mk (Kd.R_below HP.out hb); clear HB HO H5 HP hx0 hx1 hx2 hx3 HL9 HC9; have HB := n1_; have HO := n2_; have H5 := n3_; have HP := n4_; clear n1_ n2_ n3_ n4_ hb)
        obtain ⟨i039, hi39, _, hsz39, _⟩ := info_parts info39
        obtain ⟨AA, hAA⟩ : ∃ AA : Option Addr, AA = (if cp = k + 1 then some adp else (some adp).map (·.add ((k + 1) * 4))) := ⟨_, rfl⟩
        have HCP := Aside0.mk (show ps.length ≤ cp from by have h_ := (Kd.R_reads' HP.out).2.1; rw [List.length_map] at h_; exact h_)
        have HCUT2 := Aside0.mk (show k < ps.length ∧ ps.length ≤ 1000 from ⟨HKX.out.2, by have h_ := HK.out.2.2.len; have h4_ := HCS.out.1; omega⟩)
        have hto : ∀ W : World, (Instr.slice 29 (.slice (some adp) ps.length cp) none (some (.int .i64 kk)) none).run Try.prog W = .ok (.slice (some adp) k cp) W := fun W => by
          rw [cut_to (P := Try.prog) 29 39 .i64 Try.underlying29 hi39 (some adp) ps.length cp kk KPB.out.1 (by have h_ := KPB.out; omega) HCP.out W]
          have e_ : (kk).toNat = k := by have h_ := HKX.out.1; omega
          rw [e_]
        have hfr : ∀ W : World, (Instr.slice 29 (.slice (some adp) ps.length cp) (some (.int .i64 (kk + 1))) none none).run Try.prog W = .ok (.slice AA (ps.length - (k + 1)) (cp - (k + 1))) W := fun W => by
          rw [cut_from (P := Try.prog) 29 39 .i64 Try.underlying29 hi39 4 hsz39 (some adp) ps.length cp (kk + 1) (by have h_ := KPB.out; omega) (by have h_ := KPB.out; omega) W]
          have e_ : (kk + 1).toNat = k + 1 := by have h_ := HKX.out.1; omega
          rw [e_, hAA]
        have hk1 : IntKind.i64.wrap (kk + 1) = kk + 1 := (i64_w _).trans (w64_id (by have h_ := KPB.out; omega) (by have h_ := KPB.out; have h2_ := HCUT2.out; omega))
        have HCUT := Aside0.mk (show ∀ (W : World) (n : Nat), Kd.R (kF w5) 39 W w.heap.size (fun _ => True) (.slice (some adp) n cp) (ps.map F) → Kd.C (kF w5) W (some adp) k ((ps.map F).take k) ∧ Kd.C (kF w5) W AA (ps.length - (k + 1)) ((ps.map F).drop (k + 1)) from fun W n h => by
          have h1 := (Kd.R_reads' h).2.2
          have h2 := Kd.C_take h1 (m := k) (by rw [List.length_map]; have h_ := HCUT2.out; omega)
          have h3 := Kd.C_drop h1 (m := k + 1) (c := cp) (by rw [List.length_map]; have h_ := HCUT2.out; omega) (by rw [List.length_map]; exact HCP.out)
          have e1 : ((ps.map F).take k).length = k := by rw [List.length_take, List.length_map]; have h_ := HCUT2.out; omega
          have e2 : ((ps.map F).drop (k + 1)).length = ps.length - (k + 1) := by rw [List.length_drop, List.length_map]
          rw [e1] at h2
          rw [e2] at h3
          exact ⟨h2, by rw [hAA]; exact h3⟩)

        refine start_ (n := 10) (S := fun _ => True) (ds := []) #[false, false, false, false, false, false, false, false, false, false] (by kernel_rfl) rfl rfl trivial (fun hHeld => ?_)
        have n1_ := Aside0.mk (below_drew1 HB.out)
        have n2_ := Aside0.mk (HO.out.below (below_drew1 (Below.refl _ _)))
        have n3_ := Aside0.mk (below_drew1 H5.out)
        have n4_ := Aside0.mk (Kd.R_drew HP.out)
        clear HB HO H5 HP
        generalize w10.drew = w11 at n1_ n2_ n3_ n4_ hHeld ⊢
        have HB := n1_
        have HO := n2_
        have H5 := n3_
        have HP := n4_
        clear n1_ n2_ n3_ n4_
        refine pure_ (i := 0) (N := some 112) (v := ?_) (a' := ?_) #[true, false, false, false, false, false, false, false, false, false] rfl rfl (by kernel_rfl) (fun _ _ _ h => h) (Or.inl ⟨by rfl, ?_⟩) ?_ ?_
        rotate_left
        · intro w'
          go_simp
          with_reducible rfl
        rotate_left
        · simp only [Act.put, List.setIfInBounds_toArray, List.set_cons_zero, List.set_cons_succ, i64_w, i32_w]
          rfl
        refine pure_ (i := 1) (N := some 113) (v := ?_) (a' := ?_) #[true, true, false, false, false, false, false, false, false, false] rfl rfl (by kernel_rfl) (fun _ _ _ h => h) (Or.inl ⟨by rfl, ?_⟩) ?_ ?_
        rotate_left
        · intro w'
          go_simp
          with_reducible rfl
        rotate_left
        · simp only [Act.put, List.setIfInBounds_toArray, List.set_cons_zero, List.set_cons_succ, i64_w, i32_w]
          rfl
        refine pure_ (i := 2) (N := some 114) (v := .slice (some adp) k cp) (a' := ?_) #[true, true, true, false, false, false, false, false, false, false] rfl rfl (by kernel_rfl) (fun _ _ _ h => h) (Or.inl ⟨by rfl, ?_⟩) ?_ ?_
        · intro w'
          have hrun := hto w'
          go_simp
          all_goals first | done | (rw [hrun]; done) | (rw [hrun]; rfl) | (simp [hrun]; done) | exact hrun
        rotate_left
        · simp only [Act.put, List.setIfInBounds_toArray, List.set_cons_zero, List.set_cons_succ, i64_w, i32_w]
          rfl
        refine pure_ (i := 4) (N := some 116) (v := ?_) (a' := ?_) #[true, true, true, false, true, false, false, false, false, false] rfl rfl (by kernel_rfl) (fun _ _ _ h => h) (Or.inl ⟨by rfl, ?_⟩) ?_ ?_
        rotate_left
        · intro w'
          go_simp
          with_reducible rfl
        rotate_left
        · simp only [Act.put, List.setIfInBounds_toArray, List.set_cons_zero, List.set_cons_succ, i64_w, i32_w]
          rfl
        refine pure_ (i := 5) (N := some 117) (v := ?_) (a' := ?_) #[true, true, true, false, true, true, false, false, false, false] rfl rfl (by kernel_rfl) (fun _ _ _ h => h) (Or.inl ⟨by rfl, ?_⟩) ?_ ?_
        rotate_left
        · intro w'
          go_simp
          with_reducible rfl
        rotate_left
        · simp only [Act.put, List.setIfInBounds_toArray, List.set_cons_zero, List.set_cons_succ, i64_w, i32_w]
          rfl
        refine pure_ (i := 6) (N := some 118) (v := .int .i64 (kk + 1)) (a' := ?_) #[true, true, true, false, true, true, true, false, false, false] rfl rfl (by kernel_rfl) (fun _ _ _ h => h) (Or.inl ⟨by rfl, ?_⟩) ?_ ?_
        · intro w'
          have hrun := hk1
          go_simp
          all_goals first | done | (rw [hrun]; done) | (rw [hrun]; rfl) | (simp [hrun]; done) | exact hrun
        rotate_left
        · simp only [Act.put, List.setIfInBounds_toArray, List.set_cons_zero, List.set_cons_succ, i64_w, i32_w]
          rfl
        refine pure_ (i := 7) (N := some 119) (v := .slice AA (ps.length - (k + 1)) (cp - (k + 1))) (a' := ?_) #[true, true, true, false, true, true, true, true, false, false] rfl rfl (by kernel_rfl) (fun _ _ _ h => h) (Or.inl ⟨by rfl, ?_⟩) ?_ ?_
        · intro w'
          have hrun := hfr w'
          go_simp
          all_goals first | done | (rw [hrun]; done) | (rw [hrun]; rfl) | (simp [hrun]; done) | exact hrun
        rotate_left
        · simp only [Act.put, List.setIfInBounds_toArray, List.set_cons_zero, List.set_cons_succ, i64_w, i32_w]
          rfl
        refine one_ (i := 3) (N := some 115) #[true, true, true, true, true, true, true, true, false, false] rfl rfl (by kernel_rfl) (by decide) (fun K hK => ?_)
        refine goes_ Try.func12 (by kernel_rfl) rfl #[.slice (some adp) k cp] (by rfl) rfl rfl (by (try simp only [List.map_toArray, List.map_cons, List.map_nil]); first | done | rfl) ?_
        refine (clone12 w5 (some adp) k cp ((ps.map F).take k) _ (HCUT.out w11 _ HP.out).1 (by have h_ := HCUT2.out; omega)).mono ?_
        rintro e_ w12 ⟨v12, rfl, hv, hb⟩
        refine ⟨_, rfl, ?_⟩
        obtain ⟨A12, c12, rfl⟩ := Kd.R_slice hv
        have HV := Aside0.mk (Kd.R_lower hv HB.out.size)
        have n1_ := Aside0.mk (below_step HB.out hb)
        have n4_ := Aside0.mk (Kd.C_below (HCUT.out w11 _ HP.out).2 hb)
        have HNB := Aside0.mk (Kd.R_base hv)
        have HB11 := Aside0.mk hb
        clear HB HP hv hb
        have HB := n1_
        have HCD := n4_
        clear n1_ n4_
        refine hK.out _ _ trivial (fun hHeld => ?_)
        clear hK K
        refine norm_ (a' := ?_) ?_ ?_
        rotate_left
        · show Act.put _ (some 115) _ = _
          simp only [Act.put, List.setIfInBounds_toArray, List.set_cons_zero, List.set_cons_succ, i64_w, i32_w]
          rfl
        refine one_ (i := 8) (N := some 120) #[true, true, true, true, true, true, true, true, true, false] rfl rfl (by kernel_rfl) (by decide) (fun K hK => ?_)
        refine Kd.R_append_rows_step (kF w5) (w0 := w) w.heap.size (by rfl) (.tmp 115) (.tmp 119) 29 39 (.agg #[.int .i64 0, .int .i64 0, .bool false, .slice none 0 0]) 48 rfl Try.underlying29 info39 rfl (show 0 < 4 by decide) (by omega) (.slice A12 ((ps.map F).take k).length c12) ((ps.map F).take k) ((ps.map F).drop (k + 1)) AA (ps.length - (k + 1)) (cp - (k + 1)) (fun _ => True) (fun _ => False) rfl rfl HV.out HCD.out (fun _ _ h => h) (fun _ h => h.elim) (fun _ _ => trivial) HB.out HB.out.size (by have h_ := HCUT2.out; have h2_ : ((ps.map F).take k).length ≤ k := List.length_take_le _ _; omega) ?_
        intro v13 w13 hv hb hg hat
        have HP := Aside0.mk hv
        have HB3 := Aside0.mk hb
        have hb13 := HB11.out.grown hg HB11.out.size (fun k e => HNB.out k e)
        have n2_ := Aside0.mk (HO.out.below hb13)
        have n3_ := Aside0.mk (H5.out.trans (hb13.mono H5.out.size))
        clear HB HO H5 HV HCD HB11 HNB hb13 hg hat hb hv
        have HO := n2_
        have H5 := n3_
        have HB := HB3
        clear n2_ n3_ HB3
        refine hK.out _ _ trivial (fun hHeld => ?_)
        clear hK K
        refine norm_ (a' := ?_) ?_ ?_
        rotate_left
        · show Act.put _ (some 120) _ = _
          simp only [Act.put, List.setIfInBounds_toArray, List.set_cons_zero, List.set_cons_succ, i64_w, i32_w]
          rfl
        refine pure_ (i := 9) (N := some 12) (v := ?_) (a' := ?_) #[true, true, true, true, true, true, true, true, true, true] rfl rfl (by kernel_rfl) (fun _ _ _ h => h) (Or.inl ⟨by rfl, ?_⟩) ?_ ?_
        rotate_left
        · intro w'
          go_simp
          with_reducible rfl
        rotate_left
        · simp only [Act.put, List.setIfInBounds_toArray, List.set_cons_zero, List.set_cons_succ, i64_w, i32_w]
          rfl
        refine done_ (by kernel_rfl) ?_
        clear hHeld
        go_wp2
        go_roundg k1
        case measure => exact Nat.lt_succ_self k1
        case rel =>
          refine ⟨i + 1, ps.eraseIdx k, some ib, _, by first | rfl | rw [wi_], ⟨?_, ?_, HPK.out.2.2.2⟩, ?_, HO, HB, H5⟩
          · have h_ := HK.out.1
            rw [List.length_eraseIdx_of_lt HKX.out.2]
            omega
          · have h_ := HK.out.2.1
            omega
          · refine ⟨?_⟩
            have e_ : (ps.eraseIdx k).map F = (ps.map F).take k ++ (ps.map F).drop (k + 1) := by
              rw [List.eraseIdx_eq_take_drop_succ, List.map_append, List.map_take, List.map_drop]
            rw [e_]
            exact HP.out

      · have o1_ : decide (i < (l3.length : Int)) = false := decide_eq_false hio
        have HKX := Aside0.mk (show kz = ((0 : Nat) : Int) ∧ 0 < ps.length from ⟨HKZ.out, hps⟩)
        clear hio i0 hps
        obtain ⟨pk, hpk⟩ : ∃ pk : Nat, ps[0]? = some pk := ⟨_, List.getElem?_eq_getElem HKX.out.2⟩
        obtain ⟨bb, hbb⟩ : ∃ bb : Bool, bb = decide (pk + 1 = f + 1) := ⟨_, rfl⟩
        have HPK := Aside0.mk (show (ps[0]? = some pk ∧ bb = decide (pk + 1 = f + 1)) ∧ pk < f + 1 ∧ Mp.aget m (pk : Int) = none ∧ Kept T f it (ps.eraseIdx 0) (Mp.aset m (pk : Int) ⟨T, (pk : Int), bb, it pk⟩) from by
          have h1 := HK.out.2.2.step 0 HKX.out.2
          have h2 : ps[0]'HKX.out.2 = pk := by rw [List.getElem?_eq_getElem HKX.out.2] at hpk; injection hpk
          rw [h2] at h1
          exact ⟨⟨hpk, hbb⟩, HK.out.2.2.lt pk (List.mem_of_getElem? hpk), h1.1, by rw [hbb]; exact h1.2⟩)
        have RDF := Aside0.mk (show rd_T39 (ps.map F) kz = ⟨T, (pk : Int), bb, it pk⟩ from by
          have e : ∀ z : Int, z = ((0 : Nat) : Int) → (ps.map F).getD z.toNat z39 = ⟨T, (pk : Int), bb, it pk⟩ := by
            intro z hz
            subst hz
            rw [Int.toNat_natCast, List.getD_eq_getElem?_getD, List.getElem?_map, hpk, hbb]
            exact HF.out pk
          exact e _ HKX.out.1)
        clear hpk hbb
        have KPB := Aside0.mk (show (0 : Int) ≤ kz ∧ kz < (ps.length : Int) from by have h_ := HKX.out; omega)
        go_upto_region 20 with (first | ((with_reducible refine gate_dst (N := 14) rfl ?_); refine Kd.event_run (v := .int .i64 kz) (w1 := wr) rfl (by rw [HKZ.out]; first | rfl | (go_simp; done) | (go_simp; rfl)) ?_) | (go_at_call 6; refine (glossatorref3_Mod.calls (rd l3 i) (ps.length : Int) kz _ HM2.out).mono ?_; rintro e_ w' ⟨rfl, ⟨nd, rfl⟩⟩; have n1_ := Aside0.mk (pw_below_drewN HB.out nd); have n2_ := Aside0.mk (HO.out.below (pw_below_drewN (Below.refl _ _) nd)); have n3_ := Aside0.mk (pw_below_drewN H5.out nd); have n4_ := Aside0.mk (Kd.R_below HP.out (pw_below_drewN (Below.refl _ _) nd)); clear HB HO H5 HP hx3'; have HB := n1_; have HO := n2_; have H5 := n3_; have HP := n4_; clear n1_ n2_ n3_ n4_) | (go_at_call 10; refine (result_any w5.heap.size gs ob inn T f m _ HO.out HT.out.2 HK.out.2.2.fit HCS.out.1.2 (by have h_ := HK.out.2.2.len; have h2_ := HPS.out; omega)).mono ?_; rintro e_ w8 ⟨rfl, hb⟩; have n1_ := Aside0.mk (below_step HB.out hb); have n2_ := Aside0.mk (HO.out.below hb); have n3_ := Aside0.mk (H5.out.trans (hb.mono H5.out.size)); have n4_ := Aside0.mk (Kd.R_below HP.out hb); clear HB HO H5 HP; have HB := n1_; have HO := n2_; have H5 := n3_; have HP := n4_; clear n1_ n2_ n3_ n4_ hb; obtain ⟨adp, A9', c9', eA, hx0, hx1, hx2, hx3, hl9, hc9⟩ := at_F (Kd.R_reads' HP.out).2.2 kz (by have h_ := HKX.out; omega) (by have h_ := HKX.out; rw [List.length_map]; omega); cases eA; have hrd := RDF.out; rw [hrd] at hx0 hx1 hx2 hx3 hl9 hc9; simp only at hx0 hx1 hx2 hx3 hl9 hc9; have HL9 := Aside0.mk hl9; have HC9 := Aside0.mk hc9; have kp_ := KPB.out; clear hrd hl9 hc9))
        go_upto_region 21 with (go_at_call 11; refine (add_any w5.heap.size gs ob inn T (f + 1) m _ HO.out H5.out.size HT.out.1 HT.out.2 HK.out.2.2.fit HCS.out.1.2 pk HPK.out.2.1 (pk : Int) rfl bb HPK.out.1.2 A9' c9' (it pk) (Kd.C_below HC9.out H5.out) HL9.out (HCS.out.2.2.1 pk) HPK.out.2.2.1).mono ?_; rintro e_ w9 ⟨rfl, ib, hO, hK, hcells⟩; have n1_ := Aside0.mk (hK.below' HB.out HB.out.size HSZ.out); have n2_ := Aside0.mk hO; have n3_ := Aside0.mk (hK.below' H5.out H5.out.size (Nat.le_refl _)); have n4_ := Aside0.mk (Kd.R_mono (Kd.R_step (Kd.R_bound HP.out) (fun k hk hlt => by obtain ⟨_, _, _, q, _, cells, hc⟩ := hk; exact hcells k _ _ _ hc)) (fun _ _ => trivial) : Kd.R (kF w5) 39 w9 w.heap.size (fun _ => True) _ (ps.map F)); clear HB HO H5 HP hO hK hcells hx0 hx1 hx2 hx3 HL9 HC9; have HB := n1_; have HO := n2_; have H5 := n3_; have HP := n4_; clear n1_ n2_ n3_ n4_; obtain ⟨adp, A9', c9', eA, hx0, hx1, hx2, hx3, hl9, hc9⟩ := at_F (Kd.R_reads' HP.out).2.2 kz (by have h_ := HKX.out; omega) (by have h_ := HKX.out; rw [List.length_map]; omega); cases eA; have hrd := RDF.out; rw [hrd] at hx0 hx1 hx2 hx3 hl9 hc9; simp only at hx0 hx1 hx2 hx3 hl9 hc9; have HL9 := Aside0.mk hl9; have HC9 := Aside0.mk hc9; clear hrd hl9 hc9)
        go_upto_region 24 with (go_at_call 11; refine (add_again gs ob ib T (f + 1) _ _ HO.out.as_ HT.out.1 HT.out.2 HPK.out.2.2.2.fit HCS.out.1.2 pk HPK.out.2.1 (pk : Int) rfl bb HPK.out.1.2 A9' c9' (it pk) (Kd.C_below HC9.out H5.out) HL9.out (HCS.out.2.2.1 pk) (by rw [Mp.aget_aset, if_pos rfl])).mono ?_; rintro e_ w10 ⟨rfl, hb⟩; have n1_ := Aside0.mk (below_step HB.out hb); have n2_ := Aside0.mk (HO.out.below hb); have n3_ := Aside0.mk (H5.out.trans (hb.mono H5.out.size)); have n4_ := Aside0.mk (Kd.R_below HP.out hb); clear HB HO H5 HP hx0 hx1 hx2 hx3 HL9 HC9; have HB := n1_; have HO := n2_; have H5 := n3_; have HP := n4_; clear n1_ n2_ n3_ n4_ hb)
        obtain ⟨i039, hi39, _, hsz39, _⟩ := info_parts info39
        obtain ⟨AA, hAA⟩ : ∃ AA : Option Addr, AA = (if cp = 0 + 1 then some adp else (some adp).map (·.add ((0 + 1) * 4))) := ⟨_, rfl⟩
        have HCP := Aside0.mk (show ps.length ≤ cp from by have h_ := (Kd.R_reads' HP.out).2.1; rw [List.length_map] at h_; exact h_)
        have HCUT2 := Aside0.mk (show 0 < ps.length ∧ ps.length ≤ 1000 from ⟨HKX.out.2, by have h_ := HK.out.2.2.len; have h4_ := HCS.out.1; omega⟩)
        have hto : ∀ W : World, (Instr.slice 29 (.slice (some adp) ps.length cp) none (some (.int .i64 kz)) none).run Try.prog W = .ok (.slice (some adp) 0 cp) W := fun W => by
          rw [cut_to (P := Try.prog) 29 39 .i64 Try.underlying29 hi39 (some adp) ps.length cp kz KPB.out.1 (by have h_ := KPB.out; omega) HCP.out W]
          have e_ : (kz).toNat = 0 := by have h_ := HKX.out.1; omega
          rw [e_]
        have hfr : ∀ W : World, (Instr.slice 29 (.slice (some adp) ps.length cp) (some (.int .i64 (kz + 1))) none none).run Try.prog W = .ok (.slice AA (ps.length - (0 + 1)) (cp - (0 + 1))) W := fun W => by
          rw [cut_from (P := Try.prog) 29 39 .i64 Try.underlying29 hi39 4 hsz39 (some adp) ps.length cp (kz + 1) (by have h_ := KPB.out; omega) (by have h_ := KPB.out; omega) W]
          have e_ : (kz + 1).toNat = 0 + 1 := by have h_ := HKX.out.1; omega
          rw [e_, hAA]
        have hk1 : IntKind.i64.wrap (kz + 1) = kz + 1 := (i64_w _).trans (w64_id (by have h_ := KPB.out; omega) (by have h_ := KPB.out; have h2_ := HCUT2.out; omega))
        have HCUT := Aside0.mk (show ∀ (W : World) (n : Nat), Kd.R (kF w5) 39 W w.heap.size (fun _ => True) (.slice (some adp) n cp) (ps.map F) → Kd.C (kF w5) W (some adp) 0 ((ps.map F).take 0) ∧ Kd.C (kF w5) W AA (ps.length - (0 + 1)) ((ps.map F).drop (0 + 1)) from fun W n h => by
          have h1 := (Kd.R_reads' h).2.2
          have h2 := Kd.C_take h1 (m := 0) (by rw [List.length_map]; have h_ := HCUT2.out; omega)
          have h3 := Kd.C_drop h1 (m := 0 + 1) (c := cp) (by rw [List.length_map]; have h_ := HCUT2.out; omega) (by rw [List.length_map]; exact HCP.out)
          have e1 : ((ps.map F).take 0).length = 0 := by rw [List.length_take, List.length_map]; have h_ := HCUT2.out; omega
          have e2 : ((ps.map F).drop (0 + 1)).length = ps.length - (0 + 1) := by rw [List.length_drop, List.length_map]
          rw [e1] at h2
          rw [e2] at h3
          exact ⟨h2, by rw [hAA]; exact h3⟩)

        refine start_ (n := 10) (S := fun _ => True) (ds := []) #[false, false, false, false, false, false, false, false, false, false] (by kernel_rfl) rfl rfl trivial (fun hHeld => ?_)
        have n1_ := Aside0.mk (below_drew1 HB.out)
        have n2_ := Aside0.mk (HO.out.below (below_drew1 (Below.refl _ _)))
        have n3_ := Aside0.mk (below_drew1 H5.out)
        have n4_ := Aside0.mk (Kd.R_drew HP.out)
        clear HB HO H5 HP
        generalize w10.drew = w11 at n1_ n2_ n3_ n4_ hHeld ⊢
        have HB := n1_
        have HO := n2_
        have H5 := n3_
        have HP := n4_
        clear n1_ n2_ n3_ n4_
        refine pure_ (i := 0) (N := some 112) (v := ?_) (a' := ?_) #[true, false, false, false, false, false, false, false, false, false] rfl rfl (by kernel_rfl) (fun _ _ _ h => h) (Or.inl ⟨by rfl, ?_⟩) ?_ ?_
        rotate_left
        · intro w'
          go_simp
          with_reducible rfl
        rotate_left
        · simp only [Act.put, List.setIfInBounds_toArray, List.set_cons_zero, List.set_cons_succ, i64_w, i32_w]
          rfl
        refine pure_ (i := 1) (N := some 113) (v := ?_) (a' := ?_) #[true, true, false, false, false, false, false, false, false, false] rfl rfl (by kernel_rfl) (fun _ _ _ h => h) (Or.inl ⟨by rfl, ?_⟩) ?_ ?_
        rotate_left
        · intro w'
          go_simp
          with_reducible rfl
        rotate_left
        · simp only [Act.put, List.setIfInBounds_toArray, List.set_cons_zero, List.set_cons_succ, i64_w, i32_w]
          rfl
        refine pure_ (i := 2) (N := some 114) (v := .slice (some adp) 0 cp) (a' := ?_) #[true, true, true, false, false, false, false, false, false, false] rfl rfl (by kernel_rfl) (fun _ _ _ h => h) (Or.inl ⟨by rfl, ?_⟩) ?_ ?_
        · intro w'
          have hrun := hto w'
          go_simp
          all_goals first | done | (rw [hrun]; done) | (rw [hrun]; rfl) | (simp [hrun]; done) | exact hrun
        rotate_left
        · simp only [Act.put, List.setIfInBounds_toArray, List.set_cons_zero, List.set_cons_succ, i64_w, i32_w]
          rfl
        refine pure_ (i := 4) (N := some 116) (v := ?_) (a' := ?_) #[true, true, true, false, true, false, false, false, false, false] rfl rfl (by kernel_rfl) (fun _ _ _ h => h) (Or.inl ⟨by rfl, ?_⟩) ?_ ?_
        rotate_left
        · intro w'
          go_simp
          with_reducible rfl
        rotate_left
        · simp only [Act.put, List.setIfInBounds_toArray, List.set_cons_zero, List.set_cons_succ, i64_w, i32_w]
          rfl
        refine pure_ (i := 5) (N := some 117) (v := ?_) (a' := ?_) #[true, true, true, false, true, true, false, false, false, false] rfl rfl (by kernel_rfl) (fun _ _ _ h => h) (Or.inl ⟨by rfl, ?_⟩) ?_ ?_
        rotate_left
        · intro w'
          go_simp
          with_reducible rfl
        rotate_left
        · simp only [Act.put, List.setIfInBounds_toArray, List.set_cons_zero, List.set_cons_succ, i64_w, i32_w]
          rfl
        refine pure_ (i := 6) (N := some 118) (v := .int .i64 (kz + 1)) (a' := ?_) #[true, true, true, false, true, true, true, false, false, false] rfl rfl (by kernel_rfl) (fun _ _ _ h => h) (Or.inl ⟨by rfl, ?_⟩) ?_ ?_
        · intro w'
          have hrun := hk1
          go_simp
          all_goals first | done | (rw [hrun]; done) | (rw [hrun]; rfl) | (simp [hrun]; done) | exact hrun
        rotate_left
        · simp only [Act.put, List.setIfInBounds_toArray, List.set_cons_zero, List.set_cons_succ, i64_w, i32_w]
          rfl
        refine pure_ (i := 7) (N := some 119) (v := .slice AA (ps.length - (0 + 1)) (cp - (0 + 1))) (a' := ?_) #[true, true, true, false, true, true, true, true, false, false] rfl rfl (by kernel_rfl) (fun _ _ _ h => h) (Or.inl ⟨by rfl, ?_⟩) ?_ ?_
        · intro w'
          have hrun := hfr w'
          go_simp
          all_goals first | done | (rw [hrun]; done) | (rw [hrun]; rfl) | (simp [hrun]; done) | exact hrun
        rotate_left
        · simp only [Act.put, List.setIfInBounds_toArray, List.set_cons_zero, List.set_cons_succ, i64_w, i32_w]
          rfl
        refine one_ (i := 3) (N := some 115) #[true, true, true, true, true, true, true, true, false, false] rfl rfl (by kernel_rfl) (by decide) (fun K hK => ?_)
        refine goes_ Try.func12 (by kernel_rfl) rfl #[.slice (some adp) 0 cp] (by rfl) rfl rfl (by (try simp only [List.map_toArray, List.map_cons, List.map_nil]); first | done | rfl) ?_
        refine (clone12 w5 (some adp) 0 cp ((ps.map F).take 0) _ (HCUT.out w11 _ HP.out).1 (by have h_ := HCUT2.out; omega)).mono ?_
        rintro e_ w12 ⟨v12, rfl, hv, hb⟩
        refine ⟨_, rfl, ?_⟩
        obtain ⟨A12, c12, rfl⟩ := Kd.R_slice hv
        have HV := Aside0.mk (Kd.R_lower hv HB.out.size)
        have n1_ := Aside0.mk (below_step HB.out hb)
        have n4_ := Aside0.mk (Kd.C_below (HCUT.out w11 _ HP.out).2 hb)
        have HNB := Aside0.mk (Kd.R_base hv)
        have HB11 := Aside0.mk hb
        clear HB HP hv hb
        have HB := n1_
        have HCD := n4_
        clear n1_ n4_
        refine hK.out _ _ trivial (fun hHeld => ?_)
        clear hK K
        refine norm_ (a' := ?_) ?_ ?_
        rotate_left
        · show Act.put _ (some 115) _ = _
          simp only [Act.put, List.setIfInBounds_toArray, List.set_cons_zero, List.set_cons_succ, i64_w, i32_w]
          rfl
        refine one_ (i := 8) (N := some 120) #[true, true, true, true, true, true, true, true, true, false] rfl rfl (by kernel_rfl) (by decide) (fun K hK => ?_)
        refine Kd.R_append_rows_step (kF w5) (w0 := w) w.heap.size (by rfl) (.tmp 115) (.tmp 119) 29 39 (.agg #[.int .i64 0, .int .i64 0, .bool false, .slice none 0 0]) 48 rfl Try.underlying29 info39 rfl (show 0 < 4 by decide) (by omega) (.slice A12 ((ps.map F).take 0).length c12) ((ps.map F).take 0) ((ps.map F).drop (0 + 1)) AA (ps.length - (0 + 1)) (cp - (0 + 1)) (fun _ => True) (fun _ => False) rfl rfl HV.out HCD.out (fun _ _ h => h) (fun _ h => h.elim) (fun _ _ => trivial) HB.out HB.out.size (by have h_ := HCUT2.out; have h2_ : ((ps.map F).take 0).length ≤ 0 := List.length_take_le _ _; omega) ?_
        intro v13 w13 hv hb hg hat
        have HP := Aside0.mk hv
        have HB3 := Aside0.mk hb
        have hb13 := HB11.out.grown hg HB11.out.size (fun k e => HNB.out k e)
        have n2_ := Aside0.mk (HO.out.below hb13)
        have n3_ := Aside0.mk (H5.out.trans (hb13.mono H5.out.size))
        clear HB HO H5 HV HCD HB11 HNB hb13 hg hat hb hv
        have HO := n2_
        have H5 := n3_
        have HB := HB3
        clear n2_ n3_ HB3
        refine hK.out _ _ trivial (fun hHeld => ?_)
        clear hK K
        refine norm_ (a' := ?_) ?_ ?_
        rotate_left
        · show Act.put _ (some 120) _ = _
          simp only [Act.put, List.setIfInBounds_toArray, List.set_cons_zero, List.set_cons_succ, i64_w, i32_w]
          rfl
        refine pure_ (i := 9) (N := some 12) (v := ?_) (a' := ?_) #[true, true, true, true, true, true, true, true, true, true] rfl rfl (by kernel_rfl) (fun _ _ _ h => h) (Or.inl ⟨by rfl, ?_⟩) ?_ ?_
        rotate_left
        · intro w'
          go_simp
          with_reducible rfl
        rotate_left
        · simp only [Act.put, List.setIfInBounds_toArray, List.set_cons_zero, List.set_cons_succ, i64_w, i32_w]
          rfl
        refine done_ (by kernel_rfl) ?_
        clear hHeld
        go_wp2
        go_roundg k1
        case measure => exact Nat.lt_succ_self k1
        case rel =>
          refine ⟨i + 1, ps.eraseIdx 0, some ib, _, by first | rfl | rw [wi_], ⟨?_, ?_, HPK.out.2.2.2⟩, ?_, HO, HB, H5⟩
          · have h_ := HK.out.1
            rw [List.length_eraseIdx_of_lt HKX.out.2]
            omega
          · have h_ := HK.out.2.1
            omega
          · refine ⟨?_⟩
            have e_ : (ps.eraseIdx 0).map F = (ps.map F).take 0 ++ (ps.map F).drop (0 + 1) := by
              rw [List.eraseIdx_eq_take_drop_succ, List.map_append, List.map_take, List.map_drop]
            rw [e_]
            exact HP.out

end Go.Proofs.Ytpbljheelkpaiaa.Pg
