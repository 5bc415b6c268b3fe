/- fixpoint.Solver.Remove of the rule that was appended last. -/
import Derived.RangeFuncNested
import Derived.RangeFuncBound
import Derived.RangeFuncCalls
import Derived.RangeFuncLeaves
import Derived.RangeFuncBox
import Derived.Shelf.Abstract
import Derived.Shelf.RegionOpen
import Derived.WalkKit
import Derived.OwnWalkIn
import Derived.TacticsInMore
import Derived.LoopNIn
import Derived.LoopIn
import Derived.BigQuiet
import Derived.Test.YtgjcembdmohhkaaFshDl
import Derived.Test.YtgjcembdmohhkaaFshSc
import Derived.Test.YtgjcembdmohhkaaFsPm
import Derived.Lib.SliceRun
import Derived.Test.YtgjcembdmohhkaaFsx3
namespace Go.Proofs.Ytgjcembdmohhkaa.Fs
open Go.RowKit Go.Shelf Go.Proofs.YtgjcembdmohhkaaW.PrintWords Go.Proofs.YtgjcembdmohhkaaW.PrintLast Go.Proofs.YtgjcembdmohhkaaW.PrintMore
open Go.Proofs.Ytgjcembdmohhkaa
set_option linter.unusedVariables false
set_option linter.unusedSimpArgs false
attribute [local go_sem] Oper.semAt_some
theorem der_n (k : Nat) (a0_0 : Int) (A0_1 : Option Addr) (c0_1 : Nat) (l0_1 : List Int) (A1 : Option Addr) (c1 : Nat) (l1 : List Int) (n : Nat) (r : Int) (w : World) (hn : l1.length = n) (hr0_1 : Kd.C (Kd.int .i64) w A0_1 l0_1.length l0_1) (hc0_1 : l0_1.length ≤ c0_1) (hr1 : Kd.C (Kd.int .i64) w A1 n l1) (hc1 : n ≤ c1) (h : fixpoint_derive.f k a0_0 l0_1 l1 = some r) :
    Calls Try.prog 23 #[.agg #[.int .i64 a0_0, .slice A0_1 l0_1.length c0_1], .slice A1 n c1] w fun e w' => e = .returned (.int .i64 r) ∧ Below w.heap.size w w' := by
  subst hn
  exact fixpoint_derive.calls k a0_0 A0_1 c0_1 l0_1 A1 c1 l1 r w hr0_1 hc0_1 hr1 hc1 h
theorem cD {W : World} {base gd n capd : Nat} {ok : Nat → Prop} {d : List Int} (h : Kd.R (Kd.int .i64) 3 W base ok (.slice (some ⟨gd, 0, none⟩) n capd) d) (j : Int) (h0 : 0 ≤ j) (h1 : j < (n : Int)) : W.cell? ⟨gd, j.toNat, none⟩ = some (.int .i64 (rd d j)) ∧ W.frozen? ⟨gd, j.toNat, none⟩ = false := Kd.R_celln (0 : Int) h j h0 h1
theorem cDn {W : World} {base gd n capd : Nat} {ok : Nat → Prop} {d : List Int} (h : Kd.R (Kd.int .i64) 3 W base ok (.slice (some ⟨gd, 0, none⟩) n capd) d) (i : Nat) (h1 : i < n) : W.cell? ⟨gd, i, none⟩ = some (.int .i64 (rd d (i : Int))) ∧ W.frozen? ⟨gd, i, none⟩ = false := by
  have := cD h (i : Int) (by omega) (by omega)
  rwa [Int.toNat_natCast] at this
set_option maxHeartbeats 16000000 in
set_option maxRecDepth 100000 in
theorem remove_calls (KK : Nat) (w0 W : World) (gs : Nat) (vr vs : Value) (rules : List (List S31)) (sets : List Int) (s m : Nat) (r0 : S31) (rest : List (List S31)) (r : List Int) (hS : Sv w0.heap.size gs vr vs rules sets W) (hb0 : Below w0.heap.size w0 W) (hs : s < rules.length) (hok : Okr rules) (hgd : Good rules.length sets) (hm : (rd_L3 rules (s : Int)).length = m + 1) (hr0 : r0 = rd_T31 (rd_L3 rules (s : Int)) (m : Int)) (hK : 1001 ≤ KK)
    (hx : rest = rules.set s ((rules.getD s []).take m)) (hpr : ∀ d, Rm rules sets s r0 d → C1 sets d rules rules.length → ∃ kp, fixpoint_propagate.f kp rest (diffF sets d rules.length) (idxs rules.length) = some r) :
    Calls Try.prog 14 #[.pointer (some ⟨gs, 0, none⟩), .int .i64 (s : Int), .int .i64 (m : Int)] W fun e W' => e = .returned (.int .i64 0) ∧ ∃ vr', Sv w0.heap.size gs vr' vs rest r W' ∧ Below w0.heap.size w0 W' ∧ Kept W W' (fun k => k = gs ∨ some k = vs.ownBlock) := by
  have hu22 := Try.underlying22
  have hu23 := Try.underlying23
  have hu31 := Try.underlying31
  have hu39 := Try.underlying39
  have hu52 := Try.underlying52
  obtain ⟨Ar, cr, rfl⟩ := Kd.S_slice hS.rul
  obtain ⟨gv, cv, e_, -, -, -⟩ := Kd.R_form hS.set (by rw [hgd.len]; omega)
  rw [hgd.len] at e_
  subst e_
  obtain ⟨ad, A2, c2, ea, hy0, hl2, hi2⟩ := at_L3 (Kd.S_reads' hS.rul).2.2 (s : Int) (by omega) (by omega)
  cases ea
  rw [Int.toNat_natCast] at hy0
  obtain ⟨ad2, A3, c3, ea, hz0, hz1, hl3, hi3⟩ := at_T31 hi2 (m : Int) (by omega) (by omega)
  cases ea
  rw [Int.toNat_natCast] at hz0 hz1
  rw [← hr0] at hz0 hz1 hl3 hi3
  have hr0m : r0 ∈ rd_L3 rules (s : Int) := by
    rw [hr0]
    have e_ : rd_T31 (rd_L3 rules (s : Int)) (m : Int) = (rd_L3 rules (s : Int))[m]'(by omega) := by unfold rd_T31; simp [hm]
    rw [e_]; exact List.getElem_mem _
  have hLm : rd_L3 rules (s : Int) ∈ rules := by
    have e_ : rd_L3 rules (s : Int) = rules[s] := by unfold rd_L3; simp [hs]
    rw [e_]; exact List.getElem_mem _
  have HSEED := Aside0.mk (seed_set hgd (hok.mask _ hLm _ hr0m) hs)
  have HDV0 := Aside0.mk (derive_is hgd (hok.mask _ hLm _ hr0m) (hok.a60 _ hLm _ hr0m) (hok.idx _ hLm _ hr0m) KK (by omega))
  have HDVA := Aside0.mk (show ∀ L ∈ rules, ∀ r ∈ L, fixpoint_derive.f KK r.f0 r.f1 sets = some ((dv r sets : Nat) : Int) from fun L hL r hr => derive_is hgd (hok.mask _ hL _ hr) (hok.a60 _ hL _ hr) (hok.idx _ hL _ hr) KK (by omega))
  have HIX := Aside0.mk (indices_is rules.length (by have h_ := hok.n60; omega) KK hK)
  have HRA := Aside0.mk hi3
  have HCA := Aside0.mk hl3
  rw [hm] at hy0
  have HY := Aside0.mk hy0
  have HZ := Aside0.mk (And.intro hz0 hz1)
  have HCV := Aside0.mk (Kd.R_reads' hS.set).2.1
  have HS := Aside0.mk hS
  have HBW0 := Aside0.mk hb0
  have HI := Aside0.mk hs
  have HN := Aside0.mk (show 0 < rules.length by omega)
  have HOK := Aside0.mk hok
  have HGD := Aside0.mk hgd
  have HMM := Aside0.mk hm
  have HM20 := Aside0.mk (show m < 20 from by have h_ := hok.l20 _ hLm; omega)
  have HXE := Aside0.mk hx
  have HPR0 := Aside0.mk hpr
  have hc0 : W.cell? ⟨gs, 0, none⟩ = some (.slice (some ad) rules.length cr) := (blk_cell hS.box 0).trans rfl
  have p1 : (0 ≤ (s : Int)) = True := eq_true (by omega)
  have p2 : ((s : Int) < (rules.length : Int)) = True := eq_true (by omega)
  have p2b : (s < rules.length) = True := eq_true hs
  have p3 : decide ((s : Int) < 0) = false := decide_eq_false (by omega)
  have p4 : decide ((s : Int) ≥ (rules.length : Int)) = false := decide_eq_false (by omega)
  have p5 : decide ((rules.length : Int) ≤ (s : Int)) = false := decide_eq_false (by omega)
  have p6 : decide (rules.length ≤ s) = false := decide_eq_false (by omega)
  have m1 : (0 ≤ (m : Int)) = True := eq_true (by omega)
  have m2 : ((m : Int) < (m : Int) + 1) = True := eq_true (by omega)
  have m3 : decide ((m : Int) < 0) = false := decide_eq_false (by omega)
  have m4 : decide ((m : Int) ≥ (m : Int) + 1) = false := decide_eq_false (by omega)
  have m5 : decide ((m : Int) + 1 ≤ (m : Int)) = false := decide_eq_false (by omega)
  have mw : wrap64 ((m : Int) + 1) = (m : Int) + 1 := w64_id' (by omega) (by have h_ := HM20.out; omega)
  have mwb : IntKind.i64.wrap ((m : Int) + 1) = (m : Int) + 1 := (i64_w _).trans mw
  clear hS hb0 hs hok hgd hx hpr hi2 hl2 hi3 hl3 hz0 hz1 hm hr0 hr0m hLm hK
  have HB := Aside0.mk (Below.refl W.heap.size W)
  go_enter Try.func14, Try.ntmps14
  go_wp2_with (((with_reducible refine gate_dst (N := 49) rfl ?_); refine Kd.R_make (Kd.int .i64) W.heap.size 3 rfl (N := 49) rfl 23 _ _ rfl (rules.length : Int) rfl rfl Try.underlying23 (.int .i64 0) 8 info3 rfl (show 0 < 1 by decide) (by omega) 0 (ok := fun _ => True) (okp := fun _ => True) rfl (fun _ hk => hk) trivial (by omega) (by have h_ := HOK.out.n60; omega) HB.out HB.out.size ?_; intro v1 wk ho hb hg hnew; rw [Int.toNat_natCast] at ho; obtain ⟨gd, capd, e_, hge, _, _⟩ := Kd.R_form ho (by rw [List.length_replicate]; exact HN.out); rw [List.length_replicate] at e_; subst e_; have GED := Aside0.mk hge; have n0_ := Aside0.mk hb; have HD := Aside0.mk ho; clear HB ho hb hg hnew hge; have HB := n0_; clear n0_))
  clear hc0 hy0
  refine start_ (n := 19) (S := fun w' => w'.cell? ⟨gs, 0, none⟩ = some (.slice (some ad) rules.length cr) ∧ w'.cell? ⟨gs, 1, none⟩ = some (.slice (some ⟨gv, 0, none⟩) rules.length cv) ∧ w'.cell? (ad.add s) = some (.slice (some ad2) (m + 1) c2) ∧ w'.cell? (ad2.add (m * 2)) = some (.int .i64 r0.f0) ∧ w'.cell? ⟨(ad2.add (m * 2)).block, (ad2.add (m * 2)).off + 1, none⟩ = some (.slice A3 r0.f1.length c3)) (ds := [18]) #[false, false, false, false, false, false, false, false, false, false, false, false, false, false, false, false, false, false, false] (by kernel_rfl) rfl rfl ⟨(blk_cell (blk_below HS.out.box (below_drew HB.out)) 0).trans rfl, (blk_cell (blk_below HS.out.box (below_drew HB.out)) 1).trans rfl, (((below_drew HB.out)).cell (World.block_lt_of_cell? W _ HY.out)).trans HY.out, (((below_drew HB.out)).cell (World.block_lt_of_cell? W _ HZ.out.1)).trans HZ.out.1, (((below_drew HB.out)).cell (World.block_lt_of_cell? W _ HZ.out.2)).trans HZ.out.2⟩ (fun hHeld => ?_)
  have hb := below_drew1 (Below.refl wk.heap.size wk)
  have n0_ := Aside0.mk (below_step HB.out hb)
  have n1_ := Aside0.mk (Kd.R_below HD.out hb)
  clear HB HD
  have HB := n0_
  have HD := n1_
  clear n0_ n1_
  clear hb
  generalize wk.drew = w3 at HB HD hHeld ⊢
  refine pure_ (i := 0) (N := some 50) (v := ?_) (a' := ?_) #[true, false, false, false, false, false, false, false, false, false, false, false, false, false, false, false, false, false, false] rfl rfl (by kernel_rfl) (fun _ _ _ h => h) (Or.inl ⟨by rfl, ?_⟩) ?_ ?_
  rotate_left
  · intro w'
    go_simp
    with_reducible rfl
  rotate_left
  · simp only [Act.put, List.setIfInBounds_toArray, List.set_cons_zero, List.set_cons_succ, i64_w, i32_w]
    rfl
  refine pure_ (i := 1) (N := some 51) (v := ?_) (a' := ?_) #[true, true, false, false, false, false, false, false, false, false, false, false, false, false, false, false, false, false, false] rfl rfl (by kernel_rfl) (fun _ _ _ h => h) (Or.inl ⟨by rfl, ?_⟩) ?_ ?_
  rotate_left
  · intro w'
    go_simp
    with_reducible rfl
  rotate_left
  · simp only [Act.put, List.setIfInBounds_toArray, List.set_cons_zero, List.set_cons_succ, i64_w, i32_w]
    rfl
  refine pure_ (i := 2) (N := some 52) (v := ?_) (a' := ?_) #[true, true, true, false, false, false, false, false, false, false, false, false, false, false, false, false, false, false, false] rfl rfl (by kernel_rfl) (fun _ _ _ h => h) (Or.inl ⟨by rfl, ?_⟩) ?_ ?_
  rotate_left
  · intro w'
    go_simp
    with_reducible rfl
  rotate_left
  · simp only [Act.put, List.setIfInBounds_toArray, List.set_cons_zero, List.set_cons_succ, i64_w, i32_w]
    rfl
  refine pure_ (i := 3) (N := some 53) (v := ?_) (a' := ?_) #[true, true, true, true, false, false, false, false, false, false, false, false, false, false, false, false, false, false, false] rfl rfl (by kernel_rfl) (fun _ _ _ h => h) (Or.inl ⟨by rfl, ?_⟩) ?_ ?_
  rotate_left
  · intro w'
    go_simp
    with_reducible rfl
  rotate_left
  · simp only [Act.put, List.setIfInBounds_toArray, List.set_cons_zero, List.set_cons_succ, i64_w, i32_w]
    rfl
  refine pure_ (i := 4) (N := some 54) (v := ?_) (a' := ?_) #[true, true, true, true, true, false, false, false, false, false, false, false, false, false, false, false, false, false, false] rfl rfl (by kernel_rfl) (fun _ _ _ h => h) (Or.inl ⟨by rfl, ?_⟩) ?_ ?_
  rotate_left
  · intro w'
    go_simp
    with_reducible rfl
  rotate_left
  · simp only [Act.put, List.setIfInBounds_toArray, List.set_cons_zero, List.set_cons_succ, i64_w, i32_w]
    rfl
  refine take_ (i := 5) (N := some 55) (v := ?_) (a' := ?_) #[true, true, true, true, true, true, false, false, false, false, false, false, false, false, false, false, false, false, false] rfl rfl (by kernel_rfl) (fun _ _ _ h => h) (Or.inl ⟨by rfl, ?_⟩) hHeld ?_ ?_
  rotate_left
  · rintro w' ⟨s0, s1, s2, s3, s4⟩
    go_simp
    with_reducible rfl
  rotate_left
  · simp only [Act.put, List.setIfInBounds_toArray, List.set_cons_zero, List.set_cons_succ, i64_w, i32_w]
    rfl
  refine pure_ (i := 6) (N := some 56) (v := ?_) (a' := ?_) #[true, true, true, true, true, true, true, false, false, false, false, false, false, false, false, false, false, false, false] rfl rfl (by kernel_rfl) (fun _ _ _ h => h) (Or.inl ⟨by rfl, ?_⟩) ?_ ?_
  rotate_left
  · intro w'
    go_simp
    with_reducible rfl
  rotate_left
  · simp only [Act.put, List.setIfInBounds_toArray, List.set_cons_zero, List.set_cons_succ, i64_w, i32_w]
    rfl
  refine pure_ (i := 7) (N := some 57) (v := ?_) (a' := ?_) #[true, true, true, true, true, true, true, true, false, false, false, false, false, false, false, false, false, false, false] rfl rfl (by kernel_rfl) (fun _ _ _ h => h) (Or.inl ⟨by rfl, ?_⟩) ?_ ?_
  rotate_left
  · intro w'
    go_simp
    with_reducible rfl
  rotate_left
  · simp only [Act.put, List.setIfInBounds_toArray, List.set_cons_zero, List.set_cons_succ, i64_w, i32_w]
    rfl
  refine take_ (i := 8) (N := some 58) (v := ?_) (a' := ?_) #[true, true, true, true, true, true, true, true, true, false, false, false, false, false, false, false, false, false, false] rfl rfl (by kernel_rfl) (fun _ _ _ h => h) (Or.inl ⟨by rfl, ?_⟩) hHeld ?_ ?_
  rotate_left
  · rintro w' ⟨s0, s1, s2, s3, s4⟩
    go_simp
    with_reducible rfl
  rotate_left
  · simp only [Act.put, List.setIfInBounds_toArray, List.set_cons_zero, List.set_cons_succ, i64_w, i32_w]
    rfl
  refine pure_ (i := 9) (N := some 59) (v := ?_) (a' := ?_) #[true, true, true, true, true, true, true, true, true, true, false, false, false, false, false, false, false, false, false] rfl rfl (by kernel_rfl) (fun _ _ _ h => h) (Or.inl ⟨by rfl, ?_⟩) ?_ ?_
  rotate_left
  · intro w'
    go_simp
    with_reducible rfl
  rotate_left
  · simp only [Act.put, List.setIfInBounds_toArray, List.set_cons_zero, List.set_cons_succ, i64_w, i32_w]
    rfl
  refine pure_ (i := 10) (N := some 60) (v := ?_) (a' := ?_) #[true, true, true, true, true, true, true, true, true, true, true, false, false, false, false, false, false, false, false] rfl rfl (by kernel_rfl) (fun _ _ _ h => h) (Or.inl ⟨by rfl, ?_⟩) ?_ ?_
  rotate_left
  · intro w'
    go_simp
    with_reducible rfl
  rotate_left
  · simp only [Act.put, List.setIfInBounds_toArray, List.set_cons_zero, List.set_cons_succ, i64_w, i32_w]
    rfl
  refine take_ (i := 11) (N := some 61) (v := ?_) (a' := ?_) #[true, true, true, true, true, true, true, true, true, true, true, true, false, false, false, false, false, false, false] rfl rfl (by kernel_rfl) (fun _ _ _ h => h) (Or.inl ⟨by rfl, ?_⟩) hHeld ?_ ?_
  rotate_left
  · rintro w' ⟨s0, s1, s2, s3, s4⟩
    go_simp
    with_reducible rfl
  rotate_left
  · simp only [Act.put, List.setIfInBounds_toArray, List.set_cons_zero, List.set_cons_succ, i64_w, i32_w]
    rfl
  refine pure_ (i := 12) (N := some 62) (v := ?_) (a' := ?_) #[true, true, true, true, true, true, true, true, true, true, true, true, true, false, false, false, false, false, false] rfl rfl (by kernel_rfl) (fun _ _ _ h => h) (Or.inl ⟨by rfl, ?_⟩) ?_ ?_
  rotate_left
  · intro w'
    go_simp
    with_reducible rfl
  rotate_left
  · simp only [Act.put, List.setIfInBounds_toArray, List.set_cons_zero, List.set_cons_succ, i64_w, i32_w]
    rfl
  refine pure_ (i := 13) (N := some 63) (v := ?_) (a' := ?_) #[true, true, true, true, true, true, true, true, true, true, true, true, true, true, false, false, false, false, false] rfl rfl (by kernel_rfl) (fun _ _ _ h => h) (Or.inl ⟨by rfl, ?_⟩) ?_ ?_
  rotate_left
  · intro w'
    go_simp
    with_reducible rfl
  rotate_left
  · simp only [Act.put, List.setIfInBounds_toArray, List.set_cons_zero, List.set_cons_succ, i64_w, i32_w]
    rfl
  refine pure_ (i := 14) (N := some 64) (v := ?_) (a' := ?_) #[true, true, true, true, true, true, true, true, true, true, true, true, true, true, true, false, false, false, false] rfl rfl (by kernel_rfl) (fun _ _ _ h => h) (Or.inl ⟨by rfl, ?_⟩) ?_ ?_
  rotate_left
  · intro w'
    go_simp
    with_reducible rfl
  rotate_left
  · simp only [Act.put, List.setIfInBounds_toArray, List.set_cons_zero, List.set_cons_succ, i64_w, i32_w]
    rfl
  refine take_ (i := 15) (N := some 65) (v := ?_) (a' := ?_) #[true, true, true, true, true, true, true, true, true, true, true, true, true, true, true, true, false, false, false] rfl rfl (by kernel_rfl) (fun _ _ _ h => h) (Or.inl ⟨by rfl, ?_⟩) hHeld ?_ ?_
  rotate_left
  · rintro w' ⟨s0, s1, s2, s3, s4⟩
    go_simp
    with_reducible rfl
  rotate_left
  · simp only [Act.put, List.setIfInBounds_toArray, List.set_cons_zero, List.set_cons_succ, i64_w, i32_w]
    rfl
  refine one_ (i := 16) (N := some 66) #[true, true, true, true, true, true, true, true, true, true, true, true, true, true, true, true, true, false, false] rfl rfl (by kernel_rfl) (by decide) (fun K hK => ?_)
  refine goes_ Try.func23 (by kernel_rfl) rfl #[.agg #[.int .i64 r0.f0, .slice A3 r0.f1.length c3], (.slice (some ⟨gv, 0, none⟩) rules.length cv)] (by rfl) rfl rfl (by (try simp only [List.map_toArray, List.map_cons, List.map_nil]); first | done | rfl) ?_
  refine (der_n KK r0.f0 A3 c3 r0.f1 (some ⟨gv, 0, none⟩) cv sets rules.length (dv r0 sets : Nat) _ HGD.out.len (Kd.C_below HRA.out HB.out) HCA.out (R_Cn (Kd.R_below HS.out.set HB.out) HGD.out.len) HCV.out HDV0.out).mono ?_
  rintro e_ wc ⟨rfl, hb⟩
  refine ⟨_, rfl, ?_⟩
  have n0_ := Aside0.mk (below_step HB.out hb)
  have n1_ := Aside0.mk (Kd.R_below HD.out hb)
  clear HB HD
  have HB := n0_
  have HD := n1_
  clear n0_ n1_
  clear hb
  refine hK.out _ _ ⟨(blk_cell (blk_below HS.out.box HB.out) 0).trans rfl, (blk_cell (blk_below HS.out.box HB.out) 1).trans rfl, ((HB.out).cell (World.block_lt_of_cell? W _ HY.out)).trans HY.out, ((HB.out).cell (World.block_lt_of_cell? W _ HZ.out.1)).trans HZ.out.1, ((HB.out).cell (World.block_lt_of_cell? W _ HZ.out.2)).trans HZ.out.2⟩ (fun hHeld => ?_)
  clear hK K
  refine norm_ (a' := ?_) ?_ ?_
  rotate_left
  · show Act.put _ (some 66) _ = _
    simp only [Act.put, List.setIfInBounds_toArray, List.set_cons_zero, List.set_cons_succ, i64_w, i32_w]
    rfl
  refine pure_ (i := 17) (N := some 67) (v := ?_) (a' := ?_) #[true, true, true, true, true, true, true, true, true, true, true, true, true, true, true, true, true, true, false] rfl rfl (by kernel_rfl) (fun _ _ _ h => h) (Or.inl ⟨by rfl, ?_⟩) ?_ ?_
  rotate_left
  · intro w'
    go_simp
    with_reducible rfl
  rotate_left
  · simp only [Act.put, List.setIfInBounds_toArray, List.set_cons_zero, List.set_cons_succ, i64_w, i32_w]
    rfl
  refine last_ (i := 18) (N := none) #[true, true, true, true, true, true, true, true, true, true, true, true, true, true, true, true, true, true, true] rfl rfl (by kernel_rfl) (by decide) (fun K hK => ?_)
  have hcd := (cDn HD.out s HI.out).1
  have hfd := (cDn HD.out s HI.out).2
  refine skip_ (w1 := wc.setCell ⟨gd, s, none⟩ (.int .i64 ((dv r0 sets : Nat) : Int))) (by rfl) rfl ?_ ?_
  · go_simp
    try rfl
  have n0_ := Aside0.mk (show Below W.heap.size W (wc.setCell ⟨gd, s, none⟩ (.int .i64 ((dv r0 sets : Nat) : Int))) from below_set HB.out GED.out)
  have n1_ := Aside0.mk (show Kd.R (Kd.int .i64) 3 (wc.setCell ⟨gd, s, none⟩ (.int .i64 ((dv r0 sets : Nat) : Int))) W.heap.size (fun _ => True) (.slice (some ⟨gd, 0, none⟩) rules.length capd) ((List.replicate rules.length 0).set s ((dv r0 sets : Nat) : Int)) from by have h_ := Kd.R_putn HD.out (s : Int) ((dv r0 sets : Nat) : Int); rwa [Int.toNat_natCast] at h_)
  clear HB HD hcd hfd
  generalize (wc.setCell ⟨gd, s, none⟩ (.int .i64 ((dv r0 sets : Nat) : Int))) = w9 at n0_ n1_ ⊢
  have HB := n0_
  have HD := n1_
  clear n0_ n1_
  refine hK.out _ _ ?_
  clear hK K
  refine done_ (by kernel_rfl) ?_
  try clear hHeld
  go_wp2
  go_loopg [8] (rules.length * 1048576 + 1) (fun kq v8 w' => ∃ (p : Bool) (d : List Int), v8 = .bool p ∧ Aside0 (Rm rules sets s r0 d) ∧ Aside0 (p = false → C1 sets d rules rules.length) ∧ Aside0 (p = true → rules.length * 1048576 + 1 ≤ tot d + kq) ∧ Aside0 (Below W.heap.size W w') ∧ Aside0 (Kd.R (Kd.int .i64) 3 w' W.heap.size (fun _ => True) (.slice (some ⟨gd, 0, none⟩) rules.length capd) d))
  case atStart => exact ⟨true, _, rfl, ⟨⟨HSEED.out.1, HSEED.out.2⟩⟩, ⟨fun h => by cases h⟩, ⟨fun _ => by omega⟩, HB, HD⟩
  case round =>
    clear HB HD HSEED HDV0
    obtain ⟨p, d, rfl, RM, HC, HM, HB, HD⟩ := hrel
    cases p with
    | true =>
      have HTL := Aside0.mk (show tot d ≤ rules.length * 1048576 from by have h_ := tot_le d RM.out.good.rng; rw [RM.out.good.len] at h_; exact h_)
      obtain ⟨k1, rfl⟩ : ∃ k1, gk = k1 + 1 := ⟨gk - 1, by have h_ := HM.out rfl; have h2_ := HTL.out; omega⟩
      have hg0 : wr.cell? ⟨gs, 0, none⟩ = some (.slice (some ad) rules.length cr) := (blk_cell (blk_below HS.out.box HB.out) 0).trans rfl
      go_wp2
      go_loopg [8, 74] rules.length (fun kq v8 v74 w' => ∃ (p : Bool) (d2 : List Int) (i : Nat), v8 = .bool p ∧ v74 = .int .i64 (i : Int) ∧ Aside0 (i + kq = rules.length) ∧ Aside0 (Rm rules sets s r0 d2) ∧ Aside0 (p = false → d2 = d ∧ C1 sets d rules i) ∧ Aside0 (p = true → tot d < tot d2) ∧ Aside0 (Below W.heap.size W w') ∧ Aside0 (Kd.R (Kd.int .i64) 3 w' W.heap.size (fun _ => True) (.slice (some ⟨gd, 0, none⟩) rules.length capd) d2))
      case atStart => exact ⟨false, d, 0, rfl, rfl, ⟨by omega⟩, RM, ⟨fun _ => ⟨rfl, fun k hk => absurd hk (Nat.not_lt_zero _)⟩⟩, ⟨fun h => by cases h⟩, HB, HD⟩
      case round =>
        clear HB HD hg0
        obtain ⟨p, d2, i, rfl, rfl, E2, RM2, HP, HT, HB, HD⟩ := hrel
        by_cases ci : i < rules.length
        · have c1b : decide (i < rules.length) = true := decide_eq_true ci
          have c1c : decide ((i : Int) < (rules.length : Int)) = true := decide_eq_true (by omega)
          obtain ⟨k2, rfl⟩ : ∃ k2, gk = k2 + 1 := ⟨gk - 1, by have h_ := E2.out; omega⟩
          have u1 : 0 ≤ (i : Int) := by omega
          have u2 : (i : Int) < (rules.length : Int) := by omega
          obtain ⟨ad_, A5, c5, ea, hx0, hl5, hi5⟩ := at_L3 (Kd.S_reads' HS.out.rul).2.2 (i : Int) u1 u2
          cases ea
          rw [Int.toNat_natCast] at hx0
          replace hx0 := (HB.out.cell (World.block_lt_of_cell? W _ hx0)).trans hx0
          have HRL := Aside0.mk hi5
          have HI2 := Aside0.mk ci
          have HLM := Aside0.mk (show rd_L3 rules (i : Int) ∈ rules from by
            have e_ : rd_L3 rules (i : Int) = rules[i] := by unfold rd_L3; simp [ci]
            rw [e_]; exact List.getElem_mem _)
          obtain ⟨L, hL⟩ : ∃ L, L = rd_L3 rules (i : Int) := ⟨_, rfl⟩
          rw [← hL] at hx0 hl5 hi5 HRL HLM
          have HLE := Aside0.mk hL
          have hw1 : wrap64 ((i : Int) + 1) = (i : Int) + 1 := w64_id' (by omega) (by have := HOK.out.n60; omega)
          have hw1b : IntKind.i64.wrap ((i : Int) + 1) = (i : Int) + 1 := (i64_w _).trans hw1
          have u3 := eq_true ci
          replace u1 := eq_true u1
          replace u2 := eq_true u2
          clear hl5 hi5 ci hL
          go_wp2
          go_loopg [8, 81] L.length (fun kq v8 v81 w' => ∃ (p : Bool) (d3 : List Int) (a : Nat), v8 = .bool p ∧ v81 = .int .i64 (a : Int) ∧ Aside0 (a + kq = L.length) ∧ Aside0 (Rm rules sets s r0 d3) ∧ Aside0 (p = false → d3 = d ∧ C1 sets d rules i ∧ C2 sets d L i a) ∧ Aside0 (p = true → tot d < tot d3) ∧ Aside0 (Below W.heap.size W w') ∧ Aside0 (Kd.R (Kd.int .i64) 3 w' W.heap.size (fun _ => True) (.slice (some ⟨gd, 0, none⟩) rules.length capd) d3))
          case atStart => exact ⟨p, d2, 0, rfl, rfl, ⟨by omega⟩, RM2, ⟨fun h => ⟨(HP.out h).1, (HP.out h).2, fun k hk => absurd hk (Nat.not_lt_zero _)⟩⟩, HT, HB, HD⟩
          case round =>
            clear HB HD hx0 RM2 HP HT
            obtain ⟨p, d3, a, rfl, rfl, E3, RM3, HP, HT, HB, HD⟩ := hrel
            by_cases ca : a < L.length
            · have c2b : decide (a < L.length) = true := decide_eq_true ca
              have c2c : decide ((a : Int) < (L.length : Int)) = true := decide_eq_true (by omega)
              obtain ⟨k3, rfl⟩ : ∃ k3, gk = k3 + 1 := ⟨gk - 1, by have h_ := E3.out; omega⟩
              have t1 : 0 ≤ (a : Int) := by omega
              have t2 : (a : Int) < (L.length : Int) := by omega
              obtain ⟨ad3, A4, c4, ea, hz0, hz1, hl4, hi4⟩ := at_T31 HRL.out (a : Int) t1 t2
              cases ea
              rw [Int.toNat_natCast] at hz0 hz1
              replace hz0 := (HB.out.cell (World.block_lt_of_cell? W _ hz0)).trans hz0
              replace hz1 := (HB.out.cell (World.block_lt_of_cell? W _ hz1)).trans hz1
              have hrm : rd_T31 L (a : Int) ∈ L := by
                have e_ : rd_T31 L (a : Int) = L[a] := by unfold rd_T31; simp [ca]
                rw [e_]; exact List.getElem_mem _
              have HDV := Aside0.mk (HDVA.out L HLM.out _ hrm)
              have HMA := Aside0.mk (HOK.out.mask L HLM.out _ hrm)
              have HJA := Aside0.mk (HOK.out.idx L HLM.out _ hrm)
              have HA60 := Aside0.mk (HOK.out.a60 L HLM.out _ hrm)
              have HRB := Aside0.mk hi4
              have HCB := Aside0.mk hl4
              obtain ⟨r, hr⟩ : ∃ r, r = rd_T31 L (a : Int) := ⟨_, rfl⟩
              rw [← hr] at hz0 hz1 hl4 hi4 HDV HMA HJA HA60 HRB HCB
              have HRE := Aside0.mk hr
              have hw2 : wrap64 ((a : Int) + 1) = (a : Int) + 1 := w64_id' (by omega) (by have := HOK.out.l20 L HLM.out; omega)
              have hw2b : IntKind.i64.wrap ((a : Int) + 1) = (a : Int) + 1 := (i64_w _).trans hw2
              have t3 := eq_true ca
              replace t1 := eq_true t1
              replace t2 := eq_true t2
              clear hl4 hi4 ca hrm hr
              go_wp2_with (((with_reducible refine gate_dst (N := 12) rfl ?_); refine box_event ?hg (N := 12) ?hd (cs := #[.int .i64 0, .slice none 0 0]) (t := 31) ?hr ?_; (case hd => rfl); (case hg => rfl); (case hr => first | (go_simp; done) | (go_simp; rfl)); intro gb hg w14 hbox hb; have GEB := Aside0.mk (show W.heap.size ≤ gb from by rw [hg]; exact HB.out.size); have n0_ := Aside0.mk (below_step HB.out hb); have n1_ := Aside0.mk (Kd.R_below HD.out hb); clear HB HD; have HB := n0_; have HD := n1_; clear n0_ n1_; have BK := Aside0.mk hbox; clear hb hbox hg; have hcz0 : w14.cell? ⟨gb, 0, none⟩ = some (.int .i64 0) := (blk_cell BK.out 0).trans rfl; have hcz1 : w14.cell? ⟨gb, 1, none⟩ = some (.slice none 0 0) := (blk_cell BK.out 1).trans rfl; have hfz0 := blk_frozen BK.out 0; have hfz1 := blk_frozen BK.out 1))
              go_loopg [8, 88] r.f1.length (fun kq v8 v88 w' => ∃ (p : Bool) (d4 : List Int) (b : Nat), v8 = .bool p ∧ v88 = .int .i64 (b : Int) ∧ Aside0 (b + kq = r.f1.length) ∧ Aside0 (Rm rules sets s r0 d4) ∧ Aside0 (p = false → d4 = d ∧ C1 sets d rules i ∧ C2 sets d L i a ∧ C3 sets d r i b) ∧ Aside0 (p = true → tot d < tot d4) ∧ Aside0 (Below W.heap.size W w') ∧ Aside0 (Kd.R (Kd.int .i64) 3 w' W.heap.size (fun _ => True) (.slice (some ⟨gd, 0, none⟩) rules.length capd) d4) ∧ Aside0 (w'.heap[gb]? = some (.cells #[.int .i64 r.f0, .slice A4 r.f1.length c4] 31 (0, 0))))
              case atStart => exact ⟨p, d3, 0, rfl, rfl, ⟨by omega⟩, RM3, ⟨fun h => ⟨(HP.out h).1, (HP.out h).2.1, (HP.out h).2.2, fun k hk => absurd hk (Nat.not_lt_zero _)⟩⟩, HT, ⟨below_set (below_set HB.out GEB.out) GEB.out⟩, ⟨Kd.R_set (Kd.R_set HD.out BK.out (by decide) 0 _) (blk_put (cs := #[.int .i64 0, .slice none 0 0]) BK.out 0 (.int .i64 r.f0) rfl) (by decide) 1 _⟩, ⟨by
                refine blk_put (cs := #[.int .i64 r.f0, .slice none 0 0]) ?_ 1 _ rfl
                refine blk_put (cs := #[.int .i64 0, .slice none 0 0]) ?_ 0 _ rfl
                exact BK.out⟩⟩
              case round =>
                clear HB HD BK hz0 hz1 hcz0 hcz1 hfz0 hfz1 RM3 HP HT
                obtain ⟨p, d4, b, rfl, rfl, E4, RM4, HP, HT, HB, HD, BK⟩ := hrel
                by_cases cb : b < r.f1.length
                · have c3b : decide (b < r.f1.length) = true := decide_eq_true cb
                  have c3c : decide ((b : Int) < (r.f1.length : Int)) = true := decide_eq_true (by omega)
                  obtain ⟨k4, rfl⟩ : ∃ k4, gk = k4 + 1 := ⟨gk - 1, by have h_ := E4.out; omega⟩
                  have v1 : 0 ≤ (b : Int) := by omega
                  have v2 : (b : Int) < (r.f1.length : Int) := by omega
                  obtain ⟨ad4, ea, hq0⟩ := Kd.at_int HRB.out (b : Int) v1 v2
                  cases ea
                  rw [Int.toNat_natCast] at hq0
                  replace hq0 := (HB.out.cell (World.block_lt_of_cell? W _ hq0)).trans hq0
                  have HJ := Aside0.mk (HJA.out (rd r.f1 (b : Int)) (by rw [rd_get _ _ cb]; exact List.getElem_mem _))
                  obtain ⟨j, hj⟩ : ∃ j, j = rd r.f1 (b : Int) := ⟨_, rfl⟩
                  rw [← hj] at hq0 HJ
                  have HJE := Aside0.mk hj
                  have hw3 : wrap64 ((b : Int) + 1) = (b : Int) + 1 := w64_id' (by omega) (by have := HA60.out; omega)
                  have hw3b : IntKind.i64.wrap ((b : Int) + 1) = (b : Int) + 1 := (i64_w _).trans hw3
                  have v3 := eq_true cb
                  replace v1 := eq_true v1
                  replace v2 := eq_true v2
                  have j1 := eq_true HJ.out.1
                  have j2 := eq_true HJ.out.2
                  obtain ⟨mv, hmv⟩ : ∃ mv : Int, mv = ((more sets d4 r (i : Int) j : Nat) : Int) := ⟨_, rfl⟩
                  have HMV := Aside0.mk (show Go.bits .andNot .i64 (Go.bits .and .i64 ((dv r sets : Nat) : Int) (rd d4 j)) (rd d4 (i : Int)) = mv from by rw [hmv]; exact more_val HGD.out RM4.out.good HMA.out (i : Int) j)
                  have HME := Aside0.mk hmv
                  clear hmv hj cb
                  go_wp2
                  refine start_ (n := 17) (S := fun w' => w'.cell? ⟨gb, 0, none⟩ = some (.int .i64 r.f0) ∧ w'.cell? ⟨gb, 1, none⟩ = some (.slice (some ad4) r.f1.length c4) ∧ w'.cell? ⟨gs, 1, none⟩ = some (.slice (some ⟨gv, 0, none⟩) rules.length cv) ∧ w'.cell? ⟨gd, j.toNat, none⟩ = some (.int .i64 (rd d4 j)) ∧ w'.cell? ⟨gd, i, none⟩ = some (.int .i64 (rd d4 (i : Int)))) (ds := []) #[false, false, false, false, false, false, false, false, false, false, false, false, false, false, false, false, false] (by kernel_rfl) rfl rfl ⟨(blk_cell (blk_drew BK.out) 0).trans rfl, (blk_cell (blk_drew BK.out) 1).trans rfl, (blk_cell (blk_below HS.out.box (below_drew HB.out)) 1).trans rfl, (cD (Kd.R_drew HD.out) j HJ.out.1 HJ.out.2).1, (cDn (Kd.R_drew HD.out) i HI2.out).1⟩ (fun hHeld => ?_)
                  have hb := below_drew1 (Below.refl wr.heap.size wr)
                  have n0_ := Aside0.mk (below_step HB.out hb)
                  have n1_ := Aside0.mk (Kd.R_below HD.out hb)
                  have n2_ := Aside0.mk (blk_below BK.out hb)
                  clear HB HD BK
                  have HB := n0_
                  have HD := n1_
                  have BK := n2_
                  clear n0_ n1_ n2_
                  clear hb
                  generalize wr.drew = w3 at HB HD BK hHeld ⊢
                  refine take_ (i := 0) (N := some 92) (v := ?_) (a' := ?_) #[true, false, false, false, false, false, false, false, false, false, false, false, false, false, false, false, false] rfl rfl (by kernel_rfl) (fun _ _ _ h => h) (Or.inl ⟨by rfl, ?_⟩) hHeld ?_ ?_
                  rotate_left
                  · rintro w' ⟨s0, s1, s2, s3, s4⟩
                    go_simp
                    with_reducible rfl
                  rotate_left
                  · simp only [Act.put, List.setIfInBounds_toArray, List.set_cons_zero, List.set_cons_succ, i64_w, i32_w]
                    rfl
                  refine pure_ (i := 1) (N := some 93) (v := ?_) (a' := ?_) #[true, true, false, false, false, false, false, false, false, false, false, false, false, false, false, false, false] rfl rfl (by kernel_rfl) (fun _ _ _ h => h) (Or.inl ⟨by rfl, ?_⟩) ?_ ?_
                  rotate_left
                  · intro w'
                    go_simp
                    with_reducible rfl
                  rotate_left
                  · simp only [Act.put, List.setIfInBounds_toArray, List.set_cons_zero, List.set_cons_succ, i64_w, i32_w]
                    rfl
                  refine pure_ (i := 2) (N := some 94) (v := ?_) (a' := ?_) #[true, true, true, false, false, false, false, false, false, false, false, false, false, false, false, false, false] rfl rfl (by kernel_rfl) (fun _ _ _ h => h) (Or.inl ⟨by rfl, ?_⟩) ?_ ?_
                  rotate_left
                  · intro w'
                    go_simp
                    with_reducible rfl
                  rotate_left
                  · simp only [Act.put, List.setIfInBounds_toArray, List.set_cons_zero, List.set_cons_succ, i64_w, i32_w]
                    rfl
                  refine pure_ (i := 3) (N := some 95) (v := ?_) (a' := ?_) #[true, true, true, true, false, false, false, false, false, false, false, false, false, false, false, false, false] rfl rfl (by kernel_rfl) (fun _ _ _ h => h) (Or.inl ⟨by rfl, ?_⟩) ?_ ?_
                  rotate_left
                  · intro w'
                    go_simp
                    with_reducible rfl
                  rotate_left
                  · simp only [Act.put, List.setIfInBounds_toArray, List.set_cons_zero, List.set_cons_succ, i64_w, i32_w]
                    rfl
                  refine take_ (i := 4) (N := some 96) (v := ?_) (a' := ?_) #[true, true, true, true, true, false, false, false, false, false, false, false, false, false, false, false, false] rfl rfl (by kernel_rfl) (fun _ _ _ h => h) (Or.inl ⟨by rfl, ?_⟩) hHeld ?_ ?_
                  rotate_left
                  · rintro w' ⟨s0, s1, s2, s3, s4⟩
                    go_simp
                    with_reducible rfl
                  rotate_left
                  · simp only [Act.put, List.setIfInBounds_toArray, List.set_cons_zero, List.set_cons_succ, i64_w, i32_w]
                    rfl
                  refine pure_ (i := 6) (N := some 98) (v := ?_) (a' := ?_) #[true, true, true, true, true, false, true, false, false, false, false, false, false, false, false, false, false] rfl rfl (by kernel_rfl) (fun _ _ _ h => h) (Or.inl ⟨by rfl, ?_⟩) ?_ ?_
                  rotate_left
                  · intro w'
                    go_simp
                    with_reducible rfl
                  rotate_left
                  · simp only [Act.put, List.setIfInBounds_toArray, List.set_cons_zero, List.set_cons_succ, i64_w, i32_w]
                    rfl
                  refine pure_ (i := 7) (N := some 99) (v := ?_) (a' := ?_) #[true, true, true, true, true, false, true, true, false, false, false, false, false, false, false, false, false] rfl rfl (by kernel_rfl) (fun _ _ _ h => h) (Or.inl ⟨by rfl, ?_⟩) ?_ ?_
                  rotate_left
                  · intro w'
                    go_simp
                    with_reducible rfl
                  rotate_left
                  · simp only [Act.put, List.setIfInBounds_toArray, List.set_cons_zero, List.set_cons_succ, i64_w, i32_w]
                    rfl
                  refine pure_ (i := 8) (N := some 100) (v := ?_) (a' := ?_) #[true, true, true, true, true, false, true, true, true, false, false, false, false, false, false, false, false] rfl rfl (by kernel_rfl) (fun _ _ _ h => h) (Or.inl ⟨by rfl, ?_⟩) ?_ ?_
                  rotate_left
                  · intro w'
                    go_simp
                    with_reducible rfl
                  rotate_left
                  · simp only [Act.put, List.setIfInBounds_toArray, List.set_cons_zero, List.set_cons_succ, i64_w, i32_w]
                    rfl
                  refine take_ (i := 9) (N := some 101) (v := ?_) (a' := ?_) #[true, true, true, true, true, false, true, true, true, true, false, false, false, false, false, false, false] rfl rfl (by kernel_rfl) (fun _ _ _ h => h) (Or.inl ⟨by rfl, ?_⟩) hHeld ?_ ?_
                  rotate_left
                  · rintro w' ⟨s0, s1, s2, s3, s4⟩
                    go_simp
                    with_reducible rfl
                  rotate_left
                  · simp only [Act.put, List.setIfInBounds_toArray, List.set_cons_zero, List.set_cons_succ, i64_w, i32_w]
                    rfl
                  refine pure_ (i := 11) (N := some 103) (v := ?_) (a' := ?_) #[true, true, true, true, true, false, true, true, true, true, false, true, false, false, false, false, false] rfl rfl (by kernel_rfl) (fun _ _ _ h => h) (Or.inl ⟨by rfl, ?_⟩) ?_ ?_
                  rotate_left
                  · intro w'
                    go_simp
                    with_reducible rfl
                  rotate_left
                  · simp only [Act.put, List.setIfInBounds_toArray, List.set_cons_zero, List.set_cons_succ, i64_w, i32_w]
                    rfl
                  refine pure_ (i := 12) (N := some 104) (v := ?_) (a' := ?_) #[true, true, true, true, true, false, true, true, true, true, false, true, true, false, false, false, false] rfl rfl (by kernel_rfl) (fun _ _ _ h => h) (Or.inl ⟨by rfl, ?_⟩) ?_ ?_
                  rotate_left
                  · intro w'
                    go_simp
                    with_reducible rfl
                  rotate_left
                  · simp only [Act.put, List.setIfInBounds_toArray, List.set_cons_zero, List.set_cons_succ, i64_w, i32_w]
                    rfl
                  refine pure_ (i := 13) (N := some 105) (v := ?_) (a' := ?_) #[true, true, true, true, true, false, true, true, true, true, false, true, true, true, false, false, false] rfl rfl (by kernel_rfl) (fun _ _ _ h => h) (Or.inl ⟨by rfl, ?_⟩) ?_ ?_
                  rotate_left
                  · intro w'
                    go_simp
                    with_reducible rfl
                  rotate_left
                  · simp only [Act.put, List.setIfInBounds_toArray, List.set_cons_zero, List.set_cons_succ, i64_w, i32_w]
                    rfl
                  refine take_ (i := 14) (N := some 106) (v := ?_) (a' := ?_) #[true, true, true, true, true, false, true, true, true, true, false, true, true, true, true, false, false] rfl rfl (by kernel_rfl) (fun _ _ _ h => h) (Or.inl ⟨by rfl, ?_⟩) hHeld ?_ ?_
                  rotate_left
                  · rintro w' ⟨s0, s1, s2, s3, s4⟩
                    go_simp
                    with_reducible rfl
                  rotate_left
                  · simp only [Act.put, List.setIfInBounds_toArray, List.set_cons_zero, List.set_cons_succ, i64_w, i32_w]
                    rfl
                  refine one_ (i := 5) (N := some 97) #[true, true, true, true, true, true, true, true, true, true, false, true, true, true, true, false, false] rfl rfl (by kernel_rfl) (by decide) (fun K hK => ?_)
                  refine goes_ Try.func23 (by kernel_rfl) rfl #[.agg #[.int .i64 r.f0, .slice (some ad4) r.f1.length c4], (.slice (some ⟨gv, 0, none⟩) rules.length cv)] (by rfl) rfl rfl (by (try simp only [List.map_toArray, List.map_cons, List.map_nil]); first | done | rfl) ?_
                  refine (der_n KK r.f0 (some ad4) c4 r.f1 (some ⟨gv, 0, none⟩) cv sets rules.length (dv r sets : Nat) _ HGD.out.len (Kd.C_below HRB.out HB.out) HCB.out (R_Cn (Kd.R_below HS.out.set HB.out) HGD.out.len) HCV.out HDV.out).mono ?_
                  rintro e_ wc ⟨rfl, hb⟩
                  refine ⟨_, rfl, ?_⟩
                  have n0_ := Aside0.mk (below_step HB.out hb)
                  have n1_ := Aside0.mk (Kd.R_below HD.out hb)
                  have n2_ := Aside0.mk (blk_below BK.out hb)
                  clear HB HD BK
                  have HB := n0_
                  have HD := n1_
                  have BK := n2_
                  clear n0_ n1_ n2_
                  clear hb
                  refine hK.out _ _ ⟨(blk_cell (BK.out) 0).trans rfl, (blk_cell (BK.out) 1).trans rfl, (blk_cell (blk_below HS.out.box (HB.out)) 1).trans rfl, (cD (HD.out) j HJ.out.1 HJ.out.2).1, (cDn (HD.out) i HI2.out).1⟩ (fun hHeld => ?_)
                  clear hK K
                  refine norm_ (a' := ?_) ?_ ?_
                  rotate_left
                  · show Act.put _ (some 97) _ = _
                    simp only [Act.put, List.setIfInBounds_toArray, List.set_cons_zero, List.set_cons_succ, i64_w, i32_w]
                    rfl
                  refine pure_ (i := 10) (N := some 102) (v := ?_) (a' := ?_) #[true, true, true, true, true, true, true, true, true, true, true, true, true, true, true, false, false] rfl rfl (by kernel_rfl) (fun _ _ _ h => h) (Or.inl ⟨by rfl, ?_⟩) ?_ ?_
                  rotate_left
                  · intro w'
                    go_simp
                    with_reducible rfl
                  rotate_left
                  · simp only [Act.put, List.setIfInBounds_toArray, List.set_cons_zero, List.set_cons_succ, i64_w, i32_w]
                    rfl
                  refine pure_ (i := 15) (N := some 107) (v := ?_) (a' := ?_) #[true, true, true, true, true, true, true, true, true, true, true, true, true, true, true, true, false] rfl rfl (by kernel_rfl) (fun _ _ _ h => h) (Or.inl ⟨by rfl, ?_⟩) ?_ ?_
                  rotate_left
                  · intro w'
                    go_simp
                    rw [HMV.out]
                  rotate_left
                  · simp only [Act.put, List.setIfInBounds_toArray, List.set_cons_zero, List.set_cons_succ, i64_w, i32_w]
                    rfl
                  refine pure_ (i := 16) (N := some 15) (v := ?_) (a' := ?_) #[true, true, true, true, true, true, true, true, true, true, true, true, true, true, true, true, true] rfl rfl (by kernel_rfl) (fun _ _ _ h => h) (Or.inl ⟨by rfl, ?_⟩) ?_ ?_
                  rotate_left
                  · intro w'
                    go_simp
                    with_reducible rfl
                  rotate_left
                  · simp only [Act.put, List.setIfInBounds_toArray, List.set_cons_zero, List.set_cons_succ, i64_w, i32_w]
                    rfl
                  refine done_ (by kernel_rfl) ?_
                  try clear hHeld
                  by_cases hm0 : mv = 0
                  · have e1 : (mv == 0) = true := beq_iff_eq.2 hm0
                    have e2 : (mv != 0) = false := bne_eq_false_iff_eq.2 hm0
                    have HZ0 := Aside0.mk (show more sets d4 r (i : Int) j = 0 from by have h_ := HME.out; omega)
                    clear hm0 hq0
                    go_wp2
                    go_roundg k4
                    case measure => have := E4.out; omega
                    case rel => exact ⟨p, d4, b + 1, rfl, by simp [hw3, hw3b], ⟨by have h_ := E4.out; omega⟩, RM4, ⟨fun h => by obtain ⟨h1, h2, h3, h4⟩ := HP.out h; subst h1; exact ⟨rfl, h2, h3, C3_succ h4 (by rw [← HJE.out]; exact HZ0.out)⟩⟩, HT, HB, HD, BK⟩
                  · have e1 : (mv == 0) = false := beq_eq_false_iff_ne.2 hm0
                    have e2 : (mv != 0) = true := bne_iff_ne.2 hm0
                    have HU := Aside0.mk (upd_ok (s := sets) RM4.out.good r HI2.out j (by have h_ := HME.out; omega))
                    have hcd := (cDn HD.out i HI2.out).1
                    have hfd := (cDn HD.out i HI2.out).2
                    clear hm0 hq0
                    go_wp2
                    go_roundg k4
                    case measure => have := E4.out; omega
                    case rel => exact ⟨true, upd sets d4 r i j, b + 1, rfl, by simp [hw3, hw3b], ⟨by have h_ := E4.out; omega⟩, ⟨⟨HU.out.1, fun e he => HU.out.2.1 s e (RM4.out.seed e he)⟩⟩, ⟨fun h => by cases h⟩, ⟨fun _ => by
                        have h3 := HU.out.2.2
                        cases p with
                        | true => have h4 := HT.out rfl; omega
                        | false => have h4 := (HP.out rfl).1; subst h4; exact h3⟩, ⟨below_set HB.out GED.out⟩, ⟨by have h_ := Kd.R_putn HD.out (i : Int) (Go.bits .or .i64 (rd d4 (i : Int)) mv); rw [Int.toNat_natCast, HME.out] at h_; rw [HME.out]; exact h_⟩, ⟨blk_far BK.out (p := ⟨gd, i, none⟩) (fun e_ => by obtain ⟨cl_, hcl_⟩ := Kd.R_typed HD.out gd (by simp [Value.ownBlock]); have h_ := BK.out; rw [e_] at h_; rw [h_] at hcl_; injection hcl_ with hcl_; injection hcl_ with _ hcl_; cases hcl_) _⟩⟩
                · have c3b : decide (b < r.f1.length) = false := decide_eq_false cb
                  have c3c : decide ((b : Int) < (r.f1.length : Int)) = false := decide_eq_false (by omega)
                  have hb : b = r.f1.length := by have h_ := E4.out; omega
                  subst hb
                  clear cb
                  go_wp2
                  go_roundg k3
                  case measure => have := E3.out; omega
                  case rel => exact ⟨p, d4, a + 1, rfl, by simp [hw2, hw2b], ⟨by have h_ := E3.out; omega⟩, RM4, ⟨fun h => by obtain ⟨h1, h2, h3, h4⟩ := HP.out h; exact ⟨h1, h2, C2_succ h3 (by rw [← HRE.out]; exact h4)⟩⟩, HT, HB, HD⟩
            · have c2b : decide (a < L.length) = false := decide_eq_false ca
              have c2c : decide ((a : Int) < (L.length : Int)) = false := decide_eq_false (by omega)
              have ha : a = L.length := by have h_ := E3.out; omega
              subst ha
              clear ca
              go_wp2
              go_roundg k2
              case measure => have := E2.out; omega
              case rel => exact ⟨p, d3, i + 1, rfl, by simp [hw1, hw1b], ⟨by have h_ := E2.out; omega⟩, RM3, ⟨fun h => by obtain ⟨h1, h2, h3⟩ := HP.out h; exact ⟨h1, C1_succ h2 (by rw [← HLE.out]; exact h3)⟩⟩, HT, HB, HD⟩
        · have c1b : decide (i < rules.length) = false := decide_eq_false ci
          have c1c : decide ((i : Int) < (rules.length : Int)) = false := decide_eq_false (by omega)
          have hi : i = rules.length := by have h_ := E2.out; omega
          subst hi
          clear ci
          go_wp2
          go_roundg k1
          case measure => omega
          case rel => exact ⟨p, d2, rfl, RM2, ⟨fun h => by obtain ⟨h1, h2⟩ := HP.out h; subst h1; exact h2⟩, ⟨fun h => by have h1 := HT.out h; have h2 := HM.out (by first | rfl | trivial); omega⟩, HB, HD⟩
    | false =>
      obtain ⟨kp, hkp⟩ := HPR0.out d RM.out (HC.out (by first | rfl | trivial))
      have HPR := Aside0.mk hkp
      clear hkp
      have F4 := Aside0.mk (below_step HBW0.out HB.out)
      have F5 := Aside0.mk (show Kept W wr (fun k => k = gs ∨ some k = (Value.slice (some ⟨gv, 0, none⟩) rules.length cv).ownBlock) from Kept.of_below HB.out _)
      have BX := Aside0.mk (blk_below HS.out.box HB.out)
      have HRU := Aside0.mk (show Kd.S (Kd.slice 31 k31) 39 wr w0.heap.size (fun k => some k ≠ (Value.slice (some ⟨gv, 0, none⟩) rules.length cv).ownBlock ∧ k ≠ gs) (.slice (some ad) rules.length cr) rules from Kd.S_types (Kd.S_below HS.out.rul HB.out) BX.out (by decide))
      have HSE := Aside0.mk (show Kd.R (Kd.int .i64) 3 wr w0.heap.size (fun _ => True) (.slice (some ⟨gv, 0, none⟩) rules.length cv) (diffF sets d 0) from by rw [diffF_zero]; exact Kd.R_below HS.out.set HB.out)
      have GEV := Aside0.mk (show w0.heap.size ≤ gv from Kd.R_base HS.out.set gv (by simp [Value.ownBlock]))
      have GVL := Aside0.mk (show gv < W.heap.size from Kd.R_lt HS.out.set gv (by simp [Value.ownBlock]))
      have GSL := Aside0.mk (show gs < W.heap.size from blk_lt HS.out.box)
      have NDV := Aside0.mk (show gd ≠ gv from fun e_ => by have h1_ := GED.out; have h2_ := GVL.out; omega)
      have NSV := Aside0.mk (show gs ≠ gv from fun e_ => Kd.R_ne HS.out.set HS.out.box (by decide) (by rw [e_]; rfl))
      have hg1 : wr.cell? ⟨gs, 1, none⟩ = some (.slice (some ⟨gv, 0, none⟩) rules.length cv) := (blk_cell BX.out 1).trans rfl
      clear HB HC HM
      go_wp2
      go_loopg [125] rules.length (fun kq v125 w' => ∃ i : Nat, v125 = .int .i64 (i : Int) ∧ Aside0 (i + kq = rules.length) ∧ Aside0 (Below w0.heap.size w0 w') ∧ Aside0 (Kept W w' (fun k => k = gs ∨ some k = (Value.slice (some ⟨gv, 0, none⟩) rules.length cv).ownBlock)) ∧ Aside0 (w'.heap[gs]? = some (.cells #[(.slice (some ad) rules.length cr), (.slice (some ⟨gv, 0, none⟩) rules.length cv)] 52 (0, 0))) ∧ Aside0 (Kd.S (Kd.slice 31 k31) 39 w' w0.heap.size (fun k => some k ≠ (Value.slice (some ⟨gv, 0, none⟩) rules.length cv).ownBlock ∧ k ≠ gs) (.slice (some ad) rules.length cr) rules) ∧ Aside0 (Kd.R (Kd.int .i64) 3 w' w0.heap.size (fun _ => True) (.slice (some ⟨gv, 0, none⟩) rules.length cv) (diffF sets d i)) ∧ Aside0 (Kd.R (Kd.int .i64) 3 w' W.heap.size (fun _ => True) (.slice (some ⟨gd, 0, none⟩) rules.length capd) d))
      case atStart => exact ⟨0, rfl, ⟨by omega⟩, F4, F5, BX, HRU, HSE, HD⟩
      case round =>
        clear F4 F5 BX HRU HSE HD hg1
        obtain ⟨i, rfl, E1, F4, F5, BX, HRU, HSE, HD⟩ := hrel
        by_cases ci : i < rules.length
        · have c1b : decide (i < rules.length) = true := decide_eq_true ci
          have c1c : decide ((i : Int) < (rules.length : Int)) = true := decide_eq_true (by omega)
          obtain ⟨k1, rfl⟩ : ∃ k1, gk = k1 + 1 := ⟨gk - 1, by have h_ := E1.out; omega⟩
          have u1 : (0 ≤ (i : Int)) = True := eq_true (by omega)
          have u2 : ((i : Int) < (rules.length : Int)) = True := eq_true (by omega)
          have HI2 := Aside0.mk ci
          have hw1 : wrap64 ((i : Int) + 1) = (i : Int) + 1 := w64_id' (by omega) (by have := HOK.out.n60; omega)
          have hw1b : IntKind.i64.wrap ((i : Int) + 1) = (i : Int) + 1 := (i64_w _).trans hw1
          have u3 := eq_true ci
          clear ci
          go_wp2
          refine start_ (n := 14) (S := fun w' => w'.cell? ⟨gs, 1, none⟩ = some (.slice (some ⟨gv, 0, none⟩) rules.length cv) ∧ w'.cell? ⟨gv, i, none⟩ = some (.int .i64 (rd (diffF sets d i) (i : Int))) ∧ w'.cell? ⟨gd, i, none⟩ = some (.int .i64 (rd d (i : Int)))) (ds := [13]) #[false, false, false, false, false, false, false, false, false, false, false, false, false, false] (by kernel_rfl) rfl rfl ⟨(blk_cell (blk_drew BX.out) 1).trans rfl, (cDn (Kd.R_drew HSE.out) i HI2.out).1, (cDn (Kd.R_drew HD.out) i HI2.out).1⟩ (fun hHeld => ?_)
          have hb := below_drew1 (Below.refl wr.heap.size wr)
          have n0_ := Aside0.mk (below_step F4.out hb)
          have n1_ := Aside0.mk (Kept.below F5.out hb)
          have n2_ := Aside0.mk (blk_below BX.out hb)
          have n3_ := Aside0.mk (Kd.S_below HRU.out hb)
          have n4_ := Aside0.mk (Kd.R_below HSE.out hb)
          have n5_ := Aside0.mk (Kd.R_below HD.out hb)
          clear F4 F5 BX HRU HSE HD
          have F4 := n0_
          have F5 := n1_
          have BX := n2_
          have HRU := n3_
          have HSE := n4_
          have HD := n5_
          clear n0_ n1_ n2_ n3_ n4_ n5_
          clear hb
          generalize wr.drew = w3 at F4 F5 BX HRU HSE HD hHeld ⊢
          refine pure_ (i := 0) (N := some 128) (v := ?_) (a' := ?_) #[true, false, false, false, false, false, false, false, false, false, false, false, false, false] rfl rfl (by kernel_rfl) (fun _ _ _ h => h) (Or.inl ⟨by rfl, ?_⟩) ?_ ?_
          rotate_left
          · intro w'
            go_simp
            with_reducible rfl
          rotate_left
          · simp only [Act.put, List.setIfInBounds_toArray, List.set_cons_zero, List.set_cons_succ, i64_w, i32_w]
            rfl
          refine pure_ (i := 1) (N := some 129) (v := ?_) (a' := ?_) #[true, true, false, false, false, false, false, false, false, false, false, false, false, false] rfl rfl (by kernel_rfl) (fun _ _ _ h => h) (Or.inl ⟨by rfl, ?_⟩) ?_ ?_
          rotate_left
          · intro w'
            go_simp
            with_reducible rfl
          rotate_left
          · simp only [Act.put, List.setIfInBounds_toArray, List.set_cons_zero, List.set_cons_succ, i64_w, i32_w]
            rfl
          refine pure_ (i := 2) (N := some 130) (v := ?_) (a' := ?_) #[true, true, true, false, false, false, false, false, false, false, false, false, false, false] rfl rfl (by kernel_rfl) (fun _ _ _ h => h) (Or.inl ⟨by rfl, ?_⟩) ?_ ?_
          rotate_left
          · intro w'
            go_simp
            with_reducible rfl
          rotate_left
          · simp only [Act.put, List.setIfInBounds_toArray, List.set_cons_zero, List.set_cons_succ, i64_w, i32_w]
            rfl
          refine take_ (i := 3) (N := some 131) (v := ?_) (a' := ?_) #[true, true, true, true, false, false, false, false, false, false, false, false, false, false] rfl rfl (by kernel_rfl) (fun _ _ _ h => h) (Or.inl ⟨by rfl, ?_⟩) hHeld ?_ ?_
          rotate_left
          · rintro w' ⟨s0, s1, s2⟩
            go_simp
            with_reducible rfl
          rotate_left
          · simp only [Act.put, List.setIfInBounds_toArray, List.set_cons_zero, List.set_cons_succ, i64_w, i32_w]
            rfl
          refine pure_ (i := 4) (N := some 132) (v := ?_) (a' := ?_) #[true, true, true, true, true, false, false, false, false, false, false, false, false, false] rfl rfl (by kernel_rfl) (fun _ _ _ h => h) (Or.inl ⟨by rfl, ?_⟩) ?_ ?_
          rotate_left
          · intro w'
            go_simp
            with_reducible rfl
          rotate_left
          · simp only [Act.put, List.setIfInBounds_toArray, List.set_cons_zero, List.set_cons_succ, i64_w, i32_w]
            rfl
          refine pure_ (i := 5) (N := some 133) (v := ?_) (a' := ?_) #[true, true, true, true, true, true, false, false, false, false, false, false, false, false] rfl rfl (by kernel_rfl) (fun _ _ _ h => h) (Or.inl ⟨by rfl, ?_⟩) ?_ ?_
          rotate_left
          · intro w'
            go_simp
            with_reducible rfl
          rotate_left
          · simp only [Act.put, List.setIfInBounds_toArray, List.set_cons_zero, List.set_cons_succ, i64_w, i32_w]
            rfl
          refine take_ (i := 6) (N := some 134) (v := ?_) (a' := ?_) #[true, true, true, true, true, true, true, false, false, false, false, false, false, false] rfl rfl (by kernel_rfl) (fun _ _ _ h => h) (Or.inl ⟨by rfl, ?_⟩) hHeld ?_ ?_
          rotate_left
          · rintro w' ⟨s0, s1, s2⟩
            go_simp
            with_reducible rfl
          rotate_left
          · simp only [Act.put, List.setIfInBounds_toArray, List.set_cons_zero, List.set_cons_succ, i64_w, i32_w]
            rfl
          refine pure_ (i := 7) (N := some 135) (v := ?_) (a' := ?_) #[true, true, true, true, true, true, true, true, false, false, false, false, false, false] rfl rfl (by kernel_rfl) (fun _ _ _ h => h) (Or.inl ⟨by rfl, ?_⟩) ?_ ?_
          rotate_left
          · intro w'
            go_simp
            with_reducible rfl
          rotate_left
          · simp only [Act.put, List.setIfInBounds_toArray, List.set_cons_zero, List.set_cons_succ, i64_w, i32_w]
            rfl
          refine pure_ (i := 8) (N := some 136) (v := ?_) (a' := ?_) #[true, true, true, true, true, true, true, true, true, false, false, false, false, false] rfl rfl (by kernel_rfl) (fun _ _ _ h => h) (Or.inl ⟨by rfl, ?_⟩) ?_ ?_
          rotate_left
          · intro w'
            go_simp
            with_reducible rfl
          rotate_left
          · simp only [Act.put, List.setIfInBounds_toArray, List.set_cons_zero, List.set_cons_succ, i64_w, i32_w]
            rfl
          refine pure_ (i := 9) (N := some 137) (v := ?_) (a' := ?_) #[true, true, true, true, true, true, true, true, true, true, false, false, false, false] rfl rfl (by kernel_rfl) (fun _ _ _ h => h) (Or.inl ⟨by rfl, ?_⟩) ?_ ?_
          rotate_left
          · intro w'
            go_simp
            with_reducible rfl
          rotate_left
          · simp only [Act.put, List.setIfInBounds_toArray, List.set_cons_zero, List.set_cons_succ, i64_w, i32_w]
            rfl
          refine take_ (i := 10) (N := some 138) (v := ?_) (a' := ?_) #[true, true, true, true, true, true, true, true, true, true, true, false, false, false] rfl rfl (by kernel_rfl) (fun _ _ _ h => h) (Or.inl ⟨by rfl, ?_⟩) hHeld ?_ ?_
          rotate_left
          · rintro w' ⟨s0, s1, s2⟩
            go_simp
            with_reducible rfl
          rotate_left
          · simp only [Act.put, List.setIfInBounds_toArray, List.set_cons_zero, List.set_cons_succ, i64_w, i32_w]
            rfl
          refine pure_ (i := 11) (N := some 139) (v := ?_) (a' := ?_) #[true, true, true, true, true, true, true, true, true, true, true, true, false, false] rfl rfl (by kernel_rfl) (fun _ _ _ h => h) (Or.inl ⟨by rfl, ?_⟩) ?_ ?_
          rotate_left
          · intro w'
            go_simp
            with_reducible rfl
          rotate_left
          · simp only [Act.put, List.setIfInBounds_toArray, List.set_cons_zero, List.set_cons_succ, i64_w, i32_w]
            rfl
          refine pure_ (i := 12) (N := some 140) (v := ?_) (a' := ?_) #[true, true, true, true, true, true, true, true, true, true, true, true, true, false] rfl rfl (by kernel_rfl) (fun _ _ _ h => h) (Or.inl ⟨by rfl, ?_⟩) ?_ ?_
          rotate_left
          · intro w'
            go_simp
            with_reducible rfl
          rotate_left
          · simp only [Act.put, List.setIfInBounds_toArray, List.set_cons_zero, List.set_cons_succ, i64_w, i32_w]
            rfl
          refine last_ (i := 13) (N := none) #[true, true, true, true, true, true, true, true, true, true, true, true, true, true] rfl rfl (by kernel_rfl) (by decide) (fun K hK => ?_)
          have hcd := (cDn HSE.out i HI2.out).1
          have hfd := (cDn HSE.out i HI2.out).2
          refine skip_ (w1 := (w3.setCell ⟨gv, i, none⟩ (.int .i64 (Go.bits .andNot .i64 (rd (diffF sets d i) (i : Int)) (rd d (i : Int)))))) (by rfl) rfl ?_ ?_
          · go_simp
            try rfl
          have n0_ := Aside0.mk (show Below w0.heap.size w0 (w3.setCell ⟨gv, i, none⟩ (.int .i64 (Go.bits .andNot .i64 (rd (diffF sets d i) (i : Int)) (rd d (i : Int))))) from below_set F4.out GEV.out)
          have n1_ := Aside0.mk (show Kept W (w3.setCell ⟨gv, i, none⟩ (.int .i64 (Go.bits .andNot .i64 (rd (diffF sets d i) (i : Int)) (rd d (i : Int))))) (fun k => k = gs ∨ some k = (Value.slice (some ⟨gv, 0, none⟩) rules.length cv).ownBlock) from Kept.setCell (p := ⟨gv, i, none⟩) F5.out (.inl (.inr rfl)) _)
          have n2_ := Aside0.mk (show (w3.setCell ⟨gv, i, none⟩ (.int .i64 (Go.bits .andNot .i64 (rd (diffF sets d i) (i : Int)) (rd d (i : Int))))).heap[gs]? = some (.cells #[(.slice (some ad) rules.length cr), (.slice (some ⟨gv, 0, none⟩) rules.length cv)] 52 (0, 0)) from blk_far BX.out (p := ⟨gv, i, none⟩) NSV.out _)
          have n3_ := Aside0.mk (show Kd.S (Kd.slice 31 k31) 39 (w3.setCell ⟨gv, i, none⟩ (.int .i64 (Go.bits .andNot .i64 (rd (diffF sets d i) (i : Int)) (rd d (i : Int))))) w0.heap.size (fun k => some k ≠ (Value.slice (some ⟨gv, 0, none⟩) rules.length cv).ownBlock ∧ k ≠ gs) (.slice (some ad) rules.length cr) rules from Kd.S_far (p := ⟨gv, i, none⟩) HRU.out (fun k hk e_ => hk.1 (by rw [e_]; rfl)) _)
          have n4_ := Aside0.mk (show Kd.R (Kd.int .i64) 3 (w3.setCell ⟨gv, i, none⟩ (.int .i64 (Go.bits .andNot .i64 (rd (diffF sets d i) (i : Int)) (rd d (i : Int))))) w0.heap.size (fun _ => True) (.slice (some ⟨gv, 0, none⟩) rules.length cv) (diffF sets d (i + 1)) from by have h_ := Kd.R_putn HSE.out (i : Int) (Go.bits .andNot .i64 (rd (diffF sets d i) (i : Int)) (rd d (i : Int))); rw [Int.toNat_natCast] at h_; rw [← diffF_set sets d i (by rw [HGD.out.len]; exact HI2.out)]; have e_ := diffF_rd sets d i (by rw [HGD.out.len]; exact HI2.out); rw [e_] at h_ ⊢; exact h_)
          have n5_ := Aside0.mk (show Kd.R (Kd.int .i64) 3 (w3.setCell ⟨gv, i, none⟩ (.int .i64 (Go.bits .andNot .i64 (rd (diffF sets d i) (i : Int)) (rd d (i : Int))))) W.heap.size (fun _ => True) (.slice (some ⟨gd, 0, none⟩) rules.length capd) d from Kd.R_mono (Kd.R_far (p := ⟨gv, i, none⟩) (Kd.R_tight rfl HD.out) (fun k hk e_ => by have h_ : k = gd := (by simpa [Value.ownBlock] using hk); exact NDV.out (h_.symm.trans e_)) _) (fun _ _ => trivial))
          clear F4 F5 BX HRU HSE HD hcd hfd
          generalize (w3.setCell ⟨gv, i, none⟩ (.int .i64 (Go.bits .andNot .i64 (rd (diffF sets d i) (i : Int)) (rd d (i : Int))))) = w9 at n0_ n1_ n2_ n3_ n4_ n5_ ⊢
          have F4 := n0_
          have F5 := n1_
          have BX := n2_
          have HRU := n3_
          have HSE := n4_
          have HD := n5_
          clear n0_ n1_ n2_ n3_ n4_ n5_
          refine hK.out _ _ ?_
          clear hK K
          refine done_ (by kernel_rfl) ?_
          try clear hHeld
          go_wp2
          go_roundg k1
          case measure => have := E1.out; omega
          case rel => exact ⟨i + 1, by simp [hw1, hw1b], ⟨by have h_ := E1.out; omega⟩, F4, F5, BX, HRU, HSE, HD⟩
        · have c1b : decide (i < rules.length) = false := decide_eq_false ci
          have c1c : decide ((i : Int) < (rules.length : Int)) = false := decide_eq_false (by omega)
          have hi : i = rules.length := by have h_ := E1.out; omega
          subst hi
          clear ci
          have hg0 : wr.cell? ⟨gs, 0, none⟩ = some (.slice (some ad) rules.length cr) := (blk_cell BX.out 0).trans rfl
          have LWR := Aside0.mk (show w0.heap.size ≤ wr.heap.size ∧ W.heap.size ≤ wr.heap.size ∧ gs < wr.heap.size ∧ gv < wr.heap.size from ⟨F4.out.size, F5.out.1, Nat.lt_of_lt_of_le GSL.out F5.out.1, Nat.lt_of_lt_of_le GVL.out F5.out.1⟩)
          go_wp2_with ((go_at_call 21; refine (cloneRules_calls (some ad) cr rules _ (Kd.S_reads' HRU.out).2.2 (Kd.S_reads' HRU.out).2.1 HOK.out).mono ?_; rintro e_ wk ⟨v2, rfl, hs, hb⟩; obtain ⟨g, cap, rfl, hge, _, _⟩ := Kd.S_form hs HN.out; have GE := Aside0.mk hge; have HM := Aside0.mk hs; have n0_ := Aside0.mk (below_step F4.out hb); have n1_ := Aside0.mk (Kept.below F5.out hb); have n2_ := Aside0.mk (blk_below BX.out hb); have n3_ := Aside0.mk (Kd.R_below HSE.out hb); clear F4 F5 BX HSE; have F4 := n0_; have F5 := n1_; have BX := n2_; have HSE := n3_; clear n0_ n1_ n2_ n3_; clear hb hs hge HRU HD hg0; have hg0 : wk.cell? ⟨gs, 0, none⟩ = some (.slice (some ad) rules.length cr) := (blk_cell BX.out 0).trans rfl; have hf0 := blk_frozen BX.out 0))
          have n0_ := Aside0.mk (show Below w0.heap.size w0 (wk.setCell ⟨gs, 0, none⟩ (.slice (some ⟨g, 0, none⟩) rules.length cap)) from below_set F4.out HS.out.ge)
          have n1_ := Aside0.mk (show Kept W (wk.setCell ⟨gs, 0, none⟩ (.slice (some ⟨g, 0, none⟩) rules.length cap)) (fun k => k = gs ∨ some k = (Value.slice (some ⟨gv, 0, none⟩) rules.length cv).ownBlock) from Kept.setCell (p := ⟨gs, 0, none⟩) F5.out (.inl (.inl rfl)) _)
          have n2_ := Aside0.mk (show (wk.setCell ⟨gs, 0, none⟩ (.slice (some ⟨g, 0, none⟩) rules.length cap)).heap[gs]? = some (.cells #[(.slice (some ⟨g, 0, none⟩) rules.length cap), (.slice (some ⟨gv, 0, none⟩) rules.length cv)] 52 (0, 0)) from blk_put BX.out 0 _ rfl)
          have n3_ := Aside0.mk (show Kd.R (Kd.int .i64) 3 (wk.setCell ⟨gs, 0, none⟩ (.slice (some ⟨g, 0, none⟩) rules.length cap)) w0.heap.size (fun _ => True) (.slice (some ⟨gv, 0, none⟩) rules.length cv) (diffF sets d rules.length) from Kd.R_set HSE.out BX.out (by decide) 0 _)
          have n4_ := Aside0.mk (show Kd.S (Kd.slice 31 k31) 39 (wk.setCell ⟨gs, 0, none⟩ (.slice (some ⟨g, 0, none⟩) rules.length cap)) wr.heap.size (fun _ => True) (.slice (some ⟨g, 0, none⟩) rules.length cap) rules from Kd.S_set HM.out BX.out (by decide) 0 _)
          have LWS := Aside0.mk (show wr.heap.size ≤ (wk.setCell ⟨gs, 0, none⟩ (.slice (some ⟨g, 0, none⟩) rules.length cap)).heap.size from by have h_ := Kd.S_lt HM.out g (by simp [Value.ownBlock]); have h2_ := GE.out; have h3_ : (wk.setCell ⟨gs, 0, none⟩ (.slice (some ⟨g, 0, none⟩) rules.length cap)).heap.size = wk.heap.size := (by simp [World.setCell]); omega)
          clear F4 F5 BX HSE HM hg0 hf0
          generalize (wk.setCell ⟨gs, 0, none⟩ (.slice (some ⟨g, 0, none⟩) rules.length cap)) = wst at n0_ n1_ n2_ n3_ n4_ LWS ⊢
          have F4 := n0_
          have F5 := n1_
          have BX := n2_
          have HSE := n3_
          have HM := n4_
          clear n0_ n1_ n2_ n3_ n4_
          obtain ⟨oki, cs_, hcl_, hM_, hcc_, hfr_, hoki_, hH_⟩ := Kd.S_elem (Kd.S_mono (ok' := fun k => True ∧ ¬ False) HM.out (fun _ _ => ⟨trivial, fun h => h⟩)) ([] : List S31) ((s : Nat) : Int) (Int.natCast_nonneg _) (by have h_ := HI.out; omega)
          obtain ⟨vo, rfl, hvo_⟩ := hM_
          have hgl_ : (rules.getD s []).length = m + 1 := by rw [← HMM.out]; unfold rd_L3; rw [Int.toNat_natCast]
          rw [Int.toNat_natCast] at hvo_
          obtain ⟨gr, capr, rfl, hgr_, _, _⟩ := Kd.R_form hvo_ (by rw [hgl_]; omega)
          rw [hgl_] at hvo_ hH_ hcc_
          have hce : wst.cell? ⟨g, s, none⟩ = some (.slice (some ⟨gr, 0, none⟩) (m + 1) capr) := by have h_ := hcc_ 0 _ rfl; rwa [Int.toNat_natCast, show s * ((Kd.slice 31 k31)).sz + 0 = s from Nat.mul_one s] at h_
          have HV := Aside0.mk hvo_
          have HH := Aside0.mk hH_
          have HCE := Aside0.mk hce
          have HGL := Aside0.mk hgl_
          have OKR := Aside0.mk (show oki gr from hvo_.1 gr (by simp [Value.ownBlock]))
          have NGR := Aside0.mk (show g ≠ gr from fun e_ => (hoki_ gr (hvo_.1 gr (by simp [Value.ownBlock]))).2 e_.symm)
          have HOK2 := Aside0.mk (show ∀ k, oki k → k ≠ g from fun k hk => (hoki_ k hk).2)
          have GRB := Aside0.mk (show wr.heap.size ≤ gr from hgr_)
          clear hcl_ hvo_ hcc_ hfr_ hoki_ hH_ hce HM hgl_ hgr_
          refine start_ (n := 18) (S := fun w' => w'.cell? ⟨gs, 0, none⟩ = some (.slice (some ⟨g, 0, none⟩) rules.length cap) ∧ w'.cell? ⟨g, s, none⟩ = some (.slice (some ⟨gr, 0, none⟩) (m + 1) capr)) (ds := [17]) #[false, false, false, false, false, false, false, false, false, false, false, false, false, false, false, false, false, false] (by kernel_rfl) rfl rfl ⟨(blk_cell (blk_drew BX.out) 0).trans rfl, ((below_drew1 (Below.refl wst.heap.size wst)).cell (World.block_lt_of_cell? _ _ HCE.out)).trans HCE.out⟩ (fun hHeld => ?_)
          have hb := below_drew1 (Below.refl wst.heap.size wst)
          have LW3 := Aside0.mk (show wr.heap.size ≤ wst.drew.heap.size from LWS.out)
          have n0_ := Aside0.mk (below_step F4.out hb)
          have n1_ := Aside0.mk (Kept.below F5.out hb)
          have n2_ := Aside0.mk (blk_below BX.out hb)
          have n3_ := Aside0.mk (Kd.R_below HSE.out hb)
          have n4_ := Aside0.mk (Kd.R_below HV.out hb)
          have n5_ := Aside0.mk (Kd.H_below HH.out hb)
          have n6_ := Aside0.mk ((hb.cell (World.block_lt_of_cell? _ _ HCE.out)).trans HCE.out)
          clear F4 F5 BX HSE HV HH HCE
          have F4 := n0_
          have F5 := n1_
          have BX := n2_
          have HSE := n3_
          have HV := n4_
          have HH := n5_
          have HCE := n6_
          clear n0_ n1_ n2_ n3_ n4_ n5_ n6_
          clear hb
          generalize wst.drew = w3 at F4 F5 BX HSE HV HH HCE LW3 hHeld ⊢
          refine pure_ (i := 0) (N := some 150) (v := ?_) (a' := ?_) #[true, false, false, false, false, false, false, false, false, false, false, false, false, false, false, false, false, false] rfl rfl (by kernel_rfl) (fun _ _ _ h => h) (Or.inl ⟨by rfl, ?_⟩) ?_ ?_
          rotate_left
          · intro w'
            go_simp
            with_reducible rfl
          rotate_left
          · simp only [Act.put, List.setIfInBounds_toArray, List.set_cons_zero, List.set_cons_succ, i64_w, i32_w]
            rfl
          refine pure_ (i := 1) (N := some 151) (v := ?_) (a' := ?_) #[true, true, false, false, false, false, false, false, false, false, false, false, false, false, false, false, false, false] rfl rfl (by kernel_rfl) (fun _ _ _ h => h) (Or.inl ⟨by rfl, ?_⟩) ?_ ?_
          rotate_left
          · intro w'
            go_simp
            with_reducible rfl
          rotate_left
          · simp only [Act.put, List.setIfInBounds_toArray, List.set_cons_zero, List.set_cons_succ, i64_w, i32_w]
            rfl
          refine pure_ (i := 2) (N := some 152) (v := ?_) (a' := ?_) #[true, true, true, false, false, false, false, false, false, false, false, false, false, false, false, false, false, false] rfl rfl (by kernel_rfl) (fun _ _ _ h => h) (Or.inl ⟨by rfl, ?_⟩) ?_ ?_
          rotate_left
          · intro w'
            go_simp
            with_reducible rfl
          rotate_left
          · simp only [Act.put, List.setIfInBounds_toArray, List.set_cons_zero, List.set_cons_succ, i64_w, i32_w]
            rfl
          refine take_ (i := 3) (N := some 153) (v := ?_) (a' := ?_) #[true, true, true, true, false, false, false, false, false, false, false, false, false, false, false, false, false, false] rfl rfl (by kernel_rfl) (fun _ _ _ h => h) (Or.inl ⟨by rfl, ?_⟩) hHeld ?_ ?_
          rotate_left
          · rintro w' ⟨s0, s1⟩
            go_simp
            with_reducible rfl
          rotate_left
          · simp only [Act.put, List.setIfInBounds_toArray, List.set_cons_zero, List.set_cons_succ, i64_w, i32_w]
            rfl
          refine pure_ (i := 4) (N := some 154) (v := ?_) (a' := ?_) #[true, true, true, true, true, false, false, false, false, false, false, false, false, false, false, false, false, false] rfl rfl (by kernel_rfl) (fun _ _ _ h => h) (Or.inl ⟨by rfl, ?_⟩) ?_ ?_
          rotate_left
          · intro w'
            go_simp
            with_reducible rfl
          rotate_left
          · simp only [Act.put, List.setIfInBounds_toArray, List.set_cons_zero, List.set_cons_succ, i64_w, i32_w]
            rfl
          refine pure_ (i := 5) (N := some 155) (v := ?_) (a' := ?_) #[true, true, true, true, true, true, false, false, false, false, false, false, false, false, false, false, false, false] rfl rfl (by kernel_rfl) (fun _ _ _ h => h) (Or.inl ⟨by rfl, ?_⟩) ?_ ?_
          rotate_left
          · intro w'
            go_simp
            with_reducible rfl
          rotate_left
          · simp only [Act.put, List.setIfInBounds_toArray, List.set_cons_zero, List.set_cons_succ, i64_w, i32_w]
            rfl
          refine pure_ (i := 6) (N := some 156) (v := ?_) (a' := ?_) #[true, true, true, true, true, true, true, false, false, false, false, false, false, false, false, false, false, false] rfl rfl (by kernel_rfl) (fun _ _ _ h => h) (Or.inl ⟨by rfl, ?_⟩) ?_ ?_
          rotate_left
          · intro w'
            go_simp
            with_reducible rfl
          rotate_left
          · simp only [Act.put, List.setIfInBounds_toArray, List.set_cons_zero, List.set_cons_succ, i64_w, i32_w]
            rfl
          refine pure_ (i := 7) (N := some 157) (v := ?_) (a' := ?_) #[true, true, true, true, true, true, true, true, false, false, false, false, false, false, false, false, false, false] rfl rfl (by kernel_rfl) (fun _ _ _ h => h) (Or.inl ⟨by rfl, ?_⟩) ?_ ?_
          rotate_left
          · intro w'
            go_simp
            with_reducible rfl
          rotate_left
          · simp only [Act.put, List.setIfInBounds_toArray, List.set_cons_zero, List.set_cons_succ, i64_w, i32_w]
            rfl
          refine take_ (i := 8) (N := some 158) (v := ?_) (a' := ?_) #[true, true, true, true, true, true, true, true, true, false, false, false, false, false, false, false, false, false] rfl rfl (by kernel_rfl) (fun _ _ _ h => h) (Or.inl ⟨by rfl, ?_⟩) hHeld ?_ ?_
          rotate_left
          · rintro w' ⟨s0, s1⟩
            go_simp
            with_reducible rfl
          rotate_left
          · simp only [Act.put, List.setIfInBounds_toArray, List.set_cons_zero, List.set_cons_succ, i64_w, i32_w]
            rfl
          refine pure_ (i := 9) (N := some 159) (v := ?_) (a' := ?_) #[true, true, true, true, true, true, true, true, true, true, false, false, false, false, false, false, false, false] rfl rfl (by kernel_rfl) (fun _ _ _ h => h) (Or.inl ⟨by rfl, ?_⟩) ?_ ?_
          rotate_left
          · intro w'
            go_simp
            with_reducible rfl
          rotate_left
          · simp only [Act.put, List.setIfInBounds_toArray, List.set_cons_zero, List.set_cons_succ, i64_w, i32_w]
            rfl
          refine pure_ (i := 10) (N := some 160) (v := ?_) (a' := ?_) #[true, true, true, true, true, true, true, true, true, true, true, false, false, false, false, false, false, false] rfl rfl (by kernel_rfl) (fun _ _ _ h => h) (Or.inl ⟨by rfl, ?_⟩) ?_ ?_
          rotate_left
          · intro w'
            go_simp
            with_reducible rfl
          rotate_left
          · simp only [Act.put, List.setIfInBounds_toArray, List.set_cons_zero, List.set_cons_succ, i64_w, i32_w]
            rfl
          refine take_ (i := 11) (N := some 161) (v := ?_) (a' := ?_) #[true, true, true, true, true, true, true, true, true, true, true, true, false, false, false, false, false, false] rfl rfl (by kernel_rfl) (fun _ _ _ h => h) (Or.inl ⟨by rfl, ?_⟩) hHeld ?_ ?_
          rotate_left
          · rintro w' ⟨s0, s1⟩
            go_simp
            with_reducible rfl
          rotate_left
          · simp only [Act.put, List.setIfInBounds_toArray, List.set_cons_zero, List.set_cons_succ, i64_w, i32_w]
            rfl
          refine pure_ (i := 12) (N := some 162) (v := ?_) (a' := ?_) #[true, true, true, true, true, true, true, true, true, true, true, true, true, false, false, false, false, false] rfl rfl (by kernel_rfl) (fun _ _ _ h => h) (Or.inl ⟨by rfl, ?_⟩) ?_ ?_
          rotate_left
          · intro w'
            go_simp
            with_reducible rfl
          rotate_left
          · simp only [Act.put, List.setIfInBounds_toArray, List.set_cons_zero, List.set_cons_succ, i64_w, i32_w]
            rfl
          refine pure_ (i := 13) (N := some 163) (v := ?_) (a' := ?_) #[true, true, true, true, true, true, true, true, true, true, true, true, true, true, false, false, false, false] rfl rfl (by kernel_rfl) (fun _ _ _ h => h) (Or.inl ⟨by rfl, ?_⟩) ?_ ?_
          rotate_left
          · intro w'
            go_simp
            with_reducible rfl
          rotate_left
          · simp only [Act.put, List.setIfInBounds_toArray, List.set_cons_zero, List.set_cons_succ, i64_w, i32_w]
            rfl
          refine pure_ (i := 14) (N := some 164) (v := ?_) (a' := ?_) #[true, true, true, true, true, true, true, true, true, true, true, true, true, true, true, false, false, false] rfl rfl (by kernel_rfl) (fun _ _ _ h => h) (Or.inl ⟨by rfl, ?_⟩) ?_ ?_
          rotate_left
          · intro w'
            go_simp
            with_reducible rfl
          rotate_left
          · simp only [Act.put, List.setIfInBounds_toArray, List.set_cons_zero, List.set_cons_succ, i64_w, i32_w]
            rfl
          refine one_ (i := 15) (N := some 165) #[true, true, true, true, true, true, true, true, true, true, true, true, true, true, true, true, false, false] rfl rfl (by kernel_rfl) (by decide) (fun K hK => ?_)
          refine goes_ Try.func24 (by kernel_rfl) rfl #[.slice (some ⟨gr, 0, none⟩) (m + 1) capr, .int .i64 (m : Int), .int .i64 ((m : Int) + 1)] (by rfl) rfl rfl (by (try simp only [List.map_toArray, List.map_cons, List.map_nil]); first | done | rfl) ?_
          refine (delete24 wr.heap.size gr m capr oki (rules.getD s []) w3 w3 HV.out (by have h_ := HM20.out; omega) (Below.refl _ _) LW3.out).mono ?_
          rintro e_ w8 ⟨rfl, hrr, hk, hb⟩
          refine ⟨_, rfl, ?_⟩
          have n0_ := Aside0.mk (show Below w0.heap.size w0 w8 from below_weaken F4.out LWR.out.1 hb)
          have n1_ := Aside0.mk (show Kept W w8 (fun k => k = gs ∨ some k = (Value.slice (some ⟨gv, 0, none⟩) rules.length cv).ownBlock) from F5.out.then_ hk (fun k hk2 => .inr (by have h_ := LWR.out.2.1; have h2_ := GRB.out; omega)))
          have n2_ := Aside0.mk (show w8.heap[gs]? = some (.cells #[(.slice (some ⟨g, 0, none⟩) rules.length cap), (.slice (some ⟨gv, 0, none⟩) rules.length cv)] 52 (0, 0)) from blk_kept BX.out hk (fun e_ => by have h_ := LWR.out.2.2.1; have h2_ := GRB.out; omega))
          have n3_ := Aside0.mk (Kd.R_mono (ok' := fun _ => True) (Kd.R_kept (Kd.R_tight rfl HSE.out) hk (fun k hk2 e_ => by have h3_ : k = gv := (by simpa [Value.ownBlock] using hk2); have h_ := LWR.out.2.2.2; have h2_ := GRB.out; omega)) (fun _ _ => trivial))
          have n4_ := Aside0.mk hrr
          have n5_ := Aside0.mk (Kd.H_kept HH.out hk (fun k _ hk2 e_ => hk2 (by rw [e_]; exact OKR.out)))
          have n6_ := Aside0.mk ((World.cell?_of_block (hk.2 g (World.block_lt_of_cell? _ _ HCE.out) NGR.out)).trans HCE.out)
          clear F4 F5 BX HSE HV HH HCE hb hk hrr LW3
          have F4 := n0_
          have F5 := n1_
          have BX := n2_
          have HSE := n3_
          have HV := n4_
          have HH := n5_
          have HCE := n6_
          clear n0_ n1_ n2_ n3_ n4_ n5_ n6_
          refine hK.out _ _ ⟨(blk_cell BX.out 0).trans rfl, HCE.out⟩ (fun hHeld => ?_)
          clear hK K
          refine norm_ (a' := ?_) ?_ ?_
          rotate_left
          · show Act.put _ (some 165) _ = _
            simp only [Act.put, List.setIfInBounds_toArray, List.set_cons_zero, List.set_cons_succ, i64_w, i32_w]
            rfl
          refine pure_ (i := 16) (N := some 166) (v := ?_) (a' := ?_) #[true, true, true, true, true, true, true, true, true, true, true, true, true, true, true, true, true, false] rfl rfl (by kernel_rfl) (fun _ _ _ h => h) (Or.inl ⟨by rfl, ?_⟩) ?_ ?_
          rotate_left
          · intro w'
            go_simp
            with_reducible rfl
          rotate_left
          · simp only [Act.put, List.setIfInBounds_toArray, List.set_cons_zero, List.set_cons_succ, i64_w, i32_w]
            rfl
          refine last_ (i := 17) (N := none) #[true, true, true, true, true, true, true, true, true, true, true, true, true, true, true, true, true, true] rfl rfl (by kernel_rfl) (by decide) (fun K hK => ?_)
          have hce := HCE.out
          have hfe : w8.frozen? ⟨g, s, none⟩ = false := by obtain ⟨rows_, _, hraw_, _⟩ := Kd.H_raw HH.out (Int.natCast_nonneg _) (by have h_ := HI.out; omega); obtain ⟨cl_, hcl_⟩ := Kd.R_typed hraw_ g (by simp [Value.ownBlock]); exact blk_frozen hcl_ _
          refine skip_ (w1 := (w8.setCell ⟨g, s, none⟩ (.slice (some ⟨gr, 0, none⟩) m capr))) (by rfl) rfl ?_ ?_
          · go_simp
            try rfl
          have hs_ := Kd.S_seg (okp := oki) (ok := fun _ => True) (okg := fun _ => False) HH.out (Int.natCast_nonneg _) (by have h_ := HI.out; omega) (seg := [.slice (some ⟨gr, 0, none⟩) m capr]) (j := 0) (show 0 + 1 ≤ 1 by decide) (x' := (rules.getD s []).take m) ⟨.slice (some ⟨gr, 0, none⟩) m capr, rfl, HV.out⟩ (fun k hk => .inl hk) (fun k hk => hk.elim)
          rw [Int.toNat_natCast, show s * ((Kd.slice 31 k31)).sz + 0 = s from Nat.mul_one s] at hs_
          obtain ⟨hm1_, hm2_⟩ := hs_
          have n0_ := Aside0.mk (show Below w0.heap.size w0 (w8.setCell ⟨g, s, none⟩ (.slice (some ⟨gr, 0, none⟩) m capr)) from below_set F4.out (by have h_ := LWR.out.1; have h2_ := GE.out; omega))
          have n1_ := Aside0.mk (show Kept W (w8.setCell ⟨g, s, none⟩ (.slice (some ⟨gr, 0, none⟩) m capr)) (fun k => k = gs ∨ some k = (Value.slice (some ⟨gv, 0, none⟩) rules.length cv).ownBlock) from Kept.setCell (p := ⟨g, s, none⟩) F5.out (.inr (by have h_ := LWR.out.2.1; have h2_ := GE.out; show W.heap.size ≤ g; omega)) _)
          have n2_ := Aside0.mk (show (w8.setCell ⟨g, s, none⟩ (.slice (some ⟨gr, 0, none⟩) m capr)).heap[gs]? = some (.cells #[(.slice (some ⟨g, 0, none⟩) rules.length cap), (.slice (some ⟨gv, 0, none⟩) rules.length cv)] 52 (0, 0)) from blk_far BX.out (p := ⟨g, s, none⟩) (fun e_ => by have h_ := LWR.out.2.2.1; have h2_ := GE.out; have h3_ : gs = g := e_; omega) _)
          have n3_ := Aside0.mk (Kd.R_mono (ok' := fun _ => True) (Kd.R_far (p := ⟨g, s, none⟩) (Kd.R_tight rfl HSE.out) (fun k hk2 e_ => by have h3_ : k = gv := (by simpa [Value.ownBlock] using hk2); have h_ := LWR.out.2.2.2; have h2_ := GE.out; have h4_ : k = g := e_; omega) (.slice (some ⟨gr, 0, none⟩) m capr)) (fun _ _ => trivial))
          have n4_ := Aside0.mk (show Kd.S (Kd.slice 31 k31) 39 (w8.setCell ⟨g, s, none⟩ (.slice (some ⟨gr, 0, none⟩) m capr)) wr.heap.size (fun _ => True) (.slice (some ⟨g, 0, none⟩) rules.length cap) rest from by rw [HXE.out]; exact hm1_)
          have n5_ := Aside0.mk (show (w8.setCell ⟨g, s, none⟩ (.slice (some ⟨gr, 0, none⟩) m capr)).heap.size = w8.heap.size from by simp [World.setCell])
          clear F4 F5 BX HSE HV HH HCE hm1_ hm2_ hce hfe OKR NGR HOK2 GRB
          generalize (w8.setCell ⟨g, s, none⟩ (.slice (some ⟨gr, 0, none⟩) m capr)) = w9 at n0_ n1_ n2_ n3_ n4_ n5_ ⊢
          have F4 := n0_
          have F5 := n1_
          have BX := n2_
          have HSE := n3_
          have HM := n4_
          clear n0_ n1_ n2_ n3_ n4_ n5_
          refine hK.out _ _ ?_
          clear hK K
          refine done_ (by kernel_rfl) ?_
          try clear hHeld
          go_wp2
          have LW90 := Aside0.mk (show wr.heap.size ≤ w9.heap.size from by have h_ := Kd.S_lt HM.out g (by simp [Value.ownBlock]); have h2_ := GE.out; omega)
          have HXL := Aside0.mk (show rest.length = rules.length from by rw [HXE.out, List.length_set])
          refine start_ (n := 15) (S := fun w' => w'.cell? ⟨gs, 0, none⟩ = some (.slice (some ⟨g, 0, none⟩) rules.length cap) ∧ w'.cell? ⟨gs, 1, none⟩ = some (.slice (some ⟨gv, 0, none⟩) rules.length cv)) (ds := [14]) #[false, false, false, false, false, false, false, false, false, false, false, false, false, false, false] (by kernel_rfl) rfl rfl ⟨(blk_cell (blk_drew BX.out) 0).trans rfl, (blk_cell (blk_drew BX.out) 1).trans rfl⟩ (fun hHeld => ?_)
          have hb := below_drew1 (Below.refl w9.heap.size w9)
          have LW9 := Aside0.mk (show wr.heap.size ≤ w9.drew.heap.size from LW90.out)
          have n0_ := Aside0.mk (below_step F4.out hb)
          have n1_ := Aside0.mk (Kept.below F5.out hb)
          have n2_ := Aside0.mk (blk_below BX.out hb)
          have n3_ := Aside0.mk (Kd.R_below HSE.out hb)
          have n4_ := Aside0.mk (Kd.S_below HM.out hb)
          clear F4 F5 BX HSE HM
          have F4 := n0_
          have F5 := n1_
          have BX := n2_
          have HSE := n3_
          have HM := n4_
          clear n0_ n1_ n2_ n3_ n4_
          clear hb LW90
          generalize w9.drew = w3 at LW9 F4 F5 BX HSE HM hHeld ⊢
          refine pure_ (i := 0) (N := some 167) (v := ?_) (a' := ?_) #[true, false, false, false, false, false, false, false, false, false, false, false, false, false, false] rfl rfl (by kernel_rfl) (fun _ _ _ h => h) (Or.inl ⟨by rfl, ?_⟩) ?_ ?_
          rotate_left
          · intro w'
            go_simp
            with_reducible rfl
          rotate_left
          · simp only [Act.put, List.setIfInBounds_toArray, List.set_cons_zero, List.set_cons_succ, i64_w, i32_w]
            rfl
          refine pure_ (i := 1) (N := some 168) (v := ?_) (a' := ?_) #[true, true, false, false, false, false, false, false, false, false, false, false, false, false, false] rfl rfl (by kernel_rfl) (fun _ _ _ h => h) (Or.inl ⟨by rfl, ?_⟩) ?_ ?_
          rotate_left
          · intro w'
            go_simp
            with_reducible rfl
          rotate_left
          · simp only [Act.put, List.setIfInBounds_toArray, List.set_cons_zero, List.set_cons_succ, i64_w, i32_w]
            rfl
          refine pure_ (i := 2) (N := some 169) (v := ?_) (a' := ?_) #[true, true, true, false, false, false, false, false, false, false, false, false, false, false, false] rfl rfl (by kernel_rfl) (fun _ _ _ h => h) (Or.inl ⟨by rfl, ?_⟩) ?_ ?_
          rotate_left
          · intro w'
            go_simp
            with_reducible rfl
          rotate_left
          · simp only [Act.put, List.setIfInBounds_toArray, List.set_cons_zero, List.set_cons_succ, i64_w, i32_w]
            rfl
          refine take_ (i := 3) (N := some 170) (v := ?_) (a' := ?_) #[true, true, true, true, false, false, false, false, false, false, false, false, false, false, false] rfl rfl (by kernel_rfl) (fun _ _ _ h => h) (Or.inl ⟨by rfl, ?_⟩) hHeld ?_ ?_
          rotate_left
          · rintro w' ⟨s0, s1⟩
            go_simp
            with_reducible rfl
          rotate_left
          · simp only [Act.put, List.setIfInBounds_toArray, List.set_cons_zero, List.set_cons_succ, i64_w, i32_w]
            rfl
          refine pure_ (i := 4) (N := some 171) (v := ?_) (a' := ?_) #[true, true, true, true, true, false, false, false, false, false, false, false, false, false, false] rfl rfl (by kernel_rfl) (fun _ _ _ h => h) (Or.inl ⟨by rfl, ?_⟩) ?_ ?_
          rotate_left
          · intro w'
            go_simp
            with_reducible rfl
          rotate_left
          · simp only [Act.put, List.setIfInBounds_toArray, List.set_cons_zero, List.set_cons_succ, i64_w, i32_w]
            rfl
          refine pure_ (i := 5) (N := some 172) (v := ?_) (a' := ?_) #[true, true, true, true, true, true, false, false, false, false, false, false, false, false, false] rfl rfl (by kernel_rfl) (fun _ _ _ h => h) (Or.inl ⟨by rfl, ?_⟩) ?_ ?_
          rotate_left
          · intro w'
            go_simp
            with_reducible rfl
          rotate_left
          · simp only [Act.put, List.setIfInBounds_toArray, List.set_cons_zero, List.set_cons_succ, i64_w, i32_w]
            rfl
          refine pure_ (i := 6) (N := some 173) (v := ?_) (a' := ?_) #[true, true, true, true, true, true, true, false, false, false, false, false, false, false, false] rfl rfl (by kernel_rfl) (fun _ _ _ h => h) (Or.inl ⟨by rfl, ?_⟩) ?_ ?_
          rotate_left
          · intro w'
            go_simp
            with_reducible rfl
          rotate_left
          · simp only [Act.put, List.setIfInBounds_toArray, List.set_cons_zero, List.set_cons_succ, i64_w, i32_w]
            rfl
          refine take_ (i := 7) (N := some 174) (v := ?_) (a' := ?_) #[true, true, true, true, true, true, true, true, false, false, false, false, false, false, false] rfl rfl (by kernel_rfl) (fun _ _ _ h => h) (Or.inl ⟨by rfl, ?_⟩) hHeld ?_ ?_
          rotate_left
          · rintro w' ⟨s0, s1⟩
            go_simp
            with_reducible rfl
          rotate_left
          · simp only [Act.put, List.setIfInBounds_toArray, List.set_cons_zero, List.set_cons_succ, i64_w, i32_w]
            rfl
          refine pure_ (i := 8) (N := some 175) (v := ?_) (a' := ?_) #[true, true, true, true, true, true, true, true, true, false, false, false, false, false, false] rfl rfl (by kernel_rfl) (fun _ _ _ h => h) (Or.inl ⟨by rfl, ?_⟩) ?_ ?_
          rotate_left
          · intro w'
            go_simp
            with_reducible rfl
          rotate_left
          · simp only [Act.put, List.setIfInBounds_toArray, List.set_cons_zero, List.set_cons_succ, i64_w, i32_w]
            rfl
          refine pure_ (i := 9) (N := some 176) (v := ?_) (a' := ?_) #[true, true, true, true, true, true, true, true, true, true, false, false, false, false, false] rfl rfl (by kernel_rfl) (fun _ _ _ h => h) (Or.inl ⟨by rfl, ?_⟩) ?_ ?_
          rotate_left
          · intro w'
            go_simp
            with_reducible rfl
          rotate_left
          · simp only [Act.put, List.setIfInBounds_toArray, List.set_cons_zero, List.set_cons_succ, i64_w, i32_w]
            rfl
          refine pure_ (i := 10) (N := some 177) (v := ?_) (a' := ?_) #[true, true, true, true, true, true, true, true, true, true, true, false, false, false, false] rfl rfl (by kernel_rfl) (fun _ _ _ h => h) (Or.inl ⟨by rfl, ?_⟩) ?_ ?_
          rotate_left
          · intro w'
            go_simp
            with_reducible rfl
          rotate_left
          · simp only [Act.put, List.setIfInBounds_toArray, List.set_cons_zero, List.set_cons_succ, i64_w, i32_w]
            rfl
          refine take_ (i := 11) (N := some 178) (v := ?_) (a' := ?_) #[true, true, true, true, true, true, true, true, true, true, true, true, false, false, false] rfl rfl (by kernel_rfl) (fun _ _ _ h => h) (Or.inl ⟨by rfl, ?_⟩) hHeld ?_ ?_
          rotate_left
          · rintro w' ⟨s0, s1⟩
            go_simp
            with_reducible rfl
          rotate_left
          · simp only [Act.put, List.setIfInBounds_toArray, List.set_cons_zero, List.set_cons_succ, i64_w, i32_w]
            rfl
          refine pure_ (i := 12) (N := some 179) (v := ?_) (a' := ?_) #[true, true, true, true, true, true, true, true, true, true, true, true, true, false, false] rfl rfl (by kernel_rfl) (fun _ _ _ h => h) (Or.inl ⟨by rfl, ?_⟩) ?_ ?_
          rotate_left
          · intro w'
            go_simp
            with_reducible rfl
          rotate_left
          · simp only [Act.put, List.setIfInBounds_toArray, List.set_cons_zero, List.set_cons_succ, i64_w, i32_w]
            rfl
          refine one_ (i := 13) (N := some 180) #[true, true, true, true, true, true, true, true, true, true, true, true, true, true, false] rfl rfl (by kernel_rfl) (by decide) (fun K hK => ?_)
          refine goes_ Try.func20 (by kernel_rfl) rfl #[.int .i64 (rules.length : Int)] (by rfl) rfl rfl (by (try simp only [List.map_toArray, List.map_cons, List.map_nil]); first | done | rfl) ?_
          refine (fixpoint_indices.calls KK (rules.length : Int) (idxs rules.length) _ HIX.out).mono ?_
          rintro e_ wi ⟨vi, rfl, hs, hb⟩
          refine ⟨_, rfl, ?_⟩
          obtain ⟨Ai, ci, rfl⟩ := Kd.R_slice hs
          have UB := Aside0.mk (show ∀ k, (Value.slice Ai (idxs rules.length).length ci).ownBlock = some k → w3.heap.size ≤ k from Kd.R_base hs)
          have HU := Aside0.mk (show Kd.R (Kd.int .i64) 3 wi w0.heap.size (fun k => some k = (Value.slice Ai (idxs rules.length).length ci).ownBlock) (.slice Ai (idxs rules.length).length ci) (idxs rules.length) from Kd.R_lower (Kd.R_tight rfl hs) F4.out.size)
          have HMB := Aside0.mk (show Kd.S (Kd.slice 31 k31) 39 w3 wr.heap.size (fun k => wr.heap.size ≤ k ∧ k < w3.heap.size) (.slice (some ⟨g, 0, none⟩) rules.length cap) rest from Kd.S_mono (Kd.S_bound HM.out) (fun k hk => ⟨hk.2.1, hk.2.2.1⟩))
          clear HM
          have HM := HMB
          clear HMB
          have SEB := Aside0.mk (show gv < w3.heap.size from Kd.R_lt HSE.out gv (by simp [Value.ownBlock]))
          have n0_ := Aside0.mk (below_step F4.out hb)
          have n1_ := Aside0.mk (Kept.below F5.out hb)
          have n2_ := Aside0.mk (blk_below BX.out hb)
          have n3_ := Aside0.mk (Kd.R_below HSE.out hb)
          have n4_ := Aside0.mk (Kd.S_below HM.out hb)
          clear F4 F5 BX HSE HM
          have F4 := n0_
          have F5 := n1_
          have BX := n2_
          have HSE := n3_
          have HM := n4_
          clear n0_ n1_ n2_ n3_ n4_
          clear hb hs
          refine hK.out _ _ ⟨(blk_cell BX.out 0).trans rfl, (blk_cell BX.out 1).trans rfl⟩ (fun hHeld => ?_)
          clear hK K
          refine norm_ (a' := ?_) ?_ ?_
          rotate_left
          · show Act.put _ (some 180) _ = _
            simp only [Act.put, List.setIfInBounds_toArray, List.set_cons_zero, List.set_cons_succ, i64_w, i32_w]
            rfl
          refine last_ (i := 14) (N := some 181) #[true, true, true, true, true, true, true, true, true, true, true, true, true, true, true] rfl rfl (by kernel_rfl) (by decide) (fun K hK => ?_)
          refine goes_ Try.func19 (by kernel_rfl) rfl #[(.slice (some ⟨g, 0, none⟩) rules.length cap), (.slice (some ⟨gv, 0, none⟩) rules.length cv), .slice Ai (idxs rules.length).length ci] (by rfl) rfl rfl (by (try simp only [List.map_toArray, List.map_cons, List.map_nil]); first | done | rfl) ?_
          refine (prop_n kp (some ⟨g, 0, none⟩) cap rest rules.length (fun k => some k = (Value.slice (some ⟨gv, 0, none⟩) rules.length cv).ownBlock) (.slice (some ⟨gv, 0, none⟩) rules.length cv) (diffF sets d rules.length) (fun k => some k = (Value.slice Ai (idxs rules.length).length ci).ownBlock) (.slice Ai (idxs rules.length).length ci) (idxs rules.length) r w0 wi HXL.out F4.out ?q1 (Kd.S_reads' HM.out).2.1 (Kd.R_tight rfl HSE.out) ?q2 HU.out ?q3 HPR.out).mono ?_
          case q1 => exact S_kept_own HM.out HXL.out (fun k hk h_ => h_.elim (fun e_ => by have h3_ : k = gv := (by simpa [Value.ownBlock] using e_); have h1_ := LWR.out.2.2.2; have h2_ := hk.1; omega) (fun e_ => by have h1_ := UB.out k e_.symm; have h2_ := hk.2; omega))
          case q2 => exact fun k h1 h2 => by have h3_ : k = gv := (by simpa [Value.ownBlock] using h1); have h1_ := SEB.out; have h2_ := UB.out k h2.symm; omega
          case q3 => exact fun k h2 h1 => by have h3_ : k = gv := (by simpa [Value.ownBlock] using h1); have h1_ := SEB.out; have h2_ := UB.out k h2.symm; omega
          rintro e_ w11 ⟨rfl, hy, hb, hk⟩
          refine ⟨_, rfl, ?_⟩
          have HFIN := Aside0.mk (show Sv w0.heap.size gs (.slice (some ⟨g, 0, none⟩) rules.length cap) (.slice (some ⟨gv, 0, none⟩) rules.length cv) rest r w11 ∧ Below w0.heap.size w0 w11 ∧ Kept W w11 (fun k => k = gs ∨ some k = (Value.slice (some ⟨gv, 0, none⟩) rules.length cv).ownBlock) from
            ⟨⟨blk_kept BX.out hk (fun h_ => h_.elim (fun e_ => by have h3_ : gs = gv := (by simpa [Value.ownBlock] using e_); exact NSV.out h3_) (fun e_ => by have h1_ := UB.out gs e_.symm; have h2_ := LWR.out.2.2.1; have h3_ := LW9.out; omega)), HS.out.ge, Kd.S_lower (Kd.S_mono (Kd.S_kept HM.out hk (fun k hk2 h_ => h_.elim (fun e_ => by have h3_ : k = gv := (by simpa [Value.ownBlock] using e_); have h1_ := LWR.out.2.2.2; have h2_ := hk2.1; omega) (fun e_ => by have h1_ := UB.out k e_.symm; have h2_ := hk2.2; omega))) (fun k hk2 e_ => by have h3_ : k = gv := (by simpa [Value.ownBlock] using e_); have h1_ := LWR.out.2.2.2; have h2_ := hk2.1; omega)) LWR.out.1, Kd.R_mono hy (fun _ _ => trivial)⟩, hb, F5.out.then_ hk (fun k h_ => h_.elim (fun e_ => .inl (.inr e_)) (fun e_ => .inr (by have h1_ := UB.out k e_.symm; have h2_ := LWR.out.2.1; have h3_ := LW9.out; omega)))⟩)
          clear hy hb hk
          refine hK.out _ _ ?_
          clear hK K
          refine norm_ (a' := ?_) ?_ ?_
          rotate_left
          · show Act.put _ (some 181) _ = _
            simp only [Act.put, List.setIfInBounds_toArray, List.set_cons_zero, List.set_cons_succ, i64_w, i32_w]
            rfl
          refine done_ (by kernel_rfl) ?_
          try clear hHeld
          go_wp2
          go_ret
          exact ⟨rfl, _, HFIN.out⟩
end Go.Proofs.Ytgjcembdmohhkaa.Fs
