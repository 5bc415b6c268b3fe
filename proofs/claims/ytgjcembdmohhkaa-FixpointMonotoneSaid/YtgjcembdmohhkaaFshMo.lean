/- FixpointMonotone: the walk. -/
import Derived.RangeFuncNested
import Derived.RangeFuncBound
import Derived.RangeFuncCalls
import Derived.RangeFuncLeaves
import Derived.RangeFuncBox
import Derived.Shelf.Abstract
import Derived.Shelf.RegionOpen
import Derived.WalkKit
import Derived.OwnWalkIn
import Derived.TacticsInMore
import Derived.LoopNIn
import Derived.LoopIn
import Derived.BigQuiet
import Derived.Test.YtgjcembdmohhkaaFshRm
import Derived.Test.YtgjcembdmohhkaaFshSc
import Derived.Test.YtgjcembdmohhkaaFsPm
import Derived.Lib.SliceRun
import Derived.Test.YtgjcembdmohhkaaFsx3
namespace Go.Proofs.Ytgjcembdmohhkaa.Fs
open Go.RowKit Go.Shelf Go.Proofs.YtgjcembdmohhkaaW.PrintWords Go.Proofs.YtgjcembdmohhkaaW.PrintLast Go.Proofs.YtgjcembdmohhkaaW.PrintMore
open Go.Proofs.Ytgjcembdmohhkaa
set_option linter.unusedVariables false
set_option linter.unusedSimpArgs false
attribute [local go_sem] Oper.semAt_some
theorem Sv.lower {base base' gs : Nat} {vr vs : Value} {rules : List (List S31)} {sets : List Int} {W : World} (h : Sv base gs vr vs rules sets W) (hb : base' ≤ base) : Sv base' gs vr vs rules sets W :=
  ⟨h.box, Nat.le_trans hb h.ge, Kd.S_lower h.rul hb, Kd.R_lower h.set hb⟩
set_option maxHeartbeats 8000000 in
set_option maxRecDepth 100000 in
theorem mo_no (K : Nat) (A0 : Option Addr) (c0 : Nat) (l0 : List (List S31)) (x1 : Int) (rule : S31) (A3 : Option Addr) (c3 : Nat) (sets : List Int) (w : World) (hr0 : Kd.C (Kd.slice 31 k31) w A0 l0.length l0) (hc0 : l0.length ≤ c0) (hr3 : Kd.C (Kd.int .i64) w A3 rule.f1.length rule.f1) (hc3 : rule.f1.length ≤ c3) (hex : glossatorkeep3_ruleExample.f K = some true) (er : Int) (hle : fixpoint_Least.f K l0 = some (sets, er)) (he : er ≠ 0) :
    Calls Try.prog 4 #[.slice A0 l0.length c0, .int .i64 x1, .agg #[.int .i64 rule.f0, .slice A3 rule.f1.length c3]] w fun e w' => e = .returned (.bool true) ∧ Below w.heap.size w w' := by
  have hu22 := Try.underlying22
  have hu23 := Try.underlying23
  have hu31 := Try.underlying31
  have hu39 := Try.underlying39
  have hu52 := Try.underlying52
  have HR0 := Aside0.mk hr0
  have HC0 := Aside0.mk hc0
  have HR3 := Aside0.mk hr3
  have HC3 := Aside0.mk hc3
  have HEX := Aside0.mk hex
  clear hr0 hc0 hr3 hc3 hex
  have HLE := Aside0.mk hle
  have HER := Aside0.mk he
  have e1 : (er == 0) = false := beq_eq_false_iff_ne.2 he
  have e1b : (er != 0) = true := bne_iff_ne.2 he
  clear hle he
  go_enter Try.func4, Try.ntmps4
  go_wp2_with (first | ((with_reducible refine gate_dst (N := 5) rfl ?_); refine box_event ?hg (N := 5) ?hd (cs := #[.int .i64 rule.f0, .slice A3 rule.f1.length c3]) (t := 31) ?hr ?_; (case hd => rfl); (case hg => rfl); (case hr => first | (go_simp; done) | (go_simp; rfl)); intro g5 hg w1 hbox hb; have BKg5 := Aside0.mk hbox; have HB := Aside0.mk hb; clear hbox hb hg) | (go_at_call 6; refine (glossatorkeep3_ruleExample.calls K true _ HEX.out).mono ?_; rintro e_ wx ⟨rfl, hb⟩; have n0_ := Aside0.mk (below_step HB.out hb); have n1_ := Aside0.mk (blk_below BKg5.out hb); clear HB BKg5; have HB := n0_; have BKg5 := n1_; clear n0_ n1_; clear hb) | (go_at_call 10; refine (newSolver_no K A0 c0 l0 sets er _ (Kd.C_below HR0.out HB.out) HC0.out HLE.out HER.out).mono ?_; rintro e_ wn ⟨rfl, hb⟩; have n0_ := Aside0.mk (below_step HB.out hb); clear HB; have HB := n0_; clear n0_; clear hb) | (go_at_call 6; refine (glossatorkeep3_ruleExample.calls K true _ HEX.out).mono ?_; rintro e_ wx ⟨rfl, hb⟩; have n0_ := Aside0.mk (below_step HB.out hb); clear HB; have HB := n0_; clear n0_; clear hb))
  go_ret
  exact ⟨rfl, HB.out⟩
set_option maxHeartbeats 8000000 in
set_option maxRecDepth 100000 in
theorem mo_empty (K : Nat) (A0 : Option Addr) (c0 : Nat) (l0 : List (List S31)) (x1 : Int) (rule : S31) (A3 : Option Addr) (c3 : Nat) (sets : List Int) (w : World) (hr0 : Kd.C (Kd.slice 31 k31) w A0 l0.length l0) (hc0 : l0.length ≤ c0) (hr3 : Kd.C (Kd.int .i64) w A3 rule.f1.length rule.f1) (hc3 : rule.f1.length ≤ c3) (hex : glossatorkeep3_ruleExample.f K = some true) (hle : fixpoint_Least.f K l0 = some (sets, 0)) (hok : Okr l0) (h0 : l0.length = 0) :
    Calls Try.prog 4 #[.slice A0 l0.length c0, .int .i64 x1, .agg #[.int .i64 rule.f0, .slice A3 rule.f1.length c3]] w fun e w' => e = .returned (.bool true) ∧ Below w.heap.size w w' := by
  have hu22 := Try.underlying22
  have hu23 := Try.underlying23
  have hu31 := Try.underlying31
  have hu39 := Try.underlying39
  have hu52 := Try.underlying52
  have HR0 := Aside0.mk hr0
  have HC0 := Aside0.mk hc0
  have HR3 := Aside0.mk hr3
  have HC3 := Aside0.mk hc3
  have HEX := Aside0.mk hex
  clear hr0 hc0 hr3 hc3 hex
  have HLE := Aside0.mk hle
  have HOK := Aside0.mk hok
  have e2 : ((l0.length : Int) == 0) = true := beq_iff_eq.2 (by omega)
  have e3 : decide (l0.length = 0) = true := decide_eq_true h0
  clear hle hok h0
  go_enter Try.func4, Try.ntmps4
  go_wp2_with (first | ((with_reducible refine gate_dst (N := 5) rfl ?_); refine box_event ?hg (N := 5) ?hd (cs := #[.int .i64 rule.f0, .slice A3 rule.f1.length c3]) (t := 31) ?hr ?_; (case hd => rfl); (case hg => rfl); (case hr => first | (go_simp; done) | (go_simp; rfl)); intro g5 hg w1 hbox hb; have BKg5 := Aside0.mk hbox; have HB := Aside0.mk hb; clear hbox hb hg) | (go_at_call 6; refine (glossatorkeep3_ruleExample.calls K true _ HEX.out).mono ?_; rintro e_ wx ⟨rfl, hb⟩; have n0_ := Aside0.mk (below_step HB.out hb); have n1_ := Aside0.mk (blk_below BKg5.out hb); clear HB BKg5; have HB := n0_; have BKg5 := n1_; clear n0_ n1_; clear hb) | (go_at_call 10; refine (newSolver_yes K A0 c0 l0 sets _ (Kd.C_below HR0.out HB.out) HC0.out HLE.out HOK.out).mono ?_; rintro e_ wn ⟨gs, vr, vs, rfl, hs, hb⟩; have HSV := Aside0.mk (Sv.lower hs HB.out.size); clear hs; have n0_ := Aside0.mk (below_step HB.out hb); have n1_ := Aside0.mk (blk_below BKg5.out hb); clear HB BKg5; have HB := n0_; have BKg5 := n1_; clear n0_ n1_; clear hb) | (go_at_call 6; refine (glossatorkeep3_ruleExample.calls K true _ HEX.out).mono ?_; rintro e_ wx ⟨rfl, hb⟩; have n0_ := Aside0.mk (below_step HB.out hb); have n1_ := Aside0.mk (Sv.below HSV.out hb); clear HB HSV; have HB := n0_; have HSV := n1_; clear n0_ n1_; clear hb))
  go_ret
  exact ⟨rfl, HB.out⟩
set_option maxHeartbeats 8000000 in
set_option maxRecDepth 100000 in
theorem mo_addno (K : Nat) (A0 : Option Addr) (c0 : Nat) (l0 : List (List S31)) (x1 : Int) (rule : S31) (A3 : Option Addr) (c3 : Nat) (sets : List Int) (w : World) (hr0 : Kd.C (Kd.slice 31 k31) w A0 l0.length l0) (hc0 : l0.length ≤ c0) (hr3 : Kd.C (Kd.int .i64) w A3 rule.f1.length rule.f1) (hc3 : rule.f1.length ≤ c3) (hex : glossatorkeep3_ruleExample.f K = some true) (s : Nat) (ext : List (List S31)) (hle : fixpoint_Least.f K l0 = some (sets, 0)) (hok : Okr l0) (hl3 : rule.f1.length * 8 ≤ 140737488351232) (hgd : Good l0.length sets) (hm1 : glossatorref3_Mod.f x1 l0.length = some (s : Int)) (hs : s < l0.length) (hx : ext = l0.set s (l0.getD s [] ++ [rule])) (heq : glossatorref3_Equal_int.f K sets sets = some true) (t : Int) (hck : fixpoint_Check.f ext = some t) (ht : t ≠ 0) :
    Calls Try.prog 4 #[.slice A0 l0.length c0, .int .i64 x1, .agg #[.int .i64 rule.f0, .slice A3 rule.f1.length c3]] w fun e w' => e = .returned (.bool true) ∧ Below w.heap.size w w' := by
  have hu22 := Try.underlying22
  have hu23 := Try.underlying23
  have hu31 := Try.underlying31
  have hu39 := Try.underlying39
  have hu52 := Try.underlying52
  have HR0 := Aside0.mk hr0
  have HC0 := Aside0.mk hc0
  have HR3 := Aside0.mk hr3
  have HC3 := Aside0.mk hc3
  have HEX := Aside0.mk hex
  clear hr0 hc0 hr3 hc3 hex
  have HLE := Aside0.mk hle
  have HOK := Aside0.mk hok
  have HL3 := Aside0.mk hl3
  have HGD := Aside0.mk hgd
  have HL6 := Aside0.mk (show sets.length < 1000000 from by rw [hgd.len]; have h_ := hok.n60; omega)
  have HM1 := Aside0.mk hm1
  have HS1 := Aside0.mk hs
  have HXE := Aside0.mk hx
  have HEQ := Aside0.mk heq
  have e2 : ((l0.length : Int) == 0) = false := beq_eq_false_iff_ne.2 (by omega)
  have e3 : decide (l0.length = 0) = false := decide_eq_false (by omega)
  clear hle hok hl3 hgd hm1 hs hx heq
  have HCK := Aside0.mk hck
  have HT := Aside0.mk ht
  have t1 : (t == 0) = false := beq_eq_false_iff_ne.2 ht
  have t2 : (t != 0) = true := bne_iff_ne.2 ht
  clear hck ht
  go_enter Try.func4, Try.ntmps4
  go_wp2_with (first | ((with_reducible refine gate_dst (N := 5) rfl ?_); refine box_event ?hg (N := 5) ?hd (cs := #[.int .i64 rule.f0, .slice A3 rule.f1.length c3]) (t := 31) ?hr ?_; (case hd => rfl); (case hg => rfl); (case hr => first | (go_simp; done) | (go_simp; rfl)); intro g5 hg w1 hbox hb; have BKg5 := Aside0.mk hbox; have HB := Aside0.mk hb; clear hbox hb hg) | (go_at_call 6; refine (glossatorkeep3_ruleExample.calls K true _ HEX.out).mono ?_; rintro e_ wx ⟨rfl, hb⟩; have n0_ := Aside0.mk (below_step HB.out hb); have n1_ := Aside0.mk (blk_below BKg5.out hb); clear HB BKg5; have HB := n0_; have BKg5 := n1_; clear n0_ n1_; clear hb) | (go_at_call 10; refine (newSolver_yes K A0 c0 l0 sets _ (Kd.C_below HR0.out HB.out) HC0.out HLE.out HOK.out).mono ?_; rintro e_ wn ⟨gs, vr, vs, rfl, hs, hb⟩; have HSV := Aside0.mk (Sv.lower hs HB.out.size); clear hs; have n0_ := Aside0.mk (below_step HB.out hb); have n1_ := Aside0.mk (blk_below BKg5.out hb); clear HB BKg5; have HB := n0_; have BKg5 := n1_; clear n0_ n1_; clear hb) | (go_at_call 9; refine (glossatorref3_Mod.calls _ _ _ _ HM1.out).mono ?_; rintro e_ wm ⟨rfl, hd_⟩; have hb := hd_.below; clear hd_; have n0_ := Aside0.mk (below_step HB.out hb); have n1_ := Aside0.mk (blk_below BKg5.out hb); have n2_ := Aside0.mk (Sv.below HSV.out hb); clear HB BKg5 HSV; have HB := n0_; have BKg5 := n1_; have HSV := n2_; clear n0_ n1_ n2_; clear hb) | (go_at_call 11; refine (sets_calls w.heap.size gs vr vs l0 sets _ HSV.out HL6.out).mono ?_; rintro e_ ws ⟨vb, rfl, hs, hb⟩; obtain ⟨AbHBF, cbHBF, eb_⟩ := Kd.R_slice hs; subst eb_; have HBF := Aside0.mk (show Kd.R (Kd.int .i64) 3 ws w.heap.size (fun k => k ≠ gs ∧ some k ≠ vs.ownBlock) _ sets from Kd.R_lower (Kd.R_mono (Kd.R_bound hs) (fun k hk => ⟨fun e2_ => by have h1_ := blk_lt HSV.out.box; have h2_ := hk.2.1; omega, fun e2_ => by have h1_ := Kd.R_lt HSV.out.set k e2_.symm; have h2_ := hk.2.1; omega⟩)) HB.out.size); clear hs; have n0_ := Aside0.mk (below_step HB.out hb); have n1_ := Aside0.mk (blk_below BKg5.out hb); have n2_ := Aside0.mk (Sv.below HSV.out hb); clear HB BKg5 HSV; have HB := n0_; have BKg5 := n1_; have HSV := n2_; clear n0_ n1_ n2_; clear hb; have hc50 : ws.cell? ⟨g5, 0, none⟩ = some (.int .i64 rule.f0) := (blk_cell BKg5.out 0).trans rfl; have hc51 : ws.cell? ⟨g5, 1, none⟩ = some (.slice A3 rule.f1.length c3) := (blk_cell BKg5.out 1).trans rfl) | (go_at_call 12; refine (add_no K w _ gs vr vs l0 sets s rule A3 c3 ext HSV.out HB.out HS1.out HOK.out (Kd.C_below HR3.out HB.out) HC3.out HL3.out HXE.out t HCK.out HT.out).mono ?_; rintro e_ wa ⟨rfl, hb⟩; have n0_ := Aside0.mk (below_step HB.out hb); have n1_ := Aside0.mk (Sv.below HSV.out hb); have n2_ := Aside0.mk (Kd.R_below HBF.out hb); clear HB HSV HBF; have HB := n0_; have HSV := n1_; have HBF := n2_; clear n0_ n1_ n2_; clear hb BKg5) | (go_at_call 6; refine (glossatorkeep3_ruleExample.calls K true _ HEX.out).mono ?_; rintro e_ wx ⟨rfl, hb⟩; have n0_ := Aside0.mk (below_step HB.out hb); have n1_ := Aside0.mk (Sv.below HSV.out hb); have n2_ := Aside0.mk (Kd.R_below HBF.out hb); clear HB HSV HBF; have HB := n0_; have HSV := n1_; have HBF := n2_; clear n0_ n1_ n2_; clear hb) | (go_at_call 11; refine (sets_calls w.heap.size gs vr vs l0 sets _ HSV.out HL6.out).mono ?_; rintro e_ ws ⟨vb, rfl, hs, hb⟩; obtain ⟨AbHAF, cbHAF, eb_⟩ := Kd.R_slice hs; subst eb_; have HAF := Aside0.mk (show Kd.R (Kd.int .i64) 3 ws w.heap.size (fun k => k ≠ gs ∧ some k ≠ vs.ownBlock) _ sets from Kd.R_lower (Kd.R_mono (Kd.R_bound hs) (fun k hk => ⟨fun e2_ => by have h1_ := blk_lt HSV.out.box; have h2_ := hk.2.1; omega, fun e2_ => by have h1_ := Kd.R_lt HSV.out.set k e2_.symm; have h2_ := hk.2.1; omega⟩)) HB.out.size); clear hs; have n0_ := Aside0.mk (below_step HB.out hb); have n1_ := Aside0.mk (Sv.below HSV.out hb); have n2_ := Aside0.mk (Kd.R_below HBF.out hb); clear HB HSV HBF; have HB := n0_; have HSV := n1_; have HBF := n2_; clear n0_ n1_ n2_; clear hb) | (go_at_call 13; refine (glossatorref3_Equal_int.calls K AbHAF cbHAF sets AbHBF cbHBF sets true _ (Kd.R_reads' HAF.out).2.2 (Kd.R_reads' HAF.out).2.1 (Kd.R_reads' HBF.out).2.2 (Kd.R_reads' HBF.out).2.1 HEQ.out).mono ?_; rintro e_ we ⟨rfl, hd_⟩; have hb := hd_.below; clear hd_; have n0_ := Aside0.mk (below_step HB.out hb); clear HB; have HB := n0_; clear n0_; clear hb))
  go_ret
  exact ⟨rfl, HB.out⟩
set_option maxHeartbeats 8000000 in
set_option maxRecDepth 100000 in
theorem mo_main (K : Nat) (A0 : Option Addr) (c0 : Nat) (l0 : List (List S31)) (x1 : Int) (rule : S31) (A3 : Option Addr) (c3 : Nat) (sets : List Int) (w : World) (hr0 : Kd.C (Kd.slice 31 k31) w A0 l0.length l0) (hc0 : l0.length ≤ c0) (hr3 : Kd.C (Kd.int .i64) w A3 rule.f1.length rule.f1) (hc3 : rule.f1.length ≤ c3) (hex : glossatorkeep3_ruleExample.f K = some true) (s : Nat) (ext : List (List S31)) (hle : fixpoint_Least.f K l0 = some (sets, 0)) (hok : Okr l0) (hl3 : rule.f1.length * 8 ≤ 140737488351232) (hgd : Good l0.length sets) (hm1 : glossatorref3_Mod.f x1 l0.length = some (s : Int)) (hs : s < l0.length) (hx : ext = l0.set s (l0.getD s [] ++ [rule])) (heq : glossatorref3_Equal_int.f K sets sets = some true) (hK : 1001 ≤ K) (hck : fixpoint_Check.f ext = some 0) (aft : List Int) (hpr : fixpoint_propagate.f K ext sets [(s : Int)] = some aft) (hox : Okr ext) (hga : Good ext.length aft)
    (hle2 : ∀ i : Nat, i < l0.length → Go.bits .andNot .i64 (rd sets (i : Int)) (rd aft (i : Int)) = 0) (m : Nat) (hm : (rd_L3 l0 (s : Int)).length = m) (hxm : (rd_L3 ext (s : Int)).length = m + 1) (hxr : rule = rd_T31 (rd_L3 ext (s : Int)) (m : Int))
    (hxd : l0 = ext.set s ((ext.getD s []).take m)) (hpr2 : ∀ d, Rm ext aft s rule d → C1 aft d ext ext.length → ∃ kp, fixpoint_propagate.f kp l0 (diffF aft d ext.length) (idxs ext.length) = some sets) :
    Calls Try.prog 4 #[.slice A0 l0.length c0, .int .i64 x1, .agg #[.int .i64 rule.f0, .slice A3 rule.f1.length c3]] w fun e w' => e = .returned (.bool true) ∧ Below w.heap.size w w' := by
  have hu22 := Try.underlying22
  have hu23 := Try.underlying23
  have hu31 := Try.underlying31
  have hu39 := Try.underlying39
  have hu52 := Try.underlying52
  have HR0 := Aside0.mk hr0
  have HC0 := Aside0.mk hc0
  have HR3 := Aside0.mk hr3
  have HC3 := Aside0.mk hc3
  have HEX := Aside0.mk hex
  clear hr0 hc0 hr3 hc3 hex
  have hgl := hgd.len
  have HLE := Aside0.mk hle
  have HOK := Aside0.mk hok
  have HL3 := Aside0.mk hl3
  have HGD := Aside0.mk hgd
  have HL6 := Aside0.mk (show sets.length < 1000000 from by rw [hgd.len]; have h_ := hok.n60; omega)
  have HM1 := Aside0.mk hm1
  have HS1 := Aside0.mk hs
  have HXE := Aside0.mk hx
  have HEQ := Aside0.mk heq
  have e2 : ((l0.length : Int) == 0) = false := beq_eq_false_iff_ne.2 (by omega)
  have e3 : decide (l0.length = 0) = false := decide_eq_false (by omega)
  clear hle hok hl3 hgd hm1 hs hx heq
  have HK := Aside0.mk hK
  have HCK := Aside0.mk hck
  have HPR := Aside0.mk hpr
  have HOX := Aside0.mk hox
  have HGA := Aside0.mk hga
  have HXM := Aside0.mk hxm
  have HXR := Aside0.mk hxr
  have HXD := Aside0.mk hxd
  have HPR2 := Aside0.mk hpr2
  have HLE2 := Aside0.mk hle2
  have hxl : ext.length = l0.length := by have h_ := HXE.out; rw [h_, List.length_set]
  have HXL := Aside0.mk hxl
  have HS2 := Aside0.mk (show s < ext.length from by rw [hxl]; exact HS1.out)
  have HL7 := Aside0.mk (show aft.length < 1000000 from by rw [hga.len]; have h_ := hox.n60; omega)
  have HGL := Aside0.mk hgl
  have HAL := Aside0.mk (show aft.length = l0.length from by rw [hga.len, hxl])
  obtain ⟨ad, A2, c2, ea, hy0, hl2, hi2⟩ := at_L3 HR0.out (s : Int) (by omega) (by have h_ := HS1.out; omega)
  cases ea
  rw [Int.toNat_natCast, hm] at hy0
  have HY := Aside0.mk hy0
  have p1 : (0 ≤ (s : Int)) = True := eq_true (by omega)
  have p2 : ((s : Int) < (l0.length : Int)) = True := eq_true (by have h_ := HS1.out; omega)
  have p2b : (s < l0.length) = True := eq_true HS1.out
  clear hK hck hpr hox hga hxm hxr hxd hpr2 hle2 hxl hgl hy0 hl2 hi2 hm
  go_enter Try.func4, Try.ntmps4
  go_wp2_with (first | ((with_reducible refine gate_dst (N := 5) rfl ?_); refine box_event ?hg (N := 5) ?hd (cs := #[.int .i64 rule.f0, .slice A3 rule.f1.length c3]) (t := 31) ?hr ?_; (case hd => rfl); (case hg => rfl); (case hr => first | (go_simp; done) | (go_simp; rfl)); intro g5 hg w1 hbox hb; have BKg5 := Aside0.mk hbox; have HB := Aside0.mk hb; clear hbox hb hg) | (go_at_call 6; refine (glossatorkeep3_ruleExample.calls K true _ HEX.out).mono ?_; rintro e_ wx ⟨rfl, hb⟩; have n0_ := Aside0.mk (below_step HB.out hb); have n1_ := Aside0.mk (blk_below BKg5.out hb); clear HB BKg5; have HB := n0_; have BKg5 := n1_; clear n0_ n1_; clear hb) | (go_at_call 10; refine (newSolver_yes K (some ad) c0 l0 sets _ (Kd.C_below HR0.out HB.out) HC0.out HLE.out HOK.out).mono ?_; rintro e_ wn ⟨gs, vr, vs, rfl, hs, hb⟩; have HSV := Aside0.mk (Sv.lower hs HB.out.size); clear hs; have n0_ := Aside0.mk (below_step HB.out hb); have n1_ := Aside0.mk (blk_below BKg5.out hb); clear HB BKg5; have HB := n0_; have BKg5 := n1_; clear n0_ n1_; clear hb) | (go_at_call 9; refine (glossatorref3_Mod.calls _ _ _ _ HM1.out).mono ?_; rintro e_ wm ⟨rfl, hd_⟩; have hb := hd_.below; clear hd_; have n0_ := Aside0.mk (below_step HB.out hb); have n1_ := Aside0.mk (blk_below BKg5.out hb); have n2_ := Aside0.mk (Sv.below HSV.out hb); clear HB BKg5 HSV; have HB := n0_; have BKg5 := n1_; have HSV := n2_; clear n0_ n1_ n2_; clear hb) | (go_at_call 11; refine (sets_calls w.heap.size gs vr vs l0 sets _ HSV.out HL6.out).mono ?_; rintro e_ ws ⟨vb, rfl, hs, hb⟩; obtain ⟨AbHBF, cbHBF, eb_⟩ := Kd.R_slice hs; subst eb_; have HBF := Aside0.mk (show Kd.R (Kd.int .i64) 3 ws w.heap.size (fun k => k ≠ gs ∧ some k ≠ vs.ownBlock) _ sets from Kd.R_lower (Kd.R_mono (Kd.R_bound hs) (fun k hk => ⟨fun e2_ => by have h1_ := blk_lt HSV.out.box; have h2_ := hk.2.1; omega, fun e2_ => by have h1_ := Kd.R_lt HSV.out.set k e2_.symm; have h2_ := hk.2.1; omega⟩)) HB.out.size); clear hs; have n0_ := Aside0.mk (below_step HB.out hb); have n1_ := Aside0.mk (blk_below BKg5.out hb); have n2_ := Aside0.mk (Sv.below HSV.out hb); clear HB BKg5 HSV; have HB := n0_; have BKg5 := n1_; have HSV := n2_; clear n0_ n1_ n2_; clear hb; have hc50 : ws.cell? ⟨g5, 0, none⟩ = some (.int .i64 rule.f0) := (blk_cell BKg5.out 0).trans rfl; have hc51 : ws.cell? ⟨g5, 1, none⟩ = some (.slice A3 rule.f1.length c3) := (blk_cell BKg5.out 1).trans rfl) | (go_at_call 12; refine (add_yes K w _ gs vr vs l0 sets s rule A3 c3 ext HSV.out HB.out HS1.out HOK.out (Kd.C_below HR3.out HB.out) HC3.out HL3.out HXE.out aft HCK.out HPR.out).mono ?_; rintro e_ wa ⟨rfl, vr2, hs, hb, hk⟩; have n0_ := Aside0.mk hb; have n1_ := Aside0.mk hs; have n2_ := Aside0.mk (Kd.R_kept HBF.out hk (fun k hk2 h_ => h_.elim hk2.1 hk2.2)); clear HB HSV HBF BKg5 hs hb hk; have HB := n0_; have HSV := n1_; have HBF := n2_; clear n0_ n1_ n2_) | (go_at_call 11; refine (sets_calls w.heap.size gs vr2 vs ext aft _ HSV.out HL7.out).mono ?_; rintro e_ ws ⟨vb, rfl, hs, hb⟩; obtain ⟨AbHAF, cbHAF, eb_⟩ := Kd.R_slice hs; subst eb_; have HAF := Aside0.mk (show Kd.R (Kd.int .i64) 3 ws w.heap.size (fun k => k ≠ gs ∧ some k ≠ vs.ownBlock) _ aft from Kd.R_lower (Kd.R_mono (Kd.R_bound hs) (fun k hk => ⟨fun e2_ => by have h1_ := blk_lt HSV.out.box; have h2_ := hk.2.1; omega, fun e2_ => by have h1_ := Kd.R_lt HSV.out.set k e2_.symm; have h2_ := hk.2.1; omega⟩)) HB.out.size); clear hs; have n0_ := Aside0.mk (below_step HB.out hb); have n1_ := Aside0.mk (Sv.below HSV.out hb); have n2_ := Aside0.mk (Kd.R_below HBF.out hb); clear HB HSV HBF; have HB := n0_; have HSV := n1_; have HBF := n2_; clear n0_ n1_ n2_; clear hb))
  go_loopg [51] l0.length (fun kq v51 w' => ∃ i : Nat, v51 = .int .i64 (i : Int) ∧ Aside0 (i + kq = l0.length) ∧ Aside0 (Below w.heap.size w w') ∧ Aside0 (Sv w.heap.size gs vr2 vs ext aft w') ∧ Aside0 (Kd.R (Kd.int .i64) 3 w' w.heap.size (fun k => k ≠ gs ∧ some k ≠ vs.ownBlock) (.slice AbHBF sets.length cbHBF) sets) ∧ Aside0 (Kd.R (Kd.int .i64) 3 w' w.heap.size (fun k => k ≠ gs ∧ some k ≠ vs.ownBlock) (.slice AbHAF aft.length cbHAF) aft))
  case atStart => exact ⟨0, rfl, ⟨by omega⟩, HB, HSV, HBF, HAF⟩
  case round =>
    clear HB HSV HBF HAF
    obtain ⟨i, rfl, E1, HB, HSV, HBF, HAF⟩ := hrel
    by_cases ci : i < l0.length
    · have c1a : i < sets.length := by rw [HGL.out]; exact ci
      have c1b : decide (i < sets.length) = true := decide_eq_true c1a
      have c1c : decide ((i : Int) < (sets.length : Int)) = true := decide_eq_true (by omega)
      have c1d : i < aft.length := by rw [HAL.out]; exact ci
      obtain ⟨k1, rfl⟩ : ∃ k1, gk = k1 + 1 := ⟨gk - 1, by have h_ := E1.out; omega⟩
      have hgl := HGL.out
      have hal := HAL.out
      obtain ⟨ad1, ea1, hq1⟩ := Kd.at_int (Kd.R_reads' HBF.out).2.2 (i : Int) (by omega) (by omega)
      obtain ⟨ad2, ea2, hq2⟩ := Kd.at_int (Kd.R_reads' HAF.out).2.2 (i : Int) (by omega) (by omega)
      cases ea1
      cases ea2
      rw [Int.toNat_natCast] at hq1 hq2
      have HQ := Aside0.mk (And.intro hq1 hq2)
      have u1 : (0 ≤ (i : Int)) = True := eq_true (by omega)
      have u2 : ((i : Int) < (sets.length : Int)) = True := eq_true (by omega)
      have u3 : ((i : Int) < (aft.length : Int)) = True := eq_true (by omega)
      have u4 : (i < sets.length) = True := eq_true c1a
      have u5 : (i < aft.length) = True := eq_true c1d
      have hz := HLE2.out i ci
      have hw1 : wrap64 ((i : Int) + 1) = (i : Int) + 1 := w64_id' (by omega) (by have := HOK.out.n60; omega)
      have hw1b : IntKind.i64.wrap ((i : Int) + 1) = (i : Int) + 1 := (i64_w _).trans hw1
      clear ci c1a c1d hq1 hq2 hgl hal
      go_wp2
      refine start_ (n := 10) (S := fun w' => w'.cell? (ad1.add i) = some (.int .i64 (rd sets (i : Int))) ∧ w'.cell? (ad2.add i) = some (.int .i64 (rd aft (i : Int)))) (ds := []) #[false, false, false, false, false, false, false, false, false, false] (by kernel_rfl) rfl rfl ⟨HQ.out.1, HQ.out.2⟩ (fun hHeld => ?_)
      have hb := below_drew1 (Below.refl wr.heap.size wr)
      have n0_ := Aside0.mk (below_step HB.out hb)
      have n1_ := Aside0.mk (Sv.below HSV.out hb)
      have n2_ := Aside0.mk (Kd.R_below HBF.out hb)
      have n3_ := Aside0.mk (Kd.R_below HAF.out hb)
      clear HB HSV HBF HAF
      have HB := n0_
      have HSV := n1_
      have HBF := n2_
      have HAF := n3_
      clear n0_ n1_ n2_ n3_
      clear hb HQ
      generalize wr.drew = w3 at HB HSV HBF HAF hHeld ⊢
      refine pure_ (i := 0) (N := some 54) (v := ?_) (a' := ?_) #[true, false, false, false, false, false, false, false, false, false] rfl rfl (by kernel_rfl) (fun _ _ _ h => h) (Or.inl ⟨by rfl, ?_⟩) ?_ ?_
      rotate_left
      · intro w'
        go_simp
        with_reducible rfl
      rotate_left
      · simp only [Act.put, List.setIfInBounds_toArray, List.set_cons_zero, List.set_cons_succ, i64_w, i32_w]
        rfl
      refine pure_ (i := 1) (N := some 55) (v := ?_) (a' := ?_) #[true, true, false, false, false, false, false, false, false, false] rfl rfl (by kernel_rfl) (fun _ _ _ h => h) (Or.inl ⟨by rfl, ?_⟩) ?_ ?_
      rotate_left
      · intro w'
        go_simp
        with_reducible rfl
      rotate_left
      · simp only [Act.put, List.setIfInBounds_toArray, List.set_cons_zero, List.set_cons_succ, i64_w, i32_w]
        rfl
      refine pure_ (i := 2) (N := some 56) (v := ?_) (a' := ?_) #[true, true, true, false, false, false, false, false, false, false] rfl rfl (by kernel_rfl) (fun _ _ _ h => h) (Or.inl ⟨by rfl, ?_⟩) ?_ ?_
      rotate_left
      · intro w'
        go_simp
        with_reducible rfl
      rotate_left
      · simp only [Act.put, List.setIfInBounds_toArray, List.set_cons_zero, List.set_cons_succ, i64_w, i32_w]
        rfl
      refine take_ (i := 3) (N := some 57) (v := ?_) (a' := ?_) #[true, true, true, true, false, false, false, false, false, false] rfl rfl (by kernel_rfl) (fun _ _ _ h => h) (Or.inl ⟨by rfl, ?_⟩) hHeld ?_ ?_
      rotate_left
      · rintro w' ⟨s0, s1⟩
        go_simp
        with_reducible rfl
      rotate_left
      · simp only [Act.put, List.setIfInBounds_toArray, List.set_cons_zero, List.set_cons_succ, i64_w, i32_w]
        rfl
      refine pure_ (i := 4) (N := some 58) (v := ?_) (a' := ?_) #[true, true, true, true, true, false, false, false, false, false] rfl rfl (by kernel_rfl) (fun _ _ _ h => h) (Or.inl ⟨by rfl, ?_⟩) ?_ ?_
      rotate_left
      · intro w'
        go_simp
        with_reducible rfl
      rotate_left
      · simp only [Act.put, List.setIfInBounds_toArray, List.set_cons_zero, List.set_cons_succ, i64_w, i32_w]
        rfl
      refine pure_ (i := 5) (N := some 59) (v := ?_) (a' := ?_) #[true, true, true, true, true, true, false, false, false, false] rfl rfl (by kernel_rfl) (fun _ _ _ h => h) (Or.inl ⟨by rfl, ?_⟩) ?_ ?_
      rotate_left
      · intro w'
        go_simp
        with_reducible rfl
      rotate_left
      · simp only [Act.put, List.setIfInBounds_toArray, List.set_cons_zero, List.set_cons_succ, i64_w, i32_w]
        rfl
      refine pure_ (i := 6) (N := some 60) (v := ?_) (a' := ?_) #[true, true, true, true, true, true, true, false, false, false] rfl rfl (by kernel_rfl) (fun _ _ _ h => h) (Or.inl ⟨by rfl, ?_⟩) ?_ ?_
      rotate_left
      · intro w'
        go_simp
        with_reducible rfl
      rotate_left
      · simp only [Act.put, List.setIfInBounds_toArray, List.set_cons_zero, List.set_cons_succ, i64_w, i32_w]
        rfl
      refine take_ (i := 7) (N := some 61) (v := ?_) (a' := ?_) #[true, true, true, true, true, true, true, true, false, false] rfl rfl (by kernel_rfl) (fun _ _ _ h => h) (Or.inl ⟨by rfl, ?_⟩) hHeld ?_ ?_
      rotate_left
      · rintro w' ⟨s0, s1⟩
        go_simp
        with_reducible rfl
      rotate_left
      · simp only [Act.put, List.setIfInBounds_toArray, List.set_cons_zero, List.set_cons_succ, i64_w, i32_w]
        rfl
      refine pure_ (i := 8) (N := some 62) (v := ?_) (a' := ?_) #[true, true, true, true, true, true, true, true, true, false] rfl rfl (by kernel_rfl) (fun _ _ _ h => h) (Or.inl ⟨by rfl, ?_⟩) ?_ ?_
      rotate_left
      · intro w'
        go_simp
        with_reducible rfl
      rotate_left
      · simp only [Act.put, List.setIfInBounds_toArray, List.set_cons_zero, List.set_cons_succ, i64_w, i32_w]
        rfl
      refine pure_ (i := 9) (N := some 63) (v := ?_) (a' := ?_) #[true, true, true, true, true, true, true, true, true, true] rfl rfl (by kernel_rfl) (fun _ _ _ h => h) (Or.inl ⟨by rfl, ?_⟩) ?_ ?_
      rotate_left
      · intro w'
        go_simp
        with_reducible rfl
      rotate_left
      · simp only [Act.put, List.setIfInBounds_toArray, List.set_cons_zero, List.set_cons_succ, i64_w, i32_w]
        rfl
      refine done_ (by kernel_rfl) ?_
      try clear hHeld
      go_wp2
      go_roundg k1
      case measure => have := E1.out; omega
      case rel => exact ⟨i + 1, by simp [hw1, hw1b], ⟨by have h_ := E1.out; omega⟩, HB, HSV, HBF, HAF⟩
    · have hgl := HGL.out
      have c1b : decide (i < sets.length) = false := decide_eq_false (by omega)
      have c1c : decide ((i : Int) < (sets.length : Int)) = false := decide_eq_false (by omega)
      clear ci hgl
      go_wp2_with (first | (go_at_call 6; refine (glossatorkeep3_ruleExample.calls K true _ HEX.out).mono ?_; rintro e_ wx ⟨rfl, hb⟩; have n0_ := Aside0.mk (below_step HB.out hb); have n1_ := Aside0.mk (Sv.below HSV.out hb); have n2_ := Aside0.mk (Kd.R_below HBF.out hb); clear HB HSV HBF; have HB := n0_; have HSV := n1_; have HBF := n2_; clear n0_ n1_ n2_; clear hb; have hyx : wx.cell? (ad.add s) = some (.slice A2 m c2) := (HB.out.cell (World.block_lt_of_cell? w _ HY.out)).trans HY.out) | (go_at_call 14; refine (remove_calls K w _ gs vr2 vs ext aft s m rule l0 sets HSV.out HB.out HS2.out HOX.out HGA.out HXM.out HXR.out HK.out HXD.out HPR2.out).mono ?_; rintro e_ wr2 ⟨rfl, vr3, hs, hb, hk⟩; have n0_ := Aside0.mk hb; have n1_ := Aside0.mk hs; have n2_ := Aside0.mk (Kd.R_kept HBF.out hk (fun k hk2 h_ => h_.elim hk2.1 hk2.2)); clear HB HSV HBF hs hb hk; have HB := n0_; have HSV := n1_; have HBF := n2_; clear n0_ n1_ n2_) | (go_at_call 11; refine (sets_calls w.heap.size gs vr3 vs l0 sets _ HSV.out HL6.out).mono ?_; rintro e_ ws ⟨vb, rfl, hs, hb⟩; obtain ⟨AbHAG, cbHAG, eb_⟩ := Kd.R_slice hs; subst eb_; have HAG := Aside0.mk (show Kd.R (Kd.int .i64) 3 ws w.heap.size (fun k => k ≠ gs ∧ some k ≠ vs.ownBlock) _ sets from Kd.R_lower (Kd.R_mono (Kd.R_bound hs) (fun k hk => ⟨fun e2_ => by have h1_ := blk_lt HSV.out.box; have h2_ := hk.2.1; omega, fun e2_ => by have h1_ := Kd.R_lt HSV.out.set k e2_.symm; have h2_ := hk.2.1; omega⟩)) HB.out.size); clear hs; have n0_ := Aside0.mk (below_step HB.out hb); have n1_ := Aside0.mk (Sv.below HSV.out hb); have n2_ := Aside0.mk (Kd.R_below HBF.out hb); clear HB HSV HBF; have HB := n0_; have HSV := n1_; have HBF := n2_; clear n0_ n1_ n2_; clear hb) | (go_at_call 13; refine (glossatorref3_Equal_int.calls K AbHAG cbHAG sets AbHBF cbHBF sets true _ (Kd.R_reads' HAG.out).2.2 (Kd.R_reads' HAG.out).2.1 (Kd.R_reads' HBF.out).2.2 (Kd.R_reads' HBF.out).2.1 HEQ.out).mono ?_; rintro e_ we ⟨rfl, hd_⟩; have hb := hd_.below; clear hd_; have n0_ := Aside0.mk (below_step HB.out hb); clear HB; have HB := n0_; clear n0_; clear hb))
      go_ret
      exact ⟨rfl, HB.out⟩
end Go.Proofs.Ytgjcembdmohhkaa.Fs
