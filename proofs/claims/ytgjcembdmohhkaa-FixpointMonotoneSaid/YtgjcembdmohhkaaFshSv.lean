/- fixpoint.Solver in memory: NewSolver, Sets, Add. -/
import Derived.RangeFuncNested
import Derived.RangeFuncBound
import Derived.RangeFuncCalls
import Derived.RangeFuncLeaves
import Derived.RangeFuncBox
import Derived.Shelf.Abstract
import Derived.Shelf.RegionOpen
import Derived.WalkKit
import Derived.OwnWalkIn
import Derived.TacticsInMore
import Derived.LoopNIn
import Derived.LoopIn
import Derived.BigQuiet
import Derived.Test.YtgjcembdmohhkaaFshCl
import Derived.Test.YtgjcembdmohhkaaFshSc
import Derived.Test.YtgjcembdmohhkaaFsx3
namespace Go.Proofs.Ytgjcembdmohhkaa.Fs
open Go.RowKit Go.Shelf Go.Proofs.YtgjcembdmohhkaaW.PrintWords Go.Proofs.YtgjcembdmohhkaaW.PrintLast Go.Proofs.YtgjcembdmohhkaaW.PrintMore
open Go.Proofs.Ytgjcembdmohhkaa
set_option linter.unusedVariables false
set_option linter.unusedSimpArgs false
attribute [local go_sem] Oper.semAt_some
/-- a solver at gs: its rules' lists and its sets are the call's own, apart from one another -/
structure Sv (base gs : Nat) (vr vs : Value) (rules : List (List S31)) (sets : List Int) (W : World) : Prop where
  box : W.heap[gs]? = some (.cells #[vr, vs] 52 (0, 0))
  ge : base ≤ gs
  rul : Kd.S (Kd.slice 31 k31) 39 W base (fun k => some k ≠ vs.ownBlock) vr rules
  set : Kd.R (Kd.int .i64) 3 W base (fun _ => True) vs sets
theorem Sv.below {base gs : Nat} {vr vs : Value} {rules : List (List S31)} {sets : List Int} {W W' : World} (h : Sv base gs vr vs rules sets W) (hb : Below W.heap.size W W') : Sv base gs vr vs rules sets W' :=
  ⟨blk_below h.box hb, h.ge, Kd.S_below h.rul hb, Kd.R_below h.set hb⟩
set_option maxHeartbeats 8000000 in
set_option maxRecDepth 100000 in
theorem newSolver_no (K : Nat) (A0 : Option Addr) (c0 : Nat) (l0 : List (List S31)) (sets : List Int) (er : Int) (w : World) (hr0 : Kd.C (Kd.slice 31 k31) w A0 l0.length l0) (hc0 : l0.length ≤ c0) (hle : fixpoint_Least.f K l0 = some (sets, er)) (he : er ≠ 0) :
    Calls Try.prog 10 #[.slice A0 l0.length c0] w fun e w' => e = .returned (.tuple #[.pointer none, .int .i64 er]) ∧ Below w.heap.size w w' := by
  have hu22 := Try.underlying22
  have hu23 := Try.underlying23
  have hu31 := Try.underlying31
  have hu39 := Try.underlying39
  have hu52 := Try.underlying52
  have HR0 := Aside0.mk hr0
  have HC0 := Aside0.mk hc0
  have HLE := Aside0.mk hle
  clear hr0 hc0 hle
  have HB := Aside0.mk (Below.refl w.heap.size w)
  have e1 : (er == 0) = false := beq_eq_false_iff_ne.2 he
  have e2 : (er != 0) = true := bne_iff_ne.2 he
  clear he
  go_enter Try.func10, Try.ntmps10
  go_wp2_with ((go_at_call 7; refine (fixpoint_Least.calls K A0 c0 l0 sets er _ (Kd.C_below HR0.out HB.out) HC0.out HLE.out).mono ?_; rintro e_ wl ⟨vs, rfl, hs, hb⟩; have HSETS := Aside0.mk (Kd.R_lower hs HB.out.size); obtain ⟨As, cs, evs⟩ := Kd.R_slice hs; subst evs; clear hs; have n0_ := Aside0.mk (below_step HB.out hb); clear HB; have HB := n0_; clear n0_; clear hb))
  go_ret2
  exact ⟨rfl, HB.out⟩
set_option maxHeartbeats 8000000 in
set_option maxRecDepth 100000 in
theorem newSolver_yes (K : Nat) (A0 : Option Addr) (c0 : Nat) (l0 : List (List S31)) (sets : List Int) (w : World) (hr0 : Kd.C (Kd.slice 31 k31) w A0 l0.length l0) (hc0 : l0.length ≤ c0) (hle : fixpoint_Least.f K l0 = some (sets, 0)) (hok : Okr l0) :
    Calls Try.prog 10 #[.slice A0 l0.length c0] w fun e w' => ∃ gs vr vs, e = .returned (.tuple #[.pointer (some ⟨gs, 0, none⟩), .int .i64 0]) ∧ Sv w.heap.size gs vr vs l0 sets w' ∧ Below w.heap.size w w' := by
  have hu22 := Try.underlying22
  have hu23 := Try.underlying23
  have hu31 := Try.underlying31
  have hu39 := Try.underlying39
  have hu52 := Try.underlying52
  have HR0 := Aside0.mk hr0
  have HC0 := Aside0.mk hc0
  have HLE := Aside0.mk hle
  have HOK := Aside0.mk hok
  clear hr0 hc0 hle hok
  have HB := Aside0.mk (Below.refl w.heap.size w)
  go_enter Try.func10, Try.ntmps10
  go_wp2_with (first | (go_at_call 7; refine (fixpoint_Least.calls K A0 c0 l0 sets 0 _ (Kd.C_below HR0.out HB.out) HC0.out HLE.out).mono ?_; rintro e_ wl ⟨vs, rfl, hs, hb⟩; have HSETS := Aside0.mk (Kd.R_lower hs HB.out.size); obtain ⟨As, cs, evs⟩ := Kd.R_slice hs; subst evs; clear hs; have n0_ := Aside0.mk (below_step HB.out hb); clear HB; have HB := n0_; clear n0_; clear hb) | (go_at_call 21; refine (cloneRules_calls A0 c0 l0 _ (Kd.C_below HR0.out HB.out) HC0.out HOK.out).mono ?_; rintro e_ wk ⟨vr, rfl, hs, hb⟩; have HRU := Aside0.mk (Kd.S_lower (Kd.S_new' hs (Kd.R_lt HSETS.out)) HB.out.size); clear hs; have n0_ := Aside0.mk (below_step HB.out hb); have n1_ := Aside0.mk (Kd.R_below HSETS.out hb); clear HB HSETS; have HB := n0_; have HSETS := n1_; clear n0_ n1_; clear hb; obtain ⟨Ar, cr, e_⟩ := Kd.S_slice HRU.out; subst e_) | ((with_reducible refine gate_dst (N := 18) rfl ?_); refine box_event ?hg (N := 18) ?hd (cs := #[.slice Ar l0.length cr, .slice As sets.length cs]) (t := 52) ?hr ?_; (case hd => rfl); (case hg => rfl); (case hr => first | (go_simp; done) | (go_simp; rfl)); intro gs hg w1 hbox hb; have HSV := Aside0.mk (show Sv w.heap.size gs (.slice Ar l0.length cr) (.slice As sets.length cs) l0 sets w1 from ⟨hbox, by rw [hg]; exact HB.out.size, Kd.S_mono (Kd.S_below HRU.out hb) (fun _ hk => hk.2), Kd.R_below HSETS.out hb⟩); have n0_ := Aside0.mk (below_step HB.out hb); clear HB HRU HSETS hb hbox hg; have HB := n0_; clear n0_))
  go_ret2
  exact ⟨gs, _, _, rfl, HSV.out, HB.out⟩
set_option maxHeartbeats 8000000 in
theorem sets_calls (base gs : Nat) (vr vs : Value) (rules : List (List S31)) (sets : List Int) (w : World) (hs : Sv base gs vr vs rules sets w) (hl : sets.length < 1000000) :
    Calls Try.prog 11 #[.pointer (some ⟨gs, 0, none⟩)] w fun e w' => ∃ v, e = .returned v ∧ Kd.R (Kd.int .i64) 3 w' w.heap.size (fun _ => True) v sets ∧ Below w.heap.size w w' := by
  have hu22 := Try.underlying22
  have hu23 := Try.underlying23
  have hu31 := Try.underlying31
  have hu39 := Try.underlying39
  have hu52 := Try.underlying52
  have HS := Aside0.mk hs
  have HL := Aside0.mk hl
  obtain ⟨As, cs, rfl⟩ := Kd.R_slice hs.set
  have hc : w.cell? ⟨gs, 1, none⟩ = some (.slice As sets.length cs) := (blk_cell hs.box 1).trans rfl
  clear hs hl
  go_enter Try.func11, Try.ntmps11
  go_wp2_with (go_at_call 22; refine (clone22 As cs sets _ (Kd.R_reads' HS.out.set).2.2 (Kd.R_reads' HS.out.set).2.1 (by have h_ := HL.out; omega)).mono ?_; rintro e_ w1 ⟨v, rfl, hv, hb⟩; have HV := Aside0.mk hv; have HB := Aside0.mk hb; clear hv hb)
  go_ret
  exact ⟨_, rfl, HV.out, HB.out⟩
end Go.Proofs.Ytgjcembdmohhkaa.Fs
