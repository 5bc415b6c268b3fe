/- The row of the law FixpointSoundComplete: for every input it returns true and leaves its arguments as they were. No condition. -/
import Derived.Test.YtgjcembdmohhkaaRows
import Derived.Test.YtgjcembdmohhkaaOpn
import Derived.Test.YtgjcembdmohhkaaFsPe
import Derived.WalkKit
import Derived.ProofKit
import Derived.OpenShut
import Derived.ShutString
import Derived.ChangeOld
import Derived.Below
import Derived.SizedLaws
namespace Go.Proofs.Ytgjcembdmohhkaa.fixpointSoundComplete
open Go.ChangeShapes Go.WideShapes Go.ChangeAt Go.RowKit
open Go.ChangeMaps (open_string shut_string)
open Go.Proofs.Ytgjcembdmohhkaa.Fs Go.Proofs.Ytgjcembdmohhkaa.Opn Go.Proofs.YtgjcembdmohhkaaW.PrintWords
set_option linter.unusedVariables false
set_option linter.unusedSimpArgs false
theorem own : ownKnob Try.prog.godebug = none := by kernel_rfl
theorem laidOut : laidOutB Try.prog = true := by kernel_rfl
theorem opn3 : Opn Try.prog 3 (Kd.int .i64) (fun n => (Lit.int .i64 n).wf = true) := opn_int Try.underlying3 (by kernel_rfl)
theorem opn23 : Opn Try.prog 23 (Kd.slice 3 (Kd.int .i64)) (GoodL (fun n => (Lit.int .i64 n).wf = true)) := opn_slice Try.underlying23 (by kernel_rfl) opn3
def good31 (x : S31) : Prop := (fun n => (Lit.int .i64 n).wf = true) x.f0 ∧ (GoodL (fun n => (Lit.int .i64 n).wf = true)) x.f1
theorem opn31 : Opn Try.prog 31 k31 good31 := opn_iso (fun x : S31 => (x.f0, x.f1)) (fun p => ⟨p.1, p.2⟩) (fun _ => rfl) (opn_struct Try.underlying31 (by kernel_rfl) (opn_cons rfl opn3 (opn_last rfl opn23))) (fun _ h => h)
theorem opn39 : Opn Try.prog 39 (Kd.slice 31 k31) (GoodL good31) := opn_slice Try.underlying39 (by kernel_rfl) opn31
theorem opn22 : Opn Try.prog 22 (Kd.slice 39 (Kd.slice 31 k31)) (GoodL (GoodL good31)) := opn_slice Try.underlying22 (by kernel_rfl) opn39
set_option maxRecDepth 100000 in
theorem lifted (os : Os) (started : os.Started) (H : Type) (enc : TypeId × Value → H) :
    ReturnsInHanded {} Try.checked os 5 .any (Rows.fixpointSoundCompleteSpec.pre6 enc Try.prog Try.f5 Rows.fixpointSoundCompleteRow.domain false) (Rows.fixpointSoundCompleteSpec.post enc Try.prog Try.f5 false true false false) := by
  refine returnsInHanded_of_change (C := Try.checked) own started (by kernel_rfl) Try.func5
    (ChangeSpec.witness6 (enc := enc) (C := Try.checked) false ⟨#[], #[.slice none 0 0, .int .i64 0, .int .i64 0, .agg #[.int .i64 0, .slice none 0 0]], []⟩ 8 (by kernel_rfl) (by kernel_rfl) (by kernel_rfl) (by kernel_rfl)) ?_
  intro W base args ds gs before hval0 hW hcnd _
  have hval : ∀ (j : Nat) t v, Try.f5.params[j]? = some t → args[j]? = some v → Value.okWide Try.prog W .any base t v := hval0
  have hW' := hW
  obtain ⟨p, q, hA0, hV, rfl, hfz, hnd⟩ := hW
  have hA : DataW.TrodAll enc Try.prog W 0 (fun _ => true) true Try.f5.params.toList args.toList ds p := hA0
  rw [Try.params5] at hA hval
  obtain ⟨v0, vs0, d0, ds0, p0, q0, hargs, rfl, rfl, h0, r0⟩ := trodAll_cons hA
  obtain ⟨v1, vs1, d1, ds1, p1, q1, rfl, rfl, rfl, h1, r1⟩ := trodAll_cons r0
  obtain ⟨v2, vs2, d2, ds2, p2, q2, rfl, rfl, rfl, h2, r2⟩ := trodAll_cons r1
  obtain ⟨v3, vs3, d3, ds3, p3, q3, rfl, rfl, rfl, h3, r3⟩ := trodAll_cons r2
  obtain ⟨rfl, rfl, rfl⟩ := trodAll_nil r3
  obtain rfl : args = #[v0, v1, v2, v3] := by cases args; simp_all
  obtain ⟨rfl, rfl⟩ := trodVars_none hV
  have lt0 : ∀ x ∈ p0, x.block < W.heap.size := by obtain ⟨m, hm⟩ := h0; exact DataW.trod_lt m _ _ _ hm
  obtain ⟨x0, e0, g0⟩ := of_trod opn22 h0
  obtain ⟨a0, len0, cap0, rfl⟩ := okWide_slice Try.underlying22 (hval 0 22 v0 rfl rfl)
  obtain ⟨A0, c0, ee0, hl0, hr0⟩ := e0
  simp only [Value.cells, List.cons.injEq, Value.slice.injEq, and_true] at ee0
  obtain ⟨rfl, rfl, rfl⟩ := ee0
  have lt1 : ∀ x ∈ p1, x.block < W.heap.size := by obtain ⟨m, hm⟩ := h1; exact DataW.trod_lt m _ _ _ hm
  obtain ⟨x1, e1, g1⟩ := of_trod opn3 h1
  obtain ⟨y1, rfl⟩ := okWide_int Try.underlying3 (hval 1 3 v1 rfl rfl)
  have ee1 : [_] = [_] := e1
  simp only [List.cons.injEq, Value.int.injEq, and_true, true_and] at ee1
  have ef1 := ee1.symm
  subst ef1
  have lt2 : ∀ x ∈ p2, x.block < W.heap.size := by obtain ⟨m, hm⟩ := h2; exact DataW.trod_lt m _ _ _ hm
  obtain ⟨x2, e2, g2⟩ := of_trod opn3 h2
  obtain ⟨y2, rfl⟩ := okWide_int Try.underlying3 (hval 2 3 v2 rfl rfl)
  have ee2 : [_] = [_] := e2
  simp only [List.cons.injEq, Value.int.injEq, and_true, true_and] at ee2
  have ef2 := ee2.symm
  subst ef2
  have lt3 : ∀ x ∈ p3, x.block < W.heap.size := by obtain ⟨m, hm⟩ := h3; exact DataW.trod_lt m _ _ _ hm
  obtain ⟨x3, e3, g3⟩ := of_trod opn31 h3
  obtain ⟨cc3, rfl, _⟩ := okWide_struct Try.underlying31 (hval 3 31 v3 rfl rfl)
  obtain ⟨A3_1, c3_1, ecc3, hl3_1, hr3_1⟩ := k31_open e3
  obtain rfl := Array.toList_inj.1 ecc3
  have call : Calls Try.prog 5 _ W fun e w' => e = .returned (.bool true) ∧ Below W.heap.size W w' := (sc_law _ _ x0 x1 x2 x3 _ _ W hr0 hl0 hr3_1 hl3_1)
  refine Calls.mono call fun e W' he => ?_
  obtain ⟨he, bel⟩ := he
  subst he
  exact ⟨_, rfl, _, _, _, [], _, [], hW', trodAll_mk1 (shut_bool Try.underlying4 _), (trodAll_cons_mk (Below.trod laidOut (by kernel_rfl) (of_decide_eq_true (by kernel_rfl)) h0 bel lt0) (trodAll_cons_mk (Below.trod laidOut (by kernel_rfl) (of_decide_eq_true (by kernel_rfl)) h1 bel lt1) (trodAll_cons_mk (Below.trod laidOut (by kernel_rfl) (of_decide_eq_true (by kernel_rfl)) h2 bel lt2) (trodAll_cons_mk (Below.trod laidOut (by kernel_rfl) (of_decide_eq_true (by kernel_rfl)) h3 bel lt3) trodAll_mk0)))), rfl, bel.frame _, fun h => by cases h⟩
theorem over : Rows.fixpointSoundCompleteRow.holds Try.pinned (OpenSpec.ofChange Rows.fixpointSoundCompleteSpec) :=
  OpenClaim.holds_of_wide 5 Try.f5 rfl rfl rfl rfl rfl rfl rfl ⟨rfl, rfl, rfl, rfl, rfl⟩ rfl rfl rfl rfl rfl (by kernel_rfl) Try.func5 (by kernel_rfl)
    (of_decide_eq_true (by kernel_rfl)) (by unfold Func.isWrapper; first | (rw [if_pos (by decide +kernel)]; kernel_rfl) | (rw [if_neg (by decide +kernel)]; exact ⟨rfl, rfl⟩))
    (fun os started H enc _ => lifted os started H enc)
theorem proved : Rows.FixpointSoundCompleteSaid := over
#print axioms proved
end Go.Proofs.Ytgjcembdmohhkaa.fixpointSoundComplete
namespace Go.Proofs.Ytgjcembdmohhkaa
/-- The row, under a short name, for the claim. -/
theorem fixpointSoundComplete_holds : Rows.FixpointSoundCompleteSaid := fixpointSoundComplete.proved
end Go.Proofs.Ytgjcembdmohhkaa
