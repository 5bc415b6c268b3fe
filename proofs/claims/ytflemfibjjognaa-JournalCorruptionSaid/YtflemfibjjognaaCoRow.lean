/- The row of the law JournalCorruption: for every input it returns true and leaves its arguments as they were. No condition. -/
import Derived.Test.YtflemfibjjognaaRows
import Derived.Test.YtflemfibjjognaaOpn
import Derived.Test.YtflemfibjjognaaJp
import Derived.WalkKit
import Derived.ProofKit
import Derived.OpenShut
import Derived.ShutString
import Derived.ChangeOld
import Derived.Below
import Derived.SizedLaws
namespace Go.Proofs.Ytflemfibjjognaa.journalCorruption
open Go.ChangeShapes Go.WideShapes Go.ChangeAt Go.RowKit
open Go.ChangeMaps (open_string shut_string)
open Go.Proofs.Ytflemfibjjognaa.Jr Go.Proofs.Ytflemfibjjognaa.Opn Go.Proofs.YtflemfibjjognaaW.PrintWords
set_option linter.unusedVariables false
set_option linter.unusedSimpArgs false
theorem own : ownKnob Try.prog.godebug = none := by kernel_rfl
theorem laidOut : laidOutB Try.prog = true := by kernel_rfl
theorem opn9 : Opn Try.prog 9 Kd.string (fun s => s.size ≤ 9223372036854775807) := opn_string Try.underlying9 (by kernel_rfl)
theorem opn4 : Opn Try.prog 4 Kd.bool (fun _ => True) := opn_bool Try.underlying4 (by kernel_rfl)
def good31 (x : S31) : Prop := (fun s => s.size ≤ 9223372036854775807) x.f0 ∧ (fun s => s.size ≤ 9223372036854775807) x.f1 ∧ (fun _ => True) x.f2
theorem opn31 : Opn Try.prog 31 k31 good31 := opn_iso (fun x : S31 => (x.f0, x.f1, x.f2)) (fun p => ⟨p.1, p.2.1, p.2.2⟩) (fun _ => rfl) (opn_struct Try.underlying31 (by kernel_rfl) (opn_cons rfl opn9 (opn_cons rfl opn9 (opn_last rfl opn4)))) (fun _ h => h)
theorem opn22 : Opn Try.prog 22 (Kd.slice 31 k31) (GoodL good31) := opn_slice Try.underlying22 (by kernel_rfl) opn31
theorem opn3 : Opn Try.prog 3 (Kd.int .i64) (fun n => (Lit.int .i64 n).wf = true) := opn_int Try.underlying3 (by kernel_rfl)
theorem opn5 : Opn Try.prog 5 (Kd.int .u8) (fun n => (Lit.int .u8 n).wf = true) := opn_int Try.underlying5 (by kernel_rfl)
theorem byte_range {n : Int} (h : (Lit.int .u8 n).wf = true) : 0 ≤ n ∧ n ≤ 255 := by
  simpa [Lit.wf, IntKind.min, IntKind.max, IntKind.signed, IntKind.bits] using h
set_option maxRecDepth 100000 in
theorem lifted (os : Os) (started : os.Started) (H : Type) (enc : TypeId × Value → H) :
    ReturnsInHanded {} Try.checked os 5 .any (Rows.journalCorruptionSpec.pre6 enc Try.prog Try.f5 Rows.journalCorruptionRow.domain false) (Rows.journalCorruptionSpec.post enc Try.prog Try.f5 false true false false) := by
  refine returnsInHanded_of_change (C := Try.checked) own started (by kernel_rfl) Try.func5
    (ChangeSpec.witness6 (enc := enc) (C := Try.checked) false ⟨#[], #[.slice none 0 0, .agg #[.string ByteArray.empty, .string ByteArray.empty, .bool false], .int .i64 0, .int .u8 0], []⟩ 8 (by kernel_rfl) (by kernel_rfl) (by kernel_rfl) (by kernel_rfl)) ?_
  intro W base args ds gs before hval0 hW hcnd _
  have hval : ∀ (j : Nat) t v, Try.f5.params[j]? = some t → args[j]? = some v → Value.okWide Try.prog W .any base t v := hval0
  have hW' := hW
  obtain ⟨p, q, hA0, hV, rfl, hfz, hnd⟩ := hW
  have hA : DataW.TrodAll enc Try.prog W 0 (fun _ => true) true Try.f5.params.toList args.toList ds p := hA0
  rw [Try.params5] at hA hval
  obtain ⟨v0, vs0, d0, ds0, p0, q0, hargs, rfl, rfl, h0, r0⟩ := trodAll_cons hA
  obtain ⟨v1, vs1, d1, ds1, p1, q1, rfl, rfl, rfl, h1, r1⟩ := trodAll_cons r0
  obtain ⟨v2, vs2, d2, ds2, p2, q2, rfl, rfl, rfl, h2, r2⟩ := trodAll_cons r1
  obtain ⟨v3, vs3, d3, ds3, p3, q3, rfl, rfl, rfl, h3, r3⟩ := trodAll_cons r2
  obtain ⟨rfl, rfl, rfl⟩ := trodAll_nil r3
  obtain rfl : args = #[v0, v1, v2, v3] := by cases args; simp_all
  obtain ⟨rfl, rfl⟩ := trodVars_none hV
  have lt0 : ∀ x ∈ p0, x.block < W.heap.size := by obtain ⟨m, hm⟩ := h0; exact DataW.trod_lt m _ _ _ hm
  obtain ⟨x0, e0, g0⟩ := of_trod opn22 h0
  obtain ⟨a0, len0, cap0, rfl⟩ := okWide_slice Try.underlying22 (hval 0 22 v0 rfl rfl)
  obtain ⟨A0, c0, ee0, hl0, hr0⟩ := e0
  simp only [Value.cells, List.cons.injEq, Value.slice.injEq, and_true] at ee0
  obtain ⟨rfl, rfl, rfl⟩ := ee0
  have lt1 : ∀ x ∈ p1, x.block < W.heap.size := by obtain ⟨m, hm⟩ := h1; exact DataW.trod_lt m _ _ _ hm
  obtain ⟨x1, e1, g1⟩ := of_trod opn31 h1
  obtain ⟨cc1, rfl, _⟩ := okWide_struct Try.underlying31 (hval 1 31 v1 rfl rfl)
  obtain rfl : cc1 = _ := Array.toList_inj.1 (k31_open e1)
  have lt2 : ∀ x ∈ p2, x.block < W.heap.size := by obtain ⟨m, hm⟩ := h2; exact DataW.trod_lt m _ _ _ hm
  obtain ⟨x2, e2, g2⟩ := of_trod opn3 h2
  obtain ⟨y2, rfl⟩ := okWide_int Try.underlying3 (hval 2 3 v2 rfl rfl)
  have ee2 : [_] = [_] := e2
  simp only [List.cons.injEq, Value.int.injEq, and_true, true_and] at ee2
  have ef2 := ee2.symm
  subst ef2
  have lt3 : ∀ x ∈ p3, x.block < W.heap.size := by obtain ⟨m, hm⟩ := h3; exact DataW.trod_lt m _ _ _ hm
  obtain ⟨x3, e3, g3⟩ := of_trod opn5 h3
  obtain ⟨y3, rfl⟩ := okWide_int Try.underlying5 (hval 3 5 v3 rfl rfl)
  have ee3 : [_] = [_] := e3
  simp only [List.cons.injEq, Value.int.injEq, and_true, true_and] at ee3
  have ef3 := ee3.symm
  subst ef3
  have call : Calls Try.prog 5 _ W fun e w' => e = .returned (.bool true) ∧ Below W.heap.size W w' := (let h := Corruption x0 x1 x2 x3 g0.1 (byte_range g3).1 (byte_range g3).2; ((glossatorkeep3_JournalCorruption.calls _ _ _ x0 x1.f0 x1.f1 x1.f2 x2 x3 true W hr0 hl0 h.choose_spec).mono fun e w' h => h))
  refine Calls.mono call fun e W' he => ?_
  obtain ⟨he, bel⟩ := he
  subst he
  exact ⟨_, rfl, _, _, _, [], _, [], hW', trodAll_mk1 (shut_bool Try.underlying4 _), (trodAll_cons_mk (Below.trod laidOut (by kernel_rfl) (of_decide_eq_true (by kernel_rfl)) h0 bel lt0) (trodAll_cons_mk (Below.trod laidOut (by kernel_rfl) (of_decide_eq_true (by kernel_rfl)) h1 bel lt1) (trodAll_cons_mk (Below.trod laidOut (by kernel_rfl) (of_decide_eq_true (by kernel_rfl)) h2 bel lt2) (trodAll_cons_mk (Below.trod laidOut (by kernel_rfl) (of_decide_eq_true (by kernel_rfl)) h3 bel lt3) trodAll_mk0)))), rfl, bel.frame _, fun h => by cases h⟩
theorem over : Rows.journalCorruptionRow.holds Try.pinned (OpenSpec.ofChange Rows.journalCorruptionSpec) :=
  OpenClaim.holds_of_wide 5 Try.f5 rfl rfl rfl rfl rfl rfl rfl ⟨rfl, rfl, rfl, rfl, rfl⟩ rfl rfl rfl rfl rfl (by kernel_rfl) Try.func5 (by kernel_rfl)
    (of_decide_eq_true (by kernel_rfl)) (by unfold Func.isWrapper; first | (rw [if_pos (by decide +kernel)]; kernel_rfl) | (rw [if_neg (by decide +kernel)]; exact ⟨rfl, rfl⟩))
    (fun os started H enc _ => lifted os started H enc)
theorem proved : Rows.JournalCorruptionSaid := over
#print axioms proved
end Go.Proofs.Ytflemfibjjognaa.journalCorruption
namespace Go.Proofs.Ytflemfibjjognaa
/-- The row, under a short name, for the claim. -/
theorem journalCorruption_holds : Rows.JournalCorruptionSaid := journalCorruption.proved
end Go.Proofs.Ytflemfibjjognaa
