/- The row of the law JournalStateAppend: for every input it returns true and leaves its arguments as they were. No condition. -/
import Derived.Test.YtflemfibjjognaaRows
import Derived.Test.YtflemfibjjognaaOpn
import Derived.Test.YtflemfibjjognaaKq
import Derived.WalkKit
import Derived.ProofKit
import Derived.OpenShut
import Derived.ShutString
import Derived.ChangeOld
import Derived.Below
import Derived.SizedLaws
namespace Go.Proofs.Ytflemfibjjognaa.journalStateAppend
open Go.ChangeShapes Go.WideShapes Go.ChangeAt Go.RowKit
open Go.ChangeMaps (open_string shut_string)
open Go.Proofs.Ytflemfibjjognaa.Js Go.Proofs.Ytflemfibjjognaa.Opn Go.Proofs.YtflemfibjjognaaW.PrintWords
set_option linter.unusedVariables false
set_option linter.unusedSimpArgs false
theorem own : ownKnob Try.prog.godebug = none := by kernel_rfl
theorem laidOut : laidOutB Try.prog = true := by kernel_rfl
theorem opn9 : Opn Try.prog 9 Kd.string (fun s => s.size ≤ 9223372036854775807) := opn_string Try.underlying9 (by kernel_rfl)
theorem opn4 : Opn Try.prog 4 Kd.bool (fun _ => True) := opn_bool Try.underlying4 (by kernel_rfl)
def good31 (x : S31) : Prop := (fun s => s.size ≤ 9223372036854775807) x.f0 ∧ (fun s => s.size ≤ 9223372036854775807) x.f1 ∧ (fun _ => True) x.f2
theorem opn31 : Opn Try.prog 31 k31 good31 := opn_iso (fun x : S31 => (x.f0, x.f1, x.f2)) (fun p => ⟨p.1, p.2.1, p.2.2⟩) (fun _ => rfl) (opn_struct Try.underlying31 (by kernel_rfl) (opn_cons rfl opn9 (opn_cons rfl opn9 (opn_last rfl opn4)))) (fun _ h => h)
theorem opn22 : Opn Try.prog 22 (Kd.slice 31 k31) (GoodL good31) := opn_slice Try.underlying22 (by kernel_rfl) opn31
set_option maxRecDepth 100000 in
theorem lifted (os : Os) (started : os.Started) (H : Type) (enc : TypeId × Value → H) :
    ReturnsInHanded {} Try.checked os 6 .any (Rows.journalStateAppendSpec.pre6 enc Try.prog Try.f6 Rows.journalStateAppendRow.domain false) (Rows.journalStateAppendSpec.post enc Try.prog Try.f6 false true false false) := by
  refine returnsInHanded_of_change (C := Try.checked) own started (by kernel_rfl) Try.func6
    (ChangeSpec.witness6 (enc := enc) (C := Try.checked) false ⟨#[], #[.slice none 0 0, .agg #[.string ByteArray.empty, .string ByteArray.empty, .bool false]], []⟩ 8 (by kernel_rfl) (by kernel_rfl) (by kernel_rfl) (by kernel_rfl)) ?_
  intro W base args ds gs before hval0 hW hcnd _
  have hval : ∀ (j : Nat) t v, Try.f6.params[j]? = some t → args[j]? = some v → Value.okWide Try.prog W .any base t v := hval0
  have hW' := hW
  obtain ⟨p, q, hA0, hV, rfl, hfz, hnd⟩ := hW
  have hA : DataW.TrodAll enc Try.prog W 0 (fun _ => true) true Try.f6.params.toList args.toList ds p := hA0
  rw [Try.params6] at hA hval
  obtain ⟨v0, vs0, d0, ds0, p0, q0, hargs, rfl, rfl, h0, r0⟩ := trodAll_cons hA
  obtain ⟨v1, vs1, d1, ds1, p1, q1, rfl, rfl, rfl, h1, r1⟩ := trodAll_cons r0
  obtain ⟨rfl, rfl, rfl⟩ := trodAll_nil r1
  obtain rfl : args = #[v0, v1] := by cases args; simp_all
  obtain ⟨rfl, rfl⟩ := trodVars_none hV
  have lt0 : ∀ x ∈ p0, x.block < W.heap.size := by obtain ⟨m, hm⟩ := h0; exact DataW.trod_lt m _ _ _ hm
  obtain ⟨x0, e0, g0⟩ := of_trod opn22 h0
  obtain ⟨a0, len0, cap0, rfl⟩ := okWide_slice Try.underlying22 (hval 0 22 v0 rfl rfl)
  obtain ⟨A0, c0, ee0, hl0, hr0⟩ := e0
  simp only [Value.cells, List.cons.injEq, Value.slice.injEq, and_true] at ee0
  obtain ⟨rfl, rfl, rfl⟩ := ee0
  have lt1 : ∀ x ∈ p1, x.block < W.heap.size := by obtain ⟨m, hm⟩ := h1; exact DataW.trod_lt m _ _ _ hm
  obtain ⟨x1, e1, g1⟩ := of_trod opn31 h1
  obtain ⟨cc1, rfl, _⟩ := okWide_struct Try.underlying31 (hval 1 31 v1 rfl rfl)
  obtain rfl : cc1 = _ := Array.toList_inj.1 (k31_open e1)
  have call : Calls Try.prog 6 _ W fun e w' => e = .returned (.bool true) ∧ Below W.heap.size W w' := (let h := StateAppend x0 x1 g0.1 (fun x hx => (g0.2 x hx).1) g1.1; ((glossatorkeep3_JournalStateAppend.calls _ _ _ x0 x1.f0 x1.f1 x1.f2 true W hr0 hl0 h.choose_spec).mono fun e w' h => h))
  refine Calls.mono call fun e W' he => ?_
  obtain ⟨he, bel⟩ := he
  subst he
  exact ⟨_, rfl, _, _, _, [], _, [], hW', trodAll_mk1 (shut_bool Try.underlying4 _), (trodAll_cons_mk (Below.trod laidOut (by kernel_rfl) (of_decide_eq_true (by kernel_rfl)) h0 bel lt0) (trodAll_cons_mk (Below.trod laidOut (by kernel_rfl) (of_decide_eq_true (by kernel_rfl)) h1 bel lt1) trodAll_mk0)), rfl, bel.frame _, fun h => by cases h⟩
theorem over : Rows.journalStateAppendRow.holds Try.pinned (OpenSpec.ofChange Rows.journalStateAppendSpec) :=
  OpenClaim.holds_of_wide 6 Try.f6 rfl rfl rfl rfl rfl rfl rfl ⟨rfl, rfl, rfl, rfl, rfl⟩ rfl rfl rfl rfl rfl (by kernel_rfl) Try.func6 (by kernel_rfl)
    (of_decide_eq_true (by kernel_rfl)) (by unfold Func.isWrapper; first | (rw [if_pos (by decide +kernel)]; kernel_rfl) | (rw [if_neg (by decide +kernel)]; exact ⟨rfl, rfl⟩))
    (fun os started H enc _ => lifted os started H enc)
theorem proved : Rows.JournalStateAppendSaid := over
#print axioms proved
end Go.Proofs.Ytflemfibjjognaa.journalStateAppend
namespace Go.Proofs.Ytflemfibjjognaa
/-- The row, under a short name, for the claim. -/
theorem journalStateAppend_holds : Rows.JournalStateAppendSaid := journalStateAppend.proved
end Go.Proofs.Ytflemfibjjognaa
