/- The row of the law JournalCompactState: for every input it returns true and leaves its arguments as they were. No condition. -/
import Derived.Test.YtflemfibjjognaaRows
import Derived.Test.YtflemfibjjognaaOpn
import Derived.Test.YtflemfibjjognaaKq
import Derived.WalkKit
import Derived.ProofKit
import Derived.OpenShut
import Derived.ShutString
import Derived.ChangeOld
import Derived.Below
import Derived.SizedLaws
namespace Go.Proofs.Ytflemfibjjognaa.journalCompactState
open Go.ChangeShapes Go.WideShapes Go.ChangeAt Go.RowKit
open Go.ChangeMaps (open_string shut_string)
open Go.Proofs.Ytflemfibjjognaa.Js Go.Proofs.Ytflemfibjjognaa.Opn Go.Proofs.YtflemfibjjognaaW.PrintWords
set_option linter.unusedVariables false
set_option linter.unusedSimpArgs false
theorem own : ownKnob Try.prog.godebug = none := by kernel_rfl
theorem laidOut : laidOutB Try.prog = true := by kernel_rfl
theorem opn9 : Opn Try.prog 9 Kd.string (fun s => s.size ≤ 9223372036854775807) := opn_string Try.underlying9 (by kernel_rfl)
theorem opn4 : Opn Try.prog 4 Kd.bool (fun _ => True) := opn_bool Try.underlying4 (by kernel_rfl)
def good31 (x : S31) : Prop := (fun s => s.size ≤ 9223372036854775807) x.f0 ∧ (fun s => s.size ≤ 9223372036854775807) x.f1 ∧ (fun _ => True) x.f2
theorem opn31 : Opn Try.prog 31 k31 good31 := opn_iso (fun x : S31 => (x.f0, x.f1, x.f2)) (fun p => ⟨p.1, p.2.1, p.2.2⟩) (fun _ => rfl) (opn_struct Try.underlying31 (by kernel_rfl) (opn_cons rfl opn9 (opn_cons rfl opn9 (opn_last rfl opn4)))) (fun _ h => h)
theorem opn22 : Opn Try.prog 22 (Kd.slice 31 k31) (GoodL good31) := opn_slice Try.underlying22 (by kernel_rfl) opn31
set_option maxRecDepth 100000 in
theorem lifted (os : Os) (started : os.Started) (H : Type) (enc : TypeId × Value → H) :
    ReturnsInHanded {} Try.checked os 7 .any (Rows.journalCompactStateSpec.pre6 enc Try.prog Try.f7 Rows.journalCompactStateRow.domain false) (Rows.journalCompactStateSpec.post enc Try.prog Try.f7 false true false false) := by
  refine returnsInHanded_of_change (C := Try.checked) own started (by kernel_rfl) Try.func7
    (ChangeSpec.witness6 (enc := enc) (C := Try.checked) false ⟨#[], #[.slice none 0 0], []⟩ 8 (by kernel_rfl) (by kernel_rfl) (by kernel_rfl) (by kernel_rfl)) ?_
  intro W base args ds gs before hval0 hW hcnd _
  have hval : ∀ (j : Nat) t v, Try.f7.params[j]? = some t → args[j]? = some v → Value.okWide Try.prog W .any base t v := hval0
  have hW' := hW
  obtain ⟨p, q, hA0, hV, rfl, hfz, hnd⟩ := hW
  have hA : DataW.TrodAll enc Try.prog W 0 (fun _ => true) true Try.f7.params.toList args.toList ds p := hA0
  rw [Try.params7] at hA hval
  obtain ⟨v0, vs0, d0, ds0, p0, q0, hargs, rfl, rfl, h0, r0⟩ := trodAll_cons hA
  obtain ⟨rfl, rfl, rfl⟩ := trodAll_nil r0
  obtain rfl : args = #[v0] := by cases args; simp_all
  obtain ⟨rfl, rfl⟩ := trodVars_none hV
  have lt0 : ∀ x ∈ p0, x.block < W.heap.size := by obtain ⟨m, hm⟩ := h0; exact DataW.trod_lt m _ _ _ hm
  obtain ⟨x0, e0, g0⟩ := of_trod opn22 h0
  obtain ⟨a0, len0, cap0, rfl⟩ := okWide_slice Try.underlying22 (hval 0 22 v0 rfl rfl)
  obtain ⟨A0, c0, ee0, hl0, hr0⟩ := e0
  simp only [Value.cells, List.cons.injEq, Value.slice.injEq, and_true] at ee0
  obtain ⟨rfl, rfl, rfl⟩ := ee0
  have call : Calls Try.prog 7 _ W fun e w' => e = .returned (.bool true) ∧ Below W.heap.size W w' := (let h := CompactState x0 g0.1; ((glossatorkeep3_JournalCompactState.calls _ _ _ x0 true W hr0 hl0 h.choose_spec).mono fun e w' h => h))
  refine Calls.mono call fun e W' he => ?_
  obtain ⟨he, bel⟩ := he
  subst he
  exact ⟨_, rfl, _, _, _, [], _, [], hW', trodAll_mk1 (shut_bool Try.underlying4 _), (trodAll_cons_mk (Below.trod laidOut (by kernel_rfl) (of_decide_eq_true (by kernel_rfl)) h0 bel lt0) trodAll_mk0), rfl, bel.frame _, fun h => by cases h⟩
theorem over : Rows.journalCompactStateRow.holds Try.pinned (OpenSpec.ofChange Rows.journalCompactStateSpec) :=
  OpenClaim.holds_of_wide 7 Try.f7 rfl rfl rfl rfl rfl rfl rfl ⟨rfl, rfl, rfl, rfl, rfl⟩ rfl rfl rfl rfl rfl (by kernel_rfl) Try.func7 (by kernel_rfl)
    (of_decide_eq_true (by kernel_rfl)) (by unfold Func.isWrapper; first | (rw [if_pos (by decide +kernel)]; kernel_rfl) | (rw [if_neg (by decide +kernel)]; exact ⟨rfl, rfl⟩))
    (fun os started H enc _ => lifted os started H enc)
theorem proved : Rows.JournalCompactStateSaid := over
#print axioms proved
end Go.Proofs.Ytflemfibjjognaa.journalCompactState
namespace Go.Proofs.Ytflemfibjjognaa
/-- The row, under a short name, for the claim. -/
theorem journalCompactState_holds : Rows.JournalCompactStateSaid := journalCompactState.proved
end Go.Proofs.Ytflemfibjjognaa
