/- The row of the law DepgraphOrderRespectsEdges: for every input it returns true and leaves its arguments as they were. No condition. -/
import Derived.Test.YteekdkkfegcoeaaRows
import Derived.Test.YteekdkkfegcoeaaOpn
import Derived.Test.YteekdkkfegcoeaaDghOr
import Derived.WalkKit
import Derived.ProofKit
import Derived.OpenShut
import Derived.ShutString
import Derived.ChangeOld
import Derived.Below
import Derived.SizedLaws
namespace Go.Proofs.Yteekdkkfegcoeaa.depgraphOrderRespectsEdges
open Go.ChangeShapes Go.WideShapes Go.ChangeAt Go.RowKit
open Go.ChangeMaps (open_string shut_string)
open Go.Proofs.Yteekdkkfegcoeaa.Dg Go.Proofs.Yteekdkkfegcoeaa.Opn Go.Proofs.YteekdkkfegcoeaaW.PrintWords
set_option linter.unusedVariables false
set_option linter.unusedSimpArgs false
theorem own : ownKnob Try.prog.godebug = none := by kernel_rfl
theorem laidOut : laidOutB Try.prog = true := by kernel_rfl
theorem opn3 : Opn Try.prog 3 (Kd.int .i64) (fun n => (Lit.int .i64 n).wf = true) := opn_int Try.underlying3 (by kernel_rfl)
def good24 (x : S24) : Prop := (fun n => (Lit.int .i64 n).wf = true) x.f0 ∧ (fun n => (Lit.int .i64 n).wf = true) x.f1 ∧ (fun n => (Lit.int .i64 n).wf = true) x.f2
theorem opn24 : Opn Try.prog 24 k24 good24 := opn_iso (fun x : S24 => (x.f0, x.f1, x.f2)) (fun p => ⟨p.1, p.2.1, p.2.2⟩) (fun _ => rfl) (opn_struct Try.underlying24 (by kernel_rfl) (opn_cons rfl opn3 (opn_cons rfl opn3 (opn_last rfl opn3)))) (fun _ h => h)
def good37 (x : S37) : Prop := good24 x.f0 ∧ good24 x.f1
theorem opn37 : Opn Try.prog 37 k37 good37 := opn_iso (fun x : S37 => (x.f0, x.f1)) (fun p => ⟨p.1, p.2⟩) (fun _ => rfl) (opn_struct Try.underlying37 (by kernel_rfl) (opn_cons rfl opn24 (opn_last rfl opn24))) (fun _ h => h)
theorem opn22 : Opn Try.prog 22 (Kd.slice 37 k37) (GoodL good37) := opn_slice Try.underlying22 (by kernel_rfl) opn37
set_option maxRecDepth 100000 in
theorem lifted (os : Os) (started : os.Started) (H : Type) (enc : TypeId × Value → H) :
    ReturnsInHanded {} Try.checked os 4 .any (Rows.depgraphOrderRespectsEdgesSpec.pre6 enc Try.prog Try.f4 Rows.depgraphOrderRespectsEdgesRow.domain false) (Rows.depgraphOrderRespectsEdgesSpec.post enc Try.prog Try.f4 false true false false) := by
  refine returnsInHanded_of_change (C := Try.checked) own started (by kernel_rfl) Try.func4
    (ChangeSpec.witness6 (enc := enc) (C := Try.checked) false ⟨#[], #[.slice none 0 0], []⟩ 8 (by kernel_rfl) (by kernel_rfl) (by kernel_rfl) (by kernel_rfl)) ?_
  intro W base args ds gs before hval0 hW hcnd _
  have hval : ∀ (j : Nat) t v, Try.f4.params[j]? = some t → args[j]? = some v → Value.okWide Try.prog W .any base t v := hval0
  have hW' := hW
  obtain ⟨p, q, hA0, hV, rfl, hfz, hnd⟩ := hW
  have hA : DataW.TrodAll enc Try.prog W 0 (fun _ => true) true Try.f4.params.toList args.toList ds p := hA0
  rw [Try.params4] at hA hval
  obtain ⟨v0, vs0, d0, ds0, p0, q0, hargs, rfl, rfl, h0, r0⟩ := trodAll_cons hA
  obtain ⟨rfl, rfl, rfl⟩ := trodAll_nil r0
  obtain rfl : args = #[v0] := by cases args; simp_all
  obtain ⟨rfl, rfl⟩ := trodVars_none hV
  have lt0 : ∀ x ∈ p0, x.block < W.heap.size := by obtain ⟨m, hm⟩ := h0; exact DataW.trod_lt m _ _ _ hm
  obtain ⟨x0, e0, g0⟩ := of_trod opn22 h0
  obtain ⟨a0, len0, cap0, rfl⟩ := okWide_slice Try.underlying22 (hval 0 22 v0 rfl rfl)
  obtain ⟨A0, c0, ee0, hl0, hr0⟩ := e0
  simp only [Value.cells, List.cons.injEq, Value.slice.injEq, and_true] at ee0
  obtain ⟨rfl, rfl, rfl⟩ := ee0
  have call : Calls Try.prog 4 _ W fun e w' => e = .returned (.bool true) ∧ Below W.heap.size W w' := ore_calls _ _ x0 W hr0 hl0 (fun e he => ⟨(g0.2 e he).1, (g0.2 e he).2⟩) g0.1
  refine Calls.mono call fun e W' he => ?_
  obtain ⟨he, bel⟩ := he
  subst he
  exact ⟨_, rfl, _, _, _, [], _, [], hW', trodAll_mk1 (shut_bool Try.underlying4 _), (trodAll_cons_mk (Below.trod laidOut (by kernel_rfl) (of_decide_eq_true (by kernel_rfl)) h0 bel lt0) trodAll_mk0), rfl, bel.frame _, fun h => by cases h⟩
theorem over : Rows.depgraphOrderRespectsEdgesRow.holds Try.pinned (OpenSpec.ofChange Rows.depgraphOrderRespectsEdgesSpec) :=
  OpenClaim.holds_of_wide 4 Try.f4 rfl rfl rfl rfl rfl rfl rfl ⟨rfl, rfl, rfl, rfl, rfl⟩ rfl rfl rfl rfl rfl (by kernel_rfl) Try.func4 (by kernel_rfl)
    (of_decide_eq_true (by kernel_rfl)) (by unfold Func.isWrapper; first | (rw [if_pos (by decide +kernel)]; kernel_rfl) | (rw [if_neg (by decide +kernel)]; exact ⟨rfl, rfl⟩))
    (fun os started H enc _ => lifted os started H enc)
theorem proved : Rows.DepgraphOrderRespectsEdgesSaid := over
#print axioms proved
end Go.Proofs.Yteekdkkfegcoeaa.depgraphOrderRespectsEdges
namespace Go.Proofs.Yteekdkkfegcoeaa
/-- The row, under a short name, for the claim. -/
theorem depgraphOrderRespectsEdges_holds : Rows.DepgraphOrderRespectsEdgesSaid := depgraphOrderRespectsEdges.proved
end Go.Proofs.Yteekdkkfegcoeaa
