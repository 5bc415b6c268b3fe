/- The row of the law DocsyncCatchUp: for every input it returns true and leaves its arguments as they were. No condition. -/
import Derived.Test.YtficalhfbopjbaaRows
import Derived.Test.YtficalhfbopjbaaOpw
import Derived.Test.YtficalhfbopjbaaDshCu
import Derived.WalkKit
import Derived.ProofKit
import Derived.OpenShut
import Derived.ShutString
import Derived.ChangeOld
import Derived.Below
import Derived.SizedLaws
namespace Go.Proofs.Ytficalhfbopjbaa.docsyncCatchUp
open Go.ChangeShapes Go.WideShapes Go.ChangeAt Go.RowKit
open Go.ChangeMaps (open_string shut_string)
open Go.Proofs.Ytficalhfbopjbaa.Ds Go.Proofs.Ytficalhfbopjbaa.Opw Go.Proofs.YtficalhfbopjbaaW.PrintWords
set_option linter.unusedVariables false
set_option linter.unusedSimpArgs false
theorem own : ownKnob Try.prog.godebug = none := by kernel_rfl
theorem laidOut : laidOutB Try.prog = true := by kernel_rfl
theorem opn9 : Opn Try.prog 9 Kd.string (fun s => s.size ≤ 140737488351232) := opn_string Try.underlying9 (by kernel_rfl)
theorem opn3 : Opn Try.prog 3 (Kd.int .i64) (fun n => (Lit.int .i64 n).wf = true) := opn_int Try.underlying3 (by kernel_rfl)
def good39 (x : S39) : Prop := (fun n => (Lit.int .i64 n).wf = true) x.f0 ∧ (fun n => (Lit.int .i64 n).wf = true) x.f1 ∧ (fun n => (Lit.int .i64 n).wf = true) x.f2
theorem opn39 : Opn Try.prog 39 k39 good39 := opn_iso (fun x : S39 => (x.f0, x.f1, x.f2)) (fun p => ⟨p.1, p.2.1, p.2.2⟩) (fun _ => rfl) (opn_struct Try.underlying39 (by kernel_rfl) (opn_cons rfl opn3 (opn_cons rfl opn3 (opn_last rfl opn3)))) (fun _ h => h)
theorem opn22 : Opn Try.prog 22 (Kd.slice 39 k39) (GoodL (Try.prog.bytesOf 39) good39) := opn_slice Try.underlying22 (by kernel_rfl) opn39
def good56 (x : S56) : Prop := (fun n => (Lit.int .i64 n).wf = true) x.f0 ∧ (fun n => (Lit.int .i64 n).wf = true) x.f1 ∧ (fun s => s.size ≤ 140737488351232) x.f2
theorem opn56 : Opn Try.prog 56 k56 good56 := opn_iso (fun x : S56 => (x.f0, x.f1, x.f2)) (fun p => ⟨p.1, p.2.1, p.2.2⟩) (fun _ => rfl) (opn_struct Try.underlying56 (by kernel_rfl) (opn_cons rfl opn3 (opn_cons rfl opn3 (opn_last rfl opn9)))) (fun _ h => h)
theorem opn42 : Opn Try.prog 42 (Kd.slice 56 k56) (GoodL (Try.prog.bytesOf 56) good56) := opn_slice Try.underlying42 (by kernel_rfl) opn56
theorem opn23 : Opn Try.prog 23 (Kd.slice 42 (Kd.slice 56 k56)) (GoodL (Try.prog.bytesOf 42) (GoodL (Try.prog.bytesOf 56) good56)) := opn_slice Try.underlying23 (by kernel_rfl) opn42
set_option maxRecDepth 100000 in
theorem lifted (os : Os) (started : os.Started) (H : Type) (enc : TypeId × Value → H) :
    ReturnsInHanded {} Try.checked os 4 .any (Rows.docsyncCatchUpSpec.pre6 enc Try.prog Try.f4 Rows.docsyncCatchUpRow.domain false) (Rows.docsyncCatchUpSpec.post enc Try.prog Try.f4 false true false false) := by
  refine returnsInHanded_of_change_sized (C := Try.checked) own started (by kernel_rfl) Try.func4
    (ChangeSpec.witness6 (enc := enc) (C := Try.checked) false ⟨#[], #[.string ByteArray.empty, .slice none 0 0, .slice none 0 0, .int .i64 0], []⟩ 8 (by kernel_rfl) (by kernel_rfl) (by kernel_rfl) (by kernel_rfl)) ?_
  intro W base args ds gs before hval0 hW hcnd hsz0 _
  have hval : ∀ (j : Nat) t v, Try.f4.params[j]? = some t → args[j]? = some v → Value.okWide Try.prog W .any base t v := hval0
  have hW' := hW
  obtain ⟨p, q, hA0, hV, rfl, hfz, hnd⟩ := hW
  have hA : DataW.TrodAll enc Try.prog W 0 (fun _ => true) true Try.f4.params.toList args.toList ds p := hA0
  have hsz : (DataW.weightsEach Try.prog (Try.f4.params.toList ++ Rows.docsyncCatchUpSpec.plain.varTypes Try.prog) (ds ++ gs)).all (· ≤ reachBytes) = true := hsz0
  rw [Try.params4] at hA hval hsz
  obtain ⟨v0, vs0, d0, ds0, p0, q0, hargs, rfl, rfl, h0, r0⟩ := trodAll_cons hA
  obtain ⟨v1, vs1, d1, ds1, p1, q1, rfl, rfl, rfl, h1, r1⟩ := trodAll_cons r0
  obtain ⟨v2, vs2, d2, ds2, p2, q2, rfl, rfl, rfl, h2, r2⟩ := trodAll_cons r1
  obtain ⟨v3, vs3, d3, ds3, p3, q3, rfl, rfl, rfl, h3, r3⟩ := trodAll_cons r2
  obtain ⟨rfl, rfl, rfl⟩ := trodAll_nil r3
  obtain rfl : args = #[v0, v1, v2, v3] := by cases args; simp_all
  obtain ⟨rfl, rfl⟩ := trodVars_none hV
  have lt0 : ∀ x ∈ p0, x.block < W.heap.size := by obtain ⟨m, hm⟩ := h0; exact DataW.trod_lt m _ _ _ hm
  obtain ⟨x0, e0, g0⟩ := of_trod opn9 h0 (fun z hz => of_decide_eq_true (List.all_eq_true.1 hsz z (DataW.weights_mem_each (j := 0) rfl rfl z hz)))
  obtain ⟨y0, rfl⟩ := okWide_string Try.underlying9 (hval 0 9 v0 rfl rfl)
  have ee0 : [_] = [_] := e0
  simp only [List.cons.injEq, Value.string.injEq, and_true, true_and] at ee0
  have ef0 := ee0.symm
  subst ef0
  have lt1 : ∀ x ∈ p1, x.block < W.heap.size := by obtain ⟨m, hm⟩ := h1; exact DataW.trod_lt m _ _ _ hm
  obtain ⟨x1, e1, g1⟩ := of_trod opn22 h1 (fun z hz => of_decide_eq_true (List.all_eq_true.1 hsz z (DataW.weights_mem_each (j := 1) rfl rfl z hz)))
  obtain ⟨a1, len1, cap1, rfl⟩ := okWide_slice Try.underlying22 (hval 1 22 v1 rfl rfl)
  obtain ⟨A1, c1, ee1, hl1, hr1⟩ := e1
  simp only [Value.cells, List.cons.injEq, Value.slice.injEq, and_true] at ee1
  obtain ⟨rfl, rfl, rfl⟩ := ee1
  have lt2 : ∀ x ∈ p2, x.block < W.heap.size := by obtain ⟨m, hm⟩ := h2; exact DataW.trod_lt m _ _ _ hm
  obtain ⟨x2, e2, g2⟩ := of_trod opn23 h2 (fun z hz => of_decide_eq_true (List.all_eq_true.1 hsz z (DataW.weights_mem_each (j := 2) rfl rfl z hz)))
  obtain ⟨a2, len2, cap2, rfl⟩ := okWide_slice Try.underlying23 (hval 2 23 v2 rfl rfl)
  obtain ⟨A2, c2, ee2, hl2, hr2⟩ := e2
  simp only [Value.cells, List.cons.injEq, Value.slice.injEq, and_true] at ee2
  obtain ⟨rfl, rfl, rfl⟩ := ee2
  have lt3 : ∀ x ∈ p3, x.block < W.heap.size := by obtain ⟨m, hm⟩ := h3; exact DataW.trod_lt m _ _ _ hm
  obtain ⟨x3, e3, g3⟩ := of_trod opn3 h3 (fun z hz => of_decide_eq_true (List.all_eq_true.1 hsz z (DataW.weights_mem_each (j := 3) rfl rfl z hz)))
  obtain ⟨y3, rfl⟩ := okWide_int Try.underlying3 (hval 3 3 v3 rfl rfl)
  have ee3 : [_] = [_] := e3
  simp only [List.cons.injEq, Value.int.injEq, and_true, true_and] at ee3
  have ef3 := ee3.symm
  subst ef3
  have call : Calls Try.prog 4 _ W fun e w' => e = .returned (.bool true) ∧ Below W.heap.size W w' := (catches x0 _ _ x1 _ _ x2 x3 W hr1 hl1 hr2 hl2 (fun l hl e he => by have h_ := (g2.2.2 l hl).2.2 e he; have h2_ := h_.2.2; omega) (by have h_ := g2.2.1; rw [show Try.prog.bytesOf 42 = 24 from by kernel_rfl] at h_; omega))
  refine Calls.mono call fun e W' he => ?_
  obtain ⟨he, bel⟩ := he
  subst he
  exact ⟨_, rfl, _, _, _, [], _, [], hW', trodAll_mk1 (shut_bool Try.underlying4 _), (trodAll_cons_mk (Below.trod laidOut (by kernel_rfl) (of_decide_eq_true (by kernel_rfl)) h0 bel lt0) (trodAll_cons_mk (Below.trod laidOut (by kernel_rfl) (of_decide_eq_true (by kernel_rfl)) h1 bel lt1) (trodAll_cons_mk (Below.trod laidOut (by kernel_rfl) (of_decide_eq_true (by kernel_rfl)) h2 bel lt2) (trodAll_cons_mk (Below.trod laidOut (by kernel_rfl) (of_decide_eq_true (by kernel_rfl)) h3 bel lt3) trodAll_mk0)))), rfl, bel.frame _, fun h => by cases h⟩
theorem over : Rows.docsyncCatchUpRow.holds Try.pinned (OpenSpec.ofChange Rows.docsyncCatchUpSpec) :=
  OpenClaim.holds_of_wide 4 Try.f4 rfl rfl rfl rfl rfl rfl rfl ⟨rfl, rfl, rfl, rfl, rfl⟩ rfl rfl rfl rfl rfl (by kernel_rfl) Try.func4 (by kernel_rfl)
    (of_decide_eq_true (by kernel_rfl)) (by unfold Func.isWrapper; first | (rw [if_pos (by decide +kernel)]; kernel_rfl) | (rw [if_neg (by decide +kernel)]; exact ⟨rfl, rfl⟩))
    (fun os started H enc _ => lifted os started H enc)
theorem proved : Rows.DocsyncCatchUpSaid := over
#print axioms proved
end Go.Proofs.Ytficalhfbopjbaa.docsyncCatchUp
namespace Go.Proofs.Ytficalhfbopjbaa
/-- The row, under a short name, for the claim. -/
theorem docsyncCatchUp_holds : Rows.DocsyncCatchUpSaid := docsyncCatchUp.proved
end Go.Proofs.Ytficalhfbopjbaa
