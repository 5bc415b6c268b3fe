/- The row of the law WordindexFind: for every input it returns true and leaves its arguments as they were. No condition. -/
import Derived.Test.YtngolmiegfgmmaaRows
import Derived.Test.YtngolmiegfgmmaaOpn
import Derived.Test.YtngolmiegfgmmaaWfPd
import Derived.WalkKit
import Derived.ProofKit
import Derived.OpenShut
import Derived.ShutString
import Derived.ChangeOld
import Derived.Below
import Derived.SizedLaws
namespace Go.Proofs.Ytngolmiegfgmmaa.wordindexFind
open Go.ChangeShapes Go.WideShapes Go.ChangeAt Go.RowKit
open Go.ChangeMaps (open_string shut_string)
open Go.Proofs.Ytngolmiegfgmmaa.Wf Go.Proofs.Ytngolmiegfgmmaa.Opn Go.Proofs.YtngolmiegfgmmaaW.PrintWords
set_option linter.unusedVariables false
set_option linter.unusedSimpArgs false
theorem own : ownKnob Try.prog.godebug = none := by kernel_rfl
theorem laidOut : laidOutB Try.prog = true := by kernel_rfl
theorem opn9 : Opn Try.prog 9 Kd.string (fun s => s.size ≤ 9223372036854775807) := opn_string Try.underlying9 (by kernel_rfl)
theorem opn23 : Opn Try.prog 23 (Kd.slice 9 Kd.string) (GoodL (fun s => s.size ≤ 9223372036854775807)) := opn_slice Try.underlying23 (by kernel_rfl) opn9
theorem opn3 : Opn Try.prog 3 (Kd.int .i64) (fun n => (Lit.int .i64 n).wf = true) := opn_int Try.underlying3 (by kernel_rfl)
set_option maxRecDepth 100000 in
theorem lifted (os : Os) (started : os.Started) (H : Type) (enc : TypeId × Value → H) :
    ReturnsInHanded {} Try.checked os 4 .any (Rows.wordindexFindSpec.pre6 enc Try.prog Try.f4 Rows.wordindexFindRow.domain false) (Rows.wordindexFindSpec.post enc Try.prog Try.f4 false true false false) := by
  refine returnsInHanded_of_change (C := Try.checked) own started (by kernel_rfl) Try.func4
    (ChangeSpec.witness6 (enc := enc) (C := Try.checked) false ⟨#[], #[.slice none 0 0, .string ByteArray.empty, .string ByteArray.empty, .int .i64 0], []⟩ 8 (by kernel_rfl) (by kernel_rfl) (by kernel_rfl) (by kernel_rfl)) ?_
  intro W base args ds gs before hval0 hW hcnd _
  have hval : ∀ (j : Nat) t v, Try.f4.params[j]? = some t → args[j]? = some v → Value.okWide Try.prog W .any base t v := hval0
  have hW' := hW
  obtain ⟨p, q, hA0, hV, rfl, hfz, hnd⟩ := hW
  have hA : DataW.TrodAll enc Try.prog W 0 (fun _ => true) true Try.f4.params.toList args.toList ds p := hA0
  rw [Try.params4] at hA hval
  obtain ⟨v0, vs0, d0, ds0, p0, q0, hargs, rfl, rfl, h0, r0⟩ := trodAll_cons hA
  obtain ⟨v1, vs1, d1, ds1, p1, q1, rfl, rfl, rfl, h1, r1⟩ := trodAll_cons r0
  obtain ⟨v2, vs2, d2, ds2, p2, q2, rfl, rfl, rfl, h2, r2⟩ := trodAll_cons r1
  obtain ⟨v3, vs3, d3, ds3, p3, q3, rfl, rfl, rfl, h3, r3⟩ := trodAll_cons r2
  obtain ⟨rfl, rfl, rfl⟩ := trodAll_nil r3
  obtain rfl : args = #[v0, v1, v2, v3] := by cases args; simp_all
  obtain ⟨rfl, rfl⟩ := trodVars_none hV
  have lt0 : ∀ x ∈ p0, x.block < W.heap.size := by obtain ⟨m, hm⟩ := h0; exact DataW.trod_lt m _ _ _ hm
  obtain ⟨x0, e0, g0⟩ := of_trod opn23 h0
  obtain ⟨a0, len0, cap0, rfl⟩ := okWide_slice Try.underlying23 (hval 0 23 v0 rfl rfl)
  obtain ⟨A0, c0, ee0, hl0, hr0⟩ := e0
  simp only [Value.cells, List.cons.injEq, Value.slice.injEq, and_true] at ee0
  obtain ⟨rfl, rfl, rfl⟩ := ee0
  have lt1 : ∀ x ∈ p1, x.block < W.heap.size := by obtain ⟨m, hm⟩ := h1; exact DataW.trod_lt m _ _ _ hm
  obtain ⟨x1, e1, g1⟩ := of_trod opn9 h1
  obtain ⟨y1, rfl⟩ := okWide_string Try.underlying9 (hval 1 9 v1 rfl rfl)
  have ee1 : [_] = [_] := e1
  simp only [List.cons.injEq, Value.string.injEq, and_true, true_and] at ee1
  have ef1 := ee1.symm
  subst ef1
  have lt2 : ∀ x ∈ p2, x.block < W.heap.size := by obtain ⟨m, hm⟩ := h2; exact DataW.trod_lt m _ _ _ hm
  obtain ⟨x2, e2, g2⟩ := of_trod opn9 h2
  obtain ⟨y2, rfl⟩ := okWide_string Try.underlying9 (hval 2 9 v2 rfl rfl)
  have ee2 : [_] = [_] := e2
  simp only [List.cons.injEq, Value.string.injEq, and_true, true_and] at ee2
  have ef2 := ee2.symm
  subst ef2
  have lt3 : ∀ x ∈ p3, x.block < W.heap.size := by obtain ⟨m, hm⟩ := h3; exact DataW.trod_lt m _ _ _ hm
  obtain ⟨x3, e3, g3⟩ := of_trod opn3 h3
  obtain ⟨y3, rfl⟩ := okWide_int Try.underlying3 (hval 3 3 v3 rfl rfl)
  have ee3 : [_] = [_] := e3
  simp only [List.cons.injEq, Value.int.injEq, and_true, true_and] at ee3
  have ef3 := ee3.symm
  subst ef3
  have call : Calls Try.prog 4 _ W fun e w' => e = .returned (.bool true) ∧ Below W.heap.size W w' := (glossatorkeep3_WordindexFind.calls 10000 _ _ x0 x1 x2 x3 true W hr0 hl0 (find_all x0 x1 x2 x3))
  refine Calls.mono call fun e W' he => ?_
  obtain ⟨he, bel⟩ := he
  subst he
  exact ⟨_, rfl, _, _, _, [], _, [], hW', trodAll_mk1 (shut_bool Try.underlying4 _), (trodAll_cons_mk (Below.trod laidOut (by kernel_rfl) (of_decide_eq_true (by kernel_rfl)) h0 bel lt0) (trodAll_cons_mk (Below.trod laidOut (by kernel_rfl) (of_decide_eq_true (by kernel_rfl)) h1 bel lt1) (trodAll_cons_mk (Below.trod laidOut (by kernel_rfl) (of_decide_eq_true (by kernel_rfl)) h2 bel lt2) (trodAll_cons_mk (Below.trod laidOut (by kernel_rfl) (of_decide_eq_true (by kernel_rfl)) h3 bel lt3) trodAll_mk0)))), rfl, bel.frame _, fun h => by cases h⟩
theorem over : Rows.wordindexFindRow.holds Try.pinned (OpenSpec.ofChange Rows.wordindexFindSpec) :=
  OpenClaim.holds_of_wide 4 Try.f4 rfl rfl rfl rfl rfl rfl rfl ⟨rfl, rfl, rfl, rfl, rfl⟩ rfl rfl rfl rfl rfl (by kernel_rfl) Try.func4 (by kernel_rfl)
    (of_decide_eq_true (by kernel_rfl)) (by unfold Func.isWrapper; first | (rw [if_pos (by decide +kernel)]; kernel_rfl) | (rw [if_neg (by decide +kernel)]; exact ⟨rfl, rfl⟩))
    (fun os started H enc _ => lifted os started H enc)
theorem proved : Rows.WordindexFindSaid := over
#print axioms proved
end Go.Proofs.Ytngolmiegfgmmaa.wordindexFind
namespace Go.Proofs.Ytngolmiegfgmmaa
/-- The row, under a short name, for the claim. -/
theorem wordindexFind_holds : Rows.WordindexFindSaid := wordindexFind.proved
end Go.Proofs.Ytngolmiegfgmmaa
