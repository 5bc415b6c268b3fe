/- The row of the law FixpointMonotone: for every input it returns true and leaves its arguments as they were. No condition. -/
import Derived.Test.YtgjcembdmohhkaaRows
import Derived.Test.YtgjcembdmohhkaaOpn
import Derived.Test.YtgjcembdmohhkaaFsPn
import Derived.WalkKit
import Derived.ProofKit
import Derived.OpenShut
import Derived.ShutString
import Derived.ChangeOld
import Derived.Below
import Derived.SizedLaws
namespace Go.Proofs.Ytgjcembdmohhkaa.fixpointMonotone
open Go.ChangeShapes Go.WideShapes Go.ChangeAt Go.RowKit
open Go.ChangeMaps (open_string shut_string)
open Go.Proofs.Ytgjcembdmohhkaa.Fs Go.Proofs.Ytgjcembdmohhkaa.Opn Go.Proofs.YtgjcembdmohhkaaW.PrintWords
set_option linter.unusedVariables false
set_option linter.unusedSimpArgs false
theorem own : ownKnob Try.prog.godebug = none := by kernel_rfl
theorem laidOut : laidOutB Try.prog = true := by kernel_rfl
theorem opn3 : Opn Try.prog 3 (Kd.int .i64) (fun n => (Lit.int .i64 n).wf = true) := opn_int Try.underlying3 (by kernel_rfl)
theorem opn23 : Opn Try.prog 23 (Kd.slice 3 (Kd.int .i64)) (GoodL (fun n => (Lit.int .i64 n).wf = true)) := opn_slice Try.underlying23 (by kernel_rfl) opn3
def good31 (x : S31) : Prop := (fun n => (Lit.int .i64 n).wf = true) x.f0 ∧ (GoodL (fun n => (Lit.int .i64 n).wf = true)) x.f1
theorem opn31 : Opn Try.prog 31 k31 good31 := opn_iso (fun x : S31 => (x.f0, x.f1)) (fun p => ⟨p.1, p.2⟩) (fun _ => rfl) (opn_struct Try.underlying31 (by kernel_rfl) (opn_cons rfl opn3 (opn_last rfl opn23))) (fun _ h => h)
theorem opn39 : Opn Try.prog 39 (Kd.slice 31 k31) (GoodL good31) := opn_slice Try.underlying39 (by kernel_rfl) opn31
theorem opn22 : Opn Try.prog 22 (Kd.slice 39 (Kd.slice 31 k31)) (GoodL (GoodL good31)) := opn_slice Try.underlying22 (by kernel_rfl) opn39
theorem bytes3 : Try.prog.bytesOf 3 = 8 := by kernel_rfl
/-- the form's own reach, at the rule's list -/
theorem reach31 {H : Type} {enc : TypeId × Value → H} {W : World} {base : Nat} {spare : Nat → Bool} {held : Bool} {f0 : Value} {A : Option Addr} {len c : Nat} {d : DataW H} {p : List MemPlace} (h : DataW.Trod enc Try.prog W base spare held 31 (.agg #[f0, .slice A len c]) d p)
    {ts : List TypeId} {ds : List (DataW H)} {j : Nat} (ht : ts[j]? = some 31) (hd : ds[j]? = some d) (hsz : (DataW.weightsEach Try.prog ts ds).all (· ≤ reachBytes) = true) : len * 8 ≤ 140737488351232 := by
  obtain ⟨m, hm⟩ := h
  obtain ⟨xs, n, rfl, hx, hl, hn, hf⟩ := DataW.trod_struct Try.underlying31 hm
  have hn2 : xs.length = 2 := hn
  have h1 := hf 1 _ rfl
  obtain ⟨y, hy⟩ : ∃ y, xs[1]? = some y := ⟨_, List.getElem?_eq_getElem (by omega)⟩
  rw [hy] at h1
  injection hx with hx1 _
  subst hx1
  have hc23 : Try.prog.cellsOf 23 = 1 := by kernel_rfl
  have h2 : DataW.trod enc Try.prog W base spare held n 23 (((#[f0, Value.slice A len c].toList).drop 1).take (Try.prog.cellsOf 23)) = some y := h1
  rw [hc23] at h2
  rcases Go.Deep.open_slice Try.underlying23 h2 with ⟨h3, _⟩ | ⟨a, len', cap, m', n', D, Pl, h3, _, _, _, _, h4, _⟩
  · have h5 : [Value.slice A len c] = [Value.slice none 0 0] := h3
    injection h5 with h5 _
    injection h5 with _ h5 _
    omega
  · have h5 : [Value.slice A len c] = [Value.slice (some a) len' cap] := h3
    injection h5 with h5 _
    injection h5 with _ h5 _
    subst h5
    have hy1 : y.1 = .slice ((List.range len).map D) ((List.range (m' - len)).map fun j => D (len + j)) := by rw [h4]
    have hin : (((List.range len).map D).length + ((List.range (m' - len)).map fun j => D (len + j)).length) * Try.prog.bytesOf 3 ∈ (DataW.agg (xs.map (·.1))).weights Try.prog 31 := by
      simp only [DataW.weights, Try.underlying31]
      refine DataW.weights_mem_each (j := 1) (t := 23) (d := y.1) rfl (by rw [List.getElem?_map, hy]; rfl) _ ?_
      rw [hy1]
      simp [DataW.weights, Try.underlying23]
    have h6 := List.all_eq_true.1 hsz _ (DataW.weights_mem_each ht hd _ hin)
    rw [bytes3] at h6
    simp only [List.length_map, List.length_range, reachBytes, decide_eq_true_eq] at h6
    omega
set_option maxRecDepth 100000 in
theorem lifted (os : Os) (started : os.Started) (H : Type) (enc : TypeId × Value → H) :
    ReturnsInHanded {} Try.checked os 4 .any (Rows.fixpointMonotoneSpec.pre6 enc Try.prog Try.f4 Rows.fixpointMonotoneRow.domain false) (Rows.fixpointMonotoneSpec.post enc Try.prog Try.f4 false true false false) := by
  refine returnsInHanded_of_change_sized (C := Try.checked) own started (by kernel_rfl) Try.func4
    (ChangeSpec.witness6 (enc := enc) (C := Try.checked) false ⟨#[], #[.slice none 0 0, .int .i64 0, .agg #[.int .i64 0, .slice none 0 0]], []⟩ 8 (by kernel_rfl) (by kernel_rfl) (by kernel_rfl) (by kernel_rfl)) ?_
  intro W base args ds gs before hval0 hW hcnd hsz0 _
  have hval : ∀ (j : Nat) t v, Try.f4.params[j]? = some t → args[j]? = some v → Value.okWide Try.prog W .any base t v := hval0
  have hW' := hW
  obtain ⟨p, q, hA0, hV, rfl, hfz, hnd⟩ := hW
  have hA : DataW.TrodAll enc Try.prog W 0 (fun _ => true) true Try.f4.params.toList args.toList ds p := hA0
  have hsz : (DataW.weightsEach Try.prog (Try.f4.params.toList ++ Rows.fixpointMonotoneSpec.plain.varTypes Try.prog) (ds ++ gs)).all (· ≤ reachBytes) = true := hsz0
  rw [Try.params4] at hA hval hsz
  obtain ⟨v0, vs0, d0, ds0, p0, q0, hargs, rfl, rfl, h0, r0⟩ := trodAll_cons hA
  obtain ⟨v1, vs1, d1, ds1, p1, q1, rfl, rfl, rfl, h1, r1⟩ := trodAll_cons r0
  obtain ⟨v2, vs2, d2, ds2, p2, q2, rfl, rfl, rfl, h2, r2⟩ := trodAll_cons r1
  obtain ⟨rfl, rfl, rfl⟩ := trodAll_nil r2
  obtain rfl : args = #[v0, v1, v2] := by cases args; simp_all
  obtain ⟨rfl, rfl⟩ := trodVars_none hV
  have lt0 : ∀ x ∈ p0, x.block < W.heap.size := by obtain ⟨m, hm⟩ := h0; exact DataW.trod_lt m _ _ _ hm
  obtain ⟨x0, e0, g0⟩ := of_trod opn22 h0
  obtain ⟨a0, len0, cap0, rfl⟩ := okWide_slice Try.underlying22 (hval 0 22 v0 rfl rfl)
  obtain ⟨A0, c0, ee0, hl0, hr0⟩ := e0
  simp only [Value.cells, List.cons.injEq, Value.slice.injEq, and_true] at ee0
  obtain ⟨rfl, rfl, rfl⟩ := ee0
  have lt1 : ∀ x ∈ p1, x.block < W.heap.size := by obtain ⟨m, hm⟩ := h1; exact DataW.trod_lt m _ _ _ hm
  obtain ⟨x1, e1, g1⟩ := of_trod opn3 h1
  obtain ⟨y1, rfl⟩ := okWide_int Try.underlying3 (hval 1 3 v1 rfl rfl)
  have ee1 : [_] = [_] := e1
  simp only [List.cons.injEq, Value.int.injEq, and_true, true_and] at ee1
  have ef1 := ee1.symm
  subst ef1
  have lt2 : ∀ x ∈ p2, x.block < W.heap.size := by obtain ⟨m, hm⟩ := h2; exact DataW.trod_lt m _ _ _ hm
  obtain ⟨x2, e2, g2⟩ := of_trod opn31 h2
  obtain ⟨cc2, rfl, _⟩ := okWide_struct Try.underlying31 (hval 2 31 v2 rfl rfl)
  obtain ⟨A2_1, c2_1, ecc2, hl2_1, hr2_1⟩ := k31_open e2
  obtain rfl := Array.toList_inj.1 ecc2
  have hreach : x2.f1.length * 8 ≤ 140737488351232 := reach31 h2 (j := 2) rfl rfl hsz
  have call : Calls Try.prog 4 _ W fun e w' => e = .returned (.bool true) ∧ Below W.heap.size W w' := (monotone_law _ _ x0 x1 x2 _ _ W hr0 hl0 hr2_1 hl2_1 hreach)
  refine Calls.mono call fun e W' he => ?_
  obtain ⟨he, bel⟩ := he
  subst he
  exact ⟨_, rfl, _, _, _, [], _, [], hW', trodAll_mk1 (shut_bool Try.underlying4 _), (trodAll_cons_mk (Below.trod laidOut (by kernel_rfl) (of_decide_eq_true (by kernel_rfl)) h0 bel lt0) (trodAll_cons_mk (Below.trod laidOut (by kernel_rfl) (of_decide_eq_true (by kernel_rfl)) h1 bel lt1) (trodAll_cons_mk (Below.trod laidOut (by kernel_rfl) (of_decide_eq_true (by kernel_rfl)) h2 bel lt2) trodAll_mk0))), rfl, bel.frame _, fun h => by cases h⟩
theorem over : Rows.fixpointMonotoneRow.holds Try.pinned (OpenSpec.ofChange Rows.fixpointMonotoneSpec) :=
  OpenClaim.holds_of_wide 4 Try.f4 rfl rfl rfl rfl rfl rfl rfl ⟨rfl, rfl, rfl, rfl, rfl⟩ rfl rfl rfl rfl rfl (by kernel_rfl) Try.func4 (by kernel_rfl)
    (of_decide_eq_true (by kernel_rfl)) (by unfold Func.isWrapper; first | (rw [if_pos (by decide +kernel)]; kernel_rfl) | (rw [if_neg (by decide +kernel)]; exact ⟨rfl, rfl⟩))
    (fun os started H enc _ => lifted os started H enc)
theorem proved : Rows.FixpointMonotoneSaid := over
#print axioms proved
end Go.Proofs.Ytgjcembdmohhkaa.fixpointMonotone
namespace Go.Proofs.Ytgjcembdmohhkaa
/-- The row, under a short name, for the claim. -/
theorem fixpointMonotone_holds : Rows.FixpointMonotoneSaid := fixpointMonotone.proved
end Go.Proofs.Ytgjcembdmohhkaa
