/- The row of the law FramingChunks: for every input it returns true and leaves its arguments as they were. No condition. -/
import Derived.Test.YtagmdkmgagfmhaaDoorRows
import Derived.Test.YtagmdkmgagfmhaaDoorCards
import Derived.Test.YtagmdkmgagfmhaaDoorTie
import Derived.Deep.DeepHandedRow
import Derived.Lay
import Derived.LaidMore
import Derived.MakeChecks
import Derived.SevenTiedAt
import Derived.Stop.Joined
import Derived.Test.YtagmdkmgagfmhaaDoorOpn
import Derived.Test.YtagmdkmgagfmhaaDoorFrhCh
import Derived.Test.YtagmdkmgagfmhaaDoorFrhVt
import Derived.WalkKit
import Derived.ProofKit
import Derived.OpenShut
import Derived.ShutString
import Derived.ChangeOld
import Derived.Below
import Derived.SizedLaws
namespace Go.Proofs.YtagmdkmgagfmhaaDoor.framingChunks
open Go.ChangeShapes Go.WideShapes Go.ChangeAt Go.RowKit
open Go.ChangeMaps (open_string shut_string)
open Go.Proofs.YtagmdkmgagfmhaaDoor.Fr Go.Proofs.YtagmdkmgagfmhaaDoor.Opn Go.Proofs.YtagmdkmgagfmhaaDoorW.PrintWords
set_option linter.unusedVariables false
set_option linter.unusedSimpArgs false
theorem own : ownKnob Tryd.prog.godebug = none := by kernel_rfl
theorem laidOut : laidOutB Tryd.prog = true := by kernel_rfl
theorem opn9 : Opn Tryd.prog 9 Kd.string (fun s => s.size ≤ 9223372036854775807) := opn_string Tryd.underlying9 (by kernel_rfl)
theorem opn22 : Opn Tryd.prog 22 (Kd.slice 9 Kd.string) (GoodL (fun s => s.size ≤ 9223372036854775807)) := opn_slice Tryd.underlying22 (by kernel_rfl) opn9
theorem opn3 : Opn Tryd.prog 3 (Kd.int .i64) (fun n => (Lit.int .i64 n).wf = true) := opn_int Tryd.underlying3 (by kernel_rfl)
theorem opn36 : Opn Tryd.prog 36 (Kd.slice 3 (Kd.int .i64)) (GoodL (fun n => (Lit.int .i64 n).wf = true)) := opn_slice Tryd.underlying36 (by kernel_rfl) opn3
theorem laid_met (os : Os) : laidMetH Tryd.prog Rows.framingChunksRow.laid ((World.laidAll Tryd.prog os Rows.framingChunksRow.laid).forCall (fun _ _ => 0) ⟨#[], #[.slice none 0 0, .slice none 0 0], []⟩).memory := by
  rw [MakeChecks.laidMetH_plain _ _ _ (by kernel_rfl)]
  exact laidMet_laidAll _ (by kernel_rfl) (by kernel_rfl)
theorem zipped (os : Os) : ((World.laidAll Tryd.prog os Rows.framingChunksRow.laid).forCall (fun _ _ => 0) ⟨#[], #[.slice none 0 0, .slice none 0 0], []⟩).Shaped Tryd.prog := World.shaped_of_ZipB (by kernel_rfl) (by kernel_rfl)
set_option maxRecDepth 100000 in
theorem fits (os : Os) : Input.okWideB Tryd.prog ((World.laidAll Tryd.prog os Rows.framingChunksRow.laid).forCall (fun _ _ => 0) ⟨#[], #[.slice none 0 0, .slice none 0 0], []⟩) 4 ⟨#[], #[.slice none 0 0, .slice none 0 0], []⟩ = true := by kernel_rfl
set_option maxRecDepth 100000 in
theorem lifted (os : Os) (started : os.Started) (H : Type) (enc : TypeId × Value → H) (F : Stop.Interp) :
    ReturnsInHanded {} Tryd.checked os 4 .any ((OpenSpec.ofChange Rows.framingChunksSpec).preRow enc Tryd.prog Tryd.f4 Rows.framingChunksRow.domain false Rows.framingChunksRow.laid) (((OpenSpec.ofChange Rows.framingChunksSpec).at F).post enc Tryd.prog Tryd.f4 false true false false) := by
  refine returnsInHanded_of_row (C := Tryd.checked) (s := OpenSpec.ofChange Rows.framingChunksSpec) own started (by kernel_rfl) Tryd.func4
    ⟨World.laidAll Tryd.prog os Rows.framingChunksRow.laid, fun _ _ => 0, ⟨#[], #[.slice none 0 0, .slice none 0 0], []⟩, World.laidAll_os _ _ _, zipped os, (Input.okWide_of_okWideB (base := 0) (fits os)).1, (Input.okWide_of_okWideB (fits os)).2,
      OpenSpec.preRow_of_B rfl 8 (by kernel_rfl) (by kernel_rfl) (laid_met os), by
        simp only [Assume.holds]
        exact ⟨by simp, by simp, fun _ => Modest.zero, by simp, by simp⟩⟩ ?_
  intro W base args ds gs before hval0 hW0 _ _ _ hL hsh _
  have hW : DataW.Whole enc Tryd.prog Tryd.f4.params.toList Rows.framingChunksSpec.vars false W args.toList ds gs before := hW0
  have hVs := vs_of (by kernel_rfl) (.tail _ (.tail _ (.head _))) hL hsh
  have hval : ∀ (j : Nat) t v, Tryd.f4.params[j]? = some t → args[j]? = some v → Value.okWide Tryd.prog W .any base t v := hval0
  have hW' := hW
  obtain ⟨p, q, hA0, hV, rfl, hfz, hnd⟩ := hW
  have hA : DataW.TrodAll enc Tryd.prog W 0 (fun _ => true) true Tryd.f4.params.toList args.toList ds p := hA0
  rw [Tryd.params4] at hA hval
  obtain ⟨v0, vs0, d0, ds0, p0, q0, hargs, rfl, rfl, h0, r0⟩ := trodAll_cons hA
  obtain ⟨v1, vs1, d1, ds1, p1, q1, rfl, rfl, rfl, h1, r1⟩ := trodAll_cons r0
  obtain ⟨rfl, rfl, rfl⟩ := trodAll_nil r1
  obtain rfl : args = #[v0, v1] := by cases args; simp_all
  obtain ⟨rfl, rfl⟩ := trodVars_none hV
  have lt0 : ∀ x ∈ p0, x.block < W.heap.size := by obtain ⟨m, hm⟩ := h0; exact DataW.trod_lt m _ _ _ hm
  obtain ⟨x0, e0, g0⟩ := of_trod opn22 h0
  obtain ⟨a0, len0, cap0, rfl⟩ := okWide_slice Tryd.underlying22 (hval 0 22 v0 rfl rfl)
  obtain ⟨A0, c0, ee0, hl0, hr0⟩ := e0
  simp only [Value.cells, List.cons.injEq, Value.slice.injEq, and_true] at ee0
  obtain ⟨rfl, rfl, rfl⟩ := ee0
  have lt1 : ∀ x ∈ p1, x.block < W.heap.size := by obtain ⟨m, hm⟩ := h1; exact DataW.trod_lt m _ _ _ hm
  obtain ⟨x1, e1, g1⟩ := of_trod opn36 h1
  obtain ⟨a1, len1, cap1, rfl⟩ := okWide_slice Tryd.underlying36 (hval 1 36 v1 rfl rfl)
  obtain ⟨A1, c1, ee1, hl1, hr1⟩ := e1
  simp only [Value.cells, List.cons.injEq, Value.slice.injEq, and_true] at ee1
  obtain ⟨rfl, rfl, rfl⟩ := ee1
  have call : Calls Tryd.prog 4 _ W fun e w' => e = .returned (.bool true) ∧ Below W.heap.size W w' := (chunks4 _ _ x0 _ _ x1 W hVs hr0 hl0 hr1 hl1)
  refine Calls.mono call fun e W' he => ?_
  obtain ⟨he, bel⟩ := he
  subst he
  exact ⟨_, rfl, _, _, _, [], _, [], hW', trodAll_mk1 (shut_bool Tryd.underlying4 _), (trodAll_cons_mk (Below.trod laidOut (by kernel_rfl) (of_decide_eq_true (by kernel_rfl)) h0 bel lt0) (trodAll_cons_mk (Below.trod laidOut (by kernel_rfl) (of_decide_eq_true (by kernel_rfl)) h1 bel lt1) trodAll_mk0)), rfl, bel.frame _, fun h => by cases h⟩
theorem said : Rows.FramingChunksSaid :=
  OpenClaim.holds_of_cond 4 Tryd.f4 rfl rfl rfl rfl rfl rfl rfl ⟨rfl, rfl, rfl, rfl, rfl⟩ rfl rfl rfl rfl rfl (by kernel_rfl) Tryd.func4 (by kernel_rfl)
    (of_decide_eq_true (by kernel_rfl)) (by unfold Func.isWrapper; first | (rw [if_pos (by decide +kernel)]; kernel_rfl) | (rw [if_neg (by decide +kernel)]; exact ⟨rfl, rfl⟩))
    (fun os started H enc _ F => by rw [OpenClaim.pre_eq_preRow]; exact lifted os started H enc F)
theorem plain (f : FuncId) (fn : Func) (hf : Tryd.pinned.checked.prog.funcNamed Rows.framingChunksRow.func = some f) (hfn : Tryd.pinned.checked.prog.funcs[f]? = some fn) :
    true = Tryd.pinned.checked.prog.looks [] ∧ ∀ (j : Nat) t, fn.params[j]? = some t → Tryd.pinned.checked.prog.wantsStandIn t = false := by
  obtain rfl : f = 4 := Option.some.inj ((show Tryd.prog.funcNamed Rows.framingChunksRow.func = some 4 by kernel_rfl).symm.trans hf) |>.symm
  obtain rfl : fn = Tryd.f4 := (Option.some.inj (Tryd.func4.symm.trans hfn)).symm
  refine ⟨by kernel_rfl, fun j t ht => ?_⟩
  rw [Tryd.params4] at ht
  have hm : t ∈ [22, 36] := by simpa using Array.mem_of_getElem? ht
  have hall : ([22, 36].all fun u => !Tryd.prog.wantsStandIn u) = true := by kernel_rfl
  exact (show Tryd.prog.wantsStandIn t = false by simpa using List.all_eq_true.1 hall t hm)
/-- THE CARD. -/
theorem proved : Rows.FramingChunksCardSaid :=
  Claim7.holds_tied_plain_at .later [] _ _ _ _ said (fun _ h => by cases h) (by kernel_rfl) (fun _ h => by cases h) framingChunks_row_tie rfl ⟨rfl, rfl⟩ (by kernel_rfl) rfl plain (by kernel_rfl)
#print axioms proved
end Go.Proofs.YtagmdkmgagfmhaaDoor.framingChunks
namespace Go.Proofs.YtagmdkmgagfmhaaDoor
/-- The row, under a short name, for the claim. -/
theorem framingChunks_holds : Rows.FramingChunksCardSaid := framingChunks.proved
end Go.Proofs.YtagmdkmgagfmhaaDoor
