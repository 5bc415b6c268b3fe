/- slices.Clone of text edits. Condition: fewer than 1000000. -/
import Derived.Lib.SliceRun
import Derived.Test.YtficalhfbopjbaaDsx0
import Derived.RangeFuncNested
import Derived.RangeFuncBound
import Derived.RangeFuncCalls
import Derived.RangeFuncLeaves
import Derived.RangeFuncBox
import Derived.Shelf.Abstract
import Derived.Shelf.RegionOpen
import Derived.WalkKit
import Derived.BigQuiet
namespace Go.Proofs.Ytficalhfbopjbaa.Ds
open Go.RowKit Go.Shelf Go.Proofs.YtficalhfbopjbaaW.PrintWords Go.Proofs.YtficalhfbopjbaaW.PrintLast Go.Proofs.YtficalhfbopjbaaW.PrintMore
open Go.Proofs.Ytficalhfbopjbaa
set_option linter.unusedVariables false
set_option linter.unusedSimpArgs false
attribute [local go_sem] Oper.semAt_some
theorem info56 : (Try.prog.info? 56).map (fun i => (i.zero, i.size, i.bytes)) = some (some (.agg #[.int .i64 0, .int .i64 0, .string ByteArray.empty]), 3, 32) := by kernel_rfl
set_option maxHeartbeats 8000000 in
set_option maxRecDepth 100000 in
theorem clone24 (A : Option Addr) (c : Nat) (xs : List (S56)) (W : World) (hr : Kd.C k56 W A xs.length xs) (hc : xs.length ≤ c) (hl : xs.length < 1000000) :
    Calls Try.prog 24 #[.slice A xs.length c] W fun e W' => ∃ v, e = .returned v ∧ Kd.R k56 56 W' W.heap.size (fun _ => True) v xs ∧ Below W.heap.size W W' := by
  have hu_ := Try.underlying42
  have hue := Try.underlying56
  have HR := Aside0.mk hr
  have HL := Aside0.mk hl
  clear hr hl
  have HB := Aside0.mk (Below.refl W.heap.size W)
  cases A with
  | none =>
    have hq := fun w n c => Go.Lib.run_eql_slice_nil (P := Try.prog) w 42 56 none n c 0 0 hu_
    simp only [Option.isNone_none] at hq
    go_enter Try.func24, Try.ntmps24
    go_wp2
    go_ret
    have h0 : xs = [] := by
      rcases Nat.eq_zero_or_pos xs.length with h | h
      · exact List.eq_nil_of_length_eq_zero h
      · obtain ⟨ad, ea, _⟩ := HR.out.2.2 h
        cases ea
    subst h0
    exact ⟨_, rfl, Kd.R_nil _ _ _ _ _, HB.out⟩
  | some ad =>
    have hq := fun w n c => Go.Lib.run_eql_slice_nil (P := Try.prog) w 42 56 (some ad) n c 0 0 hu_
    simp only [Option.isNone_some] at hq
    go_enter Try.func24, Try.ntmps24
    go_wp2_with (first | ((with_reducible refine gate_dst (N := 5) rfl ?_); refine Kd.R_lit k56 _ 56 ?hg (N := 5) ?hd (xs := ([] : List (S56))) (inner := []) (ok := fun _ => True) (okp := fun _ => True) ?hr ?hp (fun _ hk => hk) trivial (Below.refl _ _) (Nat.le_refl _) (by simp) ?_; (case hd => rfl); (case hg => rfl); (case hr => first | (go_simp; done) | (go_simp; rfl)); (case hp => exact Reps.none _ _); intro v5 w5 ho hb hg_ hnew_; clear hg_ hnew_; have HO := Aside0.mk ho; have HB5 := Aside0.mk hb; have HR5 := Aside0.mk (Kd.C_below HR.out hb); clear ho hb) | (at_builtin; (refine Kd.R_append_rows k56 (w0 := W) W.heap.size rfl (.tmp 5) (.tmp 6) 42 56 _ _ rfl Try.underlying42 info56 rfl (by decide) (by omega) v5 [] xs _ _ _ (fun _ => True) (fun _ => False) rfl rfl HO.out HR5.out (fun _ _ h => h) (fun _ h => h.elim) (fun _ _ => trivial) HB5.out HB5.out.size (by have := HL.out; simp only [List.length_nil]; omega) ?_; rintro v1 w1 hv hb _ _; have HV := Aside0.mk hv; have HBF := Aside0.mk hb; clear hv hb)))
    go_ret
    exact ⟨_, rfl, HV.out, HBF.out⟩
def api_TextEdit.f (l0 : List (S56)) : Option ((List (S56))) := if l0.length < 1000000 then some l0 else none
theorem api_TextEdit.calls (A0 : Option Addr) (c0 : Nat) (l0 : List (S56)) (r : List (S56)) (w : World) (hr0 : Kd.C k56 w A0 l0.length l0) (hc0 : l0.length ≤ c0) (h : api_TextEdit.f l0 = some r) :
    Calls Try.prog 24 #[.slice A0 l0.length c0] w fun e w' => ∃ v0_ : Value, e = .returned (v0_) ∧ Kd.R k56 56 w' w.heap.size (fun _ => True) v0_ r ∧ Below w.heap.size w w' := by
  unfold api_TextEdit.f at h
  split at h
  · rename_i hl
    cases h
    exact clone24 A0 c0 l0 w hr0 hc0 hl
  · cases h
end Go.Proofs.Ytficalhfbopjbaa.Ds
