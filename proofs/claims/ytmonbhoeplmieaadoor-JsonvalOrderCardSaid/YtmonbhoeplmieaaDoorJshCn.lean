/- slices.Clone and glossatorref3.Clone of strings. Condition: fewer than 1000000. -/
import Derived.Lib.SliceRun
import Derived.Test.YtmonbhoeplmieaaDoorJsx0
import Derived.Deep.QuietTactic
import Derived.Deep.LoopGhost
import Derived.Shelf.Abstract
import Derived.WalkKit
import Derived.BigQuiet
namespace Go.Proofs.YtmonbhoeplmieaaDoor.Js
open Go.RowKit Go.Shelf Go.Proofs.YtmonbhoeplmieaaDoorW.PrintWords Go.Proofs.YtmonbhoeplmieaaDoorW.PrintLast Go.Proofs.YtmonbhoeplmieaaDoorW.PrintMore
open Go.Proofs.YtmonbhoeplmieaaDoor
set_option linter.unusedVariables false
set_option linter.unusedSimpArgs false
attribute [local go_sem] Oper.semAt_some
theorem info9 : (Tryd.prog.info? 9).map (fun i => (i.zero, i.size, i.bytes)) = some (some (.string ByteArray.empty), 1, 16) := by kernel_rfl
set_option maxHeartbeats 8000000 in
set_option maxRecDepth 100000 in
theorem clone_strings (A : Option Addr) (c : Nat) (xs : List ByteArray) (W : World) (hr : Kd.C Kd.string W A xs.length xs) (hc : xs.length ≤ c) (hl : xs.length < 1000000) :
    Calls Tryd.prog 31 #[.slice A xs.length c] W fun e W' => ∃ v, e = .returned v ∧ Kd.R Kd.string 9 W' W.heap.size (fun _ => True) v xs ∧ Below W.heap.size W W' := by
  have hu_ := Tryd.underlying22
  have hue := Tryd.underlying9
  have HR := Aside0.mk hr
  have HL := Aside0.mk hl
  clear hr hl
  have HB := Aside0.mk (Below.refl W.heap.size W)
  cases A with
  | none =>
    have hq := fun w n c => Go.Lib.run_eql_slice_nil (P := Tryd.prog) w 22 9 none n c 0 0 hu_
    simp only [Option.isNone_none] at hq
    go_enter Tryd.func31, Tryd.ntmps31
    go_wp2
    go_ret
    have h0 : xs = [] := by
      rcases Nat.eq_zero_or_pos xs.length with h | h
      · exact List.eq_nil_of_length_eq_zero h
      · obtain ⟨ad, ea, _⟩ := HR.out.2.2 h
        cases ea
    subst h0
    exact ⟨_, rfl, Kd.R_nil _ _ _ _ _, HB.out⟩
  | some ad =>
    have hq := fun w n c => Go.Lib.run_eql_slice_nil (P := Tryd.prog) w 22 9 (some ad) n c 0 0 hu_
    simp only [Option.isNone_some] at hq
    go_enter Tryd.func31, Tryd.ntmps31
    go_wp2_with (first | ((with_reducible refine gate_dst (N := 5) rfl ?_); refine Kd.R_lit Kd.string _ 9 ?hg (N := 5) ?hd (xs := ([] : List ByteArray)) (inner := []) (ok := fun _ => True) (okp := fun _ => True) ?hr ?hp (fun _ hk => hk) trivial (Below.refl _ _) (Nat.le_refl _) (by simp) ?_; (case hd => rfl); (case hg => rfl); (case hr => first | (go_simp; done) | (go_simp; rfl)); (case hp => exact Reps.none _ _); intro v5 w5 ho hb hg_ hnew_; clear hg_ hnew_; have HO := Aside0.mk ho; have HB5 := Aside0.mk hb; have HR5 := Aside0.mk (Kd.C_below HR.out hb); clear ho hb) | (at_builtin; (refine Kd.R_append_rows Kd.string (w0 := W) W.heap.size rfl (.tmp 5) (.tmp 6) 22 9 _ _ rfl Tryd.underlying22 info9 rfl (by decide) (by omega) v5 [] xs _ _ _ (fun _ => True) (fun _ => False) rfl rfl HO.out HR5.out (fun _ _ h => h) (fun _ h => h.elim) (fun _ _ => trivial) HB5.out HB5.out.size (by have := HL.out; simp only [List.length_nil]; omega) ?_; rintro v1 w1 hv hb _ _; have HV := Aside0.mk hv; have HBF := Aside0.mk hb; clear hv hb)))
    go_ret
    exact ⟨_, rfl, HV.out, HBF.out⟩
def slices_Clone_string_string.f (l0 : List ByteArray) : Option (List ByteArray) := if l0.length < 1000000 then some l0 else none
theorem slices_Clone_string_string.calls (A0 : Option Addr) (c0 : Nat) (l0 : List ByteArray) (r : List ByteArray) (w : World) (hr0 : Kd.C Kd.string w A0 l0.length l0) (hc0 : l0.length ≤ c0) (h : slices_Clone_string_string.f l0 = some r) :
    Calls Tryd.prog 31 #[.slice A0 l0.length c0] w fun e w' => ∃ v0_ : Value, e = .returned (v0_) ∧ Kd.R Kd.string 9 w' w.heap.size (fun _ => True) v0_ r ∧ Below w.heap.size w w' := by
  unfold slices_Clone_string_string.f at h
  split at h
  · rename_i hl
    cases h
    exact clone_strings A0 c0 l0 w hr0 hc0 hl
  · cases h
set_option maxHeartbeats 8000000 in
set_option maxRecDepth 100000 in
theorem rclone_strings (A : Option Addr) (c : Nat) (xs : List ByteArray) (W : World) (hr : Kd.C Kd.string W A xs.length xs) (hc : xs.length ≤ c) (hl : xs.length < 1000000) :
    Calls Tryd.prog 18 #[.slice A xs.length c] W fun e W' => ∃ v, e = .returned v ∧ Kd.R Kd.string 9 W' W.heap.size (fun _ => True) v xs ∧ Below W.heap.size W W' := by
  have hu_ := Tryd.underlying22
  have hue := Tryd.underlying9
  have HR := Aside0.mk hr
  have HL := Aside0.mk hl
  clear hr hl
  have HB := Aside0.mk (Below.refl W.heap.size W)
  go_enter Tryd.func18, Tryd.ntmps18
  go_wp2_with (at_builtin; (refine Kd.R_append_rows Kd.string (w0 := W) W.heap.size rfl (.const (.slice none 0 0)) (.tmp 3) 22 9 _ _ rfl Tryd.underlying22 info9 rfl (by decide) (by omega) (.slice none 0 0) [] xs _ _ _ (fun _ => True) (fun _ => False) rfl rfl (Kd.R_nil _ _ _ _ _) HR.out (fun _ _ h => h) (fun _ h => h.elim) (fun _ _ => trivial) HB.out HB.out.size (by have := HL.out; simp only [List.length_nil]; omega) ?_; rintro v1 w1 hv hb _ _; have HV := Aside0.mk hv; have HBF := Aside0.mk hb; clear hv hb))
  go_ret
  exact ⟨_, rfl, HV.out, HBF.out⟩
def glossatorref3_Clone_string.f (l0 : List ByteArray) : Option (List ByteArray) := if l0.length < 1000000 then some l0 else none
theorem glossatorref3_Clone_string.calls (A0 : Option Addr) (c0 : Nat) (l0 : List ByteArray) (r : List ByteArray) (w : World) (hr0 : Kd.C Kd.string w A0 l0.length l0) (hc0 : l0.length ≤ c0) (h : glossatorref3_Clone_string.f l0 = some r) :
    Calls Tryd.prog 18 #[.slice A0 l0.length c0] w fun e w' => ∃ v0_ : Value, e = .returned (v0_) ∧ Kd.R Kd.string 9 w' w.heap.size (fun _ => True) v0_ r ∧ Below w.heap.size w w' := by
  unfold glossatorref3_Clone_string.f at h
  split at h
  · rename_i hl
    cases h
    exact rclone_strings A0 c0 l0 w hr0 hc0 hl
  · cases h
end Go.Proofs.YtmonbhoeplmieaaDoor.Js
