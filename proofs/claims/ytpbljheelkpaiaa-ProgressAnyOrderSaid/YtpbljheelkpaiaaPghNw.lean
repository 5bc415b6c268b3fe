/- progress.NewAssembler; Clone of a list of chunks. -/
import Derived.Test.YtpbljheelkpaiaaPghTb
import Derived.Test.YtpbljheelkpaiaaPgx1
import Derived.Test.YtpbljheelkpaiaaMp
import Derived.Laws.IdiomRangeMap
namespace Go.Proofs.Ytpbljheelkpaiaa.Pg
open Go.RowKit Go.Proofs.YtpbljheelkpaiaaW.PrintWords Go.Proofs.YtpbljheelkpaiaaW.PrintLast Go.Proofs.YtpbljheelkpaiaaW.PrintMore
open Go.Proofs.Ytpbljheelkpaiaa
set_option linter.unusedVariables false
set_option linter.unusedSimpArgs false
attribute [local go_sem] Oper.semAt_some
set_option maxHeartbeats 8000000 in
set_option maxRecDepth 100000 in
theorem new_calls (t : Int) (W : World) : Calls Try.prog 9 #[] W fun e W' => ∃ gs ob, e = .returned (.pointer (some ⟨gs, 0, none⟩)) ∧ Below W.heap.size W W' ∧ As gs ob t none [] W' ∧ W.heap.size ≤ gs ∧ W.heap.size ≤ ob := by
  have hu50 := Try.underlying50
  go_enter Try.func9, Try.ntmps9
  go_wp2_with (first | (refine Mp.wp_make_at rfl 48 rfl (enc := encI) Try.underlying48 ?_; intro w1 gm hgm hat hg hb hs; have HM := Aside0.mk hat; have HB := Aside0.mk hb; have GM := Aside0.mk (Nat.le_of_eq hgm.symm); clear hat hg hb hs hgm) | ((with_reducible refine gate_dst (N := 3) rfl ?_); refine box_event ?hg (N := 3) ?hd (cs := #[.map (some gm)]) (t := 50) ?hr ?_; (case hd => rfl); (case hg => rfl); (case hr => first | (go_simp; done) | (go_simp; rfl)); intro gs hg w3 hbox hb; have BKgs := Aside0.mk hbox; have GEgs := Aside0.mk (show w1.heap.size = gs from hg.symm); have GS := Aside0.mk (show W.heap.size ≤ gs from Nat.le_trans HB.out.size (Nat.le_of_eq hg.symm)); have n2_ := Aside0.mk (HM.out.below hb); clear HM; have HM := n2_; clear n2_; have n1_ := Aside0.mk (below_step HB.out hb); clear HB; have HB := n1_; clear n1_; clear hbox hb hg))
  go_ret
  exact ⟨gs, gm, rfl, HB.out, ⟨BKgs.out, HM.out, rfl, fun ib h => by cases h⟩, GS.out, GM.out⟩
/-- rows of chunks that came in: read in w0 -/
abbrev kF (w0 : World) : Kd S39 := Kd.fixed k39 w0
set_option maxHeartbeats 8000000 in
set_option maxRecDepth 100000 in
theorem clone12 (w0 : World) (A : Option Addr) (n c : Nat) (xs : List S39) (W : World) (hr : Kd.C (kF w0) W A n xs) (hl : n < 1000000) :
    Calls Try.prog 12 #[.slice A n c] W fun e W' => ∃ v, e = .returned v ∧ Kd.R (kF w0) 39 W' W.heap.size (fun _ => True) v xs ∧ Below W.heap.size W W' := by
  have hu39 := Try.underlying39
  have HR := Aside0.mk hr
  have HL := Aside0.mk hl
  clear hr hl
  have HB := Aside0.mk (Below.refl W.heap.size W)
  go_enter Try.func12, Try.ntmps12
  go_wp2_with (at_builtin; (refine Kd.R_append_rows (kF w0) (w0 := W) W.heap.size rfl (.const (.slice none 0 0)) (.tmp 3) 29 39 (.agg #[.int .i64 0, .int .i64 0, .bool false, .slice none 0 0]) 48 rfl Try.underlying29 info39 rfl (show 0 < 4 by decide) (by omega) (.slice none 0 0) [] xs A n c (fun _ => True) (fun _ => False) rfl rfl (Kd.R_nil _ _ _ _ _) HR.out (fun _ _ h => h) (fun _ h => h.elim) (fun _ _ => trivial) HB.out HB.out.size (by have h_ := HL.out; simp only [List.length_nil]; omega) ?_; rintro v1 w1 hv hb _ _; have HV := Aside0.mk hv; have HBF := Aside0.mk hb; clear hv hb))
  go_ret
  exact ⟨_, rfl, HV.out, HBF.out⟩
end Go.Proofs.Ytpbljheelkpaiaa.Pg
