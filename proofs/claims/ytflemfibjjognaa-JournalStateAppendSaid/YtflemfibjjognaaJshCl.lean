/- R.Clone at records: the call hands back a row of its own with the same records. Condition: fewer than 3518437208883 records. -/
import Derived.Test.YtflemfibjjognaaJsx0
namespace Go.Proofs.Ytflemfibjjognaa.Js
open Go.RowKit Go.Proofs.YtflemfibjjognaaW.PrintWords Go.Proofs.YtflemfibjjognaaW.PrintLast Go.Proofs.YtflemfibjjognaaW.PrintMore
set_option linter.unusedVariables false
set_option linter.unusedSimpArgs false

def api_QRecord_16.f (l0 : List (S31)) : Option ((List (S31))) := if l0.length < 3518437208883 then some l0 else none
set_option maxHeartbeats 2000000 in
set_option maxRecDepth 100000 in
theorem api_QRecord_16.calls (A0 : Option Addr) (c0 : Nat) (l0 : List (S31)) (r : List (S31)) (w : World) (hr0 : Kd.C k31 w A0 l0.length l0) (hc0 : l0.length ≤ c0) (h : api_QRecord_16.f l0 = some r) :
    Calls Try.prog 16 #[.slice A0 l0.length c0] w fun e w' => ∃ v0_ : Value, e = .returned (v0_) ∧ Kd.R k31 31 w' w.heap.size (fun _ => True) v0_ r ∧ Below w.heap.size w w' := by
  unfold api_QRecord_16.f at h
  split at h
  case isFalse => cases h
  rename_i hlen
  obtain rfl := Option.some.inj h
  have HL := Aside0.mk hlen
  have HR := Aside0.mk hr0
  clear hlen h hr0
  go_enter Try.func16, Try.ntmps16
  go_wp2_with (at_builtin; (refine Kd.R_append_rows k31 (w0 := w) w.heap.size rfl (.const (.slice none 0 0)) (.tmp 3) 22 31 _ _ rfl Try.underlying22 info31 rfl (by decide) (by omega) (.slice none 0 0) [] l0 _ _ _ (fun _ => True) (fun _ => False) rfl rfl (Kd.R_nil _ _ _ _ _) HR.out (fun _ _ h => h) (fun _ h => h.elim) (fun _ _ => trivial) (Below.refl _ _) (Nat.le_refl _) (by have := HL.out; simp only [List.length_nil]; omega) ?_; rintro v1 w1 hv hb _ _; have HV := Aside0.mk hv; have HB := Aside0.mk hb; clear hv hb))
  go_ret
  exact ⟨_, rfl, HV.out, HB.out⟩
end Go.Proofs.Ytflemfibjjognaa.Js
