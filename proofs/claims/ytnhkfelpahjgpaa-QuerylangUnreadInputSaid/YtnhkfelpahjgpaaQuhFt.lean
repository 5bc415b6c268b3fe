/- glossatorkeep3.fit: a list of n inputs, and R.Clone of numbers. Condition: at most 1000000 inputs. -/
import Derived.Test.YtnhkfelpahjgpaaQux0
import Derived.BigQuiet
namespace Go.Proofs.Ytnhkfelpahjgpaa.Qu
open Go.RowKit Go.Proofs.YtnhkfelpahjgpaaW.PrintWords Go.Proofs.YtnhkfelpahjgpaaW.PrintLast Go.Proofs.YtnhkfelpahjgpaaW.PrintMore
open Go.Proofs.Ytnhkfelpahjgpaa
set_option linter.unusedVariables false
set_option linter.unusedSimpArgs false

def fitL (l : List Int) (n : Nat) : List Int := l.take (min l.length n) ++ (List.replicate n (0 : Int)).drop (min l.length n)
def glossatorkeep3_fit.f (l0 : List Int) (a1 : Int) : Option (List Int) := if 0 ≤ a1 ∧ a1 ≤ 1000000 then some (fitL l0 a1.toNat) else none
set_option maxHeartbeats 2000000 in
set_option maxRecDepth 100000 in
theorem glossatorkeep3_fit.calls (A0 : Option Addr) (c0 : Nat) (l0 : List Int) (a1 : Int) (r : List Int) (w : World) (hr0 : Kd.C (Kd.int .i64) w A0 l0.length l0) (hc0 : l0.length ≤ c0) (h : glossatorkeep3_fit.f l0 a1 = some r) :
    Calls Try.prog 8 #[.slice A0 l0.length c0, .int .i64 a1] w fun e w' => ∃ v0_ : Value, e = .returned (v0_) ∧ Kd.R (Kd.int .i64) 3 w' w.heap.size (fun _ => True) v0_ r ∧ Below w.heap.size w w' := by
  unfold glossatorkeep3_fit.f at h
  split at h
  case isFalse => cases h
  rename_i hn
  obtain rfl := Option.some.inj h
  have HN := Aside0.mk hn
  have HR0 := Aside0.mk hr0
  clear hn h hr0
  go_enter Try.func8, Try.ntmps8
  go_wp2_with (first | ((with_reducible refine gate_dst (N := 7) rfl ?_); refine Kd.R_make (Kd.int .i64) (w0 := w) w.heap.size 3 rfl (N := 7) rfl 25 _ _ rfl a1 rfl rfl Try.underlying25 (.int .i64 0) 8 info3 rfl (by decide) (by omega) 0 (ok := fun _ => True) (okp := fun _ => True) rfl (fun _ hk => hk) trivial HN.out.1 (by have := HN.out; omega) (Below.refl _ _) (Nat.le_refl _) ?_; intro v1 w1 hv hb _ _; have HV := Aside0.mk hv; have HB := Aside0.mk hb; clear hv hb; obtain ⟨A2, c2, e2⟩ := Kd.R_slice HV.out; subst e2; have hv_ := HV.out; rw [List.length_replicate] at hv_; clear HV; have HV := Aside0.mk hv_; clear hv_) | ((with_reducible refine gate_dst (N := 10) rfl ?_); refine Kd.R_copy (enc := Value.int .i64) (h1 := fun _ => rfl) 0 (w0 := w) w.heap.size rfl (.tmp 8) (.tmp 9) 25 25 3 rfl Try.underlying25 (by kernel_rfl) (.slice A2 a1.toNat c2) (List.replicate a1.toNat 0) l0 A0 l0.length c0 (fun _ => True) rfl rfl HV.out (Kd.C_below HR0.out HB.out) HB.out HB.out.size ?_; intro w2 hv hb _; have HV2 := Aside0.mk hv; have HB2 := Aside0.mk hb; clear hv hb HV HB))
  go_ret
  exact ⟨_, rfl, by have h_ := HV2.out; rw [List.length_replicate] at h_; exact h_, HB2.out⟩
end Go.Proofs.Ytnhkfelpahjgpaa.Qu
