/- slices.Equal of equal lists of ints; a slice is read through a change of blocks that are no cells. -/
import Derived.Test.YtpbljheelkpaiaaPghSp
import Derived.Test.YtpbljheelkpaiaaPgx1
import Derived.Test.YtpbljheelkpaiaaMp
import Derived.Laws.IdiomRangeMap
namespace Go.Proofs.Ytpbljheelkpaiaa.Pg
open Go.RowKit Go.Proofs.YtpbljheelkpaiaaW.PrintWords Go.Proofs.YtpbljheelkpaiaaW.PrintLast Go.Proofs.YtpbljheelkpaiaaW.PrintMore
open Go.Proofs.Ytpbljheelkpaiaa
set_option linter.unusedVariables false
set_option linter.unusedSimpArgs false
attribute [local go_sem] Oper.semAt_some
set_option maxHeartbeats 4000000 in
set_option maxRecDepth 100000 in
theorem eq18 (A B : Option Addr) (c1 c2 : Nat) (xs : List Int) (w : World) (hrA : Kd.C (Kd.int .i64) w A xs.length xs) (hrB : Kd.C (Kd.int .i64) w B xs.length xs) (hl : xs.length ≤ 1000) :
    Calls Try.prog 18 #[.slice A xs.length c1, .slice B xs.length c2] w fun e w' => e = .returned (.bool true) ∧ Drawn0 w w' := by
  have HA := Aside0.mk hrA
  have HB := Aside0.mk hrB
  have HL := Aside0.mk hl
  clear hrA hrB hl
  go_enter Try.func18, Try.ntmps18
  go_wp2
  go_loopg [13] xs.length (fun kq v13 w' => ∃ (x : Int), v13 = .int .i64 x ∧ Aside0 (∃ i : Nat, x = (i : Int) ∧ i + kq = xs.length) ∧ Drawn0 w w')
  case atStart => exact ⟨0, rfl, ⟨0, rfl, by omega⟩, Drawn0.refl _⟩
  case round =>
    obtain ⟨x, rfl, HX, ⟨m1, rfl⟩⟩ := hrel
    by_cases hx : x < (xs.length : Int)
    · have c1_ : decide (x < (xs.length : Int)) = true := decide_eq_true hx
      obtain ⟨k1, rfl⟩ : ∃ k1, gk = k1 + 1 := ⟨gk - 1, by obtain ⟨i, e1, e2⟩ := HX.out; omega⟩
      have p1 : 0 ≤ x := by obtain ⟨i, e1, e2⟩ := HX.out; omega
      obtain ⟨ad1, e1, hc1⟩ := Kd.at_int HA.out x p1 hx
      obtain ⟨ad2, e2, hc2⟩ := Kd.at_int HB.out x p1 hx
      cases e1
      cases e2
      have hw : wrap64 (x + 1) = x + 1 := w64_id (by omega) (by have := HL.out; omega)
      have HX2 := Aside0.mk (show ∃ i : Nat, x + 1 = (i : Int) ∧ i + k1 = xs.length from by obtain ⟨i, e1, e2⟩ := HX.out; exact ⟨i + 1, by omega, by omega⟩)
      replace p1 := eq_true p1
      have q1 := eq_true hx
      clear hx HX
      go_wp2
      go_quiet (fail)
      go_wp2
      go_roundg k1
      case measure => exact Nat.lt_succ_self k1
      case rel => exact ⟨x + 1, by rw [hw], HX2, by repeat (first | exact Drawn0.refl _ | apply Drawn0.step)⟩
    · have c1_ : decide (x < (xs.length : Int)) = false := decide_eq_false hx
      clear hx HX
      go_wp2
      go_ret
      exact ⟨rfl, by repeat (first | exact Drawn0.refl _ | apply Drawn0.step)⟩
theorem C_cells {W W' : World} {A : Option Addr} {n : Nat} {xs : List Int} (h : Kd.C (Kd.int .i64) W A n xs) (hk : ∀ (k : Nat) cs t f, W.heap[k]? = some (Obj.cells cs t f) → W'.heap[k]? = W.heap[k]?) : Kd.C (Kd.int .i64) W' A n xs := by
  refine ⟨h.1, h.2.1, fun hp => ?_⟩
  obtain ⟨ad, e, hc⟩ := h.2.2 hp
  refine ⟨ad, e, fun j p hj => ?_⟩
  obtain ⟨c, h1, h2, h3⟩ := hc j p hj
  refine ⟨c, h1, h2, fun i u hu => ?_⟩
  have h4 := h3 i u hu
  refine (World.cell?_of_block ?_).trans h4
  unfold World.cell? at h4
  split at h4
  · rename_i cs t f hb
    exact hk _ _ _ _ hb
  · cases h4
end Go.Proofs.Ytpbljheelkpaiaa.Pg
