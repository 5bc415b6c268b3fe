/- slices.ContainsFunc over queries with Check's test of their length. Condition: fewer than 1000000000 queries. -/
import Derived.Test.YtnhkfelpahjgpaaQux0
import Derived.BigQuiet
namespace Go.Proofs.Ytnhkfelpahjgpaa.Qu
open Go.RowKit Go.Proofs.YtnhkfelpahjgpaaW.PrintWords Go.Proofs.YtnhkfelpahjgpaaW.PrintLast Go.Proofs.YtnhkfelpahjgpaaW.PrintMore
open Go.Proofs.Ytnhkfelpahjgpaa
set_option linter.unusedVariables false
set_option linter.unusedSimpArgs false

theorem w64_id' {n : Int} (h : -9223372036854775808 ≤ n) (h' : n ≤ 9223372036854775807) : wrap64 n = n := by unfold wrap64; omega
/-- the index of the first that p holds of, from i on -/
def ixs {α : Type} (p : α → Bool) : List α → Int → Int
  | [], _ => -1
  | e :: es, i => if p e = true then i else ixs p es (i + 1)
theorem ixs_cons {α : Type} (p : α → Bool) (e : α) (es : List α) (i : Int) : ixs p (e :: es) i = if p e = true then i else ixs p es (i + 1) := rfl
theorem ixs_any {α : Type} (p : α → Bool) (es : List α) : ∀ i : Int, 0 ≤ i → decide (ixs p es i ≥ 0) = es.any p := by
  induction es with
  | nil => intro i _; rfl
  | cons e es ih =>
    intro i hi
    rw [ixs_cons, List.any_cons]
    cases h : p e with
    | false => rw [if_neg (by simp), ih (i + 1) (by omega)]; rfl
    | true => rw [if_pos rfl]; simp; omega
theorem takeL2 (l : List (List S43)) (i : Nat) (h : i < l.length) : l.drop i = rd_L2 l (i : Int) :: l.drop (i + 1) := by
  rw [List.drop_eq_getElem_cons h]
  unfold rd_L2
  simp [h]
def longQ (l : List S43) : Bool := decide (20 < (l.length : Int))
set_option maxHeartbeats 2000000 in
theorem pred23 (l : List S43) (A : Option Addr) (c : Nat) (w : World) : Calls Try.prog 23 #[.slice A l.length c] w fun e w' => e = .returned (.bool (longQ l)) ∧ Below w.heap.size w w' := by
  have HB := Aside0.mk (Below.refl w.heap.size w)
  unfold longQ
  go_enter Try.func23, Try.ntmps23
  go_wp2
  go_ret
  exact ⟨rfl, HB.out⟩
set_option maxHeartbeats 4000000 in
set_option maxRecDepth 100000 in
theorem index32 (A0 : Option Addr) (c0 : Nat) (l0 : List (List S43)) (w : World) (hr0 : Kd.C (Kd.slice 43 k43) w A0 l0.length l0) (hc0 : l0.length ≤ c0) (hl0 : l0.length < 1000000000) :
    Calls Try.prog 32 #[.slice A0 l0.length c0, .func (.func 23) #[] #[]] w fun e w' => e = .returned (.int .i64 (ixs (longQ) l0 0)) ∧ Below w.heap.size w w' := by
  have HR0 := Aside0.mk hr0
  have HC0 := Aside0.mk hc0
  have HLEN := Aside0.mk hl0
  clear hr0 hc0 hl0
  have HB := Aside0.mk (Below.refl w.heap.size w)
  go_enter Try.func32, Try.ntmps32
  go_wp2
  go_loopg [8] l0.length (fun kq v8 w' => ∃ x : Int, v8 = .int .i64 x ∧ Aside0 (∃ i : Nat, x = i ∧ i + kq = l0.length ∧ ixs (longQ) (l0.drop i) (i : Int) = ixs (longQ) l0 0) ∧ Aside0 (Below w.heap.size w w'))
  case atStart => exact ⟨0, rfl, ⟨⟨0, rfl, by omega, rfl⟩⟩, HB⟩
  case round =>
    clear HB
    obtain ⟨x, rfl, HX, HB⟩ := hrel
    by_cases c : x < (l0.length : Int)
    · have c1 : decide (x < (l0.length : Int)) = true := decide_eq_true c
      obtain ⟨i, e1, e2, e3⟩ := HX.out
      clear HX
      obtain ⟨k1, rfl⟩ : ∃ k1, gk = k1 + 1 := ⟨gk - 1, by omega⟩
      have E1 := Aside0.mk (And.intro e1 e2)
      rw [takeL2 l0 i (by omega), ← e1, ixs_cons] at e3
      have E3 := Aside0.mk e3
      have p1 : 0 ≤ (x : Int) := by omega
      obtain ⟨ad, A1, c2, ea, hx0, hl1, hi1⟩ := at_L2 HR0.out x p1 c
      cases ea
      replace hx0 := (HB.out.cell (World.block_lt_of_cell? w _ hx0)).trans hx0
      clear hl1 hi1
      replace p1 := eq_true p1
      have q1 := eq_true c
      clear e1 e2 e3 c
      cases hv : (longQ) (rd_L2 l0 x) with
      | false =>
        have e4 := E3.out
        rw [if_neg (by rw [hv]; simp)] at e4
        have E4 := Aside0.mk e4
        clear e4 E3
        go_wp2_with (go_at_call 23; refine (pred23 (rd_L2 l0 x) _ _ _).mono ?_; rintro e w7 ⟨he, hb⟩; rw [hv] at he; subst he; have n1_ := Aside0.mk (below_step HB.out hb); clear HB hb; have HB := n1_; clear n1_)
        go_roundg k1
        case measure => have := E1.out; omega
        case rel => exact ⟨wrap64 (x + 1), rfl, ⟨⟨i + 1, by have := E1.out; rw [w64_id' (by omega) (by have := HLEN.out; omega)]; omega, by have := E1.out; omega, by rw [← E4.out, E1.out.1]; rfl⟩⟩, HB⟩
      | true =>
        have e4 := E3.out
        rw [if_pos hv] at e4
        have E4 := Aside0.mk e4
        clear e4 E3
        go_wp2_with (go_at_call 23; refine (pred23 (rd_L2 l0 x) _ _ _).mono ?_; rintro e w7 ⟨he, hb⟩; rw [hv] at he; subst he; have n1_ := Aside0.mk (below_step HB.out hb); clear HB hb; have HB := n1_; clear n1_)
        go_ret
        exact ⟨by rw [← E4.out]; rfl, HB.out⟩
    · have c1 : decide (x < (l0.length : Int)) = false := decide_eq_false c
      obtain ⟨i, e1, e2, e3⟩ := HX.out
      clear HX
      obtain rfl : i = l0.length := by omega
      rw [List.drop_length] at e3
      have E3 := Aside0.mk (show (-1 : Int) = ixs (longQ) l0 0 from e3)
      clear e1 e2 c e3
      go_wp2
      go_ret
      exact ⟨by rw [← E3.out]; rfl, HB.out⟩
set_option maxHeartbeats 2000000 in
theorem contains24 (A0 : Option Addr) (c0 : Nat) (l0 : List (List S43)) (w : World) (hr0 : Kd.C (Kd.slice 43 k43) w A0 l0.length l0) (hc0 : l0.length ≤ c0) (hl0 : l0.length < 1000000000) :
    Calls Try.prog 24 #[.slice A0 l0.length c0, .func (.func 23) #[] #[]] w fun e w' => e = .returned (.bool (l0.any (longQ))) ∧ Below w.heap.size w w' := by
  rw [← ixs_any (longQ) l0 0 (Int.le_refl _)]
  have hcon := index32 A0 c0 l0 w hr0 hc0 hl0
  generalize ixs (longQ) l0 0 = n at hcon ⊢
  have HCON := Aside0.mk hcon
  clear hcon hr0 hc0 hl0
  go_enter Try.func24, Try.ntmps24
  go_wp2_with (go_at_call 32; refine HCON.out.mono ?_; rintro e w7 ⟨rfl, hb⟩; have HB := Aside0.mk hb; clear hb)
  go_ret
  exact ⟨by simp, HB.out⟩
def api_QOp.f (l0 : List (List (S43))) (a1 : Nat) : Option (Bool) := if a1 = 23 ∧ l0.length < 1000000000 then some (l0.any longQ) else none
theorem api_QOp.calls (A0 : Option Addr) (c0 : Nat) (l0 : List (List (S43))) (a1 : Nat) (r : Bool) (w : World) (hr0 : Kd.C (Kd.slice 43 k43) w A0 l0.length l0) (hc0 : l0.length ≤ c0) (h : api_QOp.f l0 a1 = some r) :
    Calls Try.prog 24 #[.slice A0 l0.length c0, .func (.func a1) #[] #[]] w fun e w' => e = .returned (.bool r) ∧ Below w.heap.size w w' := by
  unfold api_QOp.f at h
  split at h
  · rename_i hc
    obtain ⟨rfl, hl⟩ := hc
    obtain rfl := Option.some.inj h
    exact contains24 A0 c0 l0 w hr0 hc0 hl
  · cases h
end Go.Proofs.Ytnhkfelpahjgpaa.Qu
