/- slices.ContainsFunc over events with validate's test. Condition: fewer than 1000000000 events. -/
import Derived.Test.YtgigbllohagfmaaFix0
import Derived.Test.YtgigbllohagfmaaMp
import Derived.Test.YtgigbllohagfmaaFihTb
namespace Go.Proofs.Ytgigbllohagfmaa.Fi
open Go.RowKit Go.Proofs.YtgigbllohagfmaaW.PrintWords Go.Proofs.YtgigbllohagfmaaW.PrintLast Go.Proofs.YtgigbllohagfmaaW.PrintMore
open Go.Proofs.Ytgigbllohagfmaa
set_option linter.unusedVariables false
set_option linter.unusedSimpArgs false

def ixs : List S33 → Int → Int
  | [], _ => -1
  | e :: es, i => if vk e.f2 = true then ixs es (i + 1) else i
theorem ixs_cons (e : S33) (es : List S33) (i : Int) : ixs (e :: es) i = if vk e.f2 = true then ixs es (i + 1) else i := rfl
theorem ixs_any (es : List S33) : ∀ i : Int, 0 ≤ i → decide (ixs es i ≥ 0) = es.any (fun e => !vk e.f2) := by
  induction es with
  | nil => intro i _; rfl
  | cons e es ih =>
    intro i hi
    rw [ixs_cons, List.any_cons]
    cases h : vk e.f2 with
    | true => rw [if_pos rfl, ih (i + 1) (by omega)]; rfl
    | false => rw [if_neg (by simp)]; simp; omega
set_option maxHeartbeats 2000000 in
theorem pred26 (e : S33) (w : World) : Calls Try.prog 26 #[.agg #[.int .i64 e.f0, .string e.f1, .int .i64 e.f2]] w fun r w' => r = .returned (.bool (!vk e.f2)) ∧ Below w.heap.size w w' := by
  have hu33 := Try.underlying33
  have HB := Aside0.mk (Below.refl w.heap.size w)
  go_enter Try.func26, Try.ntmps26
  go_wp2_with (go_at_call 21; refine (vk_calls _ _).mono ?_; rintro e w7 ⟨rfl, rfl⟩)
  go_ret
  exact ⟨rfl, by repeat (first | exact HB.out | apply below_alloc)⟩
set_option maxHeartbeats 4000000 in
set_option maxRecDepth 100000 in
theorem index32 (A0 : Option Addr) (c0 : Nat) (l0 : List (S33)) (w : World) (hr0 : Kd.C k33 w A0 l0.length l0) (hc0 : l0.length ≤ c0) (hl0 : l0.length < 1000000000) :
    Calls Try.prog 32 #[.slice A0 l0.length c0, .func (.func 26) #[] #[]] w fun e w' => e = .returned (.int .i64 (ixs l0 0)) ∧ Below w.heap.size w w' := by
  have hu33 := Try.underlying33
  have HR0 := Aside0.mk hr0
  have HC0 := Aside0.mk hc0
  have HLEN := Aside0.mk hl0
  clear hr0 hc0 hl0
  have HB := Aside0.mk (Below.refl w.heap.size w)
  go_enter Try.func32, Try.ntmps32
  go_wp2
  go_loopg [8] l0.length (fun kq v12 w' => ∃ x : Int, v12 = .int .i64 x ∧ Aside0 (∃ i : Nat, x = i ∧ i + kq = l0.length ∧ ixs (l0.drop i) (i : Int) = ixs l0 0) ∧ Aside0 (Below w.heap.size w w'))
  case atStart => exact ⟨0, rfl, ⟨⟨0, rfl, by omega, rfl⟩⟩, HB⟩
  case round =>
    clear HB
    obtain ⟨x, rfl, HX, HB⟩ := hrel
    by_cases c : x < (l0.length : Int)
    · have c1 : decide (x < (l0.length : Int)) = true := decide_eq_true c
      obtain ⟨i, e1, e2, e3⟩ := HX.out
      clear HX
      obtain ⟨k1, rfl⟩ : ∃ k1, gk = k1 + 1 := ⟨gk - 1, by omega⟩
      have E1 := Aside0.mk (And.intro e1 e2)
      rw [take33 l0 i (by omega), ← e1, ixs_cons] at e3
      have E3 := Aside0.mk e3
      have p1 : 0 ≤ (x : Int) := by omega
      obtain ⟨ad, ea, hx0, hx1, hx2⟩ := at_T33 HR0.out x p1 c
      cases ea
      replace hx0 := (HB.out.cell (World.block_lt_of_cell? w _ hx0)).trans hx0
      replace hx1 := (HB.out.cell (World.block_lt_of_cell? w _ hx1)).trans hx1
      replace hx2 := (HB.out.cell (World.block_lt_of_cell? w _ hx2)).trans hx2
      replace p1 := eq_true p1
      have q1 := eq_true c
      clear e1 e2 e3 c
      cases hv : vk (rd_T33 l0 x).f2 with
      | true =>
        have e4 := E3.out
        rw [if_pos hv] at e4
        have E4 := Aside0.mk e4
        clear e4 E3
        go_wp2_with (go_at_call 26; refine (pred26 (rd_T33 l0 x) _).mono ?_; rw [hv]; rintro e w7 ⟨rfl, hb⟩; have n1_ := Aside0.mk (below_step HB.out hb); clear HB hb; have HB := n1_; clear n1_)
        go_roundg k1
        case measure => have := E1.out; omega
        case rel => exact ⟨wrap64 (x + 1), rfl, ⟨⟨i + 1, by have := E1.out; rw [w64_id' (by omega) (by have := HLEN.out; omega)]; omega, by have := E1.out; omega, by rw [← E4.out, E1.out.1]; rfl⟩⟩, HB⟩
      | false =>
        have e4 := E3.out
        rw [if_neg (by rw [hv]; simp)] at e4
        have E4 := Aside0.mk e4
        clear e4 E3
        go_wp2_with (go_at_call 26; refine (pred26 (rd_T33 l0 x) _).mono ?_; rw [hv]; rintro e w7 ⟨rfl, hb⟩; have n1_ := Aside0.mk (below_step HB.out hb); clear HB hb; have HB := n1_; clear n1_)
        go_ret
        exact ⟨by rw [← E4.out]; rfl, HB.out⟩
    · have c1 : decide (x < (l0.length : Int)) = false := decide_eq_false c
      obtain ⟨i, e1, e2, e3⟩ := HX.out
      clear HX
      obtain rfl : i = l0.length := by omega
      rw [List.drop_length] at e3
      have E3 := Aside0.mk (show (-1 : Int) = ixs l0 0 from e3)
      clear e1 e2 c e3
      go_wp2
      go_ret
      exact ⟨by rw [← E3.out]; rfl, HB.out⟩
def api_QFileEvent_25.f (l0 : List (S33)) (a1 : Nat) : Option (Bool) := if a1 = 26 ∧ l0.length < 1000000000 then some (l0.any fun e => !vk e.f2) else none
set_option maxHeartbeats 2000000 in
theorem api_QFileEvent_25.calls (A0 : Option Addr) (c0 : Nat) (l0 : List (S33)) (a1 : Nat) (r : Bool) (w : World) (hr0 : Kd.C k33 w A0 l0.length l0) (hc0 : l0.length ≤ c0) (h : api_QFileEvent_25.f l0 a1 = some r) :
    Calls Try.prog 25 #[.slice A0 l0.length c0, .func (.func a1) #[] #[]] w fun e w' => e = .returned (.bool r) ∧ Below w.heap.size w w' := by
  unfold api_QFileEvent_25.f at h
  split at h
  · rename_i hc
    obtain ⟨rfl, hl⟩ := hc
    obtain rfl := Option.some.inj h
    rw [← ixs_any l0 0 (Int.le_refl _)]
    have hcon := index32 A0 c0 l0 w hr0 hc0 hl
    generalize ixs l0 0 = n at hcon ⊢
    have HCON := Aside0.mk hcon
    clear hcon hr0 hc0 h hl
    go_enter Try.func25, Try.ntmps25
    go_wp2_with (go_at_call 32; refine HCON.out.mono ?_; rintro e w7 ⟨rfl, hb⟩; have HB := Aside0.mk hb; clear hb)
    go_ret
    exact ⟨by simp, HB.out⟩
  · cases h
end Go.Proofs.Ytgigbllohagfmaa.Fi
