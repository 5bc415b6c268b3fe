/- slices.Backward: the iterator's contract. Condition: from 1 to 1000000 steps. -/
import Derived.RangeFuncNested
import Derived.RangeFuncBound
import Derived.RangeFuncCalls
import Derived.RangeFuncLeaves
import Derived.RangeFuncBox
import Derived.Shelf.Abstract
import Derived.Shelf.RegionOpen
import Derived.WalkKit
import Derived.OwnWalkIn
import Derived.TacticsInMore
import Derived.LoopNIn
import Derived.LoopIn
import Derived.BigQuiet
import Derived.Test.YtgjcembdmohhkaaFshVs
import Derived.Test.YtgjcembdmohhkaaRi
namespace Go.Proofs.Ytgjcembdmohhkaa.Fs
open Go.RowKit Go.Shelf Go.Proofs.YtgjcembdmohhkaaW.PrintWords Go.Proofs.YtgjcembdmohhkaaW.PrintLast Go.Proofs.YtgjcembdmohhkaaW.PrintMore
open Go.Proofs.Ytgjcembdmohhkaa
set_option linter.unusedVariables false
set_option linter.unusedSimpArgs false
attribute [local go_sem] Oper.semAt_some
def K2 (B1 B2 : Nat) (W W' : World) : Prop := W'.heap[B1]? = W.heap[B1]? ∧ W'.heap[B2]? = W.heap[B2]?
theorem K2.trans {B1 B2 : Nat} {A B C : World} (h : K2 B1 B2 A B) (k : K2 B1 B2 B C) : K2 B1 B2 A C := ⟨k.1.trans h.1, k.2.trans h.2⟩
theorem w64_mk {n : Int} (h : -9223372036854775808 ≤ n ∧ n ≤ 9223372036854775807) : wrap64 n = n ∧ IntKind.i64.wrap n = n := ⟨w64_id' h.1 h.2, (i64_w n).trans (w64_id' h.1 h.2)⟩
def stepV (s : S59) : Value := .agg #[.int .i64 s.f0, .int .i64 s.f1, .int .i64 s.f2]
abbrev Bk (n : Nat) := { k : Nat // k < n }
set_option maxHeartbeats 4000000 in
theorem back28 (A : Option Addr) (m c : Nat) (W : World) : Calls Try.prog 28 #[.slice A m c] W fun e W' => e = .returned (.func (.func 40) #[] #[.pointer (some ⟨W.heap.size, 0, none⟩)]) ∧ W' = W.alloc (.cells #[.slice A m c] 41) := by
  go_enter Try.func28, Try.ntmps28
  go_wp2
  go_ret
  exact ⟨rfl, rfl⟩
theorem range_down (n k : Nat) (h : k < n) : ((List.range n).drop k).reverse = ((List.range n).drop (k + 1)).reverse ++ [k] := by
  rw [List.drop_eq_getElem_cons (by rw [List.length_range]; exact h), List.reverse_cons, List.getElem_range]
set_option maxHeartbeats 8000000 in
set_option maxRecDepth 100000 in
theorem back40 (n l B1 gs cap : Nat) (ad : Addr) (xs : List S59) (h0 : 0 < xs.length) (hlen : xs.length < 1000000) (J Jx : List (Bk xs.length) → World → Prop)
    (hY : ∀ pre x W, J pre W → pre.length < xs.length → YieldAt Fence.wide (n - 1) Try.prog l #[.int .i64 ((x.1 : Nat) : Int), stepV (rd_T59 xs ((x.1 : Nat) : Int))] W fun e W' =>
      (e = .returned (.bool true) ∧ J (pre ++ [x]) W' ∧ K2 B1 gs W W') ∨ (e = .returned (.bool false) ∧ Jx (pre ++ [x]) W'))
    (W : World) (hc1 : W.heap[B1]? = some (.cells #[.slice (some ad) xs.length cap] 41 (0, 0))) (hR : ∀ W', K2 B1 gs W W' → Kd.C k59 W' (some ad) xs.length xs) (hJ : J [] W) (hJd : ∀ pre W q, J pre W → J pre (World.drewN W q)) :
    CallsIn Fence.wide n Try.prog 40 #[.func (.yield l) #[] #[], .pointer (some ⟨B1, 0, none⟩)] W fun e W' => (∃ v, e = .returned v) ∧
      ((∃ ys : List (Bk xs.length), ys.map (·.1) = (List.range xs.length).reverse ∧ J ys W') ∨ (∃ pre, Jx pre W')) := by
  have hu41 := Try.underlying41
  have hu59 := Try.underlying59
  have d0 : W.cell? ⟨B1, 0, none⟩ = some (.slice (some ad) xs.length cap) := (blk_cell hc1 0).trans rfl
  refine callsIn_of_wp Try.func40 rfl trivial ?_ rfl
  simp only [Try.ntmps40, List.size_toArray, List.length_cons, List.length_nil, Nat.reduceAdd, Nat.reduceSub, Array.replicate_succ, Array.replicate_zero, List.push_toArray, List.append_toArray, List.nil_append, List.cons_append]
  have hw0 := w64_mk (n := (xs.length : Int) - 1) (by omega)
  obtain ⟨hwa, hwb⟩ := hw0
  gi_wp2
  gi_loopw [3] (fun i wr => ∃ k : Nat, i = .int .i64 ((k : Int) - 1) ∧ Aside0 (k ≤ xs.length ∧ (∃ ys : List (Bk xs.length), ys.map (·.1) = ((List.range xs.length).drop k).reverse ∧ J ys wr) ∧ K2 B1 gs W wr))
    (fun i _ => (intOf i + 1).toNat)
  case atStart => exact ⟨xs.length, by first | rfl | simp [hwa, hwb], ⟨Nat.le_refl _, ⟨[], by rw [List.drop_eq_nil_of_le (by rw [List.length_range]; exact Nat.le_refl _)]; rfl, hJ⟩, rfl, rfl⟩⟩
  case round =>
    clear hwa hwb d0
    obtain ⟨k, hkv, HX⟩ := hrel
    obtain ⟨hk, ⟨ys, hys, hJs⟩, hb⟩ := HX.out
    have d1 : wr.cell? ⟨B1, 0, none⟩ = some (.slice (some ad) xs.length cap) := (blk_cell (hb.1.trans hc1) 0).trans rfl
    cases k with
    | zero =>
      have e1 : (((0 : Nat) : Int) - 1) = -1 := rfl
      rw [e1] at hkv
      subst hkv
      have HJS := Aside0.mk hJs
      have HYS := Aside0.mk hys
      clear hk hys hJs HX
      gi_wp2
      go_end0
      exact ⟨⟨_, rfl⟩, .inl ⟨ys, by have h_ := HYS.out; rwa [List.drop_zero] at h_, HJS.out⟩⟩
    | succ k =>
      have e1 : (((k + 1 : Nat) : Int) - 1) = (k : Int) := by omega
      rw [e1] at hkv
      subst hkv
      have p1 : 0 ≤ (k : Int) := by omega
      have q1 : (k : Int) < (xs.length : Int) := by omega
      obtain ⟨ad_, ea, hx0, hx1, hx2⟩ := at_T59 (hR _ hb) (k : Int) p1 q1
      cases ea
      rw [Int.toNat_natCast] at hx0 hx1 hx2
      have HKN := Aside0.mk (show k < xs.length from hk)
      have cz_ : decide (0 ≤ (k : Int)) = true := decide_eq_true p1
      replace p1 := eq_true p1
      replace q1 := eq_true q1
      have q1b := eq_true HKN.out
      have hwz := w64_mk (n := (k : Int) - 1) (by have := HKN.out; omega)
      obtain ⟨hw1, hw1b⟩ := hwz
      have HYS := Aside0.mk hys
      have HJS := Aside0.mk hJs
      have HY := Aside0.mk hY
      clear hk hys hJs HX hY e1
      gi_wp2
      obtain ⟨fn, tmps, assign, body, hy, hR3⟩ := HY.out ys ⟨k, HKN.out⟩ wr HJS.out (by have := congrArg List.length HYS.out; simp only [List.length_map, List.length_reverse, List.length_drop, List.length_range] at this; have h2_ := HKN.out; omega)
      unfold stepV at hy
      gi_wp2
      refine ⟨(fun h_ => by cases h_), hR3.mono ?_⟩
      rintro e_ W3 (⟨rfl, hJ3, hk3⟩ | ⟨rfl, hJx3⟩)
      · have hb3 := hb.trans hk3
        gi_wp2
        go_roundw
        case rel => exact ⟨k, rfl, ⟨Nat.le_of_lt HKN.out, ⟨ys ++ [⟨k, HKN.out⟩], by rw [List.map_append, HYS.out, range_down _ _ HKN.out]; rfl, hJ3⟩, hb3⟩⟩
        case measure => simp [intOf]
      · gi_wp2
        refine bodyPost_ret (results_none rfl _ _ _) rfl ?_
        exact ⟨⟨_, rfl⟩, .inr ⟨_, hJx3⟩⟩
theorem back_stops (n B1 gs cap : Nat) (ad : Addr) (xs : List S59) (h0 : 0 < xs.length) (hlen : xs.length < 1000000) (w0 : World)
    (hc1 : w0.heap[B1]? = some (.cells #[.slice (some ad) xs.length cap] 41 (0, 0))) (hgs : gs < w0.heap.size) (hR : ∀ W', K2 B1 gs w0 W' → Kd.C k59 W' (some ad) xs.length xs) :
    SeqStopsK Fence.wide n Try.prog 40 #[.pointer (some ⟨B1, 0, none⟩)] (fun x : Bk xs.length => #[.int .i64 ((x.1 : Nat) : Int), stepV (rd_T59 xs ((x.1 : Nat) : Int))]) (K2 B1 gs) (fun ys => ys.map (·.1) = (List.range xs.length).reverse) (fun _ => True) xs.length w0 := by
  intro l J Jx W hW hab _ hY hJ
  have hk : K2 B1 gs w0 W := ⟨hW.block B1 (blk_lt hc1), hW.block gs hgs⟩
  refine (back40 n l B1 gs cap ad xs h0 hlen J Jx hY W (hk.1.trans hc1) (fun W' h => hR W' (hk.trans h)) hJ (fun pre W q h => hab pre W _ none h ⟨rfl, rfl, rfl, Nat.le_refl _, fun _ _ _ => rfl⟩ (fun r e => by cases e))).mono ?_
  rintro e W' ⟨h1, h2 | ⟨pre, h2⟩⟩
  · exact ⟨h1, .inl h2⟩
  · exact ⟨h1, .inr ⟨pre, trivial, h2⟩⟩
end Go.Proofs.Ytgjcembdmohhkaa.Fs
