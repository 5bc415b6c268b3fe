/- slices.Chunk: the iterator's contract. Condition: a chunk's size of 1 at least, fewer than 1000000 numbers. -/
import Derived.RangeFuncNested
import Derived.RangeFuncBound
import Derived.RangeFuncCalls
import Derived.RangeFuncLeaves
import Derived.RangeFuncBox
import Derived.Shelf.Abstract
import Derived.Shelf.RegionOpen
import Derived.WalkKit
import Derived.OwnWalkIn
import Derived.TacticsInMore
import Derived.LoopNIn
import Derived.LoopIn
import Derived.BigQuiet
import Derived.Test.YtpbljheelkpaiaaPgx0
import Derived.Test.YtpbljheelkpaiaaRi
namespace Go.Proofs.Ytpbljheelkpaiaa.Pg
open Go.RowKit Go.Shelf Go.Proofs.YtpbljheelkpaiaaW.PrintWords Go.Proofs.YtpbljheelkpaiaaW.PrintLast Go.Proofs.YtpbljheelkpaiaaW.PrintMore
open Go.Proofs.Ytpbljheelkpaiaa
set_option linter.unusedVariables false
set_option linter.unusedSimpArgs false
attribute [local go_sem] Oper.semAt_some
theorem w64_id {n : Int} (h : -9223372036854775808 ≤ n) (h' : n ≤ 9223372036854775807) : wrap64 n = n := by unfold wrap64; omega
/-- chunk k of the numbers: where it begins, how long it is -/
def ce (len size k : Nat) : Nat := if len - k * size < size then len - k * size else size
def chunkV (ad : Addr) (len size : Nat) (k : Nat) : Value := .slice (some (ad.add (k * size))) (ce len size k) (ce len size k)
abbrev Ck (len size : Nat) := { k : Nat // k * size < len }
set_option maxHeartbeats 4000000 in
set_option maxRecDepth 100000 in
theorem chunk15 (ad : Addr) (n c : Nat) (size : Int) (hs : 1 ≤ size) (W : World) : Calls Try.prog 15 #[.slice (some ad) n c, .int .i64 size] W fun e W' => e = .returned (.func (.func 19) #[] #[.pointer (some ⟨W.heap.size, 0, none⟩), .pointer (some ⟨W.heap.size + 1, 0, none⟩)]) ∧ W' = (W.alloc (.cells #[.slice (some ad) n c] 22)).alloc (.cells #[.int .i64 size] 3) := by
  have h1 : decide (size < 1) = false := decide_eq_false (by omega)
  go_enter Try.func15, Try.ntmps15
  go_wp2
  go_ret
  exact ⟨rfl, rfl⟩
/-- two blocks are as they were -/
def K2 (B1 B2 : Nat) (W W' : World) : Prop := W'.heap[B1]? = W.heap[B1]? ∧ W'.heap[B2]? = W.heap[B2]?
theorem K2.trans {B1 B2 : Nat} {A B C : World} (h : K2 B1 B2 A B) (k : K2 B1 B2 B C) : K2 B1 B2 A C := ⟨k.1.trans h.1, k.2.trans h.2⟩
theorem w64_mk {n : Int} (h : -9223372036854775808 ≤ n ∧ n ≤ 9223372036854775807) : wrap64 n = n ∧ IntKind.i64.wrap n = n := ⟨w64_id h.1 h.2, (i64_w n).trans (w64_id h.1 h.2)⟩
theorem hws (i e size : Nat) (h1 : i < 1000000) (h2 : e ≤ 1000000) (h3 : size < 1000000000) : (wrap64 ((i : Int) + (e : Int)) = (i : Int) + (e : Int) ∧ IntKind.i64.wrap ((i : Int) + (e : Int)) = (i : Int) + (e : Int)) ∧ wrap64 ((i : Int) + (size : Int)) = (i : Int) + (size : Int) ∧ IntKind.i64.wrap ((i : Int) + (size : Int)) = (i : Int) + (size : Int) := by
  have b1 : -9223372036854775808 ≤ (i : Int) + (e : Int) ∧ (i : Int) + (e : Int) ≤ 9223372036854775807 := ⟨by omega, by omega⟩
  have b2 : -9223372036854775808 ≤ (i : Int) + (size : Int) ∧ (i : Int) + (size : Int) ≤ 9223372036854775807 := ⟨by omega, by omega⟩
  exact ⟨w64_mk b1, w64_mk b2⟩
theorem mn_is (len i size e : Nat) (he : e = if len - i < size then len - i else size) : (if ((len - i : Nat) : Int) < (size : Int) then ((len - i : Nat) : Int) else (size : Int)) = (e : Int) := by
  rw [he]
  by_cases h : len - i < size
  · rw [if_pos h, if_pos (by omega)]
  · rw [if_neg h, if_neg (by omega)]
theorem cut3 (ad : Addr) (len cap i e : Nat) (h : 1 ≤ e) (hc : i + e ≤ cap) : ∀ W : World, (Instr.slice 22 (.slice (some ad) len cap) (some (.int .i64 (i : Int))) (some (.int .i64 ((i : Int) + (e : Int)))) (some (.int .i64 ((i : Int) + (e : Int))))).run Try.prog W = .ok (.slice (some (ad.add i)) e e) W := by
  intro W
  obtain ⟨i05, hi05, _, hsz5, _⟩ := info_parts info3
  have hel : Try.prog.elem 22 = 3 := by simp [Program.elem, Try.underlying22]
  have hu : Try.prog.underlying 22 = some (.slice (Try.prog.elem 22)) := by rw [hel]; exact Try.underlying22
  rw [run_slice_lhm W 22 (some ad) len cap hu .i64 .i64 .i64 (i : Int) ((i : Int) + (e : Int)) ((i : Int) + (e : Int)) (by omega) (by omega) (by omega) (by omega), hel]
  have h1 : ((i : Int) + (e : Int)).toNat = i + e := by omega
  have h2 : ¬ i + e = i := by omega
  simp [sizeOf, typeInfo, hi05, hsz5, sliced, Result.andThen, h1, h2]
  intro h3
  omega
set_option maxHeartbeats 8000000 in
set_option maxRecDepth 100000 in
theorem chunk19 (n l B1 B2 : Nat) (ad : Addr) (len cap size : Nat) (h0 : 0 < len) (hs : 1 ≤ size) (hlen : len < 1000000) (hsz : size < 1000000000) (hcap : len ≤ cap) (J Jx : List (Ck len size) → World → Prop)
    (hY : ∀ pre x W, J pre W → pre.length < (len + size - 1) / size → YieldAt Fence.wide (n - 1) Try.prog l #[chunkV ad len size x.1] W fun e W' =>
      (e = .returned (.bool true) ∧ J (pre ++ [x]) W' ∧ K2 B1 B2 W W') ∨ (e = .returned (.bool false) ∧ Jx (pre ++ [x]) W'))
    (W : World) (hc1 : W.heap[B1]? = some (.cells #[.slice (some ad) len cap] 22 (0, 0))) (hc2 : W.heap[B2]? = some (.cells #[.int .i64 size] 3 (0, 0))) (hJ : J [] W) (hJd : ∀ pre W q, J pre W → J pre (World.drewN W q)) :
    CallsIn Fence.wide n Try.prog 19 #[.func (.yield l) #[] #[], .pointer (some ⟨B1, 0, none⟩), .pointer (some ⟨B2, 0, none⟩)] W fun e W' => (∃ v, e = .returned v) ∧
      ((∃ xs : List (Ck len size), xs.map (·.1) = List.range ((len + size - 1) / size) ∧ J xs W') ∨ (∃ pre, Jx pre W')) := by
  have hu22 := Try.underlying22
  refine callsIn_of_wp Try.func19 rfl trivial ?_ rfl
  simp only [Try.ntmps19, List.size_toArray, List.length_cons, List.length_nil, Nat.reduceAdd, Nat.reduceSub, Array.replicate_succ, Array.replicate_zero, List.push_toArray, List.append_toArray, List.nil_append, List.cons_append]
  gi_wp2
  gi_loopw [4] (fun i wr => ∃ k : Nat, i = .int .i64 ((k * size : Nat) : Int) ∧ Aside0 (k ≤ (len + size - 1) / size ∧ (∃ xs : List (Ck len size), xs.map (·.1) = List.range k ∧ J xs wr) ∧ K2 B1 B2 W wr))
    (fun i _ => len - (intOf i).toNat)
  case atStart => exact ⟨0, by simp, ⟨Nat.zero_le _, ⟨[], rfl, hJ⟩, rfl, rfl⟩⟩
  case round =>
    obtain ⟨k, hkv, HX⟩ := hrel
    obtain ⟨i, hi⟩ : ∃ i : Nat, i = k * size := ⟨_, rfl⟩
    have HI := Aside0.mk hi
    rw [← hi] at hkv
    subst hkv
    clear hi
    obtain ⟨hk, ⟨xs, hxs, hJs⟩, hb⟩ := HX.out
    have d1 : wr.cell? ⟨B1, 0, none⟩ = some (.slice (some ad) len cap) := (blk_cell (hb.1.trans hc1) 0).trans rfl
    have d2 : wr.cell? ⟨B2, 0, none⟩ = some (.int .i64 size) := (blk_cell (hb.2.trans hc2) 0).trans rfl
    by_cases hlt : i < len
    · have cz_ : decide ((i : Int) < (len : Int)) = true := decide_eq_true (by omega)
      have cy_ : decide (i < len) = true := decide_eq_true hlt
      obtain ⟨i05, hi05, _, hsz5, _⟩ := info_parts info3
      have hcA := cut_from (P := Try.prog) 22 3 .i64 Try.underlying22 hi05 1 hsz5 (some ad) len cap (i : Int) (by omega) (by omega)
      rw [Int.toNat_natCast, if_neg (by omega), Nat.mul_one] at hcA
      simp only [Option.map_some] at hcA
      obtain ⟨e, he⟩ : ∃ e : Nat, e = if len - i < size then len - i else size := ⟨_, rfl⟩
      have hmn : (if ((len - i : Nat) : Int) < (size : Int) then ((len - i : Nat) : Int) else (size : Int)) = (e : Int) := mn_is len i size e he
      have hmn2 : (if len - i < size then ((len - i : Nat) : Int) else (size : Int)) = (e : Int) := by rw [he]; by_cases h : len - i < size; rw [if_pos h, if_pos h]; rw [if_neg h, if_neg h]
      have he1 : 1 ≤ e ∧ e ≤ len - i ∧ e ≤ size := by rw [he]; split <;> omega
      have hcB := cut3 ad len cap i e he1.1 (by omega)
      have HE := Aside0.mk he
      have HE1 := Aside0.mk he1
      have HLT := Aside0.mk hlt
      have hki : k < (len + size - 1) / size := by
        rw [Nat.lt_div_iff_mul_lt hs]
        have := HI.out
        omega
      have HKI := Aside0.mk hki
      have hwz := hws i e size (by omega) (by omega) hsz
      obtain ⟨⟨hw1, hw1b⟩, hw2, hw2b⟩ := hwz
      have HXS := Aside0.mk hxs
      have HJS := Aside0.mk hJs
      have HY := Aside0.mk hY
      clear he he1 hlt hki hk hxs hJs hi05 hsz5 HX hY
      gi_wp2
      refine wpIn_wide.2 ?_
      go_quiet (fail)
      obtain ⟨fn, tmps, assign, body, hy, hR⟩ := HY.out xs ⟨k, by rw [← HI.out]; exact HLT.out⟩ (wr.drewN nq) (hJd _ _ _ HJS.out) (by have := congrArg List.length HXS.out; simp only [List.length_map, List.length_range] at this; have h2_ := HKI.out; omega)
      have hce : chunkV ad len size k = .slice (some (ad.add i)) e e := by unfold chunkV ce; rw [← HI.out, ← HE.out]
      rw [hce] at hy
      gi_wp2
      refine ⟨(fun h_ => by cases h_), hR.mono ?_⟩
      rintro e_ W3 (⟨rfl, hJ3, hk3⟩ | ⟨rfl, hJx3⟩)
      · have hb3 := hb.trans hk3
        have d3 : W3.cell? ⟨B2, 0, none⟩ = some (.int .i64 size) := (blk_cell (hb3.2.trans hc2) 0).trans rfl
        gi_wp2
        go_roundw
        case rel => exact ⟨k + 1, by rw [Nat.add_mul, Nat.one_mul, ← HI.out]; simp, ⟨HKI.out, ⟨xs ++ [⟨k, by rw [← HI.out]; exact HLT.out⟩], by rw [List.map_append, HXS.out, List.range_succ]; rfl, hJ3⟩, hb3⟩⟩
        case measure => simp [intOf]; have h1_ := HE1.out; have h2_ := HLT.out; clear hw1 hw1b hw2 hw2b hmn hmn2; omega
      · gi_wp2
        refine bodyPost_ret (results_none rfl _ _ _) rfl ?_
        exact ⟨⟨_, rfl⟩, .inr ⟨_, hJx3⟩⟩
    · have cz_ : decide ((i : Int) < (len : Int)) = false := decide_eq_false (by omega)
      have cy_ : decide (i < len) = false := decide_eq_false hlt
      have HJS := Aside0.mk hJs
      have hkf : k = (len + size - 1) / size := by
        refine Nat.le_antisymm hk ?_
        have h1 := HI.out
        have : (len + size - 1) / size < k + 1 := by
          rw [Nat.div_lt_iff_lt_mul hs, Nat.add_mul, Nat.one_mul]
          omega
        omega
      have HF := Aside0.mk hkf
      have HXS := Aside0.mk hxs
      clear hkf hk hxs hJs HX
      gi_wp2
      go_end0
      exact ⟨⟨_, rfl⟩, .inl ⟨xs, by rw [← HF.out]; exact HXS.out, HJS.out⟩⟩
theorem chunk_stops (n B1 B2 : Nat) (ad : Addr) (len cap size : Nat) (h0 : 0 < len) (hs : 1 ≤ size) (hlen : len < 1000000) (hsz : size < 1000000000) (hcap : len ≤ cap) (w0 : World)
    (hc1 : w0.heap[B1]? = some (.cells #[.slice (some ad) len cap] 22 (0, 0))) (hc2 : w0.heap[B2]? = some (.cells #[.int .i64 size] 3 (0, 0))) :
    SeqStopsK Fence.wide n Try.prog 19 #[.pointer (some ⟨B1, 0, none⟩), .pointer (some ⟨B2, 0, none⟩)] (fun x : Ck len size => #[chunkV ad len size x.1]) (K2 B1 B2) (fun xs => xs.map (·.1) = List.range ((len + size - 1) / size)) (fun _ => True) ((len + size - 1) / size) w0 := by
  intro l J Jx W hW hab _ hY hJ
  refine (chunk19 n l B1 B2 ad len cap size h0 hs hlen hsz hcap J Jx hY W ((hW.block B1 (blk_lt hc1)).trans hc1) ((hW.block B2 (blk_lt hc2)).trans hc2) hJ (fun pre W q h => hab pre W _ none h ⟨rfl, rfl, rfl, Nat.le_refl _, fun _ _ _ => rfl⟩ (fun r e => by cases e))).mono ?_
  rintro e W' ⟨h1, h2 | ⟨pre, h2⟩⟩
  · exact ⟨h1, .inl h2⟩
  · exact ⟨h1, .inr ⟨pre, trivial, h2⟩⟩
end Go.Proofs.Ytpbljheelkpaiaa.Pg
