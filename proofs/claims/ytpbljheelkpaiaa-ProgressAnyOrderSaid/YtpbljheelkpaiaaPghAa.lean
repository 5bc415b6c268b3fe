/- progress.Assembler: Add and Result, with and without an inner map. -/
import Derived.Test.YtpbljheelkpaiaaPghAf
import Derived.Test.YtpbljheelkpaiaaPghAg
import Derived.Test.YtpbljheelkpaiaaPghRs
import Derived.Test.YtpbljheelkpaiaaPghNw
import Derived.Test.YtpbljheelkpaiaaPgPb
import Derived.Test.YtpbljheelkpaiaaPgx1
import Derived.Test.YtpbljheelkpaiaaMp
import Derived.Laws.IdiomRangeMap
namespace Go.Proofs.Ytpbljheelkpaiaa.Pg
open Go.RowKit Go.Proofs.YtpbljheelkpaiaaW.PrintWords Go.Proofs.YtpbljheelkpaiaaW.PrintLast Go.Proofs.YtpbljheelkpaiaaW.PrintMore
open Go.Proofs.Ytpbljheelkpaiaa
set_option linter.unusedVariables false
set_option linter.unusedSimpArgs false
attribute [local go_sem] Oper.semAt_some
/-- an assembler of one's own -/
structure Own (base gs ob : Nat) (t : Int) (m : List (Int × S39)) (inn : Option Nat) (W : World) : Prop where
  as_ : As gs ob t inn m W
  nil : inn = none → m = []
  lo : base ≤ ob ∧ ∀ ib, inn = some ib → base ≤ ib
theorem Own.below {base gs ob : Nat} {t : Int} {m : List (Int × S39)} {inn : Option Nat} {W W' : World} (h : Own base gs ob t m inn W) (hb : Below W.heap.size W W') : Own base gs ob t m inn W' := ⟨h.as_.below hb, h.nil, h.lo⟩
theorem result_any (base gs ob : Nat) (inn : Option Nat) (t : Int) (f : Nat) (m : List (Int × S39)) (W : World) (h : Own base gs ob t m inn W) (ht : (Lit.int .i64 t).wf = true) (hf : Fit (f + 1) m) (hn : f + 1 ≤ 1000) (hm : m.length < f + 1) :
    Calls Try.prog 10 #[.pointer (some ⟨gs, 0, none⟩), .int .i64 t] W fun e W' => e = .returned (.tuple #[.slice none 0 0, .bool false]) ∧ Below W.heap.size W W' := by
  cases inn with
  | none =>
    have h1 := h.nil rfl
    subst h1
    exact result_none gs ob t W h.as_ ht
  | some ib => exact result_no gs ob ib t f m W h.as_ ht hf hn hm
theorem add_any (base gs ob : Nat) (inn : Option Nat) (t : Int) (n : Nat) (m : List (Int × S39)) (W : World) (h : Own base gs ob t m inn W) (hbW : base ≤ W.heap.size) (ht0 : 0 ≤ t) (ht : (Lit.int .i64 t).wf = true) (hf : Fit n m) (hn : n ≤ 1000) (i : Nat) (hi : i < n) (x : Int) (hx : x = (i : Int)) (b : Bool) (hb0 : b = decide (i + 1 = n)) (A : Option Addr) (cc : Nat) (xs : List Int) (hr : Kd.C (Kd.int .i64) W A xs.length xs) (hc : xs.length ≤ cc) (hl : xs.length ≤ 1000) (hg : Mp.aget m x = none) :
    Calls Try.prog 11 #[.pointer (some ⟨gs, 0, none⟩), .agg #[.int .i64 t, .int .i64 x, .bool b, .slice A xs.length cc]] W fun e W' => e = .returned (.tuple #[.bool true, .int .i64 0]) ∧ ∃ ib, Own base gs ob t (Mp.aset m x ⟨t, x, b, xs⟩) (some ib) W' ∧ Kp W W' (fun k => base ≤ k) ∧ ∀ (k : Nat) cs ty fr, W.heap[k]? = some (Obj.cells cs ty fr) → W'.heap[k]? = W.heap[k]? := by
  cases inn with
  | none =>
    have h1 := h.nil rfl
    subst h1
    refine (add_first gs ob t n W h.as_ ht0 ht hn i hi x hx b hb0 A cc xs hr hc hl).mono ?_
    rintro e W' ⟨h1, ib, h2, h3, h4⟩
    exact ⟨h1, ib, ⟨h2, (fun e => by cases e), ⟨h.lo.1, fun ib' e => by injection e with e; omega⟩⟩, h3.mono (fun k hk => by have e_ : k = ob := hk; have h_ := h.lo.1; omega), fun k cs ty fr hk => h3.block k (blk_lt' hk) (fun e_ => by have e2_ : k = ob := e_; obtain ⟨es, clock, h5⟩ := h.as_.out; rw [e2_, h5.blk] at hk; cases hk)⟩
  | some ib =>
    refine (add_new gs ob ib t n m W h.as_ ht0 ht hf hn i hi x hx b hb0 A cc xs hr hc hl hg).mono ?_
    rintro e W' ⟨h1, h2, h3⟩
    exact ⟨h1, ib, ⟨h2, (fun e => by cases e), h.lo⟩, h3.mono (fun k hk => by have e_ : k = ib := hk; have h_ := h.lo.2 ib rfl; omega), fun k cs ty fr hk => h3.block k (blk_lt' hk) (fun e_ => by have e2_ : k = ib := e_; obtain ⟨l, _, ⟨es, clock, h5⟩, _⟩ := h.as_.tab; rw [e2_, h5.blk] at hk; cases hk)⟩
theorem Kp.below' {n n0 : Nat} {w W W' : World} (h : Kp W W' (fun k => n0 ≤ k)) (hb : Below n w W) (hn : n ≤ W.heap.size) (h0 : n ≤ n0) : Below n w W' := h.below hb hn (fun k hk => by have h_ : n0 ≤ k := hk; omega)
/-- an element of a row of chunks that came in -/
theorem at_F {w0 w : World} {A : Option Addr} {n : Nat} {xs : List S39} (h : Kd.C (kF w0) w A n xs) (i : Int) (h0 : 0 ≤ i) (h1 : i < n) : ∃ ad A3 c3, A = some ad ∧ w.cell? (ad.add (i.toNat * 4)) = some (.int .i64 (rd_T39 xs i).f0) ∧ w.cell? ⟨(ad.add (i.toNat * 4)).block, (ad.add (i.toNat * 4)).off + 1, none⟩ = some (.int .i64 (rd_T39 xs i).f1) ∧ w.cell? ⟨(ad.add (i.toNat * 4)).block, (ad.add (i.toNat * 4)).off + 2, none⟩ = some (.bool (rd_T39 xs i).f2) ∧ w.cell? ⟨(ad.add (i.toNat * 4)).block, (ad.add (i.toNat * 4)).off + 3, none⟩ = some (.slice A3 (rd_T39 xs i).f3.length c3) ∧ (rd_T39 xs i).f3.length ≤ c3 ∧ (Kd.int .i64).C w0 A3 (rd_T39 xs i).f3.length (rd_T39 xs i).f3 := by
  obtain ⟨ad, c, e, _, hK, hc0⟩ := Kd.C_get h z39 i h0 h1
  have hc : ∀ j u, c[j]? = some u → w.cell? (ad.add (i.toNat * 4 + j)) = some u := hc0
  have hK2 : k39.K w0 (rd_T39 xs i) c := hK
  obtain ⟨A3, c3, rfl, l3, g3⟩ := k39_open hK2
  exact ⟨ad, A3, c3, e, hc 0 _ rfl, by rw [← add_field _ _ 1 (by omega)]; exact hc 1 _ rfl, by rw [← add_field _ _ 2 (by omega)]; exact hc 2 _ rfl, by rw [← add_field _ _ 3 (by omega)]; exact hc 3 _ rfl, l3, g3⟩
end Go.Proofs.Ytpbljheelkpaiaa.Pg
