/- progress.Assembler in memory. -/
import Derived.Test.YtpbljheelkpaiaaPghSp
import Derived.Test.YtpbljheelkpaiaaPgx1
import Derived.Test.YtpbljheelkpaiaaMp
import Derived.Laws.IdiomRangeMap
namespace Go.Proofs.Ytpbljheelkpaiaa.Pg
open Go.RowKit Go.Proofs.YtpbljheelkpaiaaW.PrintWords Go.Proofs.YtpbljheelkpaiaaW.PrintLast Go.Proofs.YtpbljheelkpaiaaW.PrintMore
open Go.Proofs.Ytpbljheelkpaiaa
set_option linter.unusedVariables false
set_option linter.unusedSimpArgs false
open Go.ChangeMaps (setBlock)
def encI (k : Int) : Value := .int .i64 k
theorem KI : Go.Maps.Keyed Try.prog 3 := Go.Maps.int_keyed Try.underlying3
theorem injI : ∀ a b : Int, encI a = encI b → a = b := fun _ _ h => by injection h
theorem keyI (k : Int) (h : (Lit.int .i64 k).wf = true) : keyOf Try.prog 3 (encI k) = some (.int .i64 k) := by simp [keyOf, mapKey, Try.underlying3, encI, h]
theorem wfI {k : Int} (h : -9223372036854775808 ≤ k) (h' : k ≤ 9223372036854775807) : (Lit.int .i64 k).wf = true := by
  simp [Lit.wf, IntKind.min, IntKind.max, IntKind.bits, IntKind.signed]
  omega
structure Kp (W W' : World) (S : Nat → Prop) : Prop where
  os : W'.os = W.os
  tape : W'.tape = W.tape
  output : W'.output = W.output
  size : W.heap.size ≤ W'.heap.size
  block : ∀ k, k < W.heap.size → ¬ S k → W'.heap[k]? = W.heap[k]?
theorem Kp.refl (W : World) (S : Nat → Prop) : Kp W W S := ⟨rfl, rfl, rfl, Nat.le_refl _, fun _ _ _ => rfl⟩
theorem Kp.of_below {W W' : World} (h : Below W.heap.size W W') (S : Nat → Prop) : Kp W W' S := ⟨h.os, h.tape, h.output, h.size, fun k hk _ => h.block k hk⟩
theorem Kp.of_grown {W W' : World} {row : Option Nat} (h : W.grownBy W' row) : Kp W W' (fun k => some k = row) := ⟨h.os, h.tape, h.output, h.size, fun k hk hn => h.block k hk hn⟩
theorem Kp.of_set (W : World) (g j : Nat) (u : Value) : Kp W (W.setCell ⟨g, j, none⟩ u) (fun k => k = g) :=
  ⟨rfl, rfl, rfl, by simp [World.setCell], fun k _ hn => Below.heap_setCell W ⟨g, j, none⟩ u k hn⟩
theorem Kp.then_ {W W1 W2 : World} {S S2 : Nat → Prop} (h : Kp W W1 S) (k : Kp W1 W2 S2) (hs : ∀ k, S2 k → S k ∨ W.heap.size ≤ k) : Kp W W2 S :=
  ⟨k.os.trans h.os, k.tape.trans h.tape, k.output.trans h.output, Nat.le_trans h.size k.size, fun j hj hn => (k.block j (Nat.lt_of_lt_of_le hj h.size) (fun e => (hs j e).elim hn (fun h2 => by omega))).trans (h.block j hj hn)⟩
theorem Kp.below {n : Nat} {w W W' : World} {S : Nat → Prop} (h : Kp W W' S) (hb : Below n w W) (hn : n ≤ W.heap.size) (hS : ∀ k, S k → n ≤ k) : Below n w W' :=
  ⟨h.os.trans hb.os, h.tape.trans hb.tape, h.output.trans hb.output, Nat.le_trans hb.size h.size, fun k hk => (h.block k (by omega) (fun e => by have := hS k e; omega)).trans (hb.block k hk)⟩
theorem Kp.mono {W W' : World} {S S' : Nat → Prop} (h : Kp W W' S) (hs : ∀ k, S k → S' k) : Kp W W' S' := ⟨h.os, h.tape, h.output, h.size, fun k hk hn => h.block k hk (fun e => hn (hs k e))⟩
theorem setBlock_kp (W : World) (g : Nat) (o : Obj) : Kp W (setBlock W g o) (fun k => k = g) :=
  ⟨rfl, rfl, rfl, Nat.le_of_eq (Mp.setBlock_size o).symm, fun k _ hn => Mp.setBlock_other o hn⟩
theorem aset_sub {κ β : Type} [DecidableEq κ] {l : List (κ × β)} {x : κ} {v : β} {p : κ × β} (h : p ∈ Mp.aset l x v) : p ∈ l ∨ p = (x, v) := by
  unfold Mp.aset at h
  split at h
  · obtain ⟨q, hq, rfl⟩ := List.mem_map.1 h
    by_cases hx : q.1 = x
    · right; rw [if_pos hx]
    · left; rw [if_neg hx]; exact hq
  · rcases List.mem_append.1 h with h | h
    · exact .inl h
    · rw [List.mem_singleton] at h; exact .inr h
/-! ### cells -/
structure Cel where
  v : Value
  p : S39
def encC (c : Cel) : Value := .agg #[.int .i64 c.p.f0, .int .i64 c.p.f1, .bool c.p.f2, c.v]
def zc : Cel := ⟨.slice none 0 0, z39⟩
theorem zero39 (w : World) : (zeroValue 39).run Try.prog w = .ok (encC zc) w := Try.zeroValue39 w
theorem zero53 (w : World) : (zeroValue 53).run Try.prog w = .ok (.map none) w := Try.zeroValue53 w
def outL (t : Int) : Option Nat → List (Int × Value)
  | none => []
  | some ib => [(t, .map (some ib))]
/-- the inner map: no block, or block ib -/
def Tab (gs ob : Nat) (W : World) : Option Nat → List (Int × S39) → Prop
  | none, m => m = []
  | some ib, m => ∃ l : List (Int × Cel), Mp.vals Cel.p l = m ∧ Mp.At Try.prog 3 encI W ib (Mp.vals encC l) ∧ ∀ q ∈ l, Kd.R (Kd.int .i64) 3 W 0 (fun k => k ≠ gs ∧ k ≠ ob ∧ k ≠ ib) q.2.v q.2.p.f3
/-- an assembler in memory that holds chunks of token t alone -/
structure As (gs ob : Nat) (t : Int) (inn : Option Nat) (m : List (Int × S39)) (W : World) : Prop where
  box : W.heap[gs]? = some (.cells #[.map (some ob)] 50 (0, 0))
  out : Mp.At Try.prog 3 encI W ob (outL t inn)
  tab : Tab gs ob W inn m
  ne : ∀ ib, inn = some ib → ib ≠ ob
section
variable {gs ob : Nat} {t : Int} {inn : Option Nat} {m : List (Int × S39)} {W W' : World}
theorem As.lt (h : As gs ob t inn m W) : gs < W.heap.size ∧ ob < W.heap.size := ⟨blk_lt h.box, h.out.lt⟩
theorem As.keep (h : As gs ob t inn m W) {S : Nat → Prop} (hk : Kp W W' S) (hS : ∀ k, k < W.heap.size → ¬ S k) : As gs ob t inn m W' := by
  refine ⟨(hk.block gs h.lt.1 (hS _ h.lt.1)).trans h.box, h.out.keep (hk.block ob h.lt.2 (hS _ h.lt.2)), ?_, h.ne⟩
  have ht := h.tab
  cases inn with
  | none => exact ht
  | some ib =>
    obtain ⟨l, h0, h1, h2⟩ := ht
    exact ⟨l, h0, h1.keep (hk.block ib h1.lt (hS _ h1.lt)), fun q hq => Kd.R_step (h2 q hq) (fun k ho hlt => hk.block k hlt (hS k hlt))⟩
theorem As.below (h : As gs ob t inn m W) (hb : Below W.heap.size W W') : As gs ob t inn m W' := h.keep (Kp.of_below hb (fun _ => False)) (fun _ _ hk => hk.elim)
theorem As.nes {ib : Nat} (h : As gs ob t (some ib) m W) : gs ≠ ib ∧ gs ≠ ob ∧ ib ≠ ob := by
  refine ⟨?_, ?_, h.ne ib rfl⟩
  · rintro rfl
    obtain ⟨l, _, ⟨es, clock, h1⟩, _⟩ := h.tab
    have h2 := h.box
    rw [h1.blk] at h2
    cases h2
  · rintro rfl
    obtain ⟨es, clock, h1⟩ := h.out
    have h2 := h.box
    rw [h1.blk] at h2
    cases h2
theorem As.nes0 (h : As gs ob t inn m W) : gs ≠ ob := by
  rintro rfl
  obtain ⟨es, clock, h1⟩ := h.out
  have h2 := h.box
  rw [h1.blk] at h2
  cases h2
theorem blk_lt' {w : World} {k : Nat} {o : Obj} (h : w.heap[k]? = some o) : k < w.heap.size := (Array.getElem?_eq_some_iff.1 h).1
/-- what the outer map gives -/
theorem outer_look (W : World) (hat : Mp.At Try.prog 3 encI W ob (outL t inn)) (ht : (Lit.int .i64 t).wf = true) : (Instr.lookup 48 (.map (some ob)) (.int .i64 t) false).run Try.prog W = .ok (.map inn) W := by
  have hrun := Mp.At.look (T := 48) false KI injI Try.underlying48 (zero53 W) hat (x := t) (keyI t ht)
  cases inn with
  | none => exact hrun
  | some ib =>
    have e : Mp.aget (outL t (some ib)) t = some (.map (some ib)) := by unfold outL; rw [Mp.aget_cons, if_pos rfl]
    rw [e] at hrun
    exact hrun
end
end Go.Proofs.Ytpbljheelkpaiaa.Pg
