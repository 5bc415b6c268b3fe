/- inputs.Store in memory. No condition. -/
import Derived.Test.YthnnjfichkhdfaaInx1
import Derived.Test.YthnnjfichkhdfaaMp
import Derived.Test.YthnnjfichkhdfaaRg
import Derived.BigQuiet
import Derived.DeepKeys4
namespace Go.Proofs.Ythnnjfichkhdfaa.In
open Go.RowKit Go.Proofs.YthnnjfichkhdfaaW.PrintWords Go.Proofs.YthnnjfichkhdfaaW.PrintLast Go.Proofs.YthnnjfichkhdfaaW.PrintMore
open Go.Proofs.Ythnnjfichkhdfaa
set_option linter.unusedVariables false
set_option linter.unusedSimpArgs false
open Go.ChangeMaps (setBlock)
/-- what a call keeps: all but the blocks of S and what is new since -/
structure Kp (W W' : World) (S : Nat → Prop) : Prop where
  os : W'.os = W.os
  tape : W'.tape = W.tape
  output : W'.output = W.output
  size : W.heap.size ≤ W'.heap.size
  block : ∀ k, k < W.heap.size → ¬ S k → W'.heap[k]? = W.heap[k]?
theorem Kp.refl (W : World) (S : Nat → Prop) : Kp W W S := ⟨rfl, rfl, rfl, Nat.le_refl _, fun _ _ _ => rfl⟩
theorem Kp.of_below {W W' : World} (h : Below W.heap.size W W') (S : Nat → Prop) : Kp W W' S := ⟨h.os, h.tape, h.output, h.size, fun k hk _ => h.block k hk⟩
theorem Kp.of_grown {W W' : World} {row : Option Nat} (h : W.grownBy W' row) : Kp W W' (fun k => some k = row) := ⟨h.os, h.tape, h.output, h.size, fun k hk hn => h.block k hk hn⟩
theorem Kp.of_set (W : World) (g j : Nat) (u : Value) : Kp W (W.setCell ⟨g, j, none⟩ u) (fun k => k = g) :=
  ⟨rfl, rfl, rfl, by simp [World.setCell], fun k _ hn => Below.heap_setCell W ⟨g, j, none⟩ u k hn⟩
theorem Kp.then_ {W W1 W2 : World} {S S2 : Nat → Prop} (h : Kp W W1 S) (k : Kp W1 W2 S2) (hs : ∀ k, S2 k → S k ∨ W.heap.size ≤ k) : Kp W W2 S :=
  ⟨k.os.trans h.os, k.tape.trans h.tape, k.output.trans h.output, Nat.le_trans h.size k.size, fun i hi hn => (k.block i (Nat.lt_of_lt_of_le hi h.size) (fun h2 => (hs i h2).elim hn (fun h3 => by omega))).trans (h.block i hi hn)⟩
theorem Kp.below {n : Nat} {w W W' : World} {S : Nat → Prop} (h : Kp W W' S) (hb : Below n w W) (hn : n ≤ W.heap.size) (hS : ∀ k, S k → n ≤ k) : Below n w W' :=
  ⟨h.os.trans hb.os, h.tape.trans hb.tape, h.output.trans hb.output, Nat.le_trans hb.size h.size, fun k hk => (h.block k (by omega) (fun hs => by have := hS k hs; omega)).trans (hb.block k hk)⟩
theorem Kp.mono {W W' : World} {S S' : Nat → Prop} (h : Kp W W' S) (hs : ∀ k, S k → S' k) : Kp W W' S' := ⟨h.os, h.tape, h.output, h.size, fun k hk hn => h.block k hk (fun e => hn (hs k e))⟩
theorem setBlock_kp (W : World) (g : Nat) (o : Obj) : Kp W (setBlock W g o) (fun k => k = g) :=
  have h := Mp.grown_set (w := W) (b := g) o
  ⟨h.os, h.tape, h.output, h.size, fun k hk hn => h.block k hk (fun e => hn (by injection e))⟩
theorem w64_id {n : Int} (h : -9223372036854775808 ≤ n) (h' : n ≤ 9223372036854775807) : wrap64 n = n := by unfold wrap64; omega
/-! ### keys -/
abbrev K3 := Int × Int × Int
def enc3 (k : K3) : Value := .agg #[.int .i64 k.1, .int .i64 k.2.1, .int .i64 k.2.2]
theorem laid : laidOutB Try.prog = true := by kernel_rfl
theorem KK : Go.Maps.Keyed Try.prog 32 := Go.Maps.Keyed.of_law (deep_law_laid laid (m := 3) (by decide) (of_decide_eq_true (by kernel_rfl)) (by kernel_rfl) (by kernel_rfl))
theorem inj3 : ∀ a b : K3, enc3 a = enc3 b → a = b := by
  rintro ⟨a, b, c⟩ ⟨d, e, f⟩ h
  simp only [enc3, Value.agg.injEq, Array.mk.injEq, List.cons.injEq, Value.int.injEq, true_and, and_true] at h
  obtain ⟨rfl, rfl, rfl⟩ := h
  rfl
theorem key3 (k : K3) (h1 : (Lit.int .i64 k.1).wf = true) (h2 : (Lit.int .i64 k.2.1).wf = true) (h3 : (Lit.int .i64 k.2.2).wf = true) : ∃ l, keyOf Try.prog 32 (enc3 k) = some l := by
  have hp : 0 < Try.prog.types.size := of_decide_eq_true (by kernel_rfl)
  obtain ⟨n, hn⟩ : ∃ n, Try.prog.types.size = n + 1 := ⟨Try.prog.types.size - 1, by omega⟩
  have hk : Try.prog.keyType 32 = true := by kernel_rfl
  have hc : Try.prog.cellsOf 32 = 3 := by kernel_rfl
  have hc3 : Try.prog.cellsOf 3 = 1 := by kernel_rfl
  unfold keyOf
  rw [Try.underlying32]
  simp only [hk, Value.formed, Try.underlying32, hc, enc3, Bool.true_and]
  rw [hn]
  simp [Program.keyLits, Try.underlying32, Try.underlying3, hc, hc3, Value.cells, h1, h2, h3]
/-! ### cells -/
structure Pc where
  xs : List Int
  t : ByteArray
  ch : Int
  du : Int
structure Cel where
  v : Value
  p : Pc
def encC (c : Cel) : Value := .agg #[c.v, .string c.p.t, .int .i64 c.p.ch, .int .i64 c.p.du]
def z0 : Pc := ⟨[], ⟨#[]⟩, 0, 0⟩
def zc : Cel := ⟨.slice none 0 0, z0⟩
theorem zero52 (w : World) : (zeroValue 52).run Try.prog w = .ok (encC zc) w := Try.zeroValue52 w
structure Sto where
  rev : Int
  a : Int
  b : Int
  c : Int
  m : List (K3 × Pc)
/-- a store in memory -/
structure St (X : Nat → Prop) (base gs gm : Nat) (s : Sto) (W : World) : Prop where
  box : W.heap[gs]? = some (.cells #[.int .i64 s.rev, .int .i64 s.a, .int .i64 s.b, .int .i64 s.c, .map (some gm)] 50 (0, 0))
  tab : ∃ l : List (K3 × Cel), Mp.vals Cel.p l = s.m ∧ Mp.At Try.prog 32 enc3 W gm (Mp.vals encC l) ∧ ∀ q ∈ l, Kd.R (Kd.int .i64) 3 W base (fun k => ¬ X k) q.2.v q.2.p.xs
  xs : X gs ∧ X gm
  lo : base ≤ gs ∧ base ≤ gm
section
variable {X : Nat → Prop} {base gs gm : Nat} {s : Sto} {W W' : World}
theorem St.lt (h : St X base gs gm s W) : gs < W.heap.size ∧ gm < W.heap.size := by
  obtain ⟨l, _, h1, _⟩ := h.tab
  exact ⟨blk_lt h.box, h1.lt⟩
theorem St.ne (h : St X base gs gm s W) : gs ≠ gm := by
  rintro rfl
  obtain ⟨l, _, ⟨es, clock, h1⟩, _⟩ := h.tab
  have h2 := h.box
  rw [h1.blk] at h2
  cases h2
theorem St.keep (h : St X base gs gm s W) {S : Nat → Prop} (hk : Kp W W' S) (hS : ∀ k, S k → X k ∧ k ≠ gs ∧ k ≠ gm) : St X base gs gm s W' := by
  obtain ⟨l, h0, h1, h2⟩ := h.tab
  exact ⟨(hk.block gs h.lt.1 (fun e => (hS _ e).2.1 rfl)).trans h.box, ⟨l, h0, h1.keep (hk.block gm h.lt.2 (fun e => (hS _ e).2.2 rfl)), fun q hq => Kd.R_step (h2 q hq) (fun k ho hlt => hk.block k hlt (fun e => ho (hS k e).1))⟩, h.xs, h.lo⟩
theorem St.below (h : St X base gs gm s W) (hb : Below W.heap.size W W') : St X base gs gm s W' := h.keep (Kp.of_below hb (fun _ => False)) (fun _ hk => hk.elim)
/-- the cell at a key -/
theorem St.cell (h : St X base gs gm s W) (k : K3) : ∃ c : Cel, c.p = (Mp.aget s.m k).getD z0 ∧ Kd.R (Kd.int .i64) 3 W base (fun k => ¬ X k) c.v c.p.xs ∧ ∃ l : List (K3 × Cel), Mp.vals Cel.p l = s.m ∧ Mp.At Try.prog 32 enc3 W gm (Mp.vals encC l) ∧ (Mp.aget l k).getD zc = c ∧ ∀ q ∈ l, Kd.R (Kd.int .i64) 3 W base (fun k => ¬ X k) q.2.v q.2.p.xs := by
  obtain ⟨l, h0, h1, h2⟩ := h.tab
  refine ⟨(Mp.aget l k).getD zc, ?_, ?_, l, h0, h1, rfl, h2⟩
  · rw [← h0, Mp.aget_vals]
    cases Mp.aget l k <;> rfl
  · cases hg : Mp.aget l k with
    | none => exact Kd.R_nil _ _ _ _ _
    | some c => exact h2 _ (Mp.aget_mem hg)
theorem St.wide {X' : Nat → Prop} (h : St X base gs gm s W) (h1 : ∀ k, X k → X' k) (h2 : ∀ k, X' k → k < W.heap.size → X k) : St X' base gs gm s W := by
  obtain ⟨l, h0, h3, h4⟩ := h.tab
  exact ⟨h.box, ⟨l, h0, h3, fun q hq => Kd.R_mono (Kd.R_bound (h4 q hq)) (fun k hk e => hk.1 (h2 k e hk.2.2.1))⟩, ⟨h1 _ h.xs.1, h1 _ h.xs.2⟩, h.lo⟩
theorem look (W : World) (gm : Nat) (l : List (K3 × Cel)) (k : K3) (c : Cel) (hat : Mp.At Try.prog 32 enc3 W gm (Mp.vals encC l)) (hc : (Mp.aget l k).getD zc = c) {lk : Lit} (hk : keyOf Try.prog 32 (enc3 k) = some lk) :
    (Instr.lookup 47 (.map (some gm)) (enc3 k) false).run Try.prog W = .ok (encC c) W := by
  have hrun := Mp.At.look (T := 47) false KK inj3 Try.underlying47 (zero52 W) hat hk
  rw [Mp.aget_vals] at hrun
  rw [hrun, ← hc]
  cases Mp.aget l k <;> rfl
theorem aset_sub {κ β : Type} [DecidableEq κ] {l : List (κ × β)} {x : κ} {v : β} {p : κ × β} (h : p ∈ Mp.aset l x v) : p ∈ l ∨ p = (x, v) := by
  unfold Mp.aset at h
  split at h
  · obtain ⟨q, hq, rfl⟩ := List.mem_map.1 h
    by_cases hx : q.1 = x
    · right; rw [if_pos hx]
    · left; rw [if_neg hx]; exact hq
  · rcases List.mem_append.1 h with h | h
    · exact .inl h
    · rw [List.mem_singleton] at h; exact .inr h
end
end Go.Proofs.Ythnnjfichkhdfaa.In
