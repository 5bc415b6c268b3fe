/- querylang.run: the closure that pops, and what a run keeps. No condition. -/
import Derived.Test.YtnhkfelpahjgpaaQux0
import Derived.BigQuiet
import Derived.Test.YtnhkfelpahjgpaaQux3
namespace Go.Proofs.Ytnhkfelpahjgpaa.Qu
open Go.RowKit Go.Proofs.YtnhkfelpahjgpaaW.PrintWords Go.Proofs.YtnhkfelpahjgpaaW.PrintLast Go.Proofs.YtnhkfelpahjgpaaW.PrintMore
open Go.Proofs.Ytnhkfelpahjgpaa
set_option linter.unusedVariables false
set_option linter.unusedSimpArgs false

theorem w64_id (n : Int) (h : -9223372036854775808 ≤ n) (h' : n ≤ 9223372036854775807) : wrap64 n = n := by unfold wrap64; omega
set_option maxHeartbeats 2000000 in
set_option maxRecDepth 100000 in
theorem pop_calls (g base : Nat) (x : Int) (xs : List Int) (v : Value) (ok : Nat → Prop) (W : World) (hbox : W.heap[g]? = some (.cells #[v] 25 (0, 0))) (hR : Kd.R (Kd.int .i64) 3 W base ok v (xs ++ [x])) (hlen : xs.length < 1000000000000) :
    Calls Try.prog 28 #[.pointer (some ⟨g, 0, none⟩)] W fun e W' => e = .returned (.int .i64 x) ∧ ∃ v', W' = W.setCell ⟨g, 0, none⟩ v' ∧ Kd.R (Kd.int .i64) 3 W base ok v' xs := by
  obtain ⟨A, c, rfl⟩ := Kd.R_slice hR
  have hl : (xs ++ [x]).length = xs.length + 1 := by simp
  rw [hl] at hbox hR
  have hC := (Kd.R_reads' hR).2.2
  rw [hl] at hC
  have hcap := (Kd.R_reads' hR).2.1
  have hw : wrap64 (((xs.length + 1 : Nat) : Int) - 1) = (xs.length : Int) := by rw [w64_id _ (by omega) (by omega)]; omega
  have p1 : (0 : Int) ≤ (xs.length : Int) := by omega
  have q1 : (xs.length : Int) < ((xs.length + 1 : Nat) : Int) := by omega
  obtain ⟨ad, ea, hx1⟩ := Kd.at_int hC (xs.length : Int) p1 q1
  cases ea
  have hrd : rd (xs ++ [x]) (xs.length : Int) = x := by unfold rd; simp
  rw [hrd, Int.toNat_natCast] at hx1
  have hx0 : W.cell? ⟨g, 0, none⟩ = some (.slice (some ad) (xs.length + 1) c) := (blk_cell hbox 0).trans rfl
  have hf0 := blk_frozen hbox 0
  have HT := Aside0.mk (show Kd.R (Kd.int .i64) 3 W base ok (.slice (some ad) xs.length c) xs from by have h_ := Kd.R_take hR (m := xs.length) (by rw [hl]; omega); rwa [List.take_left'] at h_; rfl)
  have q2 : (xs.length : Int) ≤ (c : Int) := by omega
  have p1' := eq_true p1
  have q1' := eq_true q1
  have q2' := eq_true q2
  clear hR hC hbox hrd hl hcap
  go_enter Try.func28, Try.ntmps28
  go_wp2
  go_ret
  exact ⟨rfl, _, rfl, HT.out⟩

/-- what a call keeps: all but the blocks of S and what is new since -/
structure Kp (W W' : World) (S : Nat → Prop) : Prop where
  os : W'.os = W.os
  tape : W'.tape = W.tape
  output : W'.output = W.output
  size : W.heap.size ≤ W'.heap.size
  block : ∀ k, k < W.heap.size → ¬ S k → W'.heap[k]? = W.heap[k]?
theorem Kp.refl (W : World) (S : Nat → Prop) : Kp W W S := ⟨rfl, rfl, rfl, Nat.le_refl _, fun _ _ _ => rfl⟩
theorem Kp.of_below {W W' : World} (h : Below W.heap.size W W') (S : Nat → Prop) : Kp W W' S := ⟨h.os, h.tape, h.output, h.size, fun k hk _ => h.block k hk⟩
theorem Kp.of_grown {W W' : World} {row : Option Nat} (h : W.grownBy W' row) : Kp W W' (fun k => some k = row) := ⟨h.os, h.tape, h.output, h.size, fun k hk hn => h.block k hk hn⟩
theorem Kp.of_set (W : World) (g j : Nat) (u : Value) : Kp W (W.setCell ⟨g, j, none⟩ u) (fun k => k = g) :=
  ⟨rfl, rfl, rfl, by simp [World.setCell], fun k _ hn => Below.heap_setCell W ⟨g, j, none⟩ u k hn⟩
theorem Kp.then_ {W W1 W2 : World} {S S2 : Nat → Prop} (h : Kp W W1 S) (k : Kp W1 W2 S2) (hs : ∀ k, S2 k → S k ∨ W.heap.size ≤ k) : Kp W W2 S :=
  ⟨k.os.trans h.os, k.tape.trans h.tape, k.output.trans h.output, Nat.le_trans h.size k.size, fun i hi hn => (k.block i (Nat.lt_of_lt_of_le hi h.size) (fun h2 => (hs i h2).elim hn (fun h3 => by omega))).trans (h.block i hi hn)⟩
theorem Kp.below {n : Nat} {w W W' : World} {S : Nat → Prop} (h : Kp W W' S) (hb : Below n w W) (hn : n ≤ W.heap.size) (hS : ∀ k, S k → n ≤ k) : Below n w W' :=
  ⟨h.os.trans hb.os, h.tape.trans hb.tape, h.output.trans hb.output, Nat.le_trans hb.size h.size, fun k hk => (h.block k (by omega) (fun hs => by have := hS k hs; omega)).trans (hb.block k hk)⟩
abbrev K3 := Int × Int × Int
/-- what the closure that a run calls keeps to itself -/
structure Clo (W0 : World) (Inv : World → List K3 → (Nat → Prop) → Prop) : Prop where
  lt : ∀ W tr B k, Inv W tr B → B k → k < W.heap.size
  st : ∀ W W' tr B, Inv W tr B → Kp W W' (fun k => ¬ (k < W0.heap.size ∨ B k)) → Inv W' tr B
/-- the state of a run -/
structure St (W0 : World) (B0 : Nat → Prop) (g : Nat) (Inv : World → List K3 → (Nat → Prop) → Prop) (st : List Int) (tr : List K3) (B : Nat → Prop) (W : World) : Prop where
  kp : Kp W0 W B0
  bb : ∀ k, B k → B0 k ∨ W0.heap.size ≤ k
  ge : W0.heap.size ≤ g
  nb : ¬ B g
  box : ∃ v, W.heap[g]? = some (.cells #[v] 25 (0, 0)) ∧ Kd.R (Kd.int .i64) 3 W W0.heap.size (fun k => k ≠ g ∧ ¬ B k) v st
  inv : Inv W tr B
section
variable {W0 : World} {B0 B : Nat → Prop} {g : Nat} {Inv : World → List K3 → (Nat → Prop) → Prop} {st : List Int} {tr : List K3} {W W' : World}
theorem St.step (hc : Clo W0 Inv) (h : St W0 B0 g Inv st tr B W) (hb : Below W.heap.size W W') : St W0 B0 g Inv st tr B W' := by
  obtain ⟨v, h1, h2⟩ := h.box
  exact ⟨h.kp.then_ (Kp.of_below hb (fun _ => False)) (fun _ hk => hk.elim), h.bb, h.ge, h.nb, ⟨v, blk_below h1 hb, Kd.R_below h2 hb⟩,
    hc.st W W' tr B h.inv (Kp.of_below hb _)⟩
theorem St.lt (h : St W0 B0 g Inv st tr B W) : g < W.heap.size := by
  obtain ⟨v, h1, h2⟩ := h.box
  exact blk_lt h1
/-- the stack is another now -/
theorem St.put (hc : Clo W0 Inv) (h : St W0 B0 g Inv st tr B W) {v : Value} {st' : List Int} {row : Option Nat} (hg : W.grownBy W' row) (hrow : ∀ k, row = some k → W0.heap.size ≤ k ∧ ¬ B k) (hR : Kd.R (Kd.int .i64) 3 W' W0.heap.size (fun k => k ≠ g ∧ ¬ B k) v st') (hbx : ∃ u, W'.heap[g]? = some (.cells #[u] 25 (0, 0))) : St W0 B0 g Inv st' tr B (W'.setCell ⟨g, 0, none⟩ v) := by
  have hkp : Kp W (W'.setCell ⟨g, 0, none⟩ v) (fun k => some k = row ∨ k = g) :=
    ⟨hg.os, hg.tape, hg.output, by simpa [World.setCell] using hg.size, fun k hk hn => ((Kp.of_set W' g 0 v).block k (Nat.lt_of_lt_of_le hk hg.size) (fun e => hn (.inr e))).trans (hg.block k hk (fun e => hn (.inl e)))⟩
  obtain ⟨u, hu⟩ := hbx
  refine ⟨h.kp.then_ hkp (fun k hk => .inr (hk.elim (fun e => (hrow k e.symm).1) (fun e => e ▸ h.ge))), h.bb, h.ge, h.nb, ⟨v, blk_put (cs := #[u]) hu 0 v rfl, Kd.R_far hR (fun k hk => hk.1) v⟩, ?_⟩
  refine hc.st W _ tr B h.inv ⟨hkp.os, hkp.tape, hkp.output, hkp.size, fun k hk1 hk => hkp.block k hk1 (fun e => ?_)⟩
  replace hk := Classical.not_not.1 hk
  rcases e with e | e
  · have h1 := hrow k e.symm
    exact hk.elim (fun h3 => by omega) (fun h3 => h1.2 h3)
  · subst e
    exact hk.elim (fun h3 => by have := h.ge; omega) (fun h3 => h.nb h3)
/-- the closure was called -/
theorem St.called (hc : Clo W0 Inv) (h : St W0 B0 g Inv st tr B W) {B' : Nat → Prop} {tr' : List K3} (hk : Kp W W' B) (hi : Inv W' tr' B') (hB : ∀ k, B' k → B k ∨ W.heap.size ≤ k) : St W0 B0 g Inv st tr' B' W' := by
  obtain ⟨v, h1, h2⟩ := h.box
  have h3 := blk_lt h1
  refine ⟨h.kp.then_ hk h.bb, fun k hk' => (hB k hk').elim (fun e => h.bb k e) (fun e => .inr (Nat.le_trans h.kp.size e)), h.ge, fun hg => (hB g hg).elim h.nb (fun e => by omega), ⟨v, (hk.block g h3 h.nb).trans h1, ?_⟩, hi⟩
  refine Kd.R_mono (Kd.R_step (Kd.R_bound h2) (fun k hk' hlt => hk.block k hlt hk'.1.2)) (fun k hk' => ⟨hk'.1.1, fun hb => (hB k hb).elim hk'.1.2 (fun e => by have := hk'.2.2; omega)⟩)
end
/-- the pop, at the state -/
theorem pop_st {W0 : World} {B0 B : Nat → Prop} {g : Nat} {Inv : World → List K3 → (Nat → Prop) → Prop} {xs : List Int} {x : Int} {tr : List K3} {W : World} {g1 : Nat} {o : Obj} (hc : Clo W0 Inv) (h : St W0 B0 g Inv (xs ++ [x]) tr B W) (hg1 : W.heap[g1]? = some o) (hne : g1 ≠ g) (hlen : xs.length < 1000000000000) :
    Calls Try.prog 28 #[.pointer (some ⟨g, 0, none⟩)] W fun e W' => e = .returned (.int .i64 x) ∧ St W0 B0 g Inv xs tr B W' ∧ W'.heap[g1]? = some o := by
  obtain ⟨v, hb1, hr1⟩ := h.box
  refine (pop_calls g W0.heap.size x xs v _ W hb1 hr1 hlen).mono ?_
  rintro e w7 ⟨rfl, v', rfl, hr'⟩
  exact ⟨rfl, h.put hc (row := none) ⟨rfl, rfl, rfl, Nat.le_refl _, fun _ _ _ => rfl⟩ (fun k hk => by cases hk) hr' ⟨_, hb1⟩, (Below.heap_setCell _ _ _ g1 hne).trans hg1⟩
def popL (l : List Int) : Option (List Int × Int) := if h : l = [] then none else some (l.dropLast, l.getLast h)
theorem popL_some {l l1 : List Int} {x : Int} (h : popL l = some (l1, x)) : l = l1 ++ [x] := by
  unfold popL at h
  split at h
  · cases h
  · rename_i hne
    simp only [Option.some.injEq, Prod.mk.injEq] at h
    obtain ⟨rfl, rfl⟩ := h
    exact (List.dropLast_concat_getLast hne).symm
/-- one instruction: the stack and the keys asked -/
def stepT (gt : Int → Int → Option Int) (idx : Int) (op : S43) (st : List Int) (tr : List K3) : Option (List Int × List K3) :=
  if op.f0 = 4 ∨ op.f0 = 5 then
    (popL st).bind fun p => (querylang_operandKey.f op.f0 op.f1 op.f2 idx p.2).bind fun q => (gt q.1 q.2.1).bind fun v => some (p.1 ++ [v], tr ++ [(q.1, q.2.1, q.2.2.1)])
  else if op.f0 = 2 ∨ op.f0 = 3 then
    (querylang_operandKey.f op.f0 op.f1 op.f2 idx 0).bind fun q => (gt q.1 q.2.1).bind fun v => some (st ++ [v], tr ++ [(q.1, q.2.1, q.2.2.1)])
  else if op.f0 = 1 then (querylang_reduce.f op.f1).bind fun v => some (st ++ [v], tr)
  else (popL st).bind fun p => (popL p.1).bind fun r => (querylang_binary.f op.f0 r.2 p.2).bind fun v => some (r.1 ++ [v], tr)
def goT (gt : Int → Int → Option Int) (idx : Int) : List S43 → List Int → List K3 → Option (List Int × List K3)
  | [], st, tr => some (st, tr)
  | op :: r, st, tr => (stepT gt idx op st tr).bind fun p => goT gt idx r p.1 p.2
theorem goT_cons (gt : Int → Int → Option Int) (idx : Int) (op : S43) (r : List S43) (st : List Int) (tr : List K3) : goT gt idx (op :: r) st tr = (stepT gt idx op st tr).bind fun p => goT gt idx r p.1 p.2 := rfl
theorem ok_reads {o a b idx n q1 q2 q3 : Int} {q4 : Bool} (ho : o = 2 ∨ o = 3 ∨ o = 4 ∨ o = 5) (h : querylang_operandKey.f o a b idx n = some (q1, q2, q3, q4)) : q4 = true ∧ q3 = 0 := by
  unfold querylang_operandKey.f at h
  split at h
  · simp at h; exact ⟨by simp [h.2.2.2], by simp [h.2.2.1]⟩
  split at h
  · simp at h; exact ⟨by simp [h.2.2.2], by simp [h.2.2.1]⟩
  split at h
  · split at h
    · cases h
    · simp at h; exact ⟨by simp [h.2.2.2], by simp [h.2.2.1]⟩
  split at h
  · split at h <;> (simp at h; exact ⟨by simp [h.2.2.2], by simp [h.2.2.1]⟩)
  · omega
theorem ok_none {o a b idx n : Int} (h2 : o ≠ 2) (h3 : o ≠ 3) (h4 : o ≠ 4) (h5 : o ≠ 5) : querylang_operandKey.f o a b idx n = some (0, 0, 0, false) := by
  unfold querylang_operandKey.f
  rw [if_neg h2, if_neg h3, if_neg h4, if_neg h5]
theorem stepT_len {gt : Int → Int → Option Int} {idx : Int} {op : S43} {st st' : List Int} {tr tr' : List K3} (h : stepT gt idx op st tr = some (st', tr')) : st'.length ≤ st.length + 1 := by
  unfold stepT at h
  split at h
  · obtain ⟨⟨l, x⟩, h1, h⟩ := Option.bind_eq_some_iff.1 h
    obtain ⟨q, h2, h⟩ := Option.bind_eq_some_iff.1 h
    obtain ⟨v, h3, h⟩ := Option.bind_eq_some_iff.1 h
    have := popL_some h1
    simp only [Option.some.injEq, Prod.mk.injEq] at h
    rw [← h.1, this]; simp
  split at h
  · obtain ⟨q, h2, h⟩ := Option.bind_eq_some_iff.1 h
    obtain ⟨v, h3, h⟩ := Option.bind_eq_some_iff.1 h
    simp only [Option.some.injEq, Prod.mk.injEq] at h
    rw [← h.1]; simp
  split at h
  · obtain ⟨v, h3, h⟩ := Option.bind_eq_some_iff.1 h
    simp only [Option.some.injEq, Prod.mk.injEq] at h
    rw [← h.1]; simp
  · obtain ⟨⟨l, x⟩, h1, h⟩ := Option.bind_eq_some_iff.1 h
    obtain ⟨⟨l2, x2⟩, h2, h⟩ := Option.bind_eq_some_iff.1 h
    obtain ⟨v, h3, h⟩ := Option.bind_eq_some_iff.1 h
    have e1 := popL_some h1
    have e2 := popL_some h2
    simp only [Option.some.injEq, Prod.mk.injEq] at h
    simp only at e2
    rw [← h.1, e1, e2]; simp
section
variable {P : Program} {ops : Array Oper} {Q : Exit → Act → World → Prop}
/-- a call of a closure, by its contract -/
theorem goesV_ {oi : Oper} {N : Option Tmp} {a : Act} {w : World} {K : Act → World → Prop} {f : FuncId} {fn : Func} {x : Operand} {as_ : Array Operand} {ts : Array TypeId} (bnd cap : Array Value) (hf : P.funcs[f]? = some fn) (hname : (fn.name == "runtime.NumGoroutine") = false) (hb : fn.body.isSome = true) (args : Array Value)
    (hw : Region.wanted oi (yielded ops a.tmps) = true) (hN : oi.dst = N) (hop : oi.op = .call { callee := .value x, args := as_, argTypes := ts }) (hx : a.eval x = .func (.func f) bnd cap) (hargs : as_.map a.eval = args)
    (h : Calls P f ((bnd ++ args) ++ cap) w fun e w' => ∃ v, e = .returned v ∧ K (a.put N v) w') : if Region.wanted oi (yielded ops a.tmps) = true then Oper.wp P oi a w K Q else K (a.put N undef) w := by
  refine call_ f _ hw hN ?_ h
  have he := enters_ hf hname hb ((bnd ++ args) ++ cap) w
  unfold execOp
  simp [hop, resolve, Deferred.ofValue, invoke, hx, hargs] at he ⊢
  simp [he]
end
end Go.Proofs.Ytnhkfelpahjgpaa.Qu
