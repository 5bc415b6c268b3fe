/- The graph in memory: a map from keys to rows of one's own, all apart, and a row of keys. No condition. -/
import Derived.Test.YteekdkkfegcoeaaDghKp
import Derived.Test.YteekdkkfegcoeaaMp
namespace Go.Proofs.Yteekdkkfegcoeaa.Dg
open Go.RowKit Go.Sort Go.Lib Go.Proofs.YteekdkkfegcoeaaW.PrintWords Go.Proofs.YteekdkkfegcoeaaW.PrintLast Go.Proofs.YteekdkkfegcoeaaW.PrintMore
open Go.Proofs.Yteekdkkfegcoeaa
open Go.ChangeMaps (setBlock)
set_option linter.unusedVariables false
set_option linter.unusedSimpArgs false
def wfK (x : S24) : Prop := (Lit.int .i64 x.f0).wf = true ∧ (Lit.int .i64 x.f1).wf = true ∧ (Lit.int .i64 x.f2).wf = true
theorem laid : laidOutB Try.prog = true := by kernel_rfl
theorem KK : Go.Maps.Keyed Try.prog 24 := Go.Maps.Keyed.of_law (deep_law_laid laid (m := 3) (by decide) (of_decide_eq_true (by kernel_rfl)) (by kernel_rfl) (by kernel_rfl))
theorem injK : ∀ a b : S24, encK a = encK b → a = b := by
  rintro ⟨a, b, c⟩ ⟨d, e, f⟩ h
  simp only [encK, Value.agg.injEq, Array.mk.injEq, List.cons.injEq, Value.int.injEq, true_and, and_true] at h
  obtain ⟨rfl, rfl, rfl⟩ := h
  rfl
theorem keyK (k : S24) (h : wfK k) : ∃ l, keyOf Try.prog 24 (encK k) = some l := by
  obtain ⟨h1, h2, h3⟩ := h
  have hp : 0 < Try.prog.types.size := of_decide_eq_true (by kernel_rfl)
  obtain ⟨n, hn⟩ : ∃ n, Try.prog.types.size = n + 1 := ⟨Try.prog.types.size - 1, by omega⟩
  have hk : Try.prog.keyType 24 = true := by kernel_rfl
  have hc : Try.prog.cellsOf 24 = 3 := by kernel_rfl
  have hc3 : Try.prog.cellsOf 3 = 1 := by kernel_rfl
  unfold keyOf
  rw [Try.underlying24]
  simp only [hk, Value.formed, Try.underlying24, hc, encK, Bool.true_and]
  rw [hn]
  simp [Program.keyLits, Try.underlying24, Try.underlying3, hc, hc3, Value.cells, h1, h2, h3]
structure Cel where
  v : Value
  xs : List S24
def zc : Cel := ⟨.slice none 0 0, []⟩
theorem zero26 (w : World) : (zeroValue 26).run Try.prog w = .ok (.slice none 0 0) w := Try.zeroValue26 w
/-- the graph -/
structure Gr (base gb gm : Nat) (l : List (S24 × Cel)) (kv : Value) (ks : List S24) (W : World) : Prop where
  box : W.heap[gb]? = some (.cells #[.map (some gm), kv] 52 (0, 0))
  tab : Mp.At Try.prog 24 encK W gm (Mp.vals Cel.v l)
  rows : ∀ q ∈ l, W.ownsRow base 24 3 q.2.v q.2.xs.length (flatK q.2.xs)
  krow : W.ownsRow base 24 3 kv ks.length (flatK ks)
  apart : l.Pairwise (fun p q => ∀ b, p.2.v.ownBlock = some b → q.2.v.ownBlock ≠ some b)
  kap : ∀ q ∈ l, ∀ b, q.2.v.ownBlock = some b → kv.ownBlock ≠ some b
  lo : base ≤ gb ∧ base ≤ gm
theorem own_nil (W : World) (base : Nat) : W.ownsRow base 24 3 (.slice none 0 0) 0 [] := ⟨rfl, .inl ⟨rfl, rfl⟩⟩
section
variable {base gb gm : Nat} {l : List (S24 × Cel)} {kv : Value} {ks : List S24} {W W' : World}
theorem own_not_map {v : Value} {n : Nat} {fl : List Value} (h : W.ownsRow base 24 3 v n fl) {g : Nat} {es : Array MapEntry} {c : Nat} (hg : W.heap[g]? = some (.map es c)) : some g ≠ v.ownBlock := by
  intro e
  obtain ⟨cells, hc⟩ := own_typed h g e.symm
  rw [hg] at hc
  cases hc
theorem own_not_cells {v : Value} {n : Nat} {fl : List Value} (h : W.ownsRow base 24 3 v n fl) {g : Nat} {cs : Array Value} {t : Nat} (hg : W.heap[g]? = some (.cells cs t (0, 0))) (ht : t ≠ 24) : some g ≠ v.ownBlock := by
  intro e
  obtain ⟨cells, hc⟩ := own_typed h g e.symm
  rw [hg] at hc
  injection hc with hc
  injection hc with _ hc
  exact ht hc
theorem Gr.lt (h : Gr base gb gm l kv ks W) : gb < W.heap.size ∧ gm < W.heap.size := ⟨blk_lt h.box, h.tab.lt⟩
theorem Gr.ne (h : Gr base gb gm l kv ks W) : gb ≠ gm := by
  rintro rfl
  obtain ⟨es, clock, h1⟩ := h.tab
  have h2 := h.box
  rw [h1.blk] at h2
  cases h2
theorem Gr.keep (h : Gr base gb gm l kv ks W) (hk : ∀ k, k < W.heap.size → W'.heap[k]? = W.heap[k]?) : Gr base gb gm l kv ks W' :=
  ⟨(hk _ h.lt.1).trans h.box, h.tab.keep (hk _ h.lt.2), fun q hq => own_move (h.rows q hq) (fun k e => hk k (own_lt (h.rows q hq) k e)), own_move h.krow (fun k e => hk k (own_lt h.krow k e)), h.apart, h.kap, h.lo⟩
theorem Gr.below (h : Gr base gb gm l kv ks W) (hb : Below W.heap.size W W') : Gr base gb gm l kv ks W' := h.keep hb.block
/-- the row at a key -/
def celAt (l : List (S24 × Cel)) (k : S24) : Cel := (Mp.aget l k).getD zc
theorem Gr.cel (h : Gr base gb gm l kv ks W) (k : S24) : W.ownsRow base 24 3 (celAt l k).v (celAt l k).xs.length (flatK (celAt l k).xs) := by
  unfold celAt
  cases hg : Mp.aget l k with
  | none => exact own_nil W base
  | some c => exact h.rows _ (Mp.aget_mem hg)
theorem Gr.look (h : Gr base gb gm l kv ks W) (k : S24) {lk : Lit} (hk : keyOf Try.prog 24 (encK k) = some lk) : (Instr.lookup 50 (.map (some gm)) (encK k) false).run Try.prog W = .ok (celAt l k).v W := by
  have hrun := Mp.At.look (T := 50) false KK injK Try.underlying50 (zero26 W) h.tab hk
  rw [Mp.aget_vals] at hrun
  rw [hrun]
  unfold celAt
  cases Mp.aget l k <;> rfl
theorem Gr.ap (h : Gr base gb gm l kv ks W) (k : S24) {q : S24 × Cel} (hq : q ∈ l) (hqk : q.1 ≠ k) (b : Nat) (e : q.2.v.ownBlock = some b) : (celAt l k).v.ownBlock ≠ some b := by
  unfold celAt
  cases hg : Mp.aget l k with
  | none => simp [zc, Value.ownBlock]
  | some c =>
    have hm := Mp.aget_mem hg
    show c.v.ownBlock ≠ some b
    have hne : q ≠ (k, c) := fun e2 => hqk (by rw [e2])
    obtain ⟨i, hi, hiq⟩ := List.getElem_of_mem hq
    obtain ⟨j, hj, hjq⟩ := List.getElem_of_mem hm
    have hp := List.pairwise_iff_getElem.1 h.apart
    rcases Nat.lt_trichotomy i j with h1 | h1 | h1
    · have := hp i j hi hj h1 b (by rw [hiq]; exact e)
      rw [hjq] at this
      exact this
    · subst h1
      exact absurd (hiq.symm.trans hjq) hne
    · intro e2
      have := hp j i hj hi h1 b (by rw [hjq]; exact e2)
      rw [hiq] at this
      exact this e
theorem Gr.kcel (h : Gr base gb gm l kv ks W) (k : S24) (b : Nat) (e : (celAt l k).v.ownBlock = some b) : kv.ownBlock ≠ some b := by
  unfold celAt at e
  cases hg : Mp.aget l k with
  | none => rw [hg] at e; cases e
  | some c => rw [hg] at e; exact h.kap _ (Mp.aget_mem hg) b e
theorem grown_two {a b c : World} {r r' : Option Nat} (h : a.grownBy b r) (k : b.grownBy c r') (hr : r' = r ∨ ∃ q, r' = some q ∧ a.heap.size ≤ q) : a.grownBy c r :=
  ⟨k.os.trans h.os, k.tape.trans h.tape, k.output.trans h.output, Nat.le_trans h.size k.size, fun i hi hn => (k.block i (Nat.lt_of_lt_of_le hi h.size) (by
    rcases hr with rfl | ⟨q, rfl, hq⟩
    · exact hn
    · intro e; injection e with e; omega)).trans (h.block i hi hn)⟩
theorem below_grown {a b c : World} {r : Option Nat} (h : Below a.heap.size a b) (k : b.grownBy c r) : a.grownBy c r :=
  ⟨k.os.trans h.os, k.tape.trans h.tape, k.output.trans h.output, Nat.le_trans h.size k.size, fun i hi hn => (k.block i (Nat.lt_of_lt_of_le hi h.size) hn).trans (h.block i hi)⟩
theorem mem_aset {κ β : Type} [DecidableEq κ] {l : List (κ × β)} {x : κ} {v : β} {p : κ × β} (h : p ∈ Mp.aset l x v) : (p ∈ l ∧ p.1 ≠ x) ∨ p = (x, v) := by
  unfold Mp.aset at h
  split at h
  · obtain ⟨q, hq, rfl⟩ := List.mem_map.1 h
    by_cases hx : q.1 = x
    · right; rw [if_pos hx]
    · left; rw [if_neg hx]; exact ⟨hq, hx⟩
  · rename_i hn
    rcases List.mem_append.1 h with h | h
    · refine .inl ⟨h, fun e => hn (List.any_eq_true.2 ⟨p, h, by simp [e]⟩)⟩
    · rw [List.mem_singleton] at h; exact .inr h
/-- a row put in -/
theorem Gr.put (h : Gr base gb gm l kv ks W) (k : S24) {w' : World} (hg : W.grownBy w' (celAt l k).v.ownBlock) (v' : Value) (ys : List S24) (hown : w'.ownsRow base 24 3 v' ys.length (flatK ys))
    (hat : v'.ownBlock = (celAt l k).v.ownBlock ∨ ∃ b, v'.ownBlock = some b ∧ W.heap.size ≤ b) (o : Obj) (hAt : Mp.At Try.prog 24 encK (setBlock w' gm o) gm (Mp.aset (Mp.vals Cel.v l) k v')) :
    Gr base gb gm (Mp.aset l k ⟨v', ys⟩) kv ks (setBlock w' gm o) := by
  have hcg := h.cel k
  have hne : ∀ b, b < W.heap.size → v'.ownBlock = some b → (celAt l k).v.ownBlock = some b := by
    intro b hb e
    rcases hat with h1 | ⟨q, h1, h2⟩
    · rw [← h1]; exact e
    · rw [h1] at e; injection e with e; omega
  obtain ⟨es, clock, hes⟩ := h.tab
  have hgm : some gm ≠ (celAt l k).v.ownBlock := own_not_map hcg hes.blk
  have hgb : some gb ≠ (celAt l k).v.ownBlock := own_not_cells hcg h.box (by decide)
  have hw' : w'.heap[gm]? = some (.map es clock) := (hg.block gm h.lt.2 hgm).trans hes.blk
  have hv'm : v'.ownBlock ≠ some gm := fun e => own_not_map hown hw' e.symm
  have keepRow : ∀ {v : Value} {n : Nat} {fl : List Value}, W.ownsRow base 24 3 v n fl → (∀ b, v.ownBlock = some b → (celAt l k).v.ownBlock ≠ some b) → (setBlock w' gm o).ownsRow base 24 3 v n fl := by
    intro v n fl ho hb
    refine own_move ho (fun q e => ?_)
    have hqm : q ≠ gm := fun e2 => own_not_map ho hes.blk (by rw [← e2]; exact e.symm)
    rw [Mp.setBlock_other _ hqm]
    exact hg.block q (own_lt ho q e) (fun e2 => hb q e e2.symm)
  refine ⟨?_, ?_, fun q hq => ?_, keepRow h.krow (fun b e e2 => h.kcel k b e2 e), ?_, fun q hq b e => ?_, h.lo⟩
  · rw [Mp.setBlock_other _ h.ne]
    exact (hg.block gb h.lt.1 hgb).trans h.box
  · rw [← Mp.aset_vals Cel.v l k ⟨v', ys⟩]
    exact hAt
  · rcases mem_aset hq with ⟨h1, h2⟩ | rfl
    · exact keepRow (h.rows q h1) (fun b e => h.ap k h1 h2 b e)
    · exact own_move hown (fun q e => Mp.setBlock_other _ (fun e2 => hv'm (by rw [← e2]; exact e)))
  · unfold Mp.aset
    split
    · rw [List.pairwise_map]
      refine (List.Pairwise.and_mem.1 (h.apart.and (show l.Pairwise (fun p q => p.1 ≠ q.1) by have h9 := Mp.At.apart h.tab; unfold Mp.vals at h9; rw [List.pairwise_map] at h9; exact h9))).imp ?_
      rintro p q ⟨hp, hq, h1, h2⟩ b
      by_cases e1 : p.1 = k
      · have e2 : ¬ q.1 = k := fun e2 => h2 (e1.trans e2.symm)
        rw [if_pos e1, if_neg e2]
        intro e3 e4
        exact h.ap k hq e2 b e4 (hne b (own_lt (h.rows q hq) b e4) e3)
      · rw [if_neg e1]
        by_cases e2 : q.1 = k
        · rw [if_pos e2]
          intro e3 e4
          exact h.ap k hp e1 b e3 (hne b (own_lt (h.rows p hp) b e3) e4)
        · rw [if_neg e2]; exact h1 b
    · rename_i hn
      rw [List.pairwise_append]
      refine ⟨h.apart, List.pairwise_singleton _ _, fun p hp q hq b e3 e4 => ?_⟩
      rw [List.mem_singleton] at hq
      subst hq
      have e1 : p.1 ≠ k := fun e => hn (List.any_eq_true.2 ⟨p, hp, by simp [e]⟩)
      exact h.ap k hp e1 b e3 (hne b (own_lt (h.rows p hp) b e3) e4)
  · rcases mem_aset hq with ⟨h1, h2⟩ | rfl
    · exact h.kap q h1 b e
    · intro e2
      exact h.kcel k b (hne b (own_lt h.krow b e2) e) e2
/-- the keys put in -/
theorem Gr.keys (h : Gr base gb gm l kv ks W) {w' : World} (hg : W.grownBy w' kv.ownBlock) (v' : Value) (ys : List S24) (hown : w'.ownsRow base 24 3 v' ys.length (flatK ys))
    (hat : v'.ownBlock = kv.ownBlock ∨ ∃ b, v'.ownBlock = some b ∧ W.heap.size ≤ b) : Gr base gb gm l v' ys (w'.setCell ⟨gb, 1, none⟩ v') := by
  have hgb : some gb ≠ kv.ownBlock := own_not_cells h.krow h.box (by decide)
  obtain ⟨es, clock, hes⟩ := h.tab
  have hgm : some gm ≠ kv.ownBlock := own_not_map h.krow hes.blk
  have hb' : w'.heap[gb]? = some (.cells #[.map (some gm), kv] 52 (0, 0)) := (hg.block gb h.lt.1 hgb).trans h.box
  have hv'b : v'.ownBlock ≠ some gb := fun e => own_not_cells hown hb' (by decide) e.symm
  refine ⟨blk_put (cs := #[.map (some gm), kv]) hb' 1 _ rfl, (h.tab.keep (hg.block gm h.lt.2 hgm)).set (fun e => h.ne e.symm) _, fun q hq => ?_, ?_, h.apart, fun q hq b e => ?_, h.lo⟩
  · refine own_move (h.rows q hq) (fun b e => ?_)
    have hqb : b ≠ gb := fun e2 => own_not_cells (h.rows q hq) h.box (by decide) (by rw [← e2]; exact e.symm)
    exact (Below.heap_setCell w' ⟨gb, 1, none⟩ _ b hqb).trans (hg.block b (own_lt (h.rows q hq) b e) (fun e2 => h.kap q hq b e e2.symm))
  · exact own_move hown (fun b e => Below.heap_setCell w' ⟨gb, 1, none⟩ _ b (fun e2 => hv'b (by have e3 : b = gb := e2; rw [← e3]; exact e)))
  · rcases hat with h1 | ⟨b2, h1, h2⟩
    · rw [h1]; exact h.kap q hq b e
    · rw [h1]
      intro e2
      injection e2 with e2
      have := own_lt (h.rows q hq) b e
      omega
end
end Go.Proofs.Yteekdkkfegcoeaa.Dg
