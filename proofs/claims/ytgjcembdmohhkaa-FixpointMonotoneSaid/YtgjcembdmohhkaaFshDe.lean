/- fixpoint.Derive. Condition: a valid system (else its error). -/
import Derived.RangeFuncNested
import Derived.RangeFuncBound
import Derived.RangeFuncCalls
import Derived.RangeFuncLeaves
import Derived.RangeFuncBox
import Derived.Shelf.Abstract
import Derived.Shelf.RegionOpen
import Derived.WalkKit
import Derived.OwnWalkIn
import Derived.TacticsInMore
import Derived.LoopNIn
import Derived.LoopIn
import Derived.BigQuiet
import Derived.Test.YtgjcembdmohhkaaFshBw
import Derived.Test.YtgjcembdmohhkaaFshRv
import Derived.RangeFuncFrom
import Derived.Sort.CutIn
import Derived.Sort.LoopGhostIn
import Derived.Sort.QuietIn
import Derived.Lib.SliceRun
import Derived.Test.YtgjcembdmohhkaaRi
namespace Go.Proofs.Ytgjcembdmohhkaa.Fs
open Go.RowKit Go.Shelf Go.Proofs.YtgjcembdmohhkaaW.PrintWords Go.Proofs.YtgjcembdmohhkaaW.PrintLast Go.Proofs.YtgjcembdmohhkaaW.PrintMore
open Go.Proofs.Ytgjcembdmohhkaa
set_option linter.unusedVariables false
set_option linter.unusedSimpArgs false
attribute [local go_sem] Oper.semAt_some
def setF (set : Int) (d : S59) : Bool := d.f0 == set
set_option maxHeartbeats 4000000 in
theorem pred27 (d : S59) (set : Int) (g4 : Nat) (w : World) (hs : w.heap[g4]? = some (.cells #[.int .i64 set] 3 (0, 0))) :
    Calls Try.prog 27 #[.agg #[.int .i64 d.f0, .int .i64 d.f1, .int .i64 d.f2], .pointer (some ⟨g4, 0, none⟩)] w fun e w' => e = .returned (.bool (setF set d)) ∧ Below w.heap.size w w' := by
  have hu59 := Try.underlying59
  have BS := Aside0.mk hs
  clear hs
  unfold setF
  go_enter Try.func27, Try.ntmps27
  go_wp2_with (((with_reducible refine gate_dst (N := 2) rfl ?_); refine box_event ?hg (N := 2) ?hd (cs := #[.int .i64 d.f0, .int .i64 d.f1, .int .i64 d.f2]) (t := 59) ?hr ?_; (case hd => rfl); (case hg => rfl); (case hr => first | (go_simp; done) | (go_simp; rfl)); intro gd hg w3 hbox hb; have BKgd := Aside0.mk hbox; have HB := Aside0.mk hb; have n1_ := Aside0.mk (blk_below BS.out hb); have hd0 : w3.cell? ⟨gd, 0, none⟩ = some (.int .i64 d.f0) := (blk_cell BKgd.out 0).trans rfl; have hs0 : w3.cell? ⟨g4, 0, none⟩ = some (.int .i64 set) := (blk_cell n1_.out 0).trans rfl; clear n1_; clear hbox hb hg))
  go_ret
  exact ⟨rfl, HB.out⟩
set_option maxHeartbeats 4000000 in
set_option maxRecDepth 100000 in
theorem index26s (A0 : Option Addr) (c0 : Nat) (l0 : List (S59)) (set : Int) (g4 : Nat) (w : World) (hr0 : Kd.C k59 w A0 l0.length l0) (hc0 : l0.length ≤ c0) (hl0 : l0.length < 1000000000) (hs : w.heap[g4]? = some (.cells #[.int .i64 set] 3 (0, 0))) :
    Calls Try.prog 26 #[.slice A0 l0.length c0, .func (.func 27) #[] #[.pointer (some ⟨g4, 0, none⟩)]] w fun e w' => e = .returned (.int .i64 (ixs (setF set) l0 0)) ∧ Below w.heap.size w w' := by
  have hu31 := Try.underlying31
  have HR0 := Aside0.mk hr0
  have HC0 := Aside0.mk hc0
  have HLEN := Aside0.mk hl0
  clear hr0 hc0 hl0
  have HB := Aside0.mk (Below.refl w.heap.size w)
  have BS := Aside0.mk hs
  clear hs
  have hu59 := Try.underlying59
  go_enter Try.func26, Try.ntmps26
  go_wp2
  go_loopg [8] l0.length (fun kq v8 w' => ∃ x : Int, v8 = .int .i64 x ∧ Aside0 (∃ i : Nat, x = i ∧ i + kq = l0.length ∧ ixs (setF set) (l0.drop i) (i : Int) = ixs (setF set) l0 0) ∧ Aside0 (Below w.heap.size w w'))
  case atStart => exact ⟨0, rfl, ⟨⟨0, rfl, by omega, rfl⟩⟩, HB⟩
  case round =>
    clear HB
    obtain ⟨x, rfl, HX, HB⟩ := hrel
    by_cases c : x < (l0.length : Int)
    · have c1 : decide (x < (l0.length : Int)) = true := decide_eq_true c
      obtain ⟨i, e1, e2, e3⟩ := HX.out
      clear HX
      obtain ⟨k1, rfl⟩ : ∃ k1, gk = k1 + 1 := ⟨gk - 1, by omega⟩
      have E1 := Aside0.mk (And.intro e1 e2)
      rw [take59 l0 i (by omega), ← e1, ixs_cons] at e3
      have E3 := Aside0.mk e3
      have p1 : 0 ≤ (x : Int) := by omega
      obtain ⟨ad, ea, hx0, hx1, hx2⟩ := at_T59 HR0.out x p1 c
      cases ea
      replace hx0 := (HB.out.cell (World.block_lt_of_cell? w _ hx0)).trans hx0
      replace hx1 := (HB.out.cell (World.block_lt_of_cell? w _ hx1)).trans hx1
      replace hx2 := (HB.out.cell (World.block_lt_of_cell? w _ hx2)).trans hx2
      replace p1 := eq_true p1
      have q1 := eq_true c
      clear e1 e2 e3 c
      cases hv : (setF set) (rd_T59 l0 x) with
      | false =>
        have e4 := E3.out
        rw [if_neg (by rw [hv]; simp)] at e4
        have E4 := Aside0.mk e4
        clear e4 E3
        go_wp2_with (go_at_call 27; refine (pred27 (rd_T59 l0 x) set g4 _ (blk_below BS.out HB.out)).mono ?_; rintro e w7 ⟨he, hb⟩; rw [hv] at he; subst he; have n1_ := Aside0.mk (below_step HB.out hb); clear HB hb; have HB := n1_; clear n1_)
        go_roundg k1
        case measure => have := E1.out; omega
        case rel => exact ⟨wrap64 (x + 1), rfl, ⟨⟨i + 1, by have := E1.out; rw [w64_id' (by omega) (by have := HLEN.out; omega)]; omega, by have := E1.out; omega, by rw [← E4.out, E1.out.1]; rfl⟩⟩, HB⟩
      | true =>
        have e4 := E3.out
        rw [if_pos hv] at e4
        have E4 := Aside0.mk e4
        clear e4 E3
        go_wp2_with (go_at_call 27; refine (pred27 (rd_T59 l0 x) set g4 _ (blk_below BS.out HB.out)).mono ?_; rintro e w7 ⟨he, hb⟩; rw [hv] at he; subst he; have n1_ := Aside0.mk (below_step HB.out hb); clear HB hb; have HB := n1_; clear n1_)
        go_ret
        exact ⟨by rw [← E4.out]; rfl, HB.out⟩
    · have c1 : decide (x < (l0.length : Int)) = false := decide_eq_false c
      obtain ⟨i, e1, e2, e3⟩ := HX.out
      clear HX
      obtain rfl : i = l0.length := by omega
      rw [List.drop_length] at e3
      have E3 := Aside0.mk (show (-1 : Int) = ixs (setF set) l0 0 from e3)
      clear e1 e2 c e3
      go_wp2
      go_ret
      exact ⟨by rw [← E3.out]; rfl, HB.out⟩
/-- what is needed, and the proof so far, from its end -/
def bkStep (l0 : List (List S31)) (p : List Bool × List S59) (s : S59) : List Bool × List S59 := if rdOf false p.1 s.f0 = true then ((rd_T31 (rd_L3 l0 s.f0) s.f1).f1.foldl (fun N j => N.set j.toNat true) p.1, p.2 ++ [s]) else p
def bkF (l0 : List (List S31)) (set : Int) (xs : List S59) (ks : List Nat) : List Bool × List S59 := ks.foldl (fun p (k : Nat) => bkStep l0 p (rd_T59 xs (k : Int))) ((List.replicate l0.length false).set set.toNat true, [])
theorem bkF_snoc (l0 : List (List S31)) (set : Int) (xs : List S59) (ks : List Nat) (k : Nat) : bkF l0 set xs (ks ++ [k]) = bkStep l0 (bkF l0 set xs ks) (rd_T59 xs (k : Int)) := by
  unfold bkF
  rw [List.foldl_append]
  rfl
theorem needs_len (A : List Int) : ∀ N : List Bool, (A.foldl (fun N (j : Int) => N.set j.toNat true) N).length = N.length := by
  induction A with
  | nil => intro N; rfl
  | cons j A ih => intro N; rw [List.foldl_cons, ih, List.length_set]
theorem bkF_len (l0 : List (List S31)) (set : Int) (xs : List S59) (ks : List Nat) : (bkF l0 set xs ks).1.length = l0.length ∧ (bkF l0 set xs ks).2.length ≤ ks.length := by
  unfold bkF
  have : ∀ (ks : List Nat) (p : List Bool × List S59), p.1.length = l0.length → (ks.foldl (fun p (k : Nat) => bkStep l0 p (rd_T59 xs (k : Int))) p).1.length = l0.length ∧ (ks.foldl (fun p (k : Nat) => bkStep l0 p (rd_T59 xs (k : Int))) p).2.length ≤ p.2.length + ks.length := by
    intro ks
    induction ks with
    | nil => intro p hp; exact ⟨hp, Nat.le_refl _⟩
    | cons k ks ih =>
      intro p hp
      rw [List.foldl_cons]
      have h1 : (bkStep l0 p (rd_T59 xs (k : Int))).1.length = l0.length ∧ (bkStep l0 p (rd_T59 xs (k : Int))).2.length ≤ p.2.length + 1 := by
        unfold bkStep
        split
        · exact ⟨by rw [needs_len]; exact hp, by rw [List.length_append]; exact Nat.le_refl _⟩
        · exact ⟨hp, Nat.le_succ _⟩
      obtain ⟨h2, h3⟩ := ih _ h1.1
      exact ⟨h2, by rw [List.length_cons]; have := h1.2; omega⟩
  obtain ⟨h1, h2⟩ := this ks ((List.replicate l0.length false).set set.toNat true, []) (by rw [List.length_set, List.length_replicate])
  exact ⟨h1, by simpa using h2⟩
def proofF (l0 : List (List S31)) (set : Int) (xs : List S59) : List S59 := (bkF l0 set xs (List.range xs.length).reverse).2.reverse
structure Bi (w W0 : World) (g3 g11 g12 gn capn gs B1 : Nat) (v1 : Value) (A0 : Option Addr) (c0 n0 : Nat) (p : List Bool × List S59) (W : World) : Prop where
  b3 : W.heap[g3]? = some (.cells #[.slice A0 n0 c0] 22 (0, 0))
  b11 : W.heap[g11]? = some (.cells #[.slice (some ⟨gn, 0, none⟩) p.1.length capn] 61 (0, 0))
  nd : Kd.R Kd.bool 4 W w.heap.size (fun _ => True) (.slice (some ⟨gn, 0, none⟩) p.1.length capn) p.1
  pr : ∃ u, W.heap[g12]? = some (.cells #[u] 41 (0, 0)) ∧ Kd.R k59 59 W w.heap.size (fun k => k ≠ gs) u p.2
  bel : Below w.heap.size w W
  lo : w.heap.size ≤ g12
  gs0 : W.heap[gs]? = W0.heap[gs]?
  szs : gs < W.heap.size
  b1 : W.heap[B1]? = some (.cells #[v1] 41 (0, 0))
  gsc : ∃ cells, W0.heap[gs]? = some (.cells cells 59 (0, 0))
  lb : g12 ≠ B1
section
variable {w W0 : World} {g3 g11 g12 gn capn gs B1 : Nat} {v1 : Value} {A0 : Option Addr} {c0 n0 : Nat} {p : List Bool × List S59} {W W' : World}
theorem Bi.below (h : Bi w W0 g3 g11 g12 gn capn gs B1 v1 A0 c0 n0 p W) (hb : Below W.heap.size W W') : Bi w W0 g3 g11 g12 gn capn gs B1 v1 A0 c0 n0 p W' := by
  obtain ⟨u, h1, h2⟩ := h.pr
  exact ⟨blk_below h.b3 hb, blk_below h.b11 hb, Kd.R_below h.nd hb, ⟨u, blk_below h1 hb, Kd.R_below h2 hb⟩, below_step h.bel hb, h.lo, (hb.block gs h.szs).trans h.gs0, Nat.lt_of_lt_of_le h.szs hb.size, blk_below h.b1 hb, h.gsc, h.lb⟩
theorem Bi.k2 (h : Bi w W0 g3 g11 g12 gn capn gs B1 v1 A0 c0 n0 p W) {p' : List Bool × List S59} (h' : Bi w W0 g3 g11 g12 gn capn gs B1 v1 A0 c0 n0 p' W') : K2 B1 gs W W' := ⟨h'.b1.trans h.b1.symm, h'.gs0.trans h.gs0.symm⟩
theorem Bi.typed (h : Bi w W0 g3 g11 g12 gn capn gs B1 v1 A0 c0 n0 p W) : (∃ cells, W.heap[gs]? = some (.cells cells 59 (0, 0))) ∧ ∃ cells, W.heap[gn]? = some (.cells cells 4 (0, 0)) := by
  obtain ⟨cells, hc⟩ := h.gsc
  exact ⟨⟨cells, h.gs0.trans hc⟩, Kd.R_typed h.nd gn (by simp [Value.ownBlock])⟩
theorem Bi.mark (h : Bi w W0 g3 g11 g12 gn capn gs B1 v1 A0 c0 n0 p W) (j : Int) : Bi w W0 g3 g11 g12 gn capn gs B1 v1 A0 c0 n0 (p.1.set j.toNat true, p.2) (W.setCell ⟨gn, j.toNat, none⟩ (.bool true)) := by
  obtain ⟨⟨c1, hgs⟩, ⟨c2, hgn⟩⟩ := h.typed
  obtain ⟨h1, h2⟩ := Kd.R_putg h.nd j true
  obtain ⟨u, h3, h4⟩ := h.pr
  have ne : ∀ {g : Nat} {t : TypeId} {cs : Array Value}, W.heap[g]? = some (.cells cs t (0, 0)) → t ≠ 4 → some g ≠ some gn := fun hb ht e_ => by injection e_ with e_; exact blk_ne hb hgn ht e_
  exact ⟨blk_grown h.b3 h2 (ne h.b3 (by decide)), by rw [List.length_set]; exact blk_grown h.b11 h2 (ne h.b11 (by decide)), by rw [List.length_set]; exact h1, ⟨u, blk_grown h3 h2 (ne h3 (by decide)), Kd.R_set h4 hgn (by decide) _ _⟩,
    pw_below_grown h.bel (some gn) h.bel.size h2 (fun k hk => by injection hk with hk; rw [← hk]; exact Kd.R_base h.nd gn (by simp [Value.ownBlock])), h.lo, (h2.block gs h.szs (ne hgs (by decide))).trans h.gs0, Nat.lt_of_lt_of_le h.szs h2.size, blk_grown h.b1 h2 (ne h.b1 (by decide)), h.gsc, h.lb⟩
theorem Bi.app {u v : Value} {x : S59} (h : Bi w W0 g3 g11 g12 gn capn gs B1 v1 A0 c0 n0 p W) (hu : W.heap[g12]? = some (.cells #[u] 41 (0, 0))) (hU : Kd.R k59 59 W w.heap.size (fun k => k ≠ gs) u p.2)
    (ho : Kd.R k59 59 W' w.heap.size (fun k => k ≠ gs) v (p.2 ++ [x])) (hb : Below w.heap.size w W') (hg : W.grownBy W' u.ownBlock) : Bi w W0 g3 g11 g12 gn capn gs B1 v1 A0 c0 n0 (p.1, p.2 ++ [x]) (W'.setCell ⟨g12, 0, none⟩ v) := by
  obtain ⟨⟨c1, hgs⟩, ⟨c2, hgn⟩⟩ := h.typed
  have hu2 := blk_grown hu hg (Kd.R_ne hU hu (by decide))
  have ne : ∀ {g : Nat} {t : TypeId} {cs : Array Value}, W'.heap[g]? = some (.cells cs t (0, 0)) → t ≠ 41 → g ≠ g12 := fun hb ht => blk_ne hb hu2 ht
  have f3 := blk_grown h.b3 hg (Kd.R_ne hU h.b3 (by decide))
  have f11 := blk_grown h.b11 hg (Kd.R_ne hU h.b11 (by decide))
  have f1 := blk_grown h.b1 hg (Kd.R_ne hU h.b1 (by decide))
  have fgs := blk_grown hgs hg (fun e_ => hU.1 gs e_.symm rfl)
  have hnd : Kd.R Kd.bool 4 W' w.heap.size (fun _ => True) (.slice (some ⟨gn, 0, none⟩) p.1.length capn) p.1 := by
    refine Kd.R_mono (Kd.R_grown (Kd.R_tight rfl h.nd) hg (fun k hk e_ => ?_)) (fun _ _ => trivial)
    have hk2 : gn = k := by simpa [Value.ownBlock] using hk.symm
    rw [← hk2] at e_
    exact Kd.R_ne hU hgn (by decide) e_
  have hgs0 : W'.heap[gs]? = W0.heap[gs]? := fgs.trans (hgs.symm.trans h.gs0)
  exact ⟨(Below.heap_setCell _ _ _ _ (ne f3 (by decide))).trans f3, (Below.heap_setCell _ _ _ _ (ne f11 (by decide))).trans f11, Kd.R_set hnd hu2 (by decide) _ _, ⟨v, blk_put hu2 0 _ rfl, Kd.R_set ho hu2 (by decide) _ _⟩, below_set hb h.lo, h.lo,
    (Below.heap_setCell _ _ _ _ (ne fgs (by decide))).trans hgs0, by have := blk_lt fgs; simpa using this, (Below.heap_setCell _ _ _ _ h.lb.symm).trans f1, h.gsc, h.lb⟩
end
theorem Bi.own (w W0 : World) (g3 g11 g12 gn capn gs B1 : Nat) (v1 : Value) (A0 : Option Addr) (c0 n0 : Nat) {β : Type} (f : β → List Bool × List S59) (B : Nat) (hB : w.heap.size ≤ B) : OwnFrom B (fun x W => Bi w W0 g3 g11 g12 gn capn gs B1 v1 A0 c0 n0 (f x) W) := by
  intro x W W' row h hg hr
  have hne : ∀ {k : Nat} {cells : Array Value} {q : TypeId}, W.heap[k]? = some (.cells cells q (0, 0)) → some k ≠ row := by
    rintro k cells q hk e
    obtain ⟨_, o, ho, hc⟩ := hr k e.symm
    rw [hk] at ho
    injection ho with ho
    subst ho
    cases hc
  obtain ⟨⟨c1, hgs⟩, ⟨c2, hgn⟩⟩ := h.typed
  obtain ⟨u, h3, h4⟩ := h.pr
  exact ⟨(hg.block g3 (blk_lt h.b3) (hne h.b3)).trans h.b3, (hg.block g11 (blk_lt h.b11) (hne h.b11)).trans h.b11, Kd.R_mono (Kd.R_grown (Kd.R_bound h.nd) hg (fun k hk => by obtain ⟨_, _, _, q, _, cells, hc⟩ := hk; exact hne hc)) (fun k hk => hk.1),
    ⟨u, (hg.block g12 (blk_lt h3) (hne h3)).trans h3, Kd.R_mono (Kd.R_grown (Kd.R_bound h4) hg (fun k hk => by obtain ⟨_, _, _, q, _, cells, hc⟩ := hk; exact hne hc)) (fun k hk => hk.1)⟩,
    h.bel.grown hg (h.bel.size) (fun k e => Nat.le_trans hB (hr k e).1), h.lo, (hg.block gs h.szs (hne hgs)).trans h.gs0, Nat.lt_of_lt_of_le h.szs hg.size, (hg.block B1 (blk_lt h.b1) (hne h.b1)).trans h.b1, h.gsc, h.lb⟩
def Ax (w : World) (g12 : Nat) (act : Nat → S59 → Act) (s : S59) (a' : Act) (W : World) : Prop := ∃ (g14 : Nat) (u : Value), a' = act g14 s ∧ W.heap[g14]? = some (.cells #[.int .i64 s.f0, .int .i64 s.f1, .int .i64 s.f2] 59 (0, 0)) ∧ w.heap.size ≤ g14 ∧ W.heap[g12]? = some (.cells #[u] 41 (0, 0)) ∧ u.ownBlock ≠ some g14
theorem Ax.own (w : World) (g12 : Nat) (act : Nat → S59 → Act) (s : S59) (a' : Act) (B : Nat) : OwnFrom B (fun (_ : Unit) W => Ax w g12 act s a' W) := by
  rintro _ W W' row ⟨g14, u, h1, h2, h3, h4, h5⟩ hg hr
  have hne : ∀ {k : Nat} {cells : Array Value} {q : TypeId}, W.heap[k]? = some (.cells cells q (0, 0)) → some k ≠ row := by
    rintro k cells q hk e
    obtain ⟨_, o, ho, hc⟩ := hr k e.symm
    rw [hk] at ho
    injection ho with ho
    subst ho
    cases hc
  exact ⟨g14, u, h1, (hg.block g14 (blk_lt h2) (hne h2)).trans h2, h3, (hg.block g12 (blk_lt h4) (hne h4)).trans h4, h5⟩
theorem ko_below {W W' : World} (h : Below W.heap.size W W') : KeepsOthers W W' := ⟨h.size, fun k o hk _ => (h.block k (blk_lt hk)).trans hk⟩
set_option maxHeartbeats 8000000 in
set_option maxRecDepth 100000 in
theorem derive_err (A0 : Option Addr) (c0 : Nat) (l0 : List (List S31)) (a1 a2 t : Int) (w : World) (hr0 : Kd.C (Kd.slice 31 k31) w A0 l0.length l0) (hc0 : l0.length ≤ c0) (hck : fixpoint_Check.f l0 = some t) (ht : t ≠ 0) :
    Calls Try.prog 15 #[.slice A0 l0.length c0, .int .i64 a1, .int .i64 a2] w fun e w' => e = .returned (.tuple #[.slice none 0 0, .int .i64 t]) ∧ Below w.heap.size w w' := by
  have hu22 := Try.underlying22
  have hu41 := Try.underlying41
  have hu59 := Try.underlying59
  have hu61 := Try.underlying61
  have HR := Aside0.mk hr0
  have HC := Aside0.mk hc0
  have HCK := Aside0.mk hck
  clear hr0 hc0 hck
  have ht1 : (t == 0) = false := beq_eq_false_iff_ne.mpr ht
  clear ht
  go_enter Try.func15, Try.ntmps15
  go_wp2_with (first | ((with_reducible refine gate_dst (N := 3) rfl ?_); refine box_event ?hg (N := 3) ?hd (cs := #[.slice A0 l0.length c0]) (t := 22) ?hr ?_; (case hd => rfl); (case hg => rfl); (case hr => first | (go_simp; done) | (go_simp; rfl)); intro g3 hg w3 hbox hb; have BKg3 := Aside0.mk hbox; have HB := Aside0.mk hb; have hc3 : w3.cell? ⟨g3, 0, none⟩ = some (.slice A0 l0.length c0) := (blk_cell hbox 0).trans rfl; clear hbox hb hg) | ((with_reducible refine gate_dst (N := 4) rfl ?_); refine box_event ?hg (N := 4) ?hd (cs := #[.int .i64 a1]) (t := 3) ?hr ?_; (case hd => rfl); (case hg => rfl); (case hr => first | (go_simp; done) | (go_simp; rfl)); intro g4 hg w4 hbox hb; have BKg4 := Aside0.mk hbox; have n1_ := Aside0.mk (below_step HB.out hb); have n2_ := Aside0.mk (blk_below BKg3.out hb); clear HB BKg3 hc3; have HB := n1_; have BKg3 := n2_; clear n1_ n2_; have hc3 : w4.cell? ⟨g3, 0, none⟩ = some (.slice A0 l0.length c0) := (blk_cell BKg3.out 0).trans rfl; have hc4 : w4.cell? ⟨g4, 0, none⟩ = some (.int .i64 a1) := (blk_cell BKg4.out 0).trans rfl; clear hbox hb hg) | (go_at_call 18; refine (fixpoint_Check.calls A0 c0 l0 t _ (Kd.C_below HR.out HB.out) HC.out HCK.out).mono ?_; rintro e_ w5 ⟨rfl, hb⟩; clear hc3 hc4; have n0_ := Aside0.mk (below_step HB.out hb); have n1_ := Aside0.mk (blk_below BKg3.out hb); have n2_ := Aside0.mk (blk_below BKg4.out hb); clear HB BKg3 BKg4; have HB := n0_; have BKg3 := n1_; have BKg4 := n2_; clear n0_ n1_ n2_; clear hb; have hc3 : w5.cell? ⟨g3, 0, none⟩ = some (.slice A0 l0.length c0) := (blk_cell BKg3.out 0).trans rfl; have hc4 : w5.cell? ⟨g4, 0, none⟩ = some (.int .i64 a1) := (blk_cell BKg4.out 0).trans rfl))
  go_ret2
  exact ⟨rfl, HB.out⟩
set_option maxHeartbeats 8000000 in
set_option maxRecDepth 100000 in
theorem derive_bad (A0 : Option Addr) (c0 : Nat) (l0 : List (List S31)) (a1 a2 : Int) (w : World) (hr0 : Kd.C (Kd.slice 31 k31) w A0 l0.length l0) (hc0 : l0.length ≤ c0) (hck : fixpoint_Check.f l0 = some 0) (hbad : a1 < 0 ∨ (l0.length : Int) ≤ a1 ∨ a2 < 0 ∨ 20 ≤ a2) :
    Calls Try.prog 15 #[.slice A0 l0.length c0, .int .i64 a1, .int .i64 a2] w fun e w' => e = .returned (.tuple #[.slice none 0 0, .int .i64 1]) ∧ Below w.heap.size w w' := by
  have hu22 := Try.underlying22
  have hu41 := Try.underlying41
  have hu59 := Try.underlying59
  have hu61 := Try.underlying61
  have HR := Aside0.mk hr0
  have HC := Aside0.mk hc0
  have HCK := Aside0.mk hck
  clear hr0 hc0 hck
  by_cases h0 : a1 < 0
  · have d0 : decide (a1 < 0) = true := decide_eq_true h0
    clear h0 hbad
    go_enter Try.func15, Try.ntmps15
    go_wp2_with (first | ((with_reducible refine gate_dst (N := 3) rfl ?_); refine box_event ?hg (N := 3) ?hd (cs := #[.slice A0 l0.length c0]) (t := 22) ?hr ?_; (case hd => rfl); (case hg => rfl); (case hr => first | (go_simp; done) | (go_simp; rfl)); intro g3 hg w3 hbox hb; have BKg3 := Aside0.mk hbox; have HB := Aside0.mk hb; have hc3 : w3.cell? ⟨g3, 0, none⟩ = some (.slice A0 l0.length c0) := (blk_cell hbox 0).trans rfl; clear hbox hb hg) | ((with_reducible refine gate_dst (N := 4) rfl ?_); refine box_event ?hg (N := 4) ?hd (cs := #[.int .i64 a1]) (t := 3) ?hr ?_; (case hd => rfl); (case hg => rfl); (case hr => first | (go_simp; done) | (go_simp; rfl)); intro g4 hg w4 hbox hb; have BKg4 := Aside0.mk hbox; have n1_ := Aside0.mk (below_step HB.out hb); have n2_ := Aside0.mk (blk_below BKg3.out hb); clear HB BKg3 hc3; have HB := n1_; have BKg3 := n2_; clear n1_ n2_; have hc3 : w4.cell? ⟨g3, 0, none⟩ = some (.slice A0 l0.length c0) := (blk_cell BKg3.out 0).trans rfl; have hc4 : w4.cell? ⟨g4, 0, none⟩ = some (.int .i64 a1) := (blk_cell BKg4.out 0).trans rfl; clear hbox hb hg) | (go_at_call 18; refine (fixpoint_Check.calls A0 c0 l0 0 _ (Kd.C_below HR.out HB.out) HC.out HCK.out).mono ?_; rintro e_ w5 ⟨rfl, hb⟩; clear hc3 hc4; have n0_ := Aside0.mk (below_step HB.out hb); have n1_ := Aside0.mk (blk_below BKg3.out hb); have n2_ := Aside0.mk (blk_below BKg4.out hb); clear HB BKg3 BKg4; have HB := n0_; have BKg3 := n1_; have BKg4 := n2_; clear n0_ n1_ n2_; clear hb; have hc3 : w5.cell? ⟨g3, 0, none⟩ = some (.slice A0 l0.length c0) := (blk_cell BKg3.out 0).trans rfl; have hc4 : w5.cell? ⟨g4, 0, none⟩ = some (.int .i64 a1) := (blk_cell BKg4.out 0).trans rfl))
    go_ret2
    exact ⟨rfl, HB.out⟩
  have d0 : decide (a1 < 0) = false := decide_eq_false h0
  by_cases h1 : (l0.length : Int) ≤ a1
  · have d1 : decide ((l0.length : Int) ≤ a1) = true := decide_eq_true h1
    clear h1 hbad
    go_enter Try.func15, Try.ntmps15
    go_wp2_with (first | ((with_reducible refine gate_dst (N := 3) rfl ?_); refine box_event ?hg (N := 3) ?hd (cs := #[.slice A0 l0.length c0]) (t := 22) ?hr ?_; (case hd => rfl); (case hg => rfl); (case hr => first | (go_simp; done) | (go_simp; rfl)); intro g3 hg w3 hbox hb; have BKg3 := Aside0.mk hbox; have HB := Aside0.mk hb; have hc3 : w3.cell? ⟨g3, 0, none⟩ = some (.slice A0 l0.length c0) := (blk_cell hbox 0).trans rfl; clear hbox hb hg) | ((with_reducible refine gate_dst (N := 4) rfl ?_); refine box_event ?hg (N := 4) ?hd (cs := #[.int .i64 a1]) (t := 3) ?hr ?_; (case hd => rfl); (case hg => rfl); (case hr => first | (go_simp; done) | (go_simp; rfl)); intro g4 hg w4 hbox hb; have BKg4 := Aside0.mk hbox; have n1_ := Aside0.mk (below_step HB.out hb); have n2_ := Aside0.mk (blk_below BKg3.out hb); clear HB BKg3 hc3; have HB := n1_; have BKg3 := n2_; clear n1_ n2_; have hc3 : w4.cell? ⟨g3, 0, none⟩ = some (.slice A0 l0.length c0) := (blk_cell BKg3.out 0).trans rfl; have hc4 : w4.cell? ⟨g4, 0, none⟩ = some (.int .i64 a1) := (blk_cell BKg4.out 0).trans rfl; clear hbox hb hg) | (go_at_call 18; refine (fixpoint_Check.calls A0 c0 l0 0 _ (Kd.C_below HR.out HB.out) HC.out HCK.out).mono ?_; rintro e_ w5 ⟨rfl, hb⟩; clear hc3 hc4; have n0_ := Aside0.mk (below_step HB.out hb); have n1_ := Aside0.mk (blk_below BKg3.out hb); have n2_ := Aside0.mk (blk_below BKg4.out hb); clear HB BKg3 BKg4; have HB := n0_; have BKg3 := n1_; have BKg4 := n2_; clear n0_ n1_ n2_; clear hb; have hc3 : w5.cell? ⟨g3, 0, none⟩ = some (.slice A0 l0.length c0) := (blk_cell BKg3.out 0).trans rfl; have hc4 : w5.cell? ⟨g4, 0, none⟩ = some (.int .i64 a1) := (blk_cell BKg4.out 0).trans rfl))
    go_ret2
    exact ⟨rfl, HB.out⟩
  have d1 : decide ((l0.length : Int) ≤ a1) = false := decide_eq_false h1
  by_cases h2 : a2 < 0
  · have d2 : decide (a2 < 0) = true := decide_eq_true h2
    clear h2 hbad
    go_enter Try.func15, Try.ntmps15
    go_wp2_with (first | ((with_reducible refine gate_dst (N := 3) rfl ?_); refine box_event ?hg (N := 3) ?hd (cs := #[.slice A0 l0.length c0]) (t := 22) ?hr ?_; (case hd => rfl); (case hg => rfl); (case hr => first | (go_simp; done) | (go_simp; rfl)); intro g3 hg w3 hbox hb; have BKg3 := Aside0.mk hbox; have HB := Aside0.mk hb; have hc3 : w3.cell? ⟨g3, 0, none⟩ = some (.slice A0 l0.length c0) := (blk_cell hbox 0).trans rfl; clear hbox hb hg) | ((with_reducible refine gate_dst (N := 4) rfl ?_); refine box_event ?hg (N := 4) ?hd (cs := #[.int .i64 a1]) (t := 3) ?hr ?_; (case hd => rfl); (case hg => rfl); (case hr => first | (go_simp; done) | (go_simp; rfl)); intro g4 hg w4 hbox hb; have BKg4 := Aside0.mk hbox; have n1_ := Aside0.mk (below_step HB.out hb); have n2_ := Aside0.mk (blk_below BKg3.out hb); clear HB BKg3 hc3; have HB := n1_; have BKg3 := n2_; clear n1_ n2_; have hc3 : w4.cell? ⟨g3, 0, none⟩ = some (.slice A0 l0.length c0) := (blk_cell BKg3.out 0).trans rfl; have hc4 : w4.cell? ⟨g4, 0, none⟩ = some (.int .i64 a1) := (blk_cell BKg4.out 0).trans rfl; clear hbox hb hg) | (go_at_call 18; refine (fixpoint_Check.calls A0 c0 l0 0 _ (Kd.C_below HR.out HB.out) HC.out HCK.out).mono ?_; rintro e_ w5 ⟨rfl, hb⟩; clear hc3 hc4; have n0_ := Aside0.mk (below_step HB.out hb); have n1_ := Aside0.mk (blk_below BKg3.out hb); have n2_ := Aside0.mk (blk_below BKg4.out hb); clear HB BKg3 BKg4; have HB := n0_; have BKg3 := n1_; have BKg4 := n2_; clear n0_ n1_ n2_; clear hb; have hc3 : w5.cell? ⟨g3, 0, none⟩ = some (.slice A0 l0.length c0) := (blk_cell BKg3.out 0).trans rfl; have hc4 : w5.cell? ⟨g4, 0, none⟩ = some (.int .i64 a1) := (blk_cell BKg4.out 0).trans rfl))
    go_ret2
    exact ⟨rfl, HB.out⟩
  have d2 : decide (a2 < 0) = false := decide_eq_false h2
  have d3 : decide (20 ≤ a2) = true := decide_eq_true (by omega)
  clear hbad h0 h1 h2
  go_enter Try.func15, Try.ntmps15
  go_wp2_with (first | ((with_reducible refine gate_dst (N := 3) rfl ?_); refine box_event ?hg (N := 3) ?hd (cs := #[.slice A0 l0.length c0]) (t := 22) ?hr ?_; (case hd => rfl); (case hg => rfl); (case hr => first | (go_simp; done) | (go_simp; rfl)); intro g3 hg w3 hbox hb; have BKg3 := Aside0.mk hbox; have HB := Aside0.mk hb; have hc3 : w3.cell? ⟨g3, 0, none⟩ = some (.slice A0 l0.length c0) := (blk_cell hbox 0).trans rfl; clear hbox hb hg) | ((with_reducible refine gate_dst (N := 4) rfl ?_); refine box_event ?hg (N := 4) ?hd (cs := #[.int .i64 a1]) (t := 3) ?hr ?_; (case hd => rfl); (case hg => rfl); (case hr => first | (go_simp; done) | (go_simp; rfl)); intro g4 hg w4 hbox hb; have BKg4 := Aside0.mk hbox; have n1_ := Aside0.mk (below_step HB.out hb); have n2_ := Aside0.mk (blk_below BKg3.out hb); clear HB BKg3 hc3; have HB := n1_; have BKg3 := n2_; clear n1_ n2_; have hc3 : w4.cell? ⟨g3, 0, none⟩ = some (.slice A0 l0.length c0) := (blk_cell BKg3.out 0).trans rfl; have hc4 : w4.cell? ⟨g4, 0, none⟩ = some (.int .i64 a1) := (blk_cell BKg4.out 0).trans rfl; clear hbox hb hg) | (go_at_call 18; refine (fixpoint_Check.calls A0 c0 l0 0 _ (Kd.C_below HR.out HB.out) HC.out HCK.out).mono ?_; rintro e_ w5 ⟨rfl, hb⟩; clear hc3 hc4; have n0_ := Aside0.mk (below_step HB.out hb); have n1_ := Aside0.mk (blk_below BKg3.out hb); have n2_ := Aside0.mk (blk_below BKg4.out hb); clear HB BKg3 BKg4; have HB := n0_; have BKg3 := n1_; have BKg4 := n2_; clear n0_ n1_ n2_; clear hb; have hc3 : w5.cell? ⟨g3, 0, none⟩ = some (.slice A0 l0.length c0) := (blk_cell BKg3.out 0).trans rfl; have hc4 : w5.cell? ⟨g4, 0, none⟩ = some (.int .i64 a1) := (blk_cell BKg4.out 0).trans rfl))
  go_ret2
  exact ⟨rfl, HB.out⟩
theorem dpass_len (e : Int) : ∀ (ls : List (List S31)) (i : Int) (D : List Bool) (st : List S59) (pr : Bool), (dpass e ls i D st pr).2.1.length ≤ st.length + ls.length
  | [], _, D, st, pr => Nat.le_refl _
  | l :: ls, i, D, st, pr => by
    rw [dpass_cons, List.length_cons]
    split
    · have := dpass_len e ls (i + 1) D st pr; omega
    · split
      · have := dpass_len e ls (i + 1) (D.set i.toNat true) (st ++ [⟨i, ixs (appF e D) l 0, e⟩]) true
        rw [List.length_append] at this
        simp only [List.length_cons, List.length_nil] at this
        omega
      · have := dpass_len e ls (i + 1) D st pr; omega
theorem dloop_len (e : Int) (R : List (List S31)) : ∀ (k : Nat) (D : List Bool) (st r : List S59), dloop e R k D st = some r → r.length ≤ st.length + k * R.length
  | 0, _, _, _, h => by cases h
  | k + 1, D, st, r, h => by
    unfold dloop at h
    have h1 := dpass_len e R 0 D st false
    rw [Nat.add_mul, Nat.one_mul]
    split at h
    · have := dloop_len e R k _ _ r h; omega
    · have := Option.some.inj h
      rw [← this]
      omega
set_option maxHeartbeats 8000000 in
set_option maxRecDepth 100000 in
theorem derive_none (A0 : Option Addr) (c0 : Nat) (l0 : List (List S31)) (a1 a2 : Int) (st : List S59) (w : World) (hr0 : Kd.C (Kd.slice 31 k31) w A0 l0.length l0) (hc0 : l0.length ≤ c0) (hck : fixpoint_Check.f l0 = some 0) (h1 : 0 ≤ a1) (h2 : a1 < (l0.length : Int)) (h3 : 0 ≤ a2) (h4 : a2 < 20)
    (hl : dloop a2 l0 (l0.length + 2) (List.replicate l0.length false) [] = some st) (kx : Int) (hix : ixs (setF a1) st 0 = kx) (hk : kx < 0) :
    Calls Try.prog 15 #[.slice A0 l0.length c0, .int .i64 a1, .int .i64 a2] w fun e w' => e = .returned (.tuple #[.slice none 0 0, .int .i64 5]) ∧ Below w.heap.size w w' := by
  have hu22 := Try.underlying22
  have hu41 := Try.underlying41
  have hu59 := Try.underlying59
  have hu61 := Try.underlying61
  have HR := Aside0.mk hr0
  have HC := Aside0.mk hc0
  have HCK := Aside0.mk hck
  clear hr0 hc0 hck
  have d0 : decide (a1 < 0) = false := decide_eq_false (by omega)
  have d1 : decide ((l0.length : Int) ≤ a1) = false := decide_eq_false (by omega)
  have d2 : decide (a2 < 0) = false := decide_eq_false (by omega)
  have d3 : decide (20 ≤ a2) = false := decide_eq_false (by omega)
  have HN := Aside0.mk (show 0 < l0.length from by omega)
  have HA1 := Aside0.mk (And.intro h1 h2)
  have HA2 := Aside0.mk (And.intro h3 h4)
  have HL := Aside0.mk hl
  have HLS := Aside0.mk (show st.length ≤ 3720 from by
    have e1 := dloop_len a2 l0 _ _ _ _ hl
    have e2 := (okr_of HCK.out).n60
    have e3 : (l0.length + 2) * l0.length ≤ 62 * 60 := Nat.mul_le_mul (by omega) e2
    simp only [List.length_nil, Nat.zero_add] at e1
    omega)
  have HIX := Aside0.mk hix
  clear h1 h2 h3 h4 hl hix
  have hk1 : decide (kx < 0) = true := decide_eq_true hk
  clear hk
  go_enter Try.func15, Try.ntmps15
  go_wp2_with (first | ((with_reducible refine gate_dst (N := 3) rfl ?_); refine box_event ?hg (N := 3) ?hd (cs := #[.slice A0 l0.length c0]) (t := 22) ?hr ?_; (case hd => rfl); (case hg => rfl); (case hr => first | (go_simp; done) | (go_simp; rfl)); intro g3 hg w3 hbox hb; have BKg3 := Aside0.mk hbox; have HB := Aside0.mk hb; have hc3 : w3.cell? ⟨g3, 0, none⟩ = some (.slice A0 l0.length c0) := (blk_cell hbox 0).trans rfl; clear hbox hb hg) | ((with_reducible refine gate_dst (N := 4) rfl ?_); refine box_event ?hg (N := 4) ?hd (cs := #[.int .i64 a1]) (t := 3) ?hr ?_; (case hd => rfl); (case hg => rfl); (case hr => first | (go_simp; done) | (go_simp; rfl)); intro g4 hg w4 hbox hb; have BKg4 := Aside0.mk hbox; have n1_ := Aside0.mk (below_step HB.out hb); have n2_ := Aside0.mk (blk_below BKg3.out hb); clear HB BKg3 hc3; have HB := n1_; have BKg3 := n2_; clear n1_ n2_; have hc3 : w4.cell? ⟨g3, 0, none⟩ = some (.slice A0 l0.length c0) := (blk_cell BKg3.out 0).trans rfl; have hc4 : w4.cell? ⟨g4, 0, none⟩ = some (.int .i64 a1) := (blk_cell BKg4.out 0).trans rfl; clear hbox hb hg) | (go_at_call 18; refine (fixpoint_Check.calls A0 c0 l0 0 _ (Kd.C_below HR.out HB.out) HC.out HCK.out).mono ?_; rintro e_ w5 ⟨rfl, hb⟩; clear hc3 hc4; have n0_ := Aside0.mk (below_step HB.out hb); have n1_ := Aside0.mk (blk_below BKg3.out hb); have n2_ := Aside0.mk (blk_below BKg4.out hb); clear HB BKg3 BKg4; have HB := n0_; have BKg3 := n1_; have BKg4 := n2_; clear n0_ n1_ n2_; clear hb; have hc3 : w5.cell? ⟨g3, 0, none⟩ = some (.slice A0 l0.length c0) := (blk_cell BKg3.out 0).trans rfl; have hc4 : w5.cell? ⟨g4, 0, none⟩ = some (.int .i64 a1) := (blk_cell BKg4.out 0).trans rfl) | (go_at_call 25; refine (derivations_calls A0 c0 l0 a2 (l0.length + 2) st _ (Kd.C_below HR.out HB.out) HC.out (okr_of HCK.out) HN.out HA2.out.1 HA2.out.2 (by have h_ := (okr_of HCK.out).n60; omega) HL.out).mono ?_; rintro e_ w6 ⟨v6, rfl, hst, hb⟩; have HST := Aside0.mk (Kd.R_lower hst HB.out.size); obtain ⟨As, cs, ev6⟩ := Kd.R_slice hst; subst ev6; clear hc3 hc4 hst; have n0_ := Aside0.mk (below_step HB.out hb); have n1_ := Aside0.mk (blk_below BKg3.out hb); have n2_ := Aside0.mk (blk_below BKg4.out hb); clear HB BKg3 BKg4; have HB := n0_; have BKg3 := n1_; have BKg4 := n2_; clear n0_ n1_ n2_; clear hb; have hc3 : w6.cell? ⟨g3, 0, none⟩ = some (.slice A0 l0.length c0) := (blk_cell BKg3.out 0).trans rfl; have hc4 : w6.cell? ⟨g4, 0, none⟩ = some (.int .i64 a1) := (blk_cell BKg4.out 0).trans rfl) | (go_at_call 26; refine (index26s As cs st a1 g4 _ (Kd.R_reads' HST.out).2.2 (Kd.R_reads' HST.out).2.1 (by have h_ := HLS.out; omega) BKg4.out).mono ?_; rintro e_ w7 ⟨he, hb⟩; rw [HIX.out] at he; subst he; clear hc3 hc4; have n0_ := Aside0.mk (below_step HB.out hb); have n1_ := Aside0.mk (blk_below BKg3.out hb); have n2_ := Aside0.mk (blk_below BKg4.out hb); have n3_ := Aside0.mk (Kd.R_below HST.out hb); clear HB BKg3 BKg4 HST; have HB := n0_; have BKg3 := n1_; have BKg4 := n2_; have HST := n3_; clear n0_ n1_ n2_ n3_; clear hb; have hc3 : w7.cell? ⟨g3, 0, none⟩ = some (.slice A0 l0.length c0) := (blk_cell BKg3.out 0).trans rfl; have hc4 : w7.cell? ⟨g4, 0, none⟩ = some (.int .i64 a1) := (blk_cell BKg4.out 0).trans rfl))
  go_ret2
  exact ⟨rfl, HB.out⟩
theorem Kd.below_of_grown0 {W W' : World} (h : W.grownBy W' none) : Below W.heap.size W W' := ⟨h.os, h.tape, h.output, h.size, fun i hi => h.block i hi (by simp)⟩
set_option maxHeartbeats 16000000 in
set_option maxRecDepth 100000 in
theorem derive_some (A0 : Option Addr) (c0 : Nat) (l0 : List (List S31)) (a1 a2 : Int) (st : List S59) (w : World) (hr0 : Kd.C (Kd.slice 31 k31) w A0 l0.length l0) (hc0 : l0.length ≤ c0) (hck : fixpoint_Check.f l0 = some 0) (h1 : 0 ≤ a1) (h2 : a1 < (l0.length : Int)) (h3 : 0 ≤ a2) (h4 : a2 < 20)
    (hl : dloop a2 l0 (l0.length + 2) (List.replicate l0.length false) [] = some st) (hwf : ∀ s ∈ st, (0 ≤ s.f0 ∧ s.f0 < (l0.length : Int)) ∧ 0 ≤ s.f1 ∧ s.f1 < ((rd_L3 l0 s.f0).length : Int)) (kx : Nat) (hkx : kx < st.length) (hix : ixs (setF a1) st 0 = (kx : Int)) :
    Calls Try.prog 15 #[.slice A0 l0.length c0, .int .i64 a1, .int .i64 a2] w fun e w' => ∃ v, e = .returned (.tuple #[v, .int .i64 0]) ∧ Kd.R k59 59 w' w.heap.size (fun _ => True) v (proofF l0 a1 (st.take (kx + 1))) ∧ Below w.heap.size w w' := by
  have hu22 := Try.underlying22
  have hu41 := Try.underlying41
  have hu59 := Try.underlying59
  have hu61 := Try.underlying61
  have HR := Aside0.mk hr0
  have HC := Aside0.mk hc0
  have HCK := Aside0.mk hck
  clear hr0 hc0 hck
  have d0 : decide (a1 < 0) = false := decide_eq_false (by omega)
  have d1 : decide ((l0.length : Int) ≤ a1) = false := decide_eq_false (by omega)
  have d2 : decide (a2 < 0) = false := decide_eq_false (by omega)
  have d3 : decide (20 ≤ a2) = false := decide_eq_false (by omega)
  have HN := Aside0.mk (show 0 < l0.length from by omega)
  have HA1 := Aside0.mk (And.intro h1 h2)
  have HA2 := Aside0.mk (And.intro h3 h4)
  have HL := Aside0.mk hl
  have HLS := Aside0.mk (show st.length ≤ 3720 from by
    have e1 := dloop_len a2 l0 _ _ _ _ hl
    have e2 := (okr_of HCK.out).n60
    have e3 : (l0.length + 2) * l0.length ≤ 62 * 60 := Nat.mul_le_mul (by omega) e2
    simp only [List.length_nil, Nat.zero_add] at e1
    omega)
  have HIX := Aside0.mk hix
  clear h1 h2 h3 h4 hl hix
  have hk1 : decide ((kx : Int) < 0) = false := decide_eq_false (by omega)
  have HKX := Aside0.mk hkx
  have HWF := Aside0.mk hwf
  clear hkx hwf
  have hf15 : Fence.wide.fn 40 := trivial
  refine (callsIn_wide (n := 9)).1 ?_
  refine callsIn_of_wp_marks Try.func15 rfl trivial ?_ rfl
  simp only [Try.ntmps15, List.size_toArray, List.length_cons, List.length_nil, Nat.reduceAdd, Nat.reduceSub, Array.replicate_succ, Array.replicate_zero, List.push_toArray, List.append_toArray, List.nil_append, List.cons_append]
  refine wpIn_wide.2 ?_
  go_upto_region 11 with (first | ((with_reducible refine gate_dst (N := 3) rfl ?_); refine box_event ?hg (N := 3) ?hd (cs := #[.slice A0 l0.length c0]) (t := 22) ?hr ?_; (case hd => rfl); (case hg => rfl); (case hr => first | (go_simp; done) | (go_simp; rfl)); intro g3 hg w3 hbox hb; have BKg3 := Aside0.mk hbox; have HB := Aside0.mk hb; have hc3 : w3.cell? ⟨g3, 0, none⟩ = some (.slice A0 l0.length c0) := (blk_cell hbox 0).trans rfl; clear hbox hb hg) | ((with_reducible refine gate_dst (N := 4) rfl ?_); refine box_event ?hg (N := 4) ?hd (cs := #[.int .i64 a1]) (t := 3) ?hr ?_; (case hd => rfl); (case hg => rfl); (case hr => first | (go_simp; done) | (go_simp; rfl)); intro g4 hg w4 hbox hb; have BKg4 := Aside0.mk hbox; have n1_ := Aside0.mk (below_step HB.out hb); have n2_ := Aside0.mk (blk_below BKg3.out hb); clear HB BKg3 hc3; have HB := n1_; have BKg3 := n2_; clear n1_ n2_; have hc3 : w4.cell? ⟨g3, 0, none⟩ = some (.slice A0 l0.length c0) := (blk_cell BKg3.out 0).trans rfl; have hc4 : w4.cell? ⟨g4, 0, none⟩ = some (.int .i64 a1) := (blk_cell BKg4.out 0).trans rfl; clear hbox hb hg) | (go_at_call 18; refine (fixpoint_Check.calls A0 c0 l0 0 _ (Kd.C_below HR.out HB.out) HC.out HCK.out).mono ?_; rintro e_ w5 ⟨rfl, hb⟩; clear hc3 hc4; have n0_ := Aside0.mk (below_step HB.out hb); have n1_ := Aside0.mk (blk_below BKg3.out hb); have n2_ := Aside0.mk (blk_below BKg4.out hb); clear HB BKg3 BKg4; have HB := n0_; have BKg3 := n1_; have BKg4 := n2_; clear n0_ n1_ n2_; clear hb; have hc3 : w5.cell? ⟨g3, 0, none⟩ = some (.slice A0 l0.length c0) := (blk_cell BKg3.out 0).trans rfl; have hc4 : w5.cell? ⟨g4, 0, none⟩ = some (.int .i64 a1) := (blk_cell BKg4.out 0).trans rfl) | (go_at_call 25; refine (derivations_calls A0 c0 l0 a2 (l0.length + 2) st _ (Kd.C_below HR.out HB.out) HC.out (okr_of HCK.out) HN.out HA2.out.1 HA2.out.2 (by have h_ := (okr_of HCK.out).n60; omega) HL.out).mono ?_; rintro e_ w6 ⟨v6, rfl, hst, hb⟩; have HST := Aside0.mk (Kd.R_lower hst HB.out.size); obtain ⟨As, cs, ev6⟩ := Kd.R_slice hst; subst ev6; clear hc3 hc4 hst; have n0_ := Aside0.mk (below_step HB.out hb); have n1_ := Aside0.mk (blk_below BKg3.out hb); have n2_ := Aside0.mk (blk_below BKg4.out hb); clear HB BKg3 BKg4; have HB := n0_; have BKg3 := n1_; have BKg4 := n2_; clear n0_ n1_ n2_; clear hb; have hc3 : w6.cell? ⟨g3, 0, none⟩ = some (.slice A0 l0.length c0) := (blk_cell BKg3.out 0).trans rfl; have hc4 : w6.cell? ⟨g4, 0, none⟩ = some (.int .i64 a1) := (blk_cell BKg4.out 0).trans rfl) | (go_at_call 26; refine (index26s As cs st a1 g4 _ (Kd.R_reads' HST.out).2.2 (Kd.R_reads' HST.out).2.1 (by have h_ := HLS.out; omega) BKg4.out).mono ?_; rintro e_ w7 ⟨he, hb⟩; rw [HIX.out] at he; subst he; clear hc3 hc4; have n0_ := Aside0.mk (below_step HB.out hb); have n1_ := Aside0.mk (blk_below BKg3.out hb); have n2_ := Aside0.mk (blk_below BKg4.out hb); have n3_ := Aside0.mk (Kd.R_below HST.out hb); clear HB BKg3 BKg4 HST; have HB := n0_; have BKg3 := n1_; have BKg4 := n2_; have HST := n3_; clear n0_ n1_ n2_ n3_; clear hb; have hc3 : w7.cell? ⟨g3, 0, none⟩ = some (.slice A0 l0.length c0) := (blk_cell BKg3.out 0).trans rfl; have hc4 : w7.cell? ⟨g4, 0, none⟩ = some (.int .i64 a1) := (blk_cell BKg4.out 0).trans rfl) | ((with_reducible refine gate_dst (N := 48) rfl ?_); refine Kd.R_make Kd.bool w.heap.size 4 rfl (N := 48) rfl 61 _ _ rfl (l0.length : Int) rfl rfl Try.underlying61 (.bool false) 1 info4 rfl (by decide) (by omega) false (ok := fun _ => True) (okp := fun _ => True) rfl (fun _ hk => hk) trivial (by omega) (by have h_ := (okr_of HCK.out).n60; omega) HB.out HB.out.size ?_; intro v1 w8 ho hb_ hg hnew; have hb := Kd.below_of_grown0 hg; rw [Int.toNat_natCast] at ho; obtain ⟨gn, capn, ev, hgn⟩ := Kd.R_form ho (by rw [List.length_replicate]; exact HN.out); subst ev; rw [List.length_replicate] at ho; have HD := Aside0.mk ho; clear ho hb_ hg hnew hgn hc3 hc4; have n0_ := Aside0.mk (below_step HB.out hb); have n1_ := Aside0.mk (blk_below BKg3.out hb); have n2_ := Aside0.mk (blk_below BKg4.out hb); have n3_ := Aside0.mk (Kd.R_below HST.out hb); clear HB BKg3 BKg4 HST; have HB := n0_; have BKg3 := n1_; have BKg4 := n2_; have HST := n3_; clear n0_ n1_ n2_ n3_; clear hb; have hc3 : w8.cell? ⟨g3, 0, none⟩ = some (.slice A0 l0.length c0) := (blk_cell BKg3.out 0).trans rfl; have hc4 : w8.cell? ⟨g4, 0, none⟩ = some (.int .i64 a1) := (blk_cell BKg4.out 0).trans rfl) | ((with_reducible refine gate_dst (N := 11) rfl ?_); refine box_event ?hg (N := 11) ?hd (cs := #[.slice none 0 0]) (t := 61) ?hr ?_; (case hd => rfl); (case hg => rfl); (case hr => first | (go_simp; done) | (go_simp; rfl)); intro g11 hg w9 hbox hb; have B11 := Aside0.mk hbox; have GE11 := Aside0.mk (show w.heap.size ≤ g11 from by rw [hg]; exact HB.out.size); clear hc3 hc4; have n0_ := Aside0.mk (below_step HB.out hb); have n1_ := Aside0.mk (blk_below BKg3.out hb); have n2_ := Aside0.mk (blk_below BKg4.out hb); have n3_ := Aside0.mk (Kd.R_below HST.out hb); have n4_ := Aside0.mk (Kd.R_below HD.out hb); clear HB BKg3 BKg4 HST HD; have HB := n0_; have BKg3 := n1_; have BKg4 := n2_; have HST := n3_; have HD := n4_; clear n0_ n1_ n2_ n3_ n4_; clear hb hbox hg; have hc5 : w9.cell? ⟨g11, 0, none⟩ = some (.slice none 0 0) := (blk_cell B11.out 0).trans rfl; have hf5 := blk_frozen B11.out 0; have hc3 : w9.cell? ⟨g3, 0, none⟩ = some (.slice A0 l0.length c0) := (blk_cell BKg3.out 0).trans rfl; have hc4 : w9.cell? ⟨g4, 0, none⟩ = some (.int .i64 a1) := (blk_cell BKg4.out 0).trans rfl))
  have n1_ := Aside0.mk (below_set HB.out GE11.out : Below w.heap.size w (w9.setCell ⟨g11, 0, none⟩ (.slice (some ⟨gn, 0, none⟩) l0.length capn)))
  have NE311 := Aside0.mk (show g3 ≠ g11 from blk_ne BKg3.out B11.out (by decide))
  have NE411 := Aside0.mk (show g4 ≠ g11 from blk_ne BKg4.out B11.out (by decide))
  have n2_ := Aside0.mk (show (w9.setCell ⟨g11, 0, none⟩ (.slice (some ⟨gn, 0, none⟩) l0.length capn)).heap[g3]? = some (.cells #[.slice A0 l0.length c0] 22 (0, 0)) from (Below.heap_setCell _ _ _ _ NE311.out).trans BKg3.out)
  have n3_ := Aside0.mk (show (w9.setCell ⟨g11, 0, none⟩ (.slice (some ⟨gn, 0, none⟩) l0.length capn)).heap[g4]? = some (.cells #[.int .i64 a1] 3 (0, 0)) from (Below.heap_setCell _ _ _ _ NE411.out).trans BKg4.out)
  have n4_ := Aside0.mk (Kd.R_set HST.out B11.out (by decide) 0 (.slice (some ⟨gn, 0, none⟩) l0.length capn))
  have n5_ := Aside0.mk (Kd.R_set HD.out B11.out (by decide) 0 (.slice (some ⟨gn, 0, none⟩) l0.length capn))
  have n6_ := Aside0.mk (blk_set B11.out 0 (.slice (some ⟨gn, 0, none⟩) l0.length capn))
  clear HB BKg3 BKg4 HST HD B11 hc3 hc4 hc5 hf5 NE311 NE411
  generalize (w9.setCell ⟨g11, 0, none⟩ (.slice (some ⟨gn, 0, none⟩) l0.length capn)) = w10 at n1_ n2_ n3_ n4_ n5_ n6_ ⊢
  have HB := n1_
  have BKg3 := n2_
  have BKg4 := n3_
  have HST := n4_
  have HD := n5_
  have B11 := Aside0.mk (show w10.heap[g11]? = some (.cells #[.slice (some ⟨gn, 0, none⟩) l0.length capn] 61 (0, 0)) from n6_.out)
  clear n1_ n2_ n3_ n4_ n5_ n6_
  have hc4 : w10.cell? ⟨g4, 0, none⟩ = some (.int .i64 a1) := (blk_cell BKg4.out 0).trans rfl
  have hc5 : w10.cell? ⟨g11, 0, none⟩ = some (.slice (some ⟨gn, 0, none⟩) l0.length capn) := (blk_cell B11.out 0).trans rfl
  obtain ⟨hd0, hdf⟩ := Kd.R_celln false HD.out a1 HA1.out.1 HA1.out.2
  have p1 := eq_true HA1.out.1
  have p2 := eq_true HA1.out.2
  go_upto_region 12 with (fail)
  obtain ⟨cellsn, hcn⟩ := Kd.R_typed HD.out gn (by simp [Value.ownBlock])
  obtain ⟨hm1, hm2⟩ := Kd.R_putg HD.out a1 true
  have n1_ := Aside0.mk (pw_below_grown HB.out (some gn) HB.out.size hm2 (fun k hk => by injection hk with hk; rw [← hk]; exact Kd.R_base HD.out gn (by simp [Value.ownBlock])))
  have n2_ := Aside0.mk (blk_grown BKg3.out hm2 (fun e_ => by injection e_ with e_; exact blk_ne BKg3.out hcn (by decide) e_))
  have n3_ := Aside0.mk (blk_grown BKg4.out hm2 (fun e_ => by injection e_ with e_; exact blk_ne BKg4.out hcn (by decide) e_))
  have n4_ := Aside0.mk (Kd.R_set HST.out hcn (by decide) a1.toNat (.bool true))
  have n5_ := Aside0.mk hm1
  have n6_ := Aside0.mk (blk_grown B11.out hm2 (fun e_ => by injection e_ with e_; exact blk_ne B11.out hcn (by decide) e_))
  clear HB BKg3 BKg4 HST HD B11 hc4 hc5 hd0 hdf hm1 hm2 hcn
  generalize (w10.setCell ⟨gn, a1.toNat, none⟩ (.bool true)) = w11 at n1_ n2_ n3_ n4_ n5_ n6_ ⊢
  have HB := n1_
  have BKg3 := n2_
  have BKg4 := n3_
  have HST := n4_
  have HD := n5_
  have B11 := n6_
  clear n1_ n2_ n3_ n4_ n5_ n6_ p1 p2
  have hc3 : w11.cell? ⟨g3, 0, none⟩ = some (.slice A0 l0.length c0) := (blk_cell BKg3.out 0).trans rfl
  have hc4 : w11.cell? ⟨g4, 0, none⟩ = some (.int .i64 a1) := (blk_cell BKg4.out 0).trans rfl
  obtain ⟨gs, cs2, evs, _, hgs, _⟩ := Kd.R_form HST.out (by have h_ := HKX.out; omega)
  cases evs
  obtain ⟨i9, hi9, _, hsz9, _⟩ := info_parts info59
  have hcut := cut_to (P := Try.prog) 41 59 .i64 Try.underlying41 hi9 (some ⟨gs, 0, none⟩) st.length cs ((kx : Int) + 1) (by omega) (by have h_ := HKX.out; omega) (Kd.R_reads' HST.out).2.1
  rw [show ((kx : Int) + 1).toNat = kx + 1 from by omega] at hcut
  have hwk : wrap64 ((kx : Int) + 1) = (kx : Int) + 1 := w64_id' (by omega) (by have h1_ := HKX.out; have h2_ := HLS.out; omega)
  have hwkb : IntKind.i64.wrap ((kx : Int) + 1) = (kx : Int) + 1 := (i64_w _).trans hwk
  clear hgs hi9 hsz9
  go_wp2_with (first | ((with_reducible refine gate_dst (N := 12) rfl ?_); refine box_event ?hg (N := 12) ?hd (cs := #[.slice none 0 0]) (t := 41) ?hr ?_; (case hd => rfl); (case hg => rfl); (case hr => first | (go_simp; done) | (go_simp; rfl)); intro g12 hg w12 hbox hb; have B12 := Aside0.mk hbox; have GE12 := Aside0.mk (show w.heap.size ≤ g12 from by rw [hg]; exact HB.out.size); clear hc3 hc4; have n0_ := Aside0.mk (below_step HB.out hb); have n1_ := Aside0.mk (blk_below BKg3.out hb); have n2_ := Aside0.mk (blk_below BKg4.out hb); have n3_ := Aside0.mk (Kd.R_below HST.out hb); have n4_ := Aside0.mk (Kd.R_below HD.out hb); have n5_ := Aside0.mk (blk_below B11.out hb); clear HB BKg3 BKg4 HST HD B11; have HB := n0_; have BKg3 := n1_; have BKg4 := n2_; have HST := n3_; have HD := n4_; have B11 := n5_; clear n0_ n1_ n2_ n3_ n4_ n5_; clear hb hbox hg; have hc3 : w12.cell? ⟨g3, 0, none⟩ = some (.slice A0 l0.length c0) := (blk_cell BKg3.out 0).trans rfl; have hc4 : w12.cell? ⟨g4, 0, none⟩ = some (.int .i64 a1) := (blk_cell BKg4.out 0).trans rfl) | (go_at_call 28; refine (back28 (some ⟨gs, 0, none⟩) (kx + 1) cs _).mono ?_; rintro e_ w13 ⟨rfl, hw13⟩; have hb := below_alloc (Below.refl w12.heap.size w12) (.cells #[.slice (some ⟨gs, 0, none⟩) (kx + 1) cs] 41); rw [← hw13] at hb; have BB1 := Aside0.mk (show w13.heap[w12.heap.size]? = some (.cells #[.slice (some ⟨gs, 0, none⟩) (kx + 1) cs] 41 (0, 0)) from by rw [hw13]; exact blk_new _ _); have LTS := Aside0.mk (show g12 < w12.heap.size ∧ gs < w12.heap.size from ⟨blk_lt B12.out, Kd.R_lt HST.out gs (by simp [Value.ownBlock])⟩); clear hc3 hc4 hw13; have n0_ := Aside0.mk (below_step HB.out hb); have n1_ := Aside0.mk (blk_below BKg3.out hb); have n2_ := Aside0.mk (blk_below BKg4.out hb); have n3_ := Aside0.mk (Kd.R_below HST.out hb); have n4_ := Aside0.mk (Kd.R_below HD.out hb); have n5_ := Aside0.mk (blk_below B11.out hb); have n6_ := Aside0.mk (blk_below B12.out hb); clear HB BKg3 BKg4 HST HD B11 B12; have HB := n0_; have BKg3 := n1_; have BKg4 := n2_; have HST := n3_; have HD := n4_; have B11 := n5_; have B12 := n6_; clear n0_ n1_ n2_ n3_ n4_ n5_ n6_; clear hb; generalize w12.heap.size = B1 at BB1 LTS ⊢))
  refine (wpIn_wide (n := 9)).1 ?_
  obtain ⟨xs, hxs⟩ : ∃ xs, xs = st.take (kx + 1) := ⟨_, rfl⟩
  have hxl : xs.length = kx + 1 := by rw [hxs, List.length_take]; have h_ := HKX.out; omega
  have hgsz : gs < w13.heap.size := Kd.R_lt HST.out gs (by simp [Value.ownBlock])
  obtain ⟨cgs, hcgs⟩ := Kd.R_typed HST.out gs (by simp [Value.ownBlock])
  have hRs : ∀ W', K2 B1 gs w13 W' → Kd.C k59 W' (some ⟨gs, 0, none⟩) xs.length xs := by
    intro W' hk
    have h1 := Kd.R_step (Kd.R_tight rfl HST.out) (w1 := W') (fun k hk1 _ => by
      have hk2 : gs = k := by simpa [Value.ownBlock] using hk1.symm
      rw [← hk2]; exact hk.2)
    rw [hxs]
    exact Kd.C_take (Kd.R_reads' h1).2.2 (by have h_ := HKX.out; omega)
  have HWX := Aside0.mk (show ∀ k : Nat, k < xs.length → (0 ≤ (rd_T59 xs (k : Int)).f0 ∧ (rd_T59 xs (k : Int)).f0 < (l0.length : Int)) ∧ 0 ≤ (rd_T59 xs (k : Int)).f1 ∧ (rd_T59 xs (k : Int)).f1 < ((rd_L3 l0 (rd_T59 xs (k : Int)).f0).length : Int) from fun k hk => HWF.out _ (by
    have h1 : rd_T59 xs (k : Int) = xs[k] := by unfold rd_T59; simp [hk]
    have h2 : xs[k] ∈ st.take (kx + 1) := hxs ▸ List.getElem_mem hk
    rw [h1]
    exact List.mem_of_mem_take h2))
  have HBI0 := Aside0.mk (show Bi w w13 g3 g11 g12 gn capn gs B1 (.slice (some ⟨gs, 0, none⟩) (kx + 1) cs) A0 c0 l0.length (bkF l0 a1 xs []) w13 from
    ⟨BKg3.out, by unfold bkF; simp only [List.foldl_nil, List.length_set, List.length_replicate]; exact B11.out, by unfold bkF; simp only [List.foldl_nil, List.length_set, List.length_replicate]; exact HD.out, ⟨_, B12.out, Kd.R_nil _ _ _ _ _⟩, HB.out, GE12.out, rfl, hgsz, BB1.out, ⟨cgs, hcgs⟩, Nat.ne_of_lt LTS.out.1⟩)
  have HXL := Aside0.mk (show xs.length = kx + 1 ∧ kx < 3720 from ⟨hxl, by have h1_ := HKX.out; have h2_ := HLS.out; omega⟩)
  have HSZ := Aside0.mk (show w.heap.size ≤ w13.heap.size ∧ B1 < w13.heap.size ∧ gs < w13.heap.size from ⟨HB.out.size, blk_lt BB1.out, hgsz⟩)
  have HRS := Aside0.mk hRs
  have BB2 := Aside0.mk (show w13.heap[B1]? = some (.cells #[.slice (some ⟨gs, 0, none⟩) xs.length cs] 41 (0, 0)) from by rw [hxl]; exact BB1.out)
  have HXS := Aside0.mk hxs
  clear hxs
  clear hRs hxl hgsz hcgs HB BKg3 BKg4 HST HD B11 B12 BB1
  try clear hc3
  try clear hc4
  try clear hcut
  try clear hwk
  try clear hwkb
  refine wpIn_rangeFunc_ownH rfl (by decide) (gf := 40) (lb := #[.pointer (some ⟨B1, 0, none⟩)]) rfl trivial (enters_of Try.func40 (by kernel_rfl) rfl)
    (back_stops (9 - 1) B1 gs cs ⟨gs, 0, none⟩ xs (by have h_ := HXL.out; omega) (by have h_ := HXL.out; omega) w13 BB2.out HSZ.out.2.2 HRS.out) K2.trans (fun W l o o' h1 h2 h3 h4 => ⟨World.putObj_heap_other (by have h_ := HSZ.out; omega), World.putObj_heap_other (by have h_ := HSZ.out; omega)⟩) (Below.refl _ _) (fun _ => rfl)
    (fun pre W => Bi w w13 g3 g11 g12 gn capn gs B1 (.slice (some ⟨gs, 0, none⟩) (kx + 1) cs) A0 c0 l0.length (bkF l0 a1 xs (pre.map (·.1))) W) (fun _ _ _ => False) (Bi.own w w13 g3 g11 g12 gn capn gs B1 _ A0 c0 l0.length _ _ HSZ.out.1) (fun _ _ _ _ _ hs _ _ => hs) HBI0.out
    (fun x a' W => Ax w g12 (fun g14 s => let k : Int := ((x.1 : Nat) : Int); { tmps := #[Value.slice A0 l0.length c0, Value.int IntKind.i64 a1, Value.int IntKind.i64 a2, Value.pointer (some { block := g3, off := 0 }), Value.pointer (some { block := g4, off := 0 }), undef, Value.slice none 0 0, Value.int IntKind.i64 0, Value.int IntKind.i64 0, Value.slice (some { block := gs, off := 0 }) st.length cs, Value.int IntKind.i64 (kx : Int), Value.pointer (some { block := g11, off := 0 }), Value.pointer (some { block := g12, off := 0 }), undef, Value.pointer (some { block := g14, off := 0 }), undef, undef, Value.slice A0 l0.length c0, Value.int IntKind.i64 0, Value.int IntKind.i64 0, Value.bool false, undef, Value.int IntKind.i64 a1, Value.bool false, Value.bool false, Value.int IntKind.i64 a1, Value.slice A0 l0.length c0, Value.int IntKind.i64 (l0.length : Int), Value.bool false, Value.bool false, Value.bool false, Value.int IntKind.i64 a2, Value.bool false, Value.bool false, Value.bool false, Value.int IntKind.i64 a2, Value.bool false, Value.bool false, Value.slice A0 l0.length c0, Value.int IntKind.i64 a2, Value.slice (some { block := gs, off := 0 }) st.length cs, Value.slice (some { block := gs, off := 0 }) st.length cs, Value.func (Fn.func 27) #[] #[Value.pointer (some { block := g4, off := 0 })], Value.int IntKind.i64 (kx : Int), Value.int IntKind.i64 (kx : Int), Value.bool false, Value.slice A0 l0.length c0, Value.int IntKind.i64 (l0.length : Int), Value.slice (some { block := gn, off := 0 }) l0.length capn, Value.slice (some { block := gn, off := 0 }) l0.length capn, Value.int IntKind.i64 a1, Value.pointer (some { block := gn, off := a1.toNat }), Value.slice (some { block := gs, off := 0 }) st.length cs, Value.int IntKind.i64 (kx : Int), Value.int IntKind.i64 ((kx : Int) + 1), Value.slice (some { block := gs, off := 0 }) (kx + 1) cs, Value.func (Fn.func 40) #[] #[Value.pointer (some { block := B1, off := 0 })], Value.int IntKind.i64 k, Value.agg #[.int .i64 s.f0, .int .i64 s.f1, .int .i64 s.f2], undef, undef, undef, undef, undef, undef, undef, undef, undef, undef, undef, undef, undef, undef, undef, undef, undef, undef, undef, undef, undef, undef, undef, undef, undef, undef, undef, undef, undef, undef, undef, undef], defers := [] }) (rd_T59 xs ((x.1 : Nat) : Int)) a' W) (fun x a' => Ax.own w g12 _ _ a' _) ?assign ?body ?done ?stop
  case assign =>
    intro l pre x W K hi hK
    obtain ⟨s, hs⟩ : ∃ s, s = rd_T59 xs ((x.1 : Nat) : Int) := ⟨_, rfl⟩
    dsimp only
    unfold stepV
    rw [← hs] at hK ⊢
    clear hs
    have HBI := Aside0.mk hi
    obtain ⟨u, hu, hU⟩ := hi.pr
    clear hi
    refine Ri.region_in (by kernel_rfl) (by rintro ⟨_, _, h_⟩; exact h_) ?_
    go_wp2_with ((with_reducible refine gate_dst (N := 14) rfl ?_); refine box_event ?hg (N := 14) ?hd (cs := #[.int .i64 0, .int .i64 0, .int .i64 0]) (t := 59) ?hr ?_; (case hd => rfl); (case hg => rfl); (case hr => first | (go_simp; done) | (go_simp; rfl)); intro g14 hg w14 hbox hb; have BK := Aside0.mk hbox; have HBW := Aside0.mk hb; have GE := Aside0.mk (show W.heap.size = g14 from hg.symm); clear hbox hb hg; have hc0 : w14.cell? ⟨g14, 0, none⟩ = some (.int .i64 0) := (blk_cell BK.out 0).trans rfl; have hf0 := blk_frozen BK.out 0; have hc1 : w14.cell? ⟨g14, 1, none⟩ = some (.int .i64 0) := (blk_cell BK.out 1).trans rfl; have hf1 := blk_frozen BK.out 1; have hc2 : w14.cell? ⟨g14, 2, none⟩ = some (.int .i64 0) := (blk_cell BK.out 2).trans rfl; have hf2 := blk_frozen BK.out 2)
    have n1_ := Aside0.mk (show (((w14.setCell ⟨g14, 0, none⟩ (.int .i64 s.f0)).setCell ⟨g14, 1, none⟩ (.int .i64 s.f1)).setCell ⟨g14, 2, none⟩ (.int .i64 s.f2)).heap[g14]? = some (.cells #[.int .i64 s.f0, .int .i64 s.f1, .int .i64 s.f2] 59 (0, 0)) from by refine blk_put (cs := #[.int .i64 s.f0, .int .i64 s.f1, .int .i64 0]) ?_ 2 _ rfl; refine blk_put (cs := #[.int .i64 s.f0, .int .i64 0, .int .i64 0]) ?_ 1 _ rfl; refine blk_put (cs := #[.int .i64 0, .int .i64 0, .int .i64 0]) ?_ 0 _ rfl; exact BK.out)
    have n2_ : Below W.heap.size W (((w14.setCell ⟨g14, 0, none⟩ (.int .i64 s.f0)).setCell ⟨g14, 1, none⟩ (.int .i64 s.f1)).setCell ⟨g14, 2, none⟩ (.int .i64 s.f2)) := below_set (below_set (below_set HBW.out (Nat.le_of_eq GE.out)) (Nat.le_of_eq GE.out)) (Nat.le_of_eq GE.out)
    have HB2 := HBI.out.below n2_
    exact hK _ _ ((ko_below n2_).from _) (HBI.out.k2 HB2) HB2 ⟨g14, u, rfl, n1_.out, by have h1_ := HBI.out.bel.size; have h2_ := GE.out; omega, blk_below hu n2_, fun e_ => by have h1_ := Kd.R_lt hU g14 e_; have h2_ := GE.out; omega⟩
  case body =>
    rintro l pre x a' W hl ⟨rr, hrl⟩ hbi ⟨g14, u, rfl, h14, hge, h12, hne⟩ hpn
    obtain ⟨s, hs⟩ : ∃ s, s = rd_T59 xs ((x.1 : Nat) : Int) := ⟨_, rfl⟩
    obtain ⟨p, hp⟩ : ∃ p, p = bkF l0 a1 xs (pre.map (·.1)) := ⟨_, rfl⟩
    have hnext : bkF l0 a1 xs ((pre ++ [x]).map (·.1)) = bkStep l0 p s := by rw [List.map_append, hp, hs]; exact bkF_snoc _ _ _ _ _
    have hlen := bkF_len l0 a1 xs (pre.map (·.1))
    have hwx := HWX.out x.1 x.2
    obtain ⟨u_, hu_, hU_⟩ := hbi.pr
    have eu : u_ = u := by
      have h_ := hu_.symm.trans h12
      simp only [Option.some.injEq, Obj.cells.injEq] at h_
      have h2_ := h_.1
      simpa using h2_
    subst eu
    rw [← hp] at hbi hlen hU_
    rw [← hs] at h14 hwx ⊢
    rw [show ownPostG w13.heap.size (K2 B1 gs) (fun pre W => Bi w w13 g3 g11 g12 gn capn gs B1 (.slice (some ⟨gs, 0, none⟩) (kx + 1) cs) A0 c0 l0.length (bkF l0 a1 xs (pre.map (·.1))) W) (fun _ _ _ => False) (pre ++ [x]) W = ownPostG w13.heap.size (K2 B1 gs) (fun (_ : List (Bk xs.length)) W => Bi w w13 g3 g11 g12 gn capn gs B1 (.slice (some ⟨gs, 0, none⟩) (kx + 1) cs) A0 c0 l0.length (bkStep l0 p s) W) (fun _ _ _ => False) (pre ++ [x]) W from by
      funext e a W'
      cases e <;> (unfold ownPostG; simp only [hnext])]
    clear hnext
    simp only []
    have HBI := Aside0.mk hbi
    have B14 := Aside0.mk h14
    have B12 := Aside0.mk h12
    have HNE := Aside0.mk hne
    have HU := Aside0.mk hU_
    have HPL := Aside0.mk (show p.2.length ≤ 3720 ∧ p.1.length = l0.length from ⟨by have h1_ := hlen.2; rw [List.length_map] at h1_; have h2_ := HXL.out; omega, hlen.1⟩)
    have HS1 := Aside0.mk hwx
    have p1 : 0 ≤ s.f0 := hwx.1.1
    have p2 : s.f0 < (p.1.length : Int) := by rw [hlen.1]; exact hwx.1.2
    have p2b : s.f0 < (l0.length : Int) := hwx.1.2
    obtain ⟨hd0, hdf⟩ := Kd.R_celln false hbi.nd s.f0 p1 p2
    have hc11 : W.cell? ⟨g11, 0, none⟩ = some (.slice (some ⟨gn, 0, none⟩) p.1.length capn) := (blk_cell hbi.b11 0).trans rfl
    have hc14_0 : W.cell? ⟨g14, 0, none⟩ = some (.int .i64 s.f0) := (blk_cell h14 0).trans rfl
    have hc14_1 : W.cell? ⟨g14, 1, none⟩ = some (.int .i64 s.f1) := (blk_cell h14 1).trans rfl
    have hc14_2 : W.cell? ⟨g14, 2, none⟩ = some (.int .i64 s.f2) := (blk_cell h14 2).trans rfl
    replace p1 := eq_true p1
    replace p2 := eq_true p2
    replace p2b := eq_true p2b
    clear hlen hwx hu_ hU_ hbi h14 h12 hne hs hp hpn hrl hl
    cases hv : rdOf false p.1 s.f0 with
    | false =>
      rw [hv] at hd0
      have HE := Aside0.mk (show bkStep l0 p s = p from by unfold bkStep; rw [if_neg (by rw [hv]; simp)])
      gi_wp2
      show KeepsFrom _ _ _ ∧ K2 _ _ _ _ ∧ Bi w w13 g3 g11 g12 gn capn gs B1 (.slice (some ⟨gs, 0, none⟩) (kx + 1) cs) A0 c0 l0.length (bkStep l0 p s) _
      rw [HE.out]
      exact ⟨KeepsFrom.refl _ _, ⟨rfl, rfl⟩, HBI.out⟩
    | true =>
      rw [hv] at hd0
      have HE := Aside0.mk (show bkStep l0 p s = ((rd_T31 (rd_L3 l0 s.f0) s.f1).f1.foldl (fun N (j : Int) => N.set j.toNat true) p.1, p.2 ++ [s]) from by unfold bkStep; rw [if_pos hv])
      obtain ⟨Au, cu, eu⟩ := Kd.R_slice HU.out
      subst eu
      have HBIW := HBI
      gi_upto_region 16 with (fail)
      refine Ri.region_in (by kernel_rfl) (by rintro ⟨_, _, h_⟩; exact h_) ?_
      have hc12 : W.cell? ⟨g12, 0, none⟩ = some (.slice Au p.2.length cu) := (blk_cell B12.out 0).trans rfl
      go_wp2_with (at_builtin; refine Kd.R_append k59 (w0 := w) w.heap.size rfl (.tmp 65) (.tmp 67) 41 59 (.agg #[.int .i64 0, .int .i64 0, .int .i64 0]) 24 rfl Try.underlying41 info59 rfl (by decide) (by omega) (.slice Au p.2.length cu) p.2 (⟨s.f0, s.f1, s.f2⟩ : S59) [.int .i64 s.f0, .int .i64 s.f1, .int .i64 s.f2] (fun k => k ≠ gs) (fun _ => False) rfl (by first | (go_simp; done) | (go_simp; rfl)) (k59_mkM _ _ _ (⟨s.f0, s.f1, s.f2⟩ : S59)) (fun _ hk => hk.elim) (fun k hk => by have h_ := HBI.out.szs; omega) HU.out HBI.out.bel HBI.out.bel.size (by have h_ := HPL.out; omega) ?_; intro v1 w6 ho hb hg hat; obtain ⟨A9, n9, c9, rfl⟩ : ∃ A n c, v1 = .slice A n c := (by obtain ⟨A, c, e_⟩ := Kd.R_slice ho; exact ⟨A, _, c, e_⟩); have HB6 := Aside0.mk (HBI.out.app B12.out HU.out ho hb hg); have n2_ := Aside0.mk (blk_grown B14.out hg (fun e_ => HNE.out e_.symm)); have n3_ := Aside0.mk (blk_grown B12.out hg (Kd.R_ne HU.out B12.out (by decide))); have HKO := Aside0.mk (KeepsOthers.of_grownBy hg (fun j o h1_ h2_ => by obtain ⟨cells, h3_⟩ := Kd.R_typed HU.out j h1_; rw [h3_] at h2_; injection h2_ with h2_; subst h2_; rfl)); clear ho hb hg hat B14 B12 HU hc12 hc14_0 hc14_1 hc14_2 HNE; have B14 := n2_; have B12 := n3_; clear n2_ n3_; have hc12 : w6.cell? ⟨g12, 0, none⟩ = some (.slice Au p.2.length cu) := (blk_cell B12.out 0).trans rfl; have hf12 := blk_frozen B12.out 0)
      have HB7 := HB6
      have n2_ := Aside0.mk (show (w6.setCell ⟨g12, 0, none⟩ (.slice A9 n9 c9)).heap[g14]? = some (.cells #[.int .i64 s.f0, .int .i64 s.f1, .int .i64 s.f2] 59 (0, 0)) from (Below.heap_setCell _ _ _ _ (blk_ne B14.out B12.out (by decide))).trans B14.out)
      have HKO7 := Aside0.mk (HKO.out.trans (KeepsOthers.setCell w6 ⟨g12, 0, none⟩ (.slice A9 n9 c9)))
      clear HB6 B14 B12 HKO hc12 hf12 hc11 hd0 hdf
      generalize (w6.setCell ⟨g12, 0, none⟩ (.slice A9 n9 c9)) = w7 at HB7 n2_ HKO7 ⊢
      have hc3 : w7.cell? ⟨g3, 0, none⟩ = some (.slice A0 l0.length c0) := (blk_cell HB7.out.b3 0).trans rfl
      have hc14_0 : w7.cell? ⟨g14, 0, none⟩ = some (.int .i64 s.f0) := (blk_cell n2_.out 0).trans rfl
      have hc14_1 : w7.cell? ⟨g14, 1, none⟩ = some (.int .i64 s.f1) := (blk_cell n2_.out 1).trans rfl
      obtain ⟨ad, A2, c2, ea, hy0, hl2, hi2⟩ := at_L3 HR.out s.f0 HS1.out.1.1 HS1.out.1.2
      cases ea
      replace hy0 := (HB7.out.bel.cell (World.block_lt_of_cell? w _ hy0)).trans hy0
      obtain ⟨ad2, A3, c3, ea, hz0, hz1, hl3, hi3⟩ := at_T31 hi2 s.f1 HS1.out.2.1 HS1.out.2.2
      cases ea
      replace hz1 := (HB7.out.bel.cell (World.block_lt_of_cell? w _ hz1)).trans hz1
      have HRA := Aside0.mk hi3
      have p3 := eq_true HS1.out.2.1
      have p4 := eq_true HS1.out.2.2
      obtain ⟨q, hq⟩ : ∃ q, q = (rd_T31 (rd_L3 l0 s.f0) s.f1).f1 := ⟨_, rfl⟩
      have HQI := Aside0.mk (show (∀ j ∈ q, 0 ≤ j ∧ j < (l0.length : Int)) ∧ q.length ≤ 60 from by
        have hm1 : rd_L3 l0 s.f0 ∈ l0 := by
          have h1_ := HS1.out.1
          have e_ : rd_L3 l0 s.f0 = l0[s.f0.toNat] := (by unfold rd_L3; simp [show s.f0.toNat < l0.length from by omega])
          rw [e_]; exact List.getElem_mem _
        have hm2 : rd_T31 (rd_L3 l0 s.f0) s.f1 ∈ rd_L3 l0 s.f0 := by
          have h1_ := HS1.out.2
          have e_ : rd_T31 (rd_L3 l0 s.f0) s.f1 = (rd_L3 l0 s.f0)[s.f1.toNat] := (by unfold rd_T31; simp [show s.f1.toNat < (rd_L3 l0 s.f0).length from by omega])
          rw [e_]; exact List.getElem_mem _
        rw [hq]
        exact ⟨(okr_of HCK.out).idx _ hm1 _ hm2, (okr_of HCK.out).a60 _ hm1 _ hm2⟩)
      rw [← hq] at hz1 HE HRA
      clear hi2 hl2 hl3 hi3 n2_
      clear hq
      gi_wp2
      refine Ri.start_in (n := 12) (S := fun w' => w'.cell? ⟨g3, 0, none⟩ = some (.slice (some ad) l0.length c0) ∧ w'.cell? ⟨g14, 0, none⟩ = some (.int .i64 s.f0) ∧ w'.cell? ⟨g14, 1, none⟩ = some (.int .i64 s.f1) ∧ w'.cell? (ad.add s.f0.toNat) = some (.slice (some ad2) (rd_L3 l0 s.f0).length c2) ∧ w'.cell? ⟨(ad2.add (s.f1.toNat * 2)).block, (ad2.add (s.f1.toNat * 2)).off + 1, none⟩ = some (.slice A3 q.length c3)) (ds := []) #[false, false, false, false, false, false, false, false, false, false, false, false] (by kernel_rfl) rfl rfl (by kernel_rfl) (by rintro ⟨_, _, h_⟩; exact h_) ⟨hc3, hc14_0, hc14_1, hy0, hz1⟩ (fun hHeld => ?_)
      have hb := below_drew1 (Below.refl w7.heap.size w7)
      have HB8 := Aside0.mk (HB7.out.below hb)
      have HKO8 := Aside0.mk (HKO7.out.trans (ko_below hb))
      clear HB7 HKO7 hb hc3 hc14_0 hc14_1 hy0 hz0 hz1
      generalize w7.drew = w8 at HB8 HKO8 HRA hHeld ⊢
      refine take_ (i := 0) (N := some 69) (v := ?_) (a' := ?_) #[true, false, false, false, false, false, false, false, false, false, false, false] rfl rfl (by kernel_rfl) (fun _ _ _ h => h) (Or.inl ⟨by rfl, ?_⟩) hHeld ?_ ?_
      rotate_left
      · rintro w' ⟨s0, s1, s2, s3, s4⟩
        go_simp
        with_reducible rfl
      rotate_left
      · simp only [Act.put, List.setIfInBounds_toArray, List.set_cons_zero, List.set_cons_succ, i64_w, i32_w]
        rfl
      refine pure_ (i := 1) (N := some 70) (v := ?_) (a' := ?_) #[true, true, false, false, false, false, false, false, false, false, false, false] rfl rfl (by kernel_rfl) (fun _ _ _ h => h) (Or.inl ⟨by rfl, ?_⟩) ?_ ?_
      rotate_left
      · intro w'
        go_simp
        with_reducible rfl
      rotate_left
      · simp only [Act.put, List.setIfInBounds_toArray, List.set_cons_zero, List.set_cons_succ, i64_w, i32_w]
        rfl
      refine take_ (i := 2) (N := some 71) (v := ?_) (a' := ?_) #[true, true, true, false, false, false, false, false, false, false, false, false] rfl rfl (by kernel_rfl) (fun _ _ _ h => h) (Or.inl ⟨by rfl, ?_⟩) hHeld ?_ ?_
      rotate_left
      · rintro w' ⟨s0, s1, s2, s3, s4⟩
        go_simp
        with_reducible rfl
      rotate_left
      · simp only [Act.put, List.setIfInBounds_toArray, List.set_cons_zero, List.set_cons_succ, i64_w, i32_w]
        rfl
      refine pure_ (i := 3) (N := some 72) (v := ?_) (a' := ?_) #[true, true, true, true, false, false, false, false, false, false, false, false] rfl rfl (by kernel_rfl) (fun _ _ _ h => h) (Or.inl ⟨by rfl, ?_⟩) ?_ ?_
      rotate_left
      · intro w'
        go_simp
        with_reducible rfl
      rotate_left
      · simp only [Act.put, List.setIfInBounds_toArray, List.set_cons_zero, List.set_cons_succ, i64_w, i32_w]
        rfl
      refine take_ (i := 4) (N := some 73) (v := ?_) (a' := ?_) #[true, true, true, true, true, false, false, false, false, false, false, false] rfl rfl (by kernel_rfl) (fun _ _ _ h => h) (Or.inl ⟨by rfl, ?_⟩) hHeld ?_ ?_
      rotate_left
      · rintro w' ⟨s0, s1, s2, s3, s4⟩
        go_simp
        with_reducible rfl
      rotate_left
      · simp only [Act.put, List.setIfInBounds_toArray, List.set_cons_zero, List.set_cons_succ, i64_w, i32_w]
        rfl
      refine pure_ (i := 5) (N := some 74) (v := ?_) (a' := ?_) #[true, true, true, true, true, true, false, false, false, false, false, false] rfl rfl (by kernel_rfl) (fun _ _ _ h => h) (Or.inl ⟨by rfl, ?_⟩) ?_ ?_
      rotate_left
      · intro w'
        go_simp
        with_reducible rfl
      rotate_left
      · simp only [Act.put, List.setIfInBounds_toArray, List.set_cons_zero, List.set_cons_succ, i64_w, i32_w]
        rfl
      refine take_ (i := 6) (N := some 75) (v := ?_) (a' := ?_) #[true, true, true, true, true, true, true, false, false, false, false, false] rfl rfl (by kernel_rfl) (fun _ _ _ h => h) (Or.inl ⟨by rfl, ?_⟩) hHeld ?_ ?_
      rotate_left
      · rintro w' ⟨s0, s1, s2, s3, s4⟩
        go_simp
        with_reducible rfl
      rotate_left
      · simp only [Act.put, List.setIfInBounds_toArray, List.set_cons_zero, List.set_cons_succ, i64_w, i32_w]
        rfl
      refine pure_ (i := 7) (N := some 76) (v := ?_) (a' := ?_) #[true, true, true, true, true, true, true, true, false, false, false, false] rfl rfl (by kernel_rfl) (fun _ _ _ h => h) (Or.inl ⟨by rfl, ?_⟩) ?_ ?_
      rotate_left
      · intro w'
        go_simp
        with_reducible rfl
      rotate_left
      · simp only [Act.put, List.setIfInBounds_toArray, List.set_cons_zero, List.set_cons_succ, i64_w, i32_w]
        rfl
      refine pure_ (i := 8) (N := some 77) (v := ?_) (a' := ?_) #[true, true, true, true, true, true, true, true, true, false, false, false] rfl rfl (by kernel_rfl) (fun _ _ _ h => h) (Or.inl ⟨by rfl, ?_⟩) ?_ ?_
      rotate_left
      · intro w'
        go_simp
        with_reducible rfl
      rotate_left
      · simp only [Act.put, List.setIfInBounds_toArray, List.set_cons_zero, List.set_cons_succ, i64_w, i32_w]
        rfl
      refine take_ (i := 9) (N := some 78) (v := ?_) (a' := ?_) #[true, true, true, true, true, true, true, true, true, true, false, false] rfl rfl (by kernel_rfl) (fun _ _ _ h => h) (Or.inl ⟨by rfl, ?_⟩) hHeld ?_ ?_
      rotate_left
      · rintro w' ⟨s0, s1, s2, s3, s4⟩
        go_simp
        with_reducible rfl
      rotate_left
      · simp only [Act.put, List.setIfInBounds_toArray, List.set_cons_zero, List.set_cons_succ, i64_w, i32_w]
        rfl
      refine pure_ (i := 10) (N := some 79) (v := ?_) (a' := ?_) #[true, true, true, true, true, true, true, true, true, true, true, false] rfl rfl (by kernel_rfl) (fun _ _ _ h => h) (Or.inl ⟨by rfl, ?_⟩) ?_ ?_
      rotate_left
      · intro w'
        go_simp
        with_reducible rfl
      rotate_left
      · simp only [Act.put, List.setIfInBounds_toArray, List.set_cons_zero, List.set_cons_succ, i64_w, i32_w]
        rfl
      refine pure_ (i := 11) (N := some 80) (v := ?_) (a' := ?_) #[true, true, true, true, true, true, true, true, true, true, true, true] rfl rfl (by kernel_rfl) (fun _ _ _ h => h) (Or.inl ⟨by rfl, ?_⟩) ?_ ?_
      rotate_left
      · intro w'
        go_simp
        with_reducible rfl
      rotate_left
      · simp only [Act.put, List.setIfInBounds_toArray, List.set_cons_zero, List.set_cons_succ, i64_w, i32_w]
        rfl
      refine done_ (by kernel_rfl) ?_
      try clear hHeld
      gi_wp2
      gi_loopg [80] q.length (fun kq v80 w' => ∃ j : Nat, v80 = .int .i64 (j : Int) ∧ Aside0 (j + kq = q.length ∧ Bi w w13 g3 g11 g12 gn capn gs B1 (.slice (some ⟨gs, 0, none⟩) (kx + 1) cs) (some ad) c0 l0.length ((q.take j).foldl (fun N (j : Int) => N.set j.toNat true) p.1, p.2 ++ [s]) w' ∧ KeepsOthers W w'))
      case atStart => exact ⟨0, rfl, ⟨by omega, HB8.out, HKO8.out⟩⟩
      case round =>
        clear HB8 HKO8 w6 w7 w8
        obtain ⟨j, rfl, HX⟩ := hrel
        obtain ⟨x1, x2, x3⟩ := HX.out
        clear HX
        have HJ := Aside0.mk x1
        by_cases c : j < q.length
        · obtain ⟨k1, rfl⟩ : ∃ k1, gk = k1 + 1 := ⟨gk - 1, by omega⟩
          have c1 : decide ((j : Int) < (q.length : Int)) = true := decide_eq_true (by omega)
          have c1b : decide (j < q.length) = true := decide_eq_true c
          have i1 : 0 ≤ (j : Int) := by omega
          have i2 : (j : Int) < (q.length : Int) := by omega
          obtain ⟨ad3, ea, hx0⟩ := Kd.at_int (Kd.C_below HRA.out x2.bel) (j : Int) i1 i2
          cases ea
          rw [Int.toNat_natCast] at hx0
          have hjq := HQI.out.1 (rd q (j : Int)) (by
            have e_ : rd q (j : Int) = q[j] := (by unfold rd; simp [c])
            rw [e_]; exact List.getElem_mem _)
          obtain ⟨N, hN⟩ : ∃ N, N = (q.take j).foldl (fun N (j : Int) => N.set j.toNat true) p.1 := ⟨_, rfl⟩
          have hNl : N.length = l0.length := by rw [hN, needs_len]; exact HPL.out.2
          rw [← hN] at x2
          have HN2 := Aside0.mk (show ((q.take (j + 1)).foldl (fun N (j : Int) => N.set j.toNat true) p.1) = N.set (rd q (j : Int)).toNat true from by
            rw [hN, List.take_succ_eq_append_getElem c, List.foldl_append]
            unfold rd
            simp [c])
          have HB9 := Aside0.mk x2
          have HKO9 := Aside0.mk x3
          have hc11 : wr.cell? ⟨g11, 0, none⟩ = some (.slice (some ⟨gn, 0, none⟩) N.length capn) := (blk_cell x2.b11 0).trans rfl
          obtain ⟨hd0, hdf⟩ := Kd.R_celln false x2.nd (rd q (j : Int)) hjq.1 (by rw [hNl]; exact hjq.2)
          have j1 := eq_true hjq.1
          have j2 := eq_true (show rd q (j : Int) < (N.length : Int) from by rw [hNl]; exact hjq.2)
          have hw1 : wrap64 ((j : Int) + 1) = (j : Int) + 1 := w64_id' (by omega) (by have := HQI.out.2; omega)
          have hw1b : IntKind.i64.wrap ((j : Int) + 1) = (j : Int) + 1 := (i64_w _).trans hw1
          replace i1 := eq_true i1
          replace i2 := eq_true i2
          have i2b := eq_true c
          clear x1 x2 x3 hjq hN hNl c
          gi_wp2
          gi_roundg k1
          case measure => have := HJ.out; omega
          case rel =>
            refine ⟨j + 1, by simp [hw1, hw1b], ⟨by have := HJ.out; omega, ?_, HKO9.out.trans (KeepsOthers.setCell _ _ _)⟩⟩
            rw [HN2.out]
            exact HB9.out.mark (rd q (j : Int))
        · have c1 : decide ((j : Int) < (q.length : Int)) = false := decide_eq_false (by omega)
          have c1b : decide (j < q.length) = false := decide_eq_false c
          have HJ2 := Aside0.mk (show q.take j = q from List.take_of_length_le (by omega))
          have HB9 := Aside0.mk x2
          have HKO9 := Aside0.mk x3
          clear x1 x2 x3 c
          gi_wp2
          show KeepsFrom _ _ _ ∧ K2 _ _ _ _ ∧ Bi w w13 g3 g11 g12 gn capn gs B1 (.slice (some ⟨gs, 0, none⟩) (kx + 1) cs) (some ad) c0 l0.length (bkStep l0 p s) _
          have h_ := HB9.out
          rw [HJ2.out] at h_
          rw [HE.out]
          exact ⟨HKO9.out.from _, HBIW.out.k2 h_, h_⟩
  case done =>
    rintro D' ys W hD hys hbi hK
    obtain ⟨P, hP⟩ : ∃ P, P = (bkF l0 a1 xs (ys.map (·.1))).2 := ⟨_, rfl⟩
    obtain ⟨u, hu, hU⟩ := hbi.pr
    have hPl := (bkF_len l0 a1 xs (ys.map (·.1))).2
    have hyl : (ys.map (·.1)).length = xs.length := by rw [hys, List.length_reverse, List.length_range]
    rw [← hP] at hU hPl
    obtain ⟨Au, cu, eu⟩ := Kd.R_slice hU
    subst eu
    have HPF := Aside0.mk (show P.reverse = proofF l0 a1 (st.take (kx + 1)) from by unfold proofF; rw [← HXS.out, ← hys, hP])
    have HPL := Aside0.mk (show P.length < 1000000 from by have h_ := HXL.out; omega)
    have HU := Aside0.mk hU
    have B12 := Aside0.mk hu
    have HBL := Aside0.mk hbi.bel
    have HKD := Aside0.mk hK
    have HD' := Aside0.mk hD
    have hc12 : W.cell? ⟨g12, 0, none⟩ = some (.slice Au P.length cu) := (blk_cell hu 0).trans rfl
    clear hu hU hPl hyl hys hbi hK hD hP HBI0
    go_wp2_with (go_at_call 29; refine (reverse29 Au cu w.heap.size _ P _ HU.out HPL.out).mono ?_; rintro e_ W2 ⟨rfl, hR2, hg2⟩; have HR2 := Aside0.mk hR2; have HB2 := Aside0.mk (pw_below_grown HBL.out _ HBL.out.size hg2 (fun k e_ => Kd.R_base HU.out k e_)); have B122 := Aside0.mk (blk_grown B12.out hg2 (Kd.R_ne HU.out B12.out (by decide))); have HKD2 := Aside0.mk ((hg2.block D' (blk_lt HKD.out) (fun e_ => by obtain ⟨cells, h3_⟩ := Kd.R_typed HU.out D' e_.symm; rw [HKD.out] at h3_; cases h3_)).trans HKD.out); clear hc12 hR2 hg2; have hc12 : W2.cell? ⟨g12, 0, none⟩ = some (.slice Au P.length cu) := (blk_cell B122.out 0).trans rfl)
    have hgp := grownBy_putObj' W2 D' (.deferred none)
    refine ⟨by simp, .inl ⟨_, _, rfl, run_takeDeferred HKD2.out, ?_⟩⟩
    refine ⟨.tuple #[.slice Au P.length cu, .int .i64 0], by simp [results, Try.f15, go_sem], _, rfl, ?_, ?_⟩
    · rw [← HPF.out]
      exact Kd.R_mono (Kd.R_grown (Kd.R_bound HR2.out) hgp (fun k hk e => by obtain ⟨_, _, _, q, _, cells, hc⟩ := hk; injection e with e; subst e; rw [HKD2.out] at hc; cases hc)) (fun k hk => trivial)
    · exact HB2.out.grown hgp HB2.out.size (fun k e => by injection e with e; subst e; have h_ := HSZ.out; have h2_ := HD'.out; omega)
  case stop =>
    rintro D' c pre W _ _ h _
    exact h.elim
/-- every step of the derivations names a rule that there is -/
theorem ixs_lt {α : Type} (p : α → Bool) (l : List α) : ∀ i : Int, 0 ≤ ixs p l i → i ≤ ixs p l i ∧ ixs p l i < i + (l.length : Int) := by
  induction l with
  | nil => intro i h; exact absurd h (by unfold ixs; omega)
  | cons x l ih =>
    intro i h
    rw [ixs_cons] at h ⊢
    split
    · rw [List.length_cons]; omega
    · rename_i hc
      rw [if_neg hc] at h
      obtain ⟨h1, h2⟩ := ih (i + 1) h
      rw [List.length_cons]
      omega
def Wfs (R : List (List S31)) (st : List S59) : Prop := ∀ s ∈ st, (0 ≤ s.f0 ∧ s.f0 < (R.length : Int)) ∧ 0 ≤ s.f1 ∧ s.f1 < ((rd_L3 R s.f0).length : Int)
theorem dpass_wfs (e : Int) (R : List (List S31)) : ∀ (ls : List (List S31)) (i : Nat) (D : List Bool) (st : List S59) (pr : Bool), R.drop i = ls → Wfs R st → Wfs R (dpass e ls (i : Int) D st pr).2.1
  | [], _, D, st, pr, _, h => h
  | l :: ls, i, D, st, pr, hd, h => by
    have hi : i < R.length := by
      rcases Nat.lt_or_ge i R.length with h1 | h1
      · exact h1
      · rw [List.drop_eq_nil_of_le h1] at hd; cases hd
    rw [List.drop_eq_getElem_cons hi] at hd
    obtain ⟨rfl, h2⟩ := List.cons.inj hd
    rw [dpass_cons]
    rw [show ((i : Nat) : Int) + 1 = ((i + 1 : Nat) : Int) from by omega]
    split
    · exact dpass_wfs e R ls (i + 1) D st pr h2 h
    · split
      · rename_i hk
        refine dpass_wfs e R ls (i + 1) _ _ true h2 (fun s hs => ?_)
        rcases List.mem_append.1 hs with hs | hs
        · exact h s hs
        · rw [List.mem_singleton] at hs
          subst hs
          obtain ⟨h3, h4⟩ := ixs_lt _ _ 0 hk
          have e1 : rd_L3 R (i : Int) = R[i] := by unfold rd_L3; simp [hi]
          exact ⟨⟨by simp, by simp only []; omega⟩, h3, by simp only []; rw [e1]; omega⟩
      · exact dpass_wfs e R ls (i + 1) D st pr h2 h
theorem dloop_wfs (e : Int) (R : List (List S31)) : ∀ (k : Nat) (D : List Bool) (st r : List S59), Wfs R st → dloop e R k D st = some r → Wfs R r
  | 0, _, _, _, _, h => by cases h
  | k + 1, D, st, r, hw, h => by
    unfold dloop at h
    have h1 := dpass_wfs e R R 0 D st false rfl hw
    split at h
    · exact dloop_wfs e R k _ _ r h1 h
    · rw [← Option.some.inj h]; exact h1
def fixpoint_Derive.f (l0 : List (List (S31))) (a1 : Int) (a2 : Int) : Option ((List (S59)) × Int) := (fixpoint_Check.f l0).bind fun t => if t = 0 then (if a1 < 0 ∨ (l0.length : Int) ≤ a1 ∨ a2 < 0 ∨ 20 ≤ a2 then some ([], 1) else (dloop a2 l0 (l0.length + 2) (List.replicate l0.length false) []).bind fun st => if ixs (setF a1) st 0 < 0 then some ([], 5) else some (proofF l0 a1 (st.take ((ixs (setF a1) st 0).toNat + 1)), 0)) else some ([], t)
theorem fixpoint_Derive.calls (A0 : Option Addr) (c0 : Nat) (l0 : List (List (S31))) (a1 : Int) (a2 : Int) (r1 : List (S59)) (r2 : Int) (w : World) (hr0 : Kd.C (Kd.slice 31 k31) w A0 l0.length l0) (hc0 : l0.length ≤ c0) (h : fixpoint_Derive.f l0 a1 a2 = some (r1, r2)) :
    Calls Try.prog 15 #[.slice A0 l0.length c0, .int .i64 a1, .int .i64 a2] w fun e w' => ∃ v0_ : Value, e = .returned (.tuple #[v0_, .int .i64 r2]) ∧ Kd.R k59 59 w' w.heap.size (fun _ => True) v0_ r1 ∧ Below w.heap.size w w' := by
  unfold fixpoint_Derive.f at h
  obtain ⟨t, ht, h⟩ := Option.bind_eq_some_iff.1 h
  by_cases t0 : t = 0
  · rw [if_pos t0] at h
    subst t0
    by_cases hb : a1 < 0 ∨ (l0.length : Int) ≤ a1 ∨ a2 < 0 ∨ 20 ≤ a2
    · rw [if_pos hb] at h
      cases h
      exact (derive_bad A0 c0 l0 a1 a2 w hr0 hc0 ht hb).mono (fun e w' hh => ⟨_, hh.1, Kd.R_nil _ _ _ _ _, hh.2⟩)
    · rw [if_neg hb] at h
      obtain ⟨st, hst, h⟩ := Option.bind_eq_some_iff.1 h
      by_cases hk : ixs (setF a1) st 0 < 0
      · rw [if_pos hk] at h
        cases h
        exact (derive_none A0 c0 l0 a1 a2 st w hr0 hc0 ht (by omega) (by omega) (by omega) (by omega) hst _ rfl hk).mono (fun e w' hh => ⟨_, hh.1, Kd.R_nil _ _ _ _ _, hh.2⟩)
      · rw [if_neg hk] at h
        cases h
        obtain ⟨h1, h2⟩ := ixs_lt (setF a1) st 0 (by omega)
        exact derive_some A0 c0 l0 a1 a2 st w hr0 hc0 ht (by omega) (by omega) (by omega) (by omega) hst (dloop_wfs a2 l0 _ _ _ _ (fun _ h => by cases h) hst) (ixs (setF a1) st 0).toNat (by omega) (by omega)
  · rw [if_neg t0] at h
    cases h
    exact (derive_err A0 c0 l0 a1 a2 _ w hr0 hc0 ht t0).mono (fun e w' hh => ⟨_, hh.1, Kd.R_nil _ _ _ _ _, hh.2⟩)
end Go.Proofs.Ytgjcembdmohhkaa.Fs
