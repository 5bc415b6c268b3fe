/- jsonval.withinLimits. -/
import Derived.Test.YtmonbhoeplmieaaDoorJsx0
import Derived.Deep.QuietTactic
import Derived.BigQuiet
import Derived.Deep.LoopGhost
import Derived.Shelf.Abstract
namespace Go.Proofs.YtmonbhoeplmieaaDoor.Js
open Go.RowKit Go.Proofs.YtmonbhoeplmieaaDoorW.PrintWords Go.Proofs.YtmonbhoeplmieaaDoorW.PrintLast Go.Proofs.YtmonbhoeplmieaaDoorW.PrintMore
open Go.Proofs.YtmonbhoeplmieaaDoor
set_option linter.unusedVariables false
set_option linter.unusedSimpArgs false

mutual
/-- withinLimits: true or not, and the count behind it -/
def wl (d c : Nat) : S25 → Bool × Nat
  | .mk _ _ _ _ es => if 400 < c + 1 ∨ 20 < d then (false, c + 1) else wls (d + 1) (c + 1) es
def wls (d c : Nat) : List S25 → Bool × Nat
  | [] => (true, c)
  | e :: es => if (wl d c e).1 then wls d (wl d c e).2 es else (false, (wl d c e).2)
end
/-- the five cells of element i of a row of values -/
theorem at_J {w : World} {A : Option Addr} {n : Nat} {xs : List S25} (h : k25.C w A n xs) (i : Nat) (hi : i < n) : ∃ ad x An cn Ae ce, A = some ad ∧ xs[i]? = some x ∧
    w.cell? (ad.add (i * 5)) = some (.int .i64 x.f0) ∧ w.cell? ⟨(ad.add (i * 5)).block, (ad.add (i * 5)).off + 1, none⟩ = some (.int .i64 x.f1) ∧ w.cell? ⟨(ad.add (i * 5)).block, (ad.add (i * 5)).off + 2, none⟩ = some (.string x.f2) ∧
    w.cell? ⟨(ad.add (i * 5)).block, (ad.add (i * 5)).off + 3, none⟩ = some (.slice An x.f3.length cn) ∧ w.cell? ⟨(ad.add (i * 5)).block, (ad.add (i * 5)).off + 4, none⟩ = some (.slice Ae x.f4.length ce) ∧
    k25.K w x [.int .i64 x.f0, .int .i64 x.f1, .string x.f2, .slice An x.f3.length cn, .slice Ae x.f4.length ce] := by
  obtain ⟨hl, _, hx⟩ := h
  obtain ⟨ad, e, hc⟩ := hx (by omega)
  obtain ⟨cs, _, hk, hcell⟩ := hc i (xs[i]'(by omega)) (List.getElem?_eq_getElem (by omega))
  obtain ⟨An, cn, Ae, ce, rfl, _⟩ := k25_open hk
  refine ⟨ad, xs[i]'(by omega), An, cn, Ae, ce, e, List.getElem?_eq_getElem (by omega), ?_, ?_, ?_, ?_, ?_, hk⟩
  · exact hcell 0 _ rfl
  · rw [← add_field _ _ 1 (by omega)]; exact hcell 1 _ rfl
  · rw [← add_field _ _ 2 (by omega)]; exact hcell 2 _ rfl
  · rw [← add_field _ _ 3 (by omega)]; exact hcell 3 _ rfl
  · rw [← add_field _ _ 4 (by omega)]; exact hcell 4 _ rfl

theorem wl_eq (d c : Nat) (j : S25) : wl d c j = if 400 < c + 1 ∨ 20 < d then (false, c + 1) else wls (d + 1) (c + 1) j.f4 := by cases j; first | (rw [wl]; done) | (rw [wl]; rfl)
theorem wls_cons (d c : Nat) (e : S25) (es : List S25) : wls d c (e :: es) = if (wl d c e).1 then wls d (wl d c e).2 es else (false, (wl d c e).2) := by rw [wls]
theorem wls_nil (d c : Nat) : wls d c [] = (true, c) := by rw [wls]
mutual
theorem wl_le (d c : Nat) (hc : c ≤ 400) : ∀ j, (wl d c j).2 ≤ 401 ∧ ((wl d c j).1 = true → (wl d c j).2 ≤ 400)
  | .mk k n t ns es => by
    rw [wl_eq]
    by_cases h : 400 < c + 1 ∨ 20 < d
    · rw [if_pos h]; exact ⟨by show c + 1 ≤ 401; omega, fun h => by cases h⟩
    · rw [if_neg h]; exact wls_le (d + 1) (c + 1) (by omega) es
theorem wls_le (d c : Nat) (hc : c ≤ 400) : ∀ es, (wls d c es).2 ≤ 401 ∧ ((wls d c es).1 = true → (wls d c es).2 ≤ 400)
  | [] => by rw [wls_nil]; exact ⟨by show c ≤ 401; omega, fun _ => hc⟩
  | e :: es => by
    rw [wls_cons]
    have h := wl_le d c hc e
    by_cases h1 : (wl d c e).1 = true
    · rw [if_pos h1]; exact wls_le d _ (h.2 h1) es
    · rw [if_neg h1]; exact ⟨h.1, fun h => by cases h⟩
end
theorem elem_lt {j x : S25} (h : x ∈ j.f4) : SizeOf.sizeOf x < SizeOf.sizeOf j := by
  cases j with
  | mk k n t ns es =>
    have h1 : SizeOf.sizeOf x < SizeOf.sizeOf es := List.sizeOf_lt_of_mem h
    have h2 : SizeOf.sizeOf es < SizeOf.sizeOf (S25.mk k n t ns es) := by simp only [S25.mk.sizeOf_spec]; omega
    omega
theorem below_put {W0 w : World} {g j : Nat} {v : Value} (h : Below W0.heap.size W0 w) (hg : W0.heap.size ≤ g) : Below W0.heap.size W0 (w.setCell ⟨g, j, none⟩ v) := h.setCell hg _
theorem far5 {w : World} {g gc : Nat} {o : Obj} {j0 j1 j2 j3 j4 : Nat} {v0 v1 v2 v3 v4 : Value} (h : w.heap[gc]? = some o) (hne : gc ≠ g) : (((((w.setCell ⟨g, j0, none⟩ v0).setCell ⟨g, j1, none⟩ v1).setCell ⟨g, j2, none⟩ v2).setCell ⟨g, j3, none⟩ v3).setCell ⟨g, j4, none⟩ v4).heap[gc]? = some o := by
  rw [Below.heap_setCell _ _ _ _ hne, Below.heap_setCell _ _ _ _ hne, Below.heap_setCell _ _ _ _ hne, Below.heap_setCell _ _ _ _ hne, Below.heap_setCell _ _ _ _ hne]
  exact h
/-- but for block gc, every block of w is as it was -/
def Kp (gc : Nat) (w w' : World) : Prop := w.heap.size ≤ w'.heap.size ∧ ∀ k, k < w.heap.size → k ≠ gc → w'.heap[k]? = w.heap[k]?
theorem Kp.refl (gc : Nat) (w : World) : Kp gc w w := ⟨Nat.le_refl _, fun _ _ _ => rfl⟩
theorem Kp.step {gc : Nat} {w w1 w2 : World} (h : Kp gc w w1) (hb : Below w1.heap.size w1 w2) : Kp gc w w2 := ⟨Nat.le_trans h.1 hb.size, fun k hk hn => (hb.block k (Nat.lt_of_lt_of_le hk h.1)).trans (h.2 k hk hn)⟩
theorem Kp.trans {gc : Nat} {w w1 w2 : World} (h : Kp gc w w1) (h2 : Kp gc w1 w2) : Kp gc w w2 := ⟨Nat.le_trans h.1 h2.1, fun k hk hn => (h2.2 k (Nat.lt_of_lt_of_le hk h.1) hn).trans (h.2 k hk hn)⟩
theorem Kp.put {gc : Nat} {w w1 : World} (h : Kp gc w w1) (j : Nat) (v : Value) : Kp gc w (w1.setCell ⟨gc, j, none⟩ v) := ⟨by rw [World.size_setCell]; exact h.1, fun k hk hn => (Below.heap_setCell w1 _ _ k hn).trans (h.2 k hk hn)⟩
theorem Kp.fresh {gc : Nat} {w w1 : World} (h : Kp gc w w1) {g : Nat} (hg : w.heap.size ≤ g) (j : Nat) (v : Value) : Kp gc w (w1.setCell ⟨g, j, none⟩ v) := ⟨by rw [World.size_setCell]; exact h.1, fun k hk hn => (Below.heap_setCell w1 _ _ k (by intro e; have h_ : k = g := e; omega)).trans (h.2 k hk hn)⟩
/-- The count's cell and the tree beside it. -/
def WlSays (n : Nat) : Prop := ∀ (j : S25) (W0 : World) (An : Option Addr) (cn : Nat) (Ae : Option Addr) (ce : Nat) (d c gc : Nat) (w : World), SizeOf.sizeOf j < n →
    k25.K W0 j [.int .i64 j.f0, .int .i64 j.f1, .string j.f2, .slice An j.f3.length cn, .slice Ae j.f4.length ce] → Below W0.heap.size W0 w → W0.heap.size ≤ gc → w.heap[gc]? = some (.cells #[.int .i64 (c : Int)] 3 (0, 0)) → d ≤ 1000 → c ≤ 400 →
    Calls Tryd.prog 15 #[.agg #[.int .i64 j.f0, .int .i64 j.f1, .string j.f2, .slice An j.f3.length cn, .slice Ae j.f4.length ce], .int .i64 (d : Int), .pointer (some ⟨gc, 0, none⟩)] w fun e w' => e = .returned (.bool (wl d c j).1) ∧ w'.heap[gc]? = some (.cells #[.int .i64 ((wl d c j).2 : Int)] 3 (0, 0)) ∧ Below W0.heap.size W0 w' ∧ Kp gc w w'
set_option maxHeartbeats 2000000 in
set_option maxRecDepth 100000 in
theorem withinLimits_step (n : Nat) (ih : WlSays n) : WlSays (n + 1) := by
  intro j W0 An cn Ae ce d c gc w hsz hK hW hgc hb hd hc
  have hu25 := Tryd.underlying25
  have HB := Aside0.mk hW
  have HP := Aside0.mk (Kp.refl gc w)
  have BG := Aside0.mk hb
  have c0 : w.cell? ⟨gc, 0, none⟩ = some (.int .i64 (c : Int)) := (blk_cell hb 0).trans rfl
  have f0 := blk_frozen hb 0
  obtain ⟨k, hk⟩ : ∃ k, j.f4.length = k := ⟨_, rfl⟩
  have HK := Aside0.mk hK
  have HG := Aside0.mk hgc
  have HS := Aside0.mk hsz
  have HE := Aside0.mk hk
  clear hsz hK hW hgc hb
  rw [hk]
  have n1_ := Aside0.mk (below_step HB.out (below_alloc (Below.refl w.heap.size w) (.cells #[.int .i64 j.f0, .int .i64 j.f1, .string j.f2, .slice An j.f3.length cn, .slice Ae k ce] 25 (0, 0))))
  have n2_ := Aside0.mk (blk_below BG.out (below_alloc (Below.refl w.heap.size w) (.cells #[.int .i64 j.f0, .int .i64 j.f1, .string j.f2, .slice An j.f3.length cn, .slice Ae k ce] 25 (0, 0))))
  have q4 : (w.alloc (.cells #[.int .i64 j.f0, .int .i64 j.f1, .string j.f2, .slice An j.f3.length cn, .slice Ae k ce] 25 (0, 0))).cell? ⟨w.heap.size, 4, none⟩ = some (.slice Ae k ce) := (blk_cell (blk_new w _) 4).trans rfl
  have NE := Aside0.mk (show w.heap.size ≠ gc from fun e => by have h_ := blk_lt BG.out; omega)
  have n3_ := Aside0.mk (HP.out.step (below_alloc (Below.refl w.heap.size w) (.cells #[.int .i64 j.f0, .int .i64 j.f1, .string j.f2, .slice An j.f3.length cn, .slice Ae k ce] 25 (0, 0))))
  clear HP
  have HP := n3_
  clear n3_
  clear HB BG c0 f0
  have HB := n1_
  have BG := n2_
  clear n1_ n2_
  have c0 : (w.alloc (.cells #[.int .i64 j.f0, .int .i64 j.f1, .string j.f2, .slice An j.f3.length cn, .slice Ae k ce] 25 (0, 0))).cell? ⟨gc, 0, none⟩ = some (.int .i64 (c : Int)) := (blk_cell BG.out 0).trans rfl
  have f0 : (w.alloc (.cells #[.int .i64 j.f0, .int .i64 j.f1, .string j.f2, .slice An j.f3.length cn, .slice Ae k ce] 25 (0, 0))).frozen? ⟨gc, 0, none⟩ = false := blk_frozen BG.out 0
  by_cases h1 : 400 < c + 1
  · have e0 : wl d c j = (false, c + 1) := by rw [wl_eq, if_pos (Or.inl h1)]
    have e1 : decide ((c : Int) + 1 > 400) = true := decide_eq_true (by omega)
    have e2 : decide ((400 : Int) < (c : Int) + 1) = true := decide_eq_true (by omega)
    have HW := Aside0.mk e0
    clear e0 h1 hk
    go_enter Tryd.func15, Tryd.ntmps15
    go_wp2
    go_ret
    rw [HW.out]
    exact ⟨rfl, blk_put BG.out 0 _ rfl, below_put HB.out HG.out, HP.out.put _ _⟩
  · have HCB := Aside0.mk (show c + 1 ≤ 400 from by omega)
    have e1 : decide ((c : Int) + 1 > 400) = false := decide_eq_false (by omega)
    have e2 : decide ((400 : Int) < (c : Int) + 1) = false := decide_eq_false (by omega)
    by_cases h2 : 20 < d
    · have e0 : wl d c j = (false, c + 1) := by rw [wl_eq, if_pos (Or.inr h2)]
      have e3 : decide ((d : Int) > 20) = true := decide_eq_true (by omega)
      have e4 : decide ((20 : Int) < (d : Int)) = true := decide_eq_true (by omega)
      have HW := Aside0.mk e0
      clear e0 h1 hk h2
      go_enter Tryd.func15, Tryd.ntmps15
      go_wp2
      go_ret
      rw [HW.out]
      exact ⟨rfl, blk_put BG.out 0 _ rfl, below_put HB.out HG.out, HP.out.put _ _⟩
    · have e0 : wl d c j = wls (d + 1) (c + 1) j.f4 := by rw [wl_eq, if_neg (by omega)]
      have e3 : decide ((d : Int) > 20) = false := decide_eq_false (by omega)
      have e4 : decide ((20 : Int) < (d : Int)) = false := decide_eq_false (by omega)
      have HW := Aside0.mk e0
      have HD := Aside0.mk (show d ≤ 20 from by omega)
      clear e0 h1 hk h2
      go_enter Tryd.func15, Tryd.ntmps15
      go_wp2
      have n1_ := Aside0.mk (blk_put BG.out 0 (.int .i64 ((c : Int) + 1)) rfl)
      have n2_ := Aside0.mk (below_put (j := 0) (v := .int .i64 ((c : Int) + 1)) HB.out HG.out)
      have n3_ := Aside0.mk (HP.out.put 0 (.int .i64 ((c : Int) + 1)))
      clear HP
      have HP := n3_
      clear n3_
      clear HB BG q4 c0 f0
      have HB := n2_
      have BG := n1_
      clear n1_ n2_
      go_loopg [25] k (fun gq s25 wx => ∃ (dn td : List S25) (ci : Nat), j.f4 = dn ++ td ∧ gq = td.length ∧ s25 = .int .i64 (dn.length : Int) ∧ wls (d + 1) (c + 1) j.f4 = wls (d + 1) ci td ∧ ci ≤ 400 ∧ wx.heap[gc]? = some (.cells #[.int .i64 (ci : Int)] 3 (0, 0)) ∧ Below W0.heap.size W0 wx ∧ Kp gc w wx)
      case atStart => exact ⟨[], j.f4, c + 1, rfl, HE.out.symm, rfl, rfl, HCB.out, BG.out, HB.out, HP.out⟩
      case round =>
        obtain ⟨dn, td, ci, hdt, rfl, rfl, hw, hci, hbg, hbx, hpx⟩ := hrel
        clear HB BG HP
        have HP := Aside0.mk hpx
        clear hpx
        have HB := Aside0.mk hbx
        have BG := Aside0.mk hbg
        have HDT := Aside0.mk hdt
        have HWW := Aside0.mk hw
        have HCI := Aside0.mk hci
        have hlen : k = dn.length + td.length := by rw [← HE.out, hdt, List.length_append]
        obtain ⟨i, hi⟩ : ∃ i, i = dn.length := ⟨_, rfl⟩
        have HI := Aside0.mk hi
        rw [← hi]
        cases td with
        | nil =>
          have b1 : k ≤ i := by simp at hlen; omega
          have e5 : decide ((i : Int) < (k : Int)) = false := decide_eq_false (by omega)
          clear hbx hbg hdt hw hci hlen hi
          go_wp2
          go_ret
          rw [HW.out, HWW.out, wls_nil]
          exact ⟨rfl, BG.out, HB.out, HP.out⟩
        | cons e t =>
          have b1 : i < k := by simp at hlen; omega
          have e5 : decide ((i : Int) < (k : Int)) = true := decide_eq_true (by omega)
          obtain ⟨An', cn', Ae', ce', heq, _, _, _, hCe⟩ := k25_open HK.out
          simp only [List.cons.injEq, Value.slice.injEq, and_true, true_and] at heq
          obtain ⟨⟨rfl, rfl⟩, rfl, rfl⟩ := heq
          obtain ⟨ad, x, An2, cn2, Ae2, ce2, ea, hxe, q0, q1, q2, q3, q4, hKx⟩ := at_J hCe i (by rw [HE.out]; exact b1)
          obtain rfl : x = e := by
            rw [hdt, hi, List.getElem?_append_right (Nat.le_refl _), Nat.sub_self] at hxe
            exact (Option.some.inj hxe).symm
          have p0 := (HB.out.cell (World.block_lt_of_cell? _ _ q0)).trans q0
          have p1 := (HB.out.cell (World.block_lt_of_cell? _ _ q1)).trans q1
          have p2 := (HB.out.cell (World.block_lt_of_cell? _ _ q2)).trans q2
          have p3 := (HB.out.cell (World.block_lt_of_cell? _ _ q3)).trans q3
          have p4 := (HB.out.cell (World.block_lt_of_cell? _ _ q4)).trans q4
          have hlt : SizeOf.sizeOf x < n := by
            have h_ := elem_lt (j := j) (x := x) (by rw [hdt]; simp)
            have h2_ := HS.out
            omega
          have HKB := Aside0.mk (show i + 1 ≤ 9223372036854775807 from by have h_ := hCe.2.1; rw [HE.out] at h_; omega)
          have IH := Aside0.mk (show ∀ w' : World, Below W0.heap.size W0 w' → w'.heap[gc]? = some (.cells #[.int .i64 (ci : Int)] 3 (0, 0)) → Calls Tryd.prog 15 #[.agg #[.int .i64 x.f0, .int .i64 x.f1, .string x.f2, .slice An2 x.f3.length cn2, .slice Ae2 x.f4.length ce2], .int .i64 ((d : Int) + 1), .pointer (some ⟨gc, 0, none⟩)] w' fun e w'' => e = .returned (.bool (wl (d + 1) ci x).1) ∧ w''.heap[gc]? = some (.cells #[.int .i64 ((wl (d + 1) ci x).2 : Int)] 3 (0, 0)) ∧ Below W0.heap.size W0 w'' ∧ Kp gc w' w'' from fun w' h1 h2 => by
            have h_ := ih x W0 An2 cn2 Ae2 ce2 (d + 1) ci gc w' hlt hKx h1 HG.out h2 (by have h_ := HD.out; omega) hci
            rw [show ((d + 1 : Nat) : Int) = (d : Int) + 1 from by omega] at h_
            exact h_)
          have HL := Aside0.mk (wl_le (d + 1) ci hci x)
          have hd20 := HD.out
          have hk400 : k ≤ ce := by
            obtain ⟨_, _, _, _, heq, _, _, hce, _⟩ := k25_open HK.out
            simp only [List.cons.injEq, Value.slice.injEq, and_true, true_and] at heq
            have h_ := HE.out
            omega
          subst ea
          cases hres : (wl (d + 1) ci x).1 with
          | false =>
            rw [hres] at IH
            have HF := Aside0.mk hres
            clear hbx hbg hdt hw hci hlen hi q0 q1 q2 q3 q4 hKx hxe hCe hlt hres
            go_wp2_with (first
              | ((with_reducible refine gate_dst (N := 8) rfl ?_); refine box_event ?hg (N := 8) ?hd (cs := #[.int .i64 0, .int .i64 0, .string ByteArray.empty, .slice none 0 0, .slice none 0 0]) (t := 25) ?hr ?_; (case hd => rfl); (case hg => rfl); (case hr => first | (go_simp; done) | (go_simp; rfl)); intro g8 hg w8 hbox hb; have BK8 := Aside0.mk hbox; have GE8 := Aside0.mk (show W0.heap.size ≤ g8 from by rw [hg]; exact Nat.le_trans HB.out.size (Nat.le_refl _)); have GW8 := Aside0.mk (show w.heap.size ≤ g8 from by rw [hg]; exact HP.out.1); have n3_ := Aside0.mk (HP.out.step hb); clear HP; have HP := n3_; clear n3_; have NE8 := Aside0.mk (show gc ≠ g8 from by rw [hg]; exact Nat.ne_of_lt (blk_lt BG.out)); have n2_ := Aside0.mk (blk_below BG.out hb); clear BG; have BG := n2_; clear n2_; have hc8_0 : w8.cell? ⟨g8, 0, none⟩ = some (.int .i64 0) := (blk_cell BK8.out 0).trans rfl; have hf8_0 := blk_frozen BK8.out 0; have hc8_1 : w8.cell? ⟨g8, 1, none⟩ = some (.int .i64 0) := (blk_cell BK8.out 1).trans rfl; have hf8_1 := blk_frozen BK8.out 1; have hc8_2 : w8.cell? ⟨g8, 2, none⟩ = some (.string ByteArray.empty) := (blk_cell BK8.out 2).trans rfl; have hf8_2 := blk_frozen BK8.out 2; have hc8_3 : w8.cell? ⟨g8, 3, none⟩ = some (.slice none 0 0) := (blk_cell BK8.out 3).trans rfl; have hf8_3 := blk_frozen BK8.out 3; have hc8_4 : w8.cell? ⟨g8, 4, none⟩ = some (.slice none 0 0) := (blk_cell BK8.out 4).trans rfl; have hf8_4 := blk_frozen BK8.out 4; have n1_ := Aside0.mk (below_step HB.out hb); clear HB; have HB := n1_; clear n1_; clear hbox hb hg)
              | (go_at_call 15; refine (IH.out _ (below_put (below_put (below_put (below_put (below_put HB.out GE8.out) GE8.out) GE8.out) GE8.out) GE8.out) (far5 BG.out NE8.out)).mono ?_; rintro e_ w15 ⟨rfl, hbk, hb, hp⟩; have n3_ := Aside0.mk (Kp.trans (Kp.fresh (Kp.fresh (Kp.fresh (Kp.fresh (Kp.fresh HP.out GW8.out _ _) GW8.out _ _) GW8.out _ _) GW8.out _ _) GW8.out _ _) hp); clear HP hp; have HP := n3_; clear n3_; clear BG HB; have BG := Aside0.mk hbk; have HB := Aside0.mk hb; clear hbk hb))
            go_ret
            rw [HW.out, HWW.out, wls_cons, if_neg (by rw [HF.out]; decide)]
            exact ⟨rfl, BG.out, HB.out, HP.out⟩
          | true =>
            rw [hres] at IH
            have HF := Aside0.mk hres
            clear hbx hbg hdt hw hci hlen hi q0 q1 q2 q3 q4 hKx hxe hCe hlt hres
            go_wp2_with (first
              | ((with_reducible refine gate_dst (N := 8) rfl ?_); refine box_event ?hg (N := 8) ?hd (cs := #[.int .i64 0, .int .i64 0, .string ByteArray.empty, .slice none 0 0, .slice none 0 0]) (t := 25) ?hr ?_; (case hd => rfl); (case hg => rfl); (case hr => first | (go_simp; done) | (go_simp; rfl)); intro g8 hg w8 hbox hb; have BK8 := Aside0.mk hbox; have GE8 := Aside0.mk (show W0.heap.size ≤ g8 from by rw [hg]; exact Nat.le_trans HB.out.size (Nat.le_refl _)); have GW8 := Aside0.mk (show w.heap.size ≤ g8 from by rw [hg]; exact HP.out.1); have n3_ := Aside0.mk (HP.out.step hb); clear HP; have HP := n3_; clear n3_; have NE8 := Aside0.mk (show gc ≠ g8 from by rw [hg]; exact Nat.ne_of_lt (blk_lt BG.out)); have n2_ := Aside0.mk (blk_below BG.out hb); clear BG; have BG := n2_; clear n2_; have hc8_0 : w8.cell? ⟨g8, 0, none⟩ = some (.int .i64 0) := (blk_cell BK8.out 0).trans rfl; have hf8_0 := blk_frozen BK8.out 0; have hc8_1 : w8.cell? ⟨g8, 1, none⟩ = some (.int .i64 0) := (blk_cell BK8.out 1).trans rfl; have hf8_1 := blk_frozen BK8.out 1; have hc8_2 : w8.cell? ⟨g8, 2, none⟩ = some (.string ByteArray.empty) := (blk_cell BK8.out 2).trans rfl; have hf8_2 := blk_frozen BK8.out 2; have hc8_3 : w8.cell? ⟨g8, 3, none⟩ = some (.slice none 0 0) := (blk_cell BK8.out 3).trans rfl; have hf8_3 := blk_frozen BK8.out 3; have hc8_4 : w8.cell? ⟨g8, 4, none⟩ = some (.slice none 0 0) := (blk_cell BK8.out 4).trans rfl; have hf8_4 := blk_frozen BK8.out 4; have n1_ := Aside0.mk (below_step HB.out hb); clear HB; have HB := n1_; clear n1_; clear hbox hb hg)
              | (go_at_call 15; refine (IH.out _ (below_put (below_put (below_put (below_put (below_put HB.out GE8.out) GE8.out) GE8.out) GE8.out) GE8.out) (far5 BG.out NE8.out)).mono ?_; rintro e_ w15 ⟨rfl, hbk, hb, hp⟩; have n3_ := Aside0.mk (Kp.trans (Kp.fresh (Kp.fresh (Kp.fresh (Kp.fresh (Kp.fresh HP.out GW8.out _ _) GW8.out _ _) GW8.out _ _) GW8.out _ _) GW8.out _ _) hp); clear HP hp; have HP := n3_; clear n3_; clear BG HB; have BG := Aside0.mk hbk; have HB := Aside0.mk hb; clear hbk hb))
            go_roundg t.length
            case measure => exact Nat.lt_succ_self _
            case rel => exact ⟨dn ++ [x], t, (wl (d + 1) ci x).2, by rw [HDT.out]; simp, rfl, congrArg (Value.int .i64) (by have h_ := HKB.out; have h2_ := HI.out; rw [List.length_append]; simp only [List.length_cons, List.length_nil]; unfold wrap64; omega), by rw [HWW.out, wls_cons, if_pos HF.out], HL.out.2 HF.out, BG.out, HB.out, HP.out⟩
theorem withinLimits_says : ∀ n, WlSays n
  | 0 => fun _ _ _ _ _ _ _ _ _ _ h => absurd h (Nat.not_lt_zero _)
  | n + 1 => withinLimits_step n (withinLimits_says n)
end Go.Proofs.YtmonbhoeplmieaaDoor.Js
