/- progress.Assembler: Add. -/
import Derived.Test.YtpbljheelkpaiaaPghBd
import Derived.Test.YtpbljheelkpaiaaPgx1
import Derived.Test.YtpbljheelkpaiaaMp
import Derived.Laws.IdiomRangeMap
namespace Go.Proofs.Ytpbljheelkpaiaa.Pg
open Go.RowKit Go.Proofs.YtpbljheelkpaiaaW.PrintWords Go.Proofs.YtpbljheelkpaiaaW.PrintLast Go.Proofs.YtpbljheelkpaiaaW.PrintMore
open Go.Proofs.Ytpbljheelkpaiaa
set_option linter.unusedVariables false
set_option linter.unusedSimpArgs false
attribute [local go_sem] Oper.semAt_some max2_int min2_int max_two min_two
open Go.ChangeMaps (setBlock)
theorem eqMap (o : Option Nat) (w : World) : (binOp .eql 53 (.map o) (.map none)).run Try.prog w = .ok (.bool o.isNone) w := by cases o <;> kernel_rfl
set_option maxHeartbeats 16000000 in
set_option maxRecDepth 100000 in
theorem add_new (gs ob ib : Nat) (t : Int) (n : Nat) (m : List (Int × S39)) (W : World) (h : As gs ob t (some ib) m W) (ht0 : 0 ≤ t) (ht : (Lit.int .i64 t).wf = true) (hf : Fit n m) (hn : n ≤ 1000) (i : Nat) (hi : i < n) (x : Int) (hx : x = (i : Int)) (b : Bool) (hb0 : b = decide (i + 1 = n)) (A : Option Addr) (cc : Nat) (xs : List Int) (hr : Kd.C (Kd.int .i64) W A xs.length xs) (hc : xs.length ≤ cc) (hl : xs.length ≤ 1000) (hg : Mp.aget m x = none) :
    Calls Try.prog 11 #[.pointer (some ⟨gs, 0, none⟩), .agg #[.int .i64 t, .int .i64 x, .bool b, .slice A xs.length cc]] W fun e W' => e = .returned (.tuple #[.bool true, .int .i64 0]) ∧ As gs ob t (some ib) (Mp.aset m x ⟨t, x, b, xs⟩) W' ∧ Kp W W' (fun k => k = ib) := by
  have hu50 := Try.underlying50
  have hu39 := Try.underlying39
  have hu53 := Try.underlying53
  have hu48 := Try.underlying48
  have HX := Aside0.mk (show x = (i : Int) ∧ i < n ∧ n ≤ 1000 ∧ 0 < n from ⟨hx, hi, hn, by omega⟩)
  have HWT := Aside0.mk ht
  have HKX := Aside0.mk (keyI x (wfI (by omega) (by omega)))
  have HF := Aside0.mk hf
  have HC := Aside0.mk hr
  have HCC := Aside0.mk (show xs.length ≤ cc ∧ xs.length ≤ 1000 from ⟨hc, hl⟩)
  have HG := Aside0.mk hg
  have f0 : decide (t < 0) = false := decide_eq_false (by omega)
  have f1 : decide (x < 0) = false := decide_eq_false (by omega)
  have f2 : decide (x ≥ 1000) = false := decide_eq_false (by omega)
  have f2b : decide (1000 ≤ x) = false := decide_eq_false (by omega)
  have f3 : decide ((xs.length : Int) > 1000) = false := decide_eq_false (by omega)
  have f3b : decide (1000 < (xs.length : Int)) = false := decide_eq_false (by omega)
  have HS := Aside0.mk h
  have HB := Aside0.mk (Below.refl W.heap.size W)
  obtain ⟨l, hl0, hat, hrows⟩ := h.tab
  have hget : Mp.aget l x = none := by
    rw [← hl0, Mp.aget_vals] at hg
    cases hh : Mp.aget l x with
    | none => rfl
    | some c => rw [hh] at hg; cases hg
  have HAT := Aside0.mk hat
  have HAT0 := Aside0.mk hat
  have HS0 := HS
  have HROWS := Aside0.mk hrows
  have HNE := Aside0.mk h.nes
  have HGET := Aside0.mk hget
  have HL0 := Aside0.mk hl0
  have HB0 := Aside0.mk hb0
  clear h ht0 hf hn hi hx hr hc hl hg hat hget hl0 hrows hb0
  go_enter Try.func11, Try.ntmps11
  go_wp2_with (first | ((with_reducible refine gate_dst (N := 3) rfl ?_); refine box_event ?hg (N := 3) ?hd (cs := #[.int .i64 t, .int .i64 x, .bool b, .slice A xs.length cc]) (t := 39) ?hr ?_; (case hd => rfl); (case hg => rfl); (case hr => first | (go_simp; done) | (go_simp; rfl)); intro g3 hg w2 hbox hb; have BKg3 := Aside0.mk hbox; have GEg3 := Aside0.mk (show W.heap.size = g3 from hg.symm); have hb_ := hb; have n_HB := Aside0.mk (below_step HB.out hb); have n_HS := Aside0.mk (HS.out.below hb); have n_HAT := Aside0.mk (HAT.out.below hb); clear HAT; have HAT := n_HAT; clear n_HAT; clear HB HS; have HB := n_HB; have HS := n_HS; clear n_HB n_HS hb_; have c30_ : w2.cell? ⟨g3, 0, none⟩ = some (.int .i64 t) := (blk_cell hbox 0).trans rfl; have c31_ : w2.cell? ⟨g3, 1, none⟩ = some (.int .i64 x) := (blk_cell hbox 1).trans rfl; have c33_ : w2.cell? ⟨g3, 3, none⟩ = some (.slice A xs.length cc) := (blk_cell hbox 3).trans rfl; clear hbox hb hg))
  clear c30_ c31_ c33_
  refine start_ (n := 16) (S := fun w' => w'.cell? ⟨gs, 0, none⟩ = some (.map (some ob)) ∧ w'.cell? ⟨g3, 0, none⟩ = some (.int .i64 t) ∧ w'.cell? ⟨g3, 1, none⟩ = some (.int .i64 x) ∧ Mp.At Try.prog 3 encI w' ob (outL t (some ib)) ∧ Mp.At Try.prog 3 encI w' ib (Mp.vals encC l)) (ds := []) #[false, false, false, false, false, false, false, false, false, false, false, false, false, false, false, false] (by kernel_rfl) rfl rfl ⟨(blk_cell (blk_drew HS.out.box) 0).trans rfl, (blk_cell (blk_drew BKg3.out) 0).trans rfl, (blk_cell (blk_drew BKg3.out) 1).trans rfl, (HS.out.out).drew, (HAT.out).drew⟩ (fun hHeld => ?_)
  have hb := below_drew1 (Below.refl w2.heap.size w2)
  have n_HB := Aside0.mk (below_step HB.out hb)
  have n_HS := Aside0.mk (HS.out.below hb)
  have n_BKg3 := Aside0.mk (blk_below BKg3.out hb)
  have n_HAT := Aside0.mk (HAT.out.below hb)
  clear HB HS BKg3 HAT
  have HB := n_HB
  have HS := n_HS
  have BKg3 := n_BKg3
  have HAT := n_HAT
  clear n_HB n_HS n_BKg3 n_HAT
  clear hb
  generalize w2.drew = w3 at HB HS BKg3 HAT hHeld ⊢
  refine pure_ (i := 0) (N := some 30) (v := ?_) (a' := ?_) #[true, false, false, false, false, false, false, false, false, false, false, false, false, false, false, false] rfl rfl (by kernel_rfl) (fun _ _ _ h => h) (Or.inl ⟨by rfl, ?_⟩) ?_ ?_
  rotate_left
  · intro w'
    go_simp
    with_reducible rfl
  rotate_left
  · simp only [Act.put, List.setIfInBounds_toArray, List.set_cons_zero, List.set_cons_succ, i64_w, i32_w]
    rfl
  refine pure_ (i := 1) (N := some 31) (v := ?_) (a' := ?_) #[true, true, false, false, false, false, false, false, false, false, false, false, false, false, false, false] rfl rfl (by kernel_rfl) (fun _ _ _ h => h) (Or.inl ⟨by rfl, ?_⟩) ?_ ?_
  rotate_left
  · intro w'
    go_simp
    with_reducible rfl
  rotate_left
  · simp only [Act.put, List.setIfInBounds_toArray, List.set_cons_zero, List.set_cons_succ, i64_w, i32_w]
    rfl
  refine pure_ (i := 2) (N := some 32) (v := ?_) (a' := ?_) #[true, true, true, false, false, false, false, false, false, false, false, false, false, false, false, false] rfl rfl (by kernel_rfl) (fun _ _ _ h => h) (Or.inl ⟨by rfl, ?_⟩) ?_ ?_
  rotate_left
  · intro w'
    go_simp
    with_reducible rfl
  rotate_left
  · simp only [Act.put, List.setIfInBounds_toArray, List.set_cons_zero, List.set_cons_succ, i64_w, i32_w]
    rfl
  refine pure_ (i := 4) (N := some 34) (v := ?_) (a' := ?_) #[true, true, true, false, true, false, false, false, false, false, false, false, false, false, false, false] rfl rfl (by kernel_rfl) (fun _ _ _ h => h) (Or.inl ⟨by rfl, ?_⟩) ?_ ?_
  rotate_left
  · intro w'
    go_simp
    with_reducible rfl
  rotate_left
  · simp only [Act.put, List.setIfInBounds_toArray, List.set_cons_zero, List.set_cons_succ, i64_w, i32_w]
    rfl
  refine pure_ (i := 7) (N := some 37) (v := ?_) (a' := ?_) #[true, true, true, false, true, false, false, true, false, false, false, false, false, false, false, false] rfl rfl (by kernel_rfl) (fun _ _ _ h => h) (Or.inl ⟨by rfl, ?_⟩) ?_ ?_
  rotate_left
  · intro w'
    go_simp
    with_reducible rfl
  rotate_left
  · simp only [Act.put, List.setIfInBounds_toArray, List.set_cons_zero, List.set_cons_succ, i64_w, i32_w]
    rfl
  refine take_ (i := 3) (N := some 33) (v := ?_) (a' := ?_) #[true, true, true, true, true, false, false, true, false, false, false, false, false, false, false, false] rfl rfl (by kernel_rfl) (fun _ _ _ h => h) (Or.inl ⟨by rfl, ?_⟩) hHeld ?_ ?_
  rotate_left
  · rintro w' ⟨s0, s1, s2, sO, sI⟩
    go_simp
    with_reducible rfl
  rotate_left
  · simp only [Act.put, List.setIfInBounds_toArray, List.set_cons_zero, List.set_cons_succ, i64_w, i32_w]
    rfl
  refine take_ (i := 5) (N := some 35) (v := ?_) (a' := ?_) #[true, true, true, true, true, true, false, true, false, false, false, false, false, false, false, false] rfl rfl (by kernel_rfl) (fun _ _ _ h => h) (Or.inl ⟨by rfl, ?_⟩) hHeld ?_ ?_
  rotate_left
  · rintro w' ⟨s0, s1, s2, sO, sI⟩
    go_simp
    with_reducible rfl
  rotate_left
  · simp only [Act.put, List.setIfInBounds_toArray, List.set_cons_zero, List.set_cons_succ, i64_w, i32_w]
    rfl
  refine take_ (i := 8) (N := some 38) (v := ?_) (a' := ?_) #[true, true, true, true, true, true, false, true, true, false, false, false, false, false, false, false] rfl rfl (by kernel_rfl) (fun _ _ _ h => h) (Or.inl ⟨by rfl, ?_⟩) hHeld ?_ ?_
  rotate_left
  · rintro w' ⟨s0, s1, s2, sO, sI⟩
    go_simp
    with_reducible rfl
  rotate_left
  · simp only [Act.put, List.setIfInBounds_toArray, List.set_cons_zero, List.set_cons_succ, i64_w, i32_w]
    rfl
  refine take_ (i := 6) (N := some 36) (v := .map (some ib)) (a' := ?_) #[true, true, true, true, true, true, true, true, true, false, false, false, false, false, false, false] rfl rfl (by kernel_rfl) (fun _ _ _ h => h) (Or.inl ⟨by rfl, ?_⟩) hHeld ?_ ?_
  · rintro w' ⟨s0, s1, s2, sO, sI⟩
    have hrun := outer_look w' sO HWT.out
    go_simp
    all_goals first | (rw [hrun]; done) | (rw [hrun]; rfl) | (simp [hrun]; done) | exact hrun
  rotate_left
  · simp only [Act.put, List.setIfInBounds_toArray, List.set_cons_zero, List.set_cons_succ, i64_w, i32_w]
    rfl
  refine take_ (i := 9) (N := some 39) (v := .tuple #[(.agg #[.int .i64 0, .int .i64 0, .bool false, .slice none 0 0]), .bool false]) (a' := ?_) #[true, true, true, true, true, true, true, true, true, true, false, false, false, false, false, false] rfl rfl (by kernel_rfl) (fun _ _ _ h => h) (Or.inl ⟨by rfl, ?_⟩) hHeld ?_ ?_
  · rintro w' ⟨s0, s1, s2, sO, sI⟩
    have hrun0 := Mp.At.look (T := 53) true KI injI Try.underlying53 (zero39 w') sI (x := x) HKX.out
    rw [Mp.aget_vals, HGET.out] at hrun0
    have hrun : (Instr.lookup 53 (.map (some ib)) (.int .i64 x) true).run Try.prog w' = .ok (.tuple #[(.agg #[.int .i64 0, .int .i64 0, .bool false, .slice none 0 0]), .bool false]) w' := hrun0
    go_simp
    all_goals first | (rw [hrun]; done) | (rw [hrun]; rfl) | (simp [hrun]; done) | exact hrun
  rotate_left
  · simp only [Act.put, List.setIfInBounds_toArray, List.set_cons_zero, List.set_cons_succ, i64_w, i32_w]
    rfl
  refine pure_ (i := 10) (N := some 29) (v := ?_) (a' := ?_) #[true, true, true, true, true, true, true, true, true, true, true, false, false, false, false, false] rfl rfl (by kernel_rfl) (fun _ _ _ h => h) (Or.inl ⟨by rfl, ?_⟩) ?_ ?_
  rotate_left
  · intro w'
    go_simp
    with_reducible rfl
  rotate_left
  · simp only [Act.put, List.setIfInBounds_toArray, List.set_cons_zero, List.set_cons_succ, i64_w, i32_w]
    rfl
  refine pure_ (i := 11) (N := some 40) (v := ?_) (a' := ?_) #[true, true, true, true, true, true, true, true, true, true, true, true, false, false, false, false] rfl rfl (by kernel_rfl) (fun _ _ _ h => h) (Or.inl ⟨by rfl, ?_⟩) ?_ ?_
  rotate_left
  · intro w'
    go_simp
    with_reducible rfl
  rotate_left
  · simp only [Act.put, List.setIfInBounds_toArray, List.set_cons_zero, List.set_cons_succ, i64_w, i32_w]
    rfl
  refine pure_ (i := 12) (N := some 41) (v := ?_) (a' := ?_) #[true, true, true, true, true, true, true, true, true, true, true, true, true, false, false, false] rfl rfl (by kernel_rfl) (fun _ _ _ h => h) (Or.inl ⟨by rfl, ?_⟩) ?_ ?_
  rotate_left
  · intro w'
    go_simp
    with_reducible rfl
  rotate_left
  · simp only [Act.put, List.setIfInBounds_toArray, List.set_cons_zero, List.set_cons_succ, i64_w, i32_w]
    rfl
  refine one_ (i := 13) (N := some 6) #[true, true, true, true, true, true, true, true, true, true, true, true, true, true, false, false] rfl rfl (by kernel_rfl) (by decide) (fun K hK => ?_)
  refine value_ (w1 := w3.alloc (.cells #[.int .i64 0, .int .i64 0, .bool false, .slice none 0 0] 39 (0, 0))) (v := .pointer (some ⟨w3.heap.size, 0, none⟩)) (by rfl) rfl ?_ ?_
  · go_simp
    try rfl
  have hb : Below w3.heap.size w3 (w3.alloc (.cells #[.int .i64 0, .int .i64 0, .bool false, .slice none 0 0] 39 (0, 0))) := below_alloc (Below.refl _ _) _
  have hx8 : (w3.alloc (.cells #[.int .i64 0, .int .i64 0, .bool false, .slice none 0 0] 39 (0, 0))).heap[w3.heap.size]? = some (.cells #[.int .i64 0, .int .i64 0, .bool false, .slice none 0 0] 39 (0, 0)) := blk_new w3 _
  generalize hsz : w3.heap.size = g6 at hx8 ⊢
  generalize (w3.alloc (.cells #[.int .i64 0, .int .i64 0, .bool false, .slice none 0 0] 39 (0, 0))) = w4 at hb hx8 ⊢
  have BKg6 := Aside0.mk hx8
  have HB4 := Aside0.mk hb
  have SZ := Aside0.mk (Nat.le_of_eq hsz)
  clear hx8 hb hsz
  refine hK.out _ _ ⟨(blk_cell (blk_below HS.out.box HB4.out) 0).trans rfl, (blk_cell (blk_below BKg3.out HB4.out) 0).trans rfl, (blk_cell (blk_below BKg3.out HB4.out) 1).trans rfl, HS.out.out.below HB4.out, HAT.out.below HB4.out⟩ (fun hHeld => ?_)
  clear hK K
  refine norm_ (a' := ?_) ?_ ?_
  rotate_left
  · show Act.put _ (some 6) _ = _
    simp only [Act.put, List.setIfInBounds_toArray, List.set_cons_zero, List.set_cons_succ, i64_w, i32_w]
    rfl
  refine one_ (i := 14) (N := none) #[true, true, true, true, true, true, true, true, true, true, true, true, true, true, true, false] rfl rfl (by kernel_rfl) (by decide) (fun K hK => ?_)
  refine skip_ (w1 := ((((w4.setCell ⟨g6, 0, none⟩ (.int .i64 0)).setCell ⟨g6, 1, none⟩ (.int .i64 0)).setCell ⟨g6, 2, none⟩ (.bool false)).setCell ⟨g6, 3, none⟩ (.slice none 0 0))) (by rfl) rfl ?_ ?_
  · have c0 : w4.cell? ⟨g6, 0, none⟩ = some (.int .i64 0) := (blk_cell BKg6.out 0).trans rfl
    have c1 : w4.cell? ⟨g6, 1, none⟩ = some (.int .i64 0) := (blk_cell BKg6.out 1).trans rfl
    have c2 : w4.cell? ⟨g6, 2, none⟩ = some (.bool false) := (blk_cell BKg6.out 2).trans rfl
    have c3 : w4.cell? ⟨g6, 3, none⟩ = some (.slice none 0 0) := (blk_cell BKg6.out 3).trans rfl
    have d0 := blk_frozen BKg6.out 0
    have d1 := blk_frozen BKg6.out 1
    have d2 := blk_frozen BKg6.out 2
    have d3 := blk_frozen BKg6.out 3
    go_simp
    try rfl
  have n1_ := Aside0.mk (show ((((w4.setCell ⟨g6, 0, none⟩ (.int .i64 0)).setCell ⟨g6, 1, none⟩ (.int .i64 0)).setCell ⟨g6, 2, none⟩ (.bool false)).setCell ⟨g6, 3, none⟩ (.slice none 0 0)).heap[g6]? = some (.cells #[(.int .i64 0), (.int .i64 0), (.bool false), (.slice none 0 0)] 39 (0, 0)) from by refine blk_put (cs := #[(.int .i64 0), (.int .i64 0), (.bool false), .slice none 0 0]) ?_ 3 _ rfl; refine blk_put (cs := #[(.int .i64 0), (.int .i64 0), .bool false, .slice none 0 0]) ?_ 2 _ rfl; refine blk_put (cs := #[(.int .i64 0), .int .i64 0, .bool false, .slice none 0 0]) ?_ 1 _ rfl; refine blk_put (cs := #[.int .i64 0, .int .i64 0, .bool false, .slice none 0 0]) ?_ 0 _ rfl; exact BKg6.out)
  have hb : Below w3.heap.size w3 ((((w4.setCell ⟨g6, 0, none⟩ (.int .i64 0)).setCell ⟨g6, 1, none⟩ (.int .i64 0)).setCell ⟨g6, 2, none⟩ (.bool false)).setCell ⟨g6, 3, none⟩ (.slice none 0 0)) := below_set (below_set (below_set (below_set HB4.out SZ.out) SZ.out) SZ.out) SZ.out
  have n_HB := Aside0.mk (below_step HB.out hb)
  have n_HS := Aside0.mk (HS.out.below hb)
  have n_BKg3 := Aside0.mk (blk_below BKg3.out hb)
  have n_HAT := Aside0.mk (HAT.out.below hb)
  clear HB HS BKg3 HAT
  have HB := n_HB
  have HS := n_HS
  have BKg3 := n_BKg3
  have HAT := n_HAT
  clear n_HB n_HS n_BKg3 n_HAT
  clear BKg6 HB4 SZ hb hHeld
  generalize ((((w4.setCell ⟨g6, 0, none⟩ (.int .i64 0)).setCell ⟨g6, 1, none⟩ (.int .i64 0)).setCell ⟨g6, 2, none⟩ (.bool false)).setCell ⟨g6, 3, none⟩ (.slice none 0 0)) = w5 at n1_ HB HS BKg3 HAT ⊢
  have BKg6 := n1_
  clear n1_
  refine hK.out _ _ ⟨(blk_cell HS.out.box 0).trans rfl, (blk_cell BKg3.out 0).trans rfl, (blk_cell BKg3.out 1).trans rfl, HS.out.out, HAT.out⟩ (fun hHeld => ?_)
  clear hK K
  refine pure_ (i := 15) (N := some 7) (v := ?_) (a' := ?_) #[true, true, true, true, true, true, true, true, true, true, true, true, true, true, true, true] rfl rfl (by kernel_rfl) (fun _ _ _ h => h) (Or.inl ⟨by rfl, ?_⟩) ?_ ?_
  rotate_left
  · intro w'
    go_simp
    with_reducible rfl
  rotate_left
  · simp only [Act.put, List.setIfInBounds_toArray, List.set_cons_zero, List.set_cons_succ, i64_w, i32_w]
    rfl
  refine done_ (by kernel_rfl) ?_
  clear hHeld BKg6
  have c30_ : w5.cell? ⟨g3, 0, none⟩ = some (.int .i64 t) := (blk_cell BKg3.out 0).trans rfl
  go_upto_region 11 with (first | (go_at_call 17; refine (bounds_some gs ob ib t n m _ HS.out HWT.out HF.out HX.out.2.2.2 (by have h_ := HX.out; omega)).mono ?_; rintro e_ w6 ⟨L, rfl, hT, hb⟩; have HT := Aside0.mk hT; clear hT; have n_HAT := Aside0.mk (HAT.out.below hb); clear HAT; have HAT := n_HAT; clear n_HAT; have n_HB := Aside0.mk (below_step HB.out hb); have n_HS := Aside0.mk (HS.out.below hb); have n_BKg3 := Aside0.mk (blk_below BKg3.out hb); clear HB HS BKg3; have HB := n_HB; have HS := n_HS; have BKg3 := n_BKg3; clear n_HB n_HS n_BKg3; clear hb c30_))
  have c30_ : w6.cell? ⟨g3, 0, none⟩ = some (.int .i64 t) := (blk_cell BKg3.out 0).trans rfl
  have c31_ : w6.cell? ⟨g3, 1, none⟩ = some (.int .i64 x) := (blk_cell BKg3.out 1).trans rfl
  have c32_ : w6.cell? ⟨g3, 2, none⟩ = some (.bool b) := (blk_cell BKg3.out 2).trans rfl
  obtain ⟨F, hF⟩ : ∃ F, F = finalOf n m := ⟨_, rfl⟩
  have hF2 : F = -1 ∨ F = ((n - 1 : Nat) : Int) := by rw [hF]; unfold finalOf; split; exact .inr rfl; exact .inl rfl
  rw [← hF]
  have hFx : decide (F < x) = false ∨ F = -1 := by
    rcases hF2 with h_ | h_
    · exact .inr h_
    · exact .inl (decide_eq_false (by have h2_ := HX.out; omega))
  have hLx : b = true → decide (L > x) = false := by
    intro hb1
    rw [HB0.out] at hb1
    have h1_ := of_decide_eq_true hb1
    exact decide_eq_false (by have h2_ := HX.out; have h3_ := HT.out.2.1; omega)
  have FX := Aside0.mk hF2
  clear hF hF2
  rcases FX.out with h_ | h_
  · have hFz : decide (F ≥ 0) = false := decide_eq_false (by omega)
    have hFz2 : decide (0 ≤ F) = false := hFz
    rcases Bool.eq_false_or_eq_true b with hb1 | hb1
    all_goals
      try have hLy := hLx hb1
      try have hLy2 : decide (x < L) = false := hLy
      rw [hb1] at c32_
      clear hFx hLx h_ hb1
      go_wp2
      refine start_ (n := 8) (S := fun w' => w'.cell? ⟨gs, 0, none⟩ = some (.map (some ob)) ∧ w'.cell? ⟨g3, 0, none⟩ = some (.int .i64 t) ∧ Mp.At Try.prog 3 encI w' ob (outL t (some ib))) (ds := []) #[false, false, false, false, false, false, false, false] (by kernel_rfl) rfl rfl ⟨(blk_cell (blk_drew HS.out.box) 0).trans rfl, (blk_cell (blk_drew BKg3.out) 0).trans rfl, HS.out.out.drew⟩ (fun hHeld => ?_)
      have hb := below_drew1 (Below.refl w6.heap.size w6)
      have n_HB := Aside0.mk (below_step HB.out hb)
      have n_HS := Aside0.mk (HS.out.below hb)
      have n_BKg3 := Aside0.mk (blk_below BKg3.out hb)
      have n_HAT := Aside0.mk (HAT.out.below hb)
      clear HB HS BKg3 HAT
      have HB := n_HB
      have HS := n_HS
      have BKg3 := n_BKg3
      have HAT := n_HAT
      clear n_HB n_HS n_BKg3 n_HAT
      clear hb
      generalize w6.drew = w7 at HB HS BKg3 HAT hHeld ⊢
      refine pure_ (i := 0) (N := some 80) (v := ?_) (a' := ?_) #[true, false, false, false, false, false, false, false] rfl rfl (by kernel_rfl) (fun _ _ _ h => h) (Or.inl ⟨by rfl, ?_⟩) ?_ ?_
      rotate_left
      · intro w'
        go_simp
        with_reducible rfl
      rotate_left
      · simp only [Act.put, List.setIfInBounds_toArray, List.set_cons_zero, List.set_cons_succ, i64_w, i32_w]
        rfl
      refine pure_ (i := 1) (N := some 81) (v := ?_) (a' := ?_) #[true, true, false, false, false, false, false, false] rfl rfl (by kernel_rfl) (fun _ _ _ h => h) (Or.inl ⟨by rfl, ?_⟩) ?_ ?_
      rotate_left
      · intro w'
        go_simp
        with_reducible rfl
      rotate_left
      · simp only [Act.put, List.setIfInBounds_toArray, List.set_cons_zero, List.set_cons_succ, i64_w, i32_w]
        rfl
      refine pure_ (i := 2) (N := some 82) (v := ?_) (a' := ?_) #[true, true, true, false, false, false, false, false] rfl rfl (by kernel_rfl) (fun _ _ _ h => h) (Or.inl ⟨by rfl, ?_⟩) ?_ ?_
      rotate_left
      · intro w'
        go_simp
        with_reducible rfl
      rotate_left
      · simp only [Act.put, List.setIfInBounds_toArray, List.set_cons_zero, List.set_cons_succ, i64_w, i32_w]
        rfl
      refine pure_ (i := 4) (N := some 84) (v := ?_) (a' := ?_) #[true, true, true, false, true, false, false, false] rfl rfl (by kernel_rfl) (fun _ _ _ h => h) (Or.inl ⟨by rfl, ?_⟩) ?_ ?_
      rotate_left
      · intro w'
        go_simp
        with_reducible rfl
      rotate_left
      · simp only [Act.put, List.setIfInBounds_toArray, List.set_cons_zero, List.set_cons_succ, i64_w, i32_w]
        rfl
      refine take_ (i := 3) (N := some 83) (v := ?_) (a' := ?_) #[true, true, true, true, true, false, false, false] rfl rfl (by kernel_rfl) (fun _ _ _ h => h) (Or.inl ⟨by rfl, ?_⟩) hHeld ?_ ?_
      rotate_left
      · rintro w' ⟨s0, s1, sO⟩
        go_simp
        with_reducible rfl
      rotate_left
      · simp only [Act.put, List.setIfInBounds_toArray, List.set_cons_zero, List.set_cons_succ, i64_w, i32_w]
        rfl
      refine take_ (i := 5) (N := some 85) (v := ?_) (a' := ?_) #[true, true, true, true, true, true, false, false] rfl rfl (by kernel_rfl) (fun _ _ _ h => h) (Or.inl ⟨by rfl, ?_⟩) hHeld ?_ ?_
      rotate_left
      · rintro w' ⟨s0, s1, sO⟩
        go_simp
        with_reducible rfl
      rotate_left
      · simp only [Act.put, List.setIfInBounds_toArray, List.set_cons_zero, List.set_cons_succ, i64_w, i32_w]
        rfl
      refine take_ (i := 6) (N := some 86) (v := .map (some ib)) (a' := ?_) #[true, true, true, true, true, true, true, false] rfl rfl (by kernel_rfl) (fun _ _ _ h => h) (Or.inl ⟨by rfl, ?_⟩) hHeld ?_ ?_
      · rintro w' ⟨s0, s1, sO⟩
        have hrun := outer_look w' sO HWT.out
        go_simp
        all_goals first | (rw [hrun]; done) | (rw [hrun]; rfl) | (simp [hrun]; done) | exact hrun
      rotate_left
      · simp only [Act.put, List.setIfInBounds_toArray, List.set_cons_zero, List.set_cons_succ, i64_w, i32_w]
        rfl
      refine pure_ (i := 7) (N := some 87) (v := .bool false) (a' := ?_) #[true, true, true, true, true, true, true, true] rfl rfl (by kernel_rfl) (fun _ _ _ h => h) (Or.inl ⟨by rfl, ?_⟩) ?_ ?_
      · intro w'
        have hrun := eqMap (some ib) w'
        go_simp
        all_goals first | (rw [hrun]; done) | (rw [hrun]; rfl) | (simp [hrun]; done) | exact hrun
      rotate_left
      · simp only [Act.put, List.setIfInBounds_toArray, List.set_cons_zero, List.set_cons_succ, i64_w, i32_w]
        rfl
      refine done_ (by kernel_rfl) ?_
      clear hHeld
      have c33_ : w7.cell? ⟨g3, 3, none⟩ = some (.slice A xs.length cc) := (blk_cell BKg3.out 3).trans rfl
      go_wp2_with (first | (go_at_call 16; refine (sc_calls A cc xs _ (Kd.C_below HC.out HB.out) HCC.out.1 (by have h_ := HCC.out.2; omega)).mono ?_; rintro e_ w8 ⟨v, rfl, hv, hb⟩; obtain ⟨A8, c8, rfl⟩ := Kd.R_slice hv; have HV := Aside0.mk hv; have LT8 := Aside0.mk (show g3 < w7.heap.size from blk_lt BKg3.out); have LTW := Aside0.mk (show W.heap.size ≤ w7.heap.size from HB.out.size); have n_HB := Aside0.mk (below_step HB.out hb); have n_HS := Aside0.mk (HS.out.below hb); have n_BKg3 := Aside0.mk (blk_below BKg3.out hb); have n_HAT := Aside0.mk (HAT.out.below hb); clear HB HS BKg3 HAT; have HB := n_HB; have HS := n_HS; have BKg3 := n_BKg3; have HAT := n_HAT; clear n_HB n_HS n_BKg3 n_HAT; clear hb hv c33_; have c33_ : w8.cell? ⟨g3, 3, none⟩ = some (.slice A xs.length cc) := (blk_cell BKg3.out 3).trans rfl; have d33_ := blk_frozen BKg3.out 3))
      have n1_ := Aside0.mk (show (w8.setCell ⟨g3, 3, none⟩ (.slice A8 xs.length c8)).heap[g3]? = some (.cells #[.int .i64 t, .int .i64 x, .bool b, .slice A8 xs.length c8] 39 (0, 0)) from blk_put BKg3.out 3 _ rfl)
      have n2_ := Aside0.mk (show Below W.heap.size W (w8.setCell ⟨g3, 3, none⟩ (.slice A8 xs.length c8)) from below_set HB.out (Nat.le_of_eq GEg3.out))
      have n3_ := Aside0.mk (Kd.R_far (Kd.R_bound HV.out) (p := ⟨g3, 3, none⟩) (fun k hk e_ => by have e2_ : k = g3 := e_; have h1_ := hk.2.1; have h2_ := LT8.out; omega) (.slice A8 xs.length c8))
      clear HB BKg3 HV c33_ d33_ HS HAT
      generalize (w8.setCell ⟨g3, 3, none⟩ (.slice A8 xs.length c8)) = w9 at n1_ n2_ n3_ ⊢
      have HB := n2_
      have BKg3 := n1_
      have HV := n3_
      clear n1_ n2_ n3_
      refine start_ (n := 11) (S := fun w' => w'.cell? ⟨gs, 0, none⟩ = some (.map (some ob)) ∧ w'.cell? ⟨g3, 0, none⟩ = some (.int .i64 t) ∧ w'.cell? ⟨g3, 1, none⟩ = some (.int .i64 x) ∧ w'.cell? ⟨g3, 2, none⟩ = some (.bool b) ∧ w'.cell? ⟨g3, 3, none⟩ = some (.slice A8 xs.length c8) ∧ Mp.At Try.prog 3 encI w' ob (outL t (some ib))) (ds := [10]) #[false, false, false, false, false, false, false, false, false, false, false] (by kernel_rfl) rfl rfl ⟨(blk_cell (blk_drew (HS0.out.below HB.out).box) 0).trans rfl, (blk_cell (blk_drew BKg3.out) 0).trans rfl, (blk_cell (blk_drew BKg3.out) 1).trans rfl, (blk_cell (blk_drew BKg3.out) 2).trans rfl, (blk_cell (blk_drew BKg3.out) 3).trans rfl, (HS0.out.below HB.out).out.drew⟩ (fun hHeld => ?_)
      have n1_ := Aside0.mk (show w9.drew.heap[g3]? = _ from blk_drew BKg3.out)
      have n2_ := Aside0.mk (show Below W.heap.size W w9.drew from below_drew1 HB.out)
      have n3_ := Aside0.mk (show _ from Kd.R_drew HV.out)
      clear HB BKg3 HV
      generalize w9.drew = w10 at n1_ n2_ n3_ hHeld ⊢
      have HB := n2_
      have BKg3 := n1_
      have HV := n3_
      clear n1_ n2_ n3_
      refine pure_ (i := 0) (N := some 99) (v := ?_) (a' := ?_) #[true, false, false, false, false, false, false, false, false, false, false] rfl rfl (by kernel_rfl) (fun _ _ _ h => h) (Or.inl ⟨by rfl, ?_⟩) ?_ ?_
      rotate_left
      · intro w'
        go_simp
        with_reducible rfl
      rotate_left
      · simp only [Act.put, List.setIfInBounds_toArray, List.set_cons_zero, List.set_cons_succ, i64_w, i32_w]
        rfl
      refine pure_ (i := 1) (N := some 100) (v := ?_) (a' := ?_) #[true, true, false, false, false, false, false, false, false, false, false] rfl rfl (by kernel_rfl) (fun _ _ _ h => h) (Or.inl ⟨by rfl, ?_⟩) ?_ ?_
      rotate_left
      · intro w'
        go_simp
        with_reducible rfl
      rotate_left
      · simp only [Act.put, List.setIfInBounds_toArray, List.set_cons_zero, List.set_cons_succ, i64_w, i32_w]
        rfl
      refine pure_ (i := 2) (N := some 101) (v := ?_) (a' := ?_) #[true, true, true, false, false, false, false, false, false, false, false] rfl rfl (by kernel_rfl) (fun _ _ _ h => h) (Or.inl ⟨by rfl, ?_⟩) ?_ ?_
      rotate_left
      · intro w'
        go_simp
        with_reducible rfl
      rotate_left
      · simp only [Act.put, List.setIfInBounds_toArray, List.set_cons_zero, List.set_cons_succ, i64_w, i32_w]
        rfl
      refine pure_ (i := 4) (N := some 103) (v := ?_) (a' := ?_) #[true, true, true, false, true, false, false, false, false, false, false] rfl rfl (by kernel_rfl) (fun _ _ _ h => h) (Or.inl ⟨by rfl, ?_⟩) ?_ ?_
      rotate_left
      · intro w'
        go_simp
        with_reducible rfl
      rotate_left
      · simp only [Act.put, List.setIfInBounds_toArray, List.set_cons_zero, List.set_cons_succ, i64_w, i32_w]
        rfl
      refine pure_ (i := 7) (N := some 106) (v := ?_) (a' := ?_) #[true, true, true, false, true, false, false, true, false, false, false] rfl rfl (by kernel_rfl) (fun _ _ _ h => h) (Or.inl ⟨by rfl, ?_⟩) ?_ ?_
      rotate_left
      · intro w'
        go_simp
        with_reducible rfl
      rotate_left
      · simp only [Act.put, List.setIfInBounds_toArray, List.set_cons_zero, List.set_cons_succ, i64_w, i32_w]
        rfl
      refine take_ (i := 3) (N := some 102) (v := ?_) (a' := ?_) #[true, true, true, true, true, false, false, true, false, false, false] rfl rfl (by kernel_rfl) (fun _ _ _ h => h) (Or.inl ⟨by rfl, ?_⟩) hHeld ?_ ?_
      rotate_left
      · rintro w' ⟨s0, s1, s2, s3, s4, sO⟩
        go_simp
        with_reducible rfl
      rotate_left
      · simp only [Act.put, List.setIfInBounds_toArray, List.set_cons_zero, List.set_cons_succ, i64_w, i32_w]
        rfl
      refine take_ (i := 5) (N := some 104) (v := ?_) (a' := ?_) #[true, true, true, true, true, true, false, true, false, false, false] rfl rfl (by kernel_rfl) (fun _ _ _ h => h) (Or.inl ⟨by rfl, ?_⟩) hHeld ?_ ?_
      rotate_left
      · rintro w' ⟨s0, s1, s2, s3, s4, sO⟩
        go_simp
        with_reducible rfl
      rotate_left
      · simp only [Act.put, List.setIfInBounds_toArray, List.set_cons_zero, List.set_cons_succ, i64_w, i32_w]
        rfl
      refine take_ (i := 8) (N := some 107) (v := ?_) (a' := ?_) #[true, true, true, true, true, true, false, true, true, false, false] rfl rfl (by kernel_rfl) (fun _ _ _ h => h) (Or.inl ⟨by rfl, ?_⟩) hHeld ?_ ?_
      rotate_left
      · rintro w' ⟨s0, s1, s2, s3, s4, sO⟩
        go_simp
        with_reducible rfl
      rotate_left
      · simp only [Act.put, List.setIfInBounds_toArray, List.set_cons_zero, List.set_cons_succ, i64_w, i32_w]
        rfl
      refine take_ (i := 9) (N := some 108) (v := ?_) (a' := ?_) #[true, true, true, true, true, true, false, true, true, true, false] rfl rfl (by kernel_rfl) (fun _ _ _ h => h) (Or.inl ⟨by rfl, ?_⟩) hHeld ?_ ?_
      rotate_left
      · rintro w' ⟨s0, s1, s2, s3, s4, sO⟩
        go_simp
        with_reducible rfl
      rotate_left
      · simp only [Act.put, List.setIfInBounds_toArray, List.set_cons_zero, List.set_cons_succ, i64_w, i32_w]
        rfl
      refine take_ (i := 6) (N := some 105) (v := .map (some ib)) (a' := ?_) #[true, true, true, true, true, true, true, true, true, true, false] rfl rfl (by kernel_rfl) (fun _ _ _ h => h) (Or.inl ⟨by rfl, ?_⟩) hHeld ?_ ?_
      · rintro w' ⟨s0, s1, s2, s3, s4, sO⟩
        have hrun := outer_look w' sO HWT.out
        go_simp
        all_goals first | (rw [hrun]; done) | (rw [hrun]; rfl) | (simp [hrun]; done) | exact hrun
      rotate_left
      · simp only [Act.put, List.setIfInBounds_toArray, List.set_cons_zero, List.set_cons_succ, i64_w, i32_w]
        rfl
      refine last_ (i := 10) (N := none) #[true, true, true, true, true, true, true, true, true, true, true] rfl rfl (by kernel_rfl) (by decide) (fun K hK => ?_)
      have hat10 := HAT0.out.below HB.out
      obtain ⟨o9, hrun, hat3⟩ := Mp.At.store (T := 53) KI injI Try.underlying53 hat10 HKX.out (encC ⟨.slice A8 xs.length c8, ⟨t, x, b, xs⟩⟩)
      rw [Mp.aset_vals] at hat3
      have HAT3 := Aside0.mk hat3
      have KPF := Aside0.mk (setBlock_kp w10 ib o9)
      clear hat3 hat10
      refine skip_ (w1 := setBlock w10 ib o9) (by rfl) rfl ?_ ?_
      · simp only [encI, encC] at hrun
        go_simp
        all_goals first | (rw [hrun]; done) | (rw [hrun]; rfl) | (simp [hrun]; done) | exact hrun
      refine hK.out _ _ ?_
      clear hK K
      refine done_ (by kernel_rfl) ?_
      go_wp2
      go_ret2
      refine ⟨rfl, ?_, ?_⟩
      · have hs := HS0.out.below HB.out
        refine ⟨(KPF.out.block gs hs.lt.1 HNE.out.1).trans hs.box, hs.out.keep (KPF.out.block ob hs.lt.2 HNE.out.2.2.symm), ⟨Mp.aset l x ⟨.slice A8 xs.length c8, ⟨t, x, b, xs⟩⟩, (by rw [← HL0.out]; exact (Mp.aset_vals Cel.p l x (⟨.slice A8 xs.length c8, ⟨t, x, b, xs⟩⟩ : Cel)).symm), HAT3.out, ?_⟩, hs.ne⟩
        intro q hq
        rcases aset_sub hq with hq | rfl
        · exact Kd.R_step (HROWS.out q hq) (fun k ho hlt => (KPF.out.block k (Nat.lt_of_lt_of_le hlt HB.out.size) ho.2.2).trans (HB.out.block k hlt))
        · refine Kd.R_mono (Kd.R_lower (Kd.R_step HV.out (fun k ho hlt => KPF.out.block k hlt ?_)) (Nat.zero_le _)) ?_
          · have h1_ := HAT0.out.lt
            have h2_ := LTW.out
            have h3_ := ho.2.1
            omega
          · intro k ho
            have h1_ := HS0.out.lt
            have h4_ := HAT0.out.lt
            have h2_ := LTW.out
            have h3_ := ho.2.1
            exact ⟨by omega, by omega, by omega⟩
      · exact (Kp.of_below HB.out (fun k => k = ib)).then_ KPF.out (fun k hk => .inl hk)
  · have hFz : decide (F ≥ 0) = true := decide_eq_true (by omega)
    have hFz2 : decide (0 ≤ F) = true := hFz
    have hFy : decide (F < x) = false := hFx.resolve_right (by omega)
    rcases Bool.eq_false_or_eq_true b with hb1 | hb1
    all_goals
      try have hLy := hLx hb1
      try have hLy2 : decide (x < L) = false := hLy
      rw [hb1] at c32_
      clear hFx hLx h_ hb1
      go_wp2
      refine start_ (n := 8) (S := fun w' => w'.cell? ⟨gs, 0, none⟩ = some (.map (some ob)) ∧ w'.cell? ⟨g3, 0, none⟩ = some (.int .i64 t) ∧ Mp.At Try.prog 3 encI w' ob (outL t (some ib))) (ds := []) #[false, false, false, false, false, false, false, false] (by kernel_rfl) rfl rfl ⟨(blk_cell (blk_drew HS.out.box) 0).trans rfl, (blk_cell (blk_drew BKg3.out) 0).trans rfl, HS.out.out.drew⟩ (fun hHeld => ?_)
      have hb := below_drew1 (Below.refl w6.heap.size w6)
      have n_HB := Aside0.mk (below_step HB.out hb)
      have n_HS := Aside0.mk (HS.out.below hb)
      have n_BKg3 := Aside0.mk (blk_below BKg3.out hb)
      have n_HAT := Aside0.mk (HAT.out.below hb)
      clear HB HS BKg3 HAT
      have HB := n_HB
      have HS := n_HS
      have BKg3 := n_BKg3
      have HAT := n_HAT
      clear n_HB n_HS n_BKg3 n_HAT
      clear hb
      generalize w6.drew = w7 at HB HS BKg3 HAT hHeld ⊢
      refine pure_ (i := 0) (N := some 80) (v := ?_) (a' := ?_) #[true, false, false, false, false, false, false, false] rfl rfl (by kernel_rfl) (fun _ _ _ h => h) (Or.inl ⟨by rfl, ?_⟩) ?_ ?_
      rotate_left
      · intro w'
        go_simp
        with_reducible rfl
      rotate_left
      · simp only [Act.put, List.setIfInBounds_toArray, List.set_cons_zero, List.set_cons_succ, i64_w, i32_w]
        rfl
      refine pure_ (i := 1) (N := some 81) (v := ?_) (a' := ?_) #[true, true, false, false, false, false, false, false] rfl rfl (by kernel_rfl) (fun _ _ _ h => h) (Or.inl ⟨by rfl, ?_⟩) ?_ ?_
      rotate_left
      · intro w'
        go_simp
        with_reducible rfl
      rotate_left
      · simp only [Act.put, List.setIfInBounds_toArray, List.set_cons_zero, List.set_cons_succ, i64_w, i32_w]
        rfl
      refine pure_ (i := 2) (N := some 82) (v := ?_) (a' := ?_) #[true, true, true, false, false, false, false, false] rfl rfl (by kernel_rfl) (fun _ _ _ h => h) (Or.inl ⟨by rfl, ?_⟩) ?_ ?_
      rotate_left
      · intro w'
        go_simp
        with_reducible rfl
      rotate_left
      · simp only [Act.put, List.setIfInBounds_toArray, List.set_cons_zero, List.set_cons_succ, i64_w, i32_w]
        rfl
      refine pure_ (i := 4) (N := some 84) (v := ?_) (a' := ?_) #[true, true, true, false, true, false, false, false] rfl rfl (by kernel_rfl) (fun _ _ _ h => h) (Or.inl ⟨by rfl, ?_⟩) ?_ ?_
      rotate_left
      · intro w'
        go_simp
        with_reducible rfl
      rotate_left
      · simp only [Act.put, List.setIfInBounds_toArray, List.set_cons_zero, List.set_cons_succ, i64_w, i32_w]
        rfl
      refine take_ (i := 3) (N := some 83) (v := ?_) (a' := ?_) #[true, true, true, true, true, false, false, false] rfl rfl (by kernel_rfl) (fun _ _ _ h => h) (Or.inl ⟨by rfl, ?_⟩) hHeld ?_ ?_
      rotate_left
      · rintro w' ⟨s0, s1, sO⟩
        go_simp
        with_reducible rfl
      rotate_left
      · simp only [Act.put, List.setIfInBounds_toArray, List.set_cons_zero, List.set_cons_succ, i64_w, i32_w]
        rfl
      refine take_ (i := 5) (N := some 85) (v := ?_) (a' := ?_) #[true, true, true, true, true, true, false, false] rfl rfl (by kernel_rfl) (fun _ _ _ h => h) (Or.inl ⟨by rfl, ?_⟩) hHeld ?_ ?_
      rotate_left
      · rintro w' ⟨s0, s1, sO⟩
        go_simp
        with_reducible rfl
      rotate_left
      · simp only [Act.put, List.setIfInBounds_toArray, List.set_cons_zero, List.set_cons_succ, i64_w, i32_w]
        rfl
      refine take_ (i := 6) (N := some 86) (v := .map (some ib)) (a' := ?_) #[true, true, true, true, true, true, true, false] rfl rfl (by kernel_rfl) (fun _ _ _ h => h) (Or.inl ⟨by rfl, ?_⟩) hHeld ?_ ?_
      · rintro w' ⟨s0, s1, sO⟩
        have hrun := outer_look w' sO HWT.out
        go_simp
        all_goals first | (rw [hrun]; done) | (rw [hrun]; rfl) | (simp [hrun]; done) | exact hrun
      rotate_left
      · simp only [Act.put, List.setIfInBounds_toArray, List.set_cons_zero, List.set_cons_succ, i64_w, i32_w]
        rfl
      refine pure_ (i := 7) (N := some 87) (v := .bool false) (a' := ?_) #[true, true, true, true, true, true, true, true] rfl rfl (by kernel_rfl) (fun _ _ _ h => h) (Or.inl ⟨by rfl, ?_⟩) ?_ ?_
      · intro w'
        have hrun := eqMap (some ib) w'
        go_simp
        all_goals first | (rw [hrun]; done) | (rw [hrun]; rfl) | (simp [hrun]; done) | exact hrun
      rotate_left
      · simp only [Act.put, List.setIfInBounds_toArray, List.set_cons_zero, List.set_cons_succ, i64_w, i32_w]
        rfl
      refine done_ (by kernel_rfl) ?_
      clear hHeld
      have c33_ : w7.cell? ⟨g3, 3, none⟩ = some (.slice A xs.length cc) := (blk_cell BKg3.out 3).trans rfl
      go_wp2_with (first | (go_at_call 16; refine (sc_calls A cc xs _ (Kd.C_below HC.out HB.out) HCC.out.1 (by have h_ := HCC.out.2; omega)).mono ?_; rintro e_ w8 ⟨v, rfl, hv, hb⟩; obtain ⟨A8, c8, rfl⟩ := Kd.R_slice hv; have HV := Aside0.mk hv; have LT8 := Aside0.mk (show g3 < w7.heap.size from blk_lt BKg3.out); have LTW := Aside0.mk (show W.heap.size ≤ w7.heap.size from HB.out.size); have n_HB := Aside0.mk (below_step HB.out hb); have n_HS := Aside0.mk (HS.out.below hb); have n_BKg3 := Aside0.mk (blk_below BKg3.out hb); have n_HAT := Aside0.mk (HAT.out.below hb); clear HB HS BKg3 HAT; have HB := n_HB; have HS := n_HS; have BKg3 := n_BKg3; have HAT := n_HAT; clear n_HB n_HS n_BKg3 n_HAT; clear hb hv c33_; have c33_ : w8.cell? ⟨g3, 3, none⟩ = some (.slice A xs.length cc) := (blk_cell BKg3.out 3).trans rfl; have d33_ := blk_frozen BKg3.out 3))
      have n1_ := Aside0.mk (show (w8.setCell ⟨g3, 3, none⟩ (.slice A8 xs.length c8)).heap[g3]? = some (.cells #[.int .i64 t, .int .i64 x, .bool b, .slice A8 xs.length c8] 39 (0, 0)) from blk_put BKg3.out 3 _ rfl)
      have n2_ := Aside0.mk (show Below W.heap.size W (w8.setCell ⟨g3, 3, none⟩ (.slice A8 xs.length c8)) from below_set HB.out (Nat.le_of_eq GEg3.out))
      have n3_ := Aside0.mk (Kd.R_far (Kd.R_bound HV.out) (p := ⟨g3, 3, none⟩) (fun k hk e_ => by have e2_ : k = g3 := e_; have h1_ := hk.2.1; have h2_ := LT8.out; omega) (.slice A8 xs.length c8))
      clear HB BKg3 HV c33_ d33_ HS HAT
      generalize (w8.setCell ⟨g3, 3, none⟩ (.slice A8 xs.length c8)) = w9 at n1_ n2_ n3_ ⊢
      have HB := n2_
      have BKg3 := n1_
      have HV := n3_
      clear n1_ n2_ n3_
      refine start_ (n := 11) (S := fun w' => w'.cell? ⟨gs, 0, none⟩ = some (.map (some ob)) ∧ w'.cell? ⟨g3, 0, none⟩ = some (.int .i64 t) ∧ w'.cell? ⟨g3, 1, none⟩ = some (.int .i64 x) ∧ w'.cell? ⟨g3, 2, none⟩ = some (.bool b) ∧ w'.cell? ⟨g3, 3, none⟩ = some (.slice A8 xs.length c8) ∧ Mp.At Try.prog 3 encI w' ob (outL t (some ib))) (ds := [10]) #[false, false, false, false, false, false, false, false, false, false, false] (by kernel_rfl) rfl rfl ⟨(blk_cell (blk_drew (HS0.out.below HB.out).box) 0).trans rfl, (blk_cell (blk_drew BKg3.out) 0).trans rfl, (blk_cell (blk_drew BKg3.out) 1).trans rfl, (blk_cell (blk_drew BKg3.out) 2).trans rfl, (blk_cell (blk_drew BKg3.out) 3).trans rfl, (HS0.out.below HB.out).out.drew⟩ (fun hHeld => ?_)
      have n1_ := Aside0.mk (show w9.drew.heap[g3]? = _ from blk_drew BKg3.out)
      have n2_ := Aside0.mk (show Below W.heap.size W w9.drew from below_drew1 HB.out)
      have n3_ := Aside0.mk (show _ from Kd.R_drew HV.out)
      clear HB BKg3 HV
      generalize w9.drew = w10 at n1_ n2_ n3_ hHeld ⊢
      have HB := n2_
      have BKg3 := n1_
      have HV := n3_
      clear n1_ n2_ n3_
      refine pure_ (i := 0) (N := some 99) (v := ?_) (a' := ?_) #[true, false, false, false, false, false, false, false, false, false, false] rfl rfl (by kernel_rfl) (fun _ _ _ h => h) (Or.inl ⟨by rfl, ?_⟩) ?_ ?_
      rotate_left
      · intro w'
        go_simp
        with_reducible rfl
      rotate_left
      · simp only [Act.put, List.setIfInBounds_toArray, List.set_cons_zero, List.set_cons_succ, i64_w, i32_w]
        rfl
      refine pure_ (i := 1) (N := some 100) (v := ?_) (a' := ?_) #[true, true, false, false, false, false, false, false, false, false, false] rfl rfl (by kernel_rfl) (fun _ _ _ h => h) (Or.inl ⟨by rfl, ?_⟩) ?_ ?_
      rotate_left
      · intro w'
        go_simp
        with_reducible rfl
      rotate_left
      · simp only [Act.put, List.setIfInBounds_toArray, List.set_cons_zero, List.set_cons_succ, i64_w, i32_w]
        rfl
      refine pure_ (i := 2) (N := some 101) (v := ?_) (a' := ?_) #[true, true, true, false, false, false, false, false, false, false, false] rfl rfl (by kernel_rfl) (fun _ _ _ h => h) (Or.inl ⟨by rfl, ?_⟩) ?_ ?_
      rotate_left
      · intro w'
        go_simp
        with_reducible rfl
      rotate_left
      · simp only [Act.put, List.setIfInBounds_toArray, List.set_cons_zero, List.set_cons_succ, i64_w, i32_w]
        rfl
      refine pure_ (i := 4) (N := some 103) (v := ?_) (a' := ?_) #[true, true, true, false, true, false, false, false, false, false, false] rfl rfl (by kernel_rfl) (fun _ _ _ h => h) (Or.inl ⟨by rfl, ?_⟩) ?_ ?_
      rotate_left
      · intro w'
        go_simp
        with_reducible rfl
      rotate_left
      · simp only [Act.put, List.setIfInBounds_toArray, List.set_cons_zero, List.set_cons_succ, i64_w, i32_w]
        rfl
      refine pure_ (i := 7) (N := some 106) (v := ?_) (a' := ?_) #[true, true, true, false, true, false, false, true, false, false, false] rfl rfl (by kernel_rfl) (fun _ _ _ h => h) (Or.inl ⟨by rfl, ?_⟩) ?_ ?_
      rotate_left
      · intro w'
        go_simp
        with_reducible rfl
      rotate_left
      · simp only [Act.put, List.setIfInBounds_toArray, List.set_cons_zero, List.set_cons_succ, i64_w, i32_w]
        rfl
      refine take_ (i := 3) (N := some 102) (v := ?_) (a' := ?_) #[true, true, true, true, true, false, false, true, false, false, false] rfl rfl (by kernel_rfl) (fun _ _ _ h => h) (Or.inl ⟨by rfl, ?_⟩) hHeld ?_ ?_
      rotate_left
      · rintro w' ⟨s0, s1, s2, s3, s4, sO⟩
        go_simp
        with_reducible rfl
      rotate_left
      · simp only [Act.put, List.setIfInBounds_toArray, List.set_cons_zero, List.set_cons_succ, i64_w, i32_w]
        rfl
      refine take_ (i := 5) (N := some 104) (v := ?_) (a' := ?_) #[true, true, true, true, true, true, false, true, false, false, false] rfl rfl (by kernel_rfl) (fun _ _ _ h => h) (Or.inl ⟨by rfl, ?_⟩) hHeld ?_ ?_
      rotate_left
      · rintro w' ⟨s0, s1, s2, s3, s4, sO⟩
        go_simp
        with_reducible rfl
      rotate_left
      · simp only [Act.put, List.setIfInBounds_toArray, List.set_cons_zero, List.set_cons_succ, i64_w, i32_w]
        rfl
      refine take_ (i := 8) (N := some 107) (v := ?_) (a' := ?_) #[true, true, true, true, true, true, false, true, true, false, false] rfl rfl (by kernel_rfl) (fun _ _ _ h => h) (Or.inl ⟨by rfl, ?_⟩) hHeld ?_ ?_
      rotate_left
      · rintro w' ⟨s0, s1, s2, s3, s4, sO⟩
        go_simp
        with_reducible rfl
      rotate_left
      · simp only [Act.put, List.setIfInBounds_toArray, List.set_cons_zero, List.set_cons_succ, i64_w, i32_w]
        rfl
      refine take_ (i := 9) (N := some 108) (v := ?_) (a' := ?_) #[true, true, true, true, true, true, false, true, true, true, false] rfl rfl (by kernel_rfl) (fun _ _ _ h => h) (Or.inl ⟨by rfl, ?_⟩) hHeld ?_ ?_
      rotate_left
      · rintro w' ⟨s0, s1, s2, s3, s4, sO⟩
        go_simp
        with_reducible rfl
      rotate_left
      · simp only [Act.put, List.setIfInBounds_toArray, List.set_cons_zero, List.set_cons_succ, i64_w, i32_w]
        rfl
      refine take_ (i := 6) (N := some 105) (v := .map (some ib)) (a' := ?_) #[true, true, true, true, true, true, true, true, true, true, false] rfl rfl (by kernel_rfl) (fun _ _ _ h => h) (Or.inl ⟨by rfl, ?_⟩) hHeld ?_ ?_
      · rintro w' ⟨s0, s1, s2, s3, s4, sO⟩
        have hrun := outer_look w' sO HWT.out
        go_simp
        all_goals first | (rw [hrun]; done) | (rw [hrun]; rfl) | (simp [hrun]; done) | exact hrun
      rotate_left
      · simp only [Act.put, List.setIfInBounds_toArray, List.set_cons_zero, List.set_cons_succ, i64_w, i32_w]
        rfl
      refine last_ (i := 10) (N := none) #[true, true, true, true, true, true, true, true, true, true, true] rfl rfl (by kernel_rfl) (by decide) (fun K hK => ?_)
      have hat10 := HAT0.out.below HB.out
      obtain ⟨o9, hrun, hat3⟩ := Mp.At.store (T := 53) KI injI Try.underlying53 hat10 HKX.out (encC ⟨.slice A8 xs.length c8, ⟨t, x, b, xs⟩⟩)
      rw [Mp.aset_vals] at hat3
      have HAT3 := Aside0.mk hat3
      have KPF := Aside0.mk (setBlock_kp w10 ib o9)
      clear hat3 hat10
      refine skip_ (w1 := setBlock w10 ib o9) (by rfl) rfl ?_ ?_
      · simp only [encI, encC] at hrun
        go_simp
        all_goals first | (rw [hrun]; done) | (rw [hrun]; rfl) | (simp [hrun]; done) | exact hrun
      refine hK.out _ _ ?_
      clear hK K
      refine done_ (by kernel_rfl) ?_
      go_wp2
      go_ret2
      refine ⟨rfl, ?_, ?_⟩
      · have hs := HS0.out.below HB.out
        refine ⟨(KPF.out.block gs hs.lt.1 HNE.out.1).trans hs.box, hs.out.keep (KPF.out.block ob hs.lt.2 HNE.out.2.2.symm), ⟨Mp.aset l x ⟨.slice A8 xs.length c8, ⟨t, x, b, xs⟩⟩, (by rw [← HL0.out]; exact (Mp.aset_vals Cel.p l x (⟨.slice A8 xs.length c8, ⟨t, x, b, xs⟩⟩ : Cel)).symm), HAT3.out, ?_⟩, hs.ne⟩
        intro q hq
        rcases aset_sub hq with hq | rfl
        · exact Kd.R_step (HROWS.out q hq) (fun k ho hlt => (KPF.out.block k (Nat.lt_of_lt_of_le hlt HB.out.size) ho.2.2).trans (HB.out.block k hlt))
        · refine Kd.R_mono (Kd.R_lower (Kd.R_step HV.out (fun k ho hlt => KPF.out.block k hlt ?_)) (Nat.zero_le _)) ?_
          · have h1_ := HAT0.out.lt
            have h2_ := LTW.out
            have h3_ := ho.2.1
            omega
          · intro k ho
            have h1_ := HS0.out.lt
            have h4_ := HAT0.out.lt
            have h2_ := LTW.out
            have h3_ := ho.2.1
            exact ⟨by omega, by omega, by omega⟩
      · exact (Kp.of_below HB.out (fun k => k = ib)).then_ KPF.out (fun k hk => .inl hk)
end Go.Proofs.Ytpbljheelkpaiaa.Pg
