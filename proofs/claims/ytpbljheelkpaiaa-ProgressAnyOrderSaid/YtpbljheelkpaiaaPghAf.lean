/- progress.Assembler: Add, the first chunk. -/
import Derived.Test.YtpbljheelkpaiaaPghAd
import Derived.Test.YtpbljheelkpaiaaPghEq
import Derived.Test.YtpbljheelkpaiaaPgx1
import Derived.Test.YtpbljheelkpaiaaMp
import Derived.Laws.IdiomRangeMap
namespace Go.Proofs.Ytpbljheelkpaiaa.Pg
open Go.RowKit Go.Proofs.YtpbljheelkpaiaaW.PrintWords Go.Proofs.YtpbljheelkpaiaaW.PrintLast Go.Proofs.YtpbljheelkpaiaaW.PrintMore
open Go.Proofs.Ytpbljheelkpaiaa
set_option linter.unusedVariables false
set_option linter.unusedSimpArgs false
attribute [local go_sem] Oper.semAt_some max2_int min2_int max_two min_two
open Go.ChangeMaps (setBlock)
set_option maxHeartbeats 16000000 in
set_option maxRecDepth 100000 in
theorem add_first (gs ob : Nat) (t : Int) (n : Nat) (W : World) (h : As gs ob t none [] W) (ht0 : 0 ≤ t) (ht : (Lit.int .i64 t).wf = true) (hn : n ≤ 1000) (i : Nat) (hi : i < n) (x : Int) (hx : x = (i : Int)) (b : Bool) (hb0 : b = decide (i + 1 = n)) (A : Option Addr) (cc : Nat) (xs : List Int) (hr : Kd.C (Kd.int .i64) W A xs.length xs) (hc : xs.length ≤ cc) (hl : xs.length ≤ 1000)  :
    Calls Try.prog 11 #[.pointer (some ⟨gs, 0, none⟩), .agg #[.int .i64 t, .int .i64 x, .bool b, .slice A xs.length cc]] W fun e W' => e = .returned (.tuple #[.bool true, .int .i64 0]) ∧ ∃ ib, As gs ob t (some ib) [(x, ⟨t, x, b, xs⟩)] W' ∧ Kp W W' (fun k => k = ob) ∧ W.heap.size ≤ ib := by
  have hu50 := Try.underlying50
  have hu39 := Try.underlying39
  have hu53 := Try.underlying53
  have hu48 := Try.underlying48
  have HX := Aside0.mk (show x = (i : Int) ∧ i < n ∧ n ≤ 1000 ∧ 0 < n from ⟨hx, hi, hn, by omega⟩)
  have HWT := Aside0.mk ht
  have HKX := Aside0.mk (keyI x (wfI (by omega) (by omega)))
  have HC := Aside0.mk hr
  have HCC := Aside0.mk (show xs.length ≤ cc ∧ xs.length ≤ 1000 from ⟨hc, hl⟩)
  have f0 : decide (t < 0) = false := decide_eq_false (by omega)
  have f1 : decide (x < 0) = false := decide_eq_false (by omega)
  have f2 : decide (x ≥ 1000) = false := decide_eq_false (by omega)
  have f2b : decide (1000 ≤ x) = false := decide_eq_false (by omega)
  have f3 : decide ((xs.length : Int) > 1000) = false := decide_eq_false (by omega)
  have f3b : decide (1000 < (xs.length : Int)) = false := decide_eq_false (by omega)
  have HS := Aside0.mk h
  have HB := Aside0.mk (Below.refl W.heap.size W)
  have HNE := Aside0.mk h.nes0
  have HSW := Aside0.mk h.lt
  clear h ht0 hn hi hx hr hc hl hb0
  go_enter Try.func11, Try.ntmps11
  go_wp2_with (first | ((with_reducible refine gate_dst (N := 3) rfl ?_); refine box_event ?hg (N := 3) ?hd (cs := #[.int .i64 t, .int .i64 x, .bool b, .slice A xs.length cc]) (t := 39) ?hr ?_; (case hd => rfl); (case hg => rfl); (case hr => first | (go_simp; done) | (go_simp; rfl)); intro g3 hg w2 hbox hb; have BKg3 := Aside0.mk hbox; have GEg3 := Aside0.mk (show W.heap.size = g3 from hg.symm); have hb_ := hb; have n_HB := Aside0.mk (below_step HB.out hb); have n_HS := Aside0.mk (HS.out.below hb); clear HB HS; have HB := n_HB; have HS := n_HS; clear n_HB n_HS hb_; have c30_ : w2.cell? ⟨g3, 0, none⟩ = some (.int .i64 t) := (blk_cell hbox 0).trans rfl; have c31_ : w2.cell? ⟨g3, 1, none⟩ = some (.int .i64 x) := (blk_cell hbox 1).trans rfl; have c33_ : w2.cell? ⟨g3, 3, none⟩ = some (.slice A xs.length cc) := (blk_cell hbox 3).trans rfl; clear hbox hb hg))
  clear c30_ c31_ c33_
  have NG := Aside0.mk (show g3 ≠ gs ∧ True from ⟨by have h_ := HS.out.lt; have h2_ := HSW.out; have h3_ := GEg3.out; omega, trivial⟩)
  refine start_ (n := 16) (S := fun w' => w'.cell? ⟨gs, 0, none⟩ = some (.map (some ob)) ∧ w'.cell? ⟨g3, 0, none⟩ = some (.int .i64 t) ∧ w'.cell? ⟨g3, 1, none⟩ = some (.int .i64 x) ∧ Mp.At Try.prog 3 encI w' ob (outL t none)) (ds := []) #[false, false, false, false, false, false, false, false, false, false, false, false, false, false, false, false] (by kernel_rfl) rfl rfl ⟨(blk_cell (blk_drew HS.out.box) 0).trans rfl, (blk_cell (blk_drew BKg3.out) 0).trans rfl, (blk_cell (blk_drew BKg3.out) 1).trans rfl, (HS.out.out).drew⟩ (fun hHeld => ?_)
  have hb := below_drew1 (Below.refl w2.heap.size w2)
  have n_HB := Aside0.mk (below_step HB.out hb)
  have n_HS := Aside0.mk (HS.out.below hb)
  have n_BKg3 := Aside0.mk (blk_below BKg3.out hb)
  clear HB HS BKg3
  have HB := n_HB
  have HS := n_HS
  have BKg3 := n_BKg3
  clear n_HB n_HS n_BKg3
  clear hb
  generalize w2.drew = w3 at HB HS BKg3 hHeld ⊢
  refine pure_ (i := 0) (N := some 30) (v := ?_) (a' := ?_) #[true, false, false, false, false, false, false, false, false, false, false, false, false, false, false, false] rfl rfl (by kernel_rfl) (fun _ _ _ h => h) (Or.inl ⟨by rfl, ?_⟩) ?_ ?_
  rotate_left
  · intro w'
    go_simp
    with_reducible rfl
  rotate_left
  · simp only [Act.put, List.setIfInBounds_toArray, List.set_cons_zero, List.set_cons_succ, i64_w, i32_w]
    rfl
  refine pure_ (i := 1) (N := some 31) (v := ?_) (a' := ?_) #[true, true, false, false, false, false, false, false, false, false, false, false, false, false, false, false] rfl rfl (by kernel_rfl) (fun _ _ _ h => h) (Or.inl ⟨by rfl, ?_⟩) ?_ ?_
  rotate_left
  · intro w'
    go_simp
    with_reducible rfl
  rotate_left
  · simp only [Act.put, List.setIfInBounds_toArray, List.set_cons_zero, List.set_cons_succ, i64_w, i32_w]
    rfl
  refine pure_ (i := 2) (N := some 32) (v := ?_) (a' := ?_) #[true, true, true, false, false, false, false, false, false, false, false, false, false, false, false, false] rfl rfl (by kernel_rfl) (fun _ _ _ h => h) (Or.inl ⟨by rfl, ?_⟩) ?_ ?_
  rotate_left
  · intro w'
    go_simp
    with_reducible rfl
  rotate_left
  · simp only [Act.put, List.setIfInBounds_toArray, List.set_cons_zero, List.set_cons_succ, i64_w, i32_w]
    rfl
  refine pure_ (i := 4) (N := some 34) (v := ?_) (a' := ?_) #[true, true, true, false, true, false, false, false, false, false, false, false, false, false, false, false] rfl rfl (by kernel_rfl) (fun _ _ _ h => h) (Or.inl ⟨by rfl, ?_⟩) ?_ ?_
  rotate_left
  · intro w'
    go_simp
    with_reducible rfl
  rotate_left
  · simp only [Act.put, List.setIfInBounds_toArray, List.set_cons_zero, List.set_cons_succ, i64_w, i32_w]
    rfl
  refine pure_ (i := 7) (N := some 37) (v := ?_) (a' := ?_) #[true, true, true, false, true, false, false, true, false, false, false, false, false, false, false, false] rfl rfl (by kernel_rfl) (fun _ _ _ h => h) (Or.inl ⟨by rfl, ?_⟩) ?_ ?_
  rotate_left
  · intro w'
    go_simp
    with_reducible rfl
  rotate_left
  · simp only [Act.put, List.setIfInBounds_toArray, List.set_cons_zero, List.set_cons_succ, i64_w, i32_w]
    rfl
  refine take_ (i := 3) (N := some 33) (v := ?_) (a' := ?_) #[true, true, true, true, true, false, false, true, false, false, false, false, false, false, false, false] rfl rfl (by kernel_rfl) (fun _ _ _ h => h) (Or.inl ⟨by rfl, ?_⟩) hHeld ?_ ?_
  rotate_left
  · rintro w' ⟨s0, s1, s2, sO⟩
    go_simp
    with_reducible rfl
  rotate_left
  · simp only [Act.put, List.setIfInBounds_toArray, List.set_cons_zero, List.set_cons_succ, i64_w, i32_w]
    rfl
  refine take_ (i := 5) (N := some 35) (v := ?_) (a' := ?_) #[true, true, true, true, true, true, false, true, false, false, false, false, false, false, false, false] rfl rfl (by kernel_rfl) (fun _ _ _ h => h) (Or.inl ⟨by rfl, ?_⟩) hHeld ?_ ?_
  rotate_left
  · rintro w' ⟨s0, s1, s2, sO⟩
    go_simp
    with_reducible rfl
  rotate_left
  · simp only [Act.put, List.setIfInBounds_toArray, List.set_cons_zero, List.set_cons_succ, i64_w, i32_w]
    rfl
  refine take_ (i := 8) (N := some 38) (v := ?_) (a' := ?_) #[true, true, true, true, true, true, false, true, true, false, false, false, false, false, false, false] rfl rfl (by kernel_rfl) (fun _ _ _ h => h) (Or.inl ⟨by rfl, ?_⟩) hHeld ?_ ?_
  rotate_left
  · rintro w' ⟨s0, s1, s2, sO⟩
    go_simp
    with_reducible rfl
  rotate_left
  · simp only [Act.put, List.setIfInBounds_toArray, List.set_cons_zero, List.set_cons_succ, i64_w, i32_w]
    rfl
  refine take_ (i := 6) (N := some 36) (v := .map none) (a' := ?_) #[true, true, true, true, true, true, true, true, true, false, false, false, false, false, false, false] rfl rfl (by kernel_rfl) (fun _ _ _ h => h) (Or.inl ⟨by rfl, ?_⟩) hHeld ?_ ?_
  · rintro w' ⟨s0, s1, s2, sO⟩
    have hrun := outer_look w' sO HWT.out
    go_simp
    all_goals first | (rw [hrun]; done) | (rw [hrun]; rfl) | (simp [hrun]; done) | exact hrun
  rotate_left
  · simp only [Act.put, List.setIfInBounds_toArray, List.set_cons_zero, List.set_cons_succ, i64_w, i32_w]
    rfl
  refine take_ (i := 9) (N := some 39) (v := .tuple #[(.agg #[.int .i64 0, .int .i64 0, .bool false, .slice none 0 0]), .bool false]) (a' := ?_) #[true, true, true, true, true, true, true, true, true, true, false, false, false, false, false, false] rfl rfl (by kernel_rfl) (fun _ _ _ h => h) (Or.inl ⟨by rfl, ?_⟩) hHeld ?_ ?_
  · rintro w' ⟨s0, s1, s2, sO⟩
    have hrun0 := Mp.look_nil true KI Try.underlying53 (zero39 w') HKX.out
    have hrun : (Instr.lookup 53 (.map none) (.int .i64 x) true).run Try.prog w' = .ok (.tuple #[(.agg #[.int .i64 0, .int .i64 0, .bool false, .slice none 0 0]), .bool false]) w' := hrun0
    go_simp
    all_goals first | (rw [hrun]; done) | (rw [hrun]; rfl) | (simp [hrun]; done) | exact hrun
  rotate_left
  · simp only [Act.put, List.setIfInBounds_toArray, List.set_cons_zero, List.set_cons_succ, i64_w, i32_w]
    rfl
  refine pure_ (i := 10) (N := some 29) (v := ?_) (a' := ?_) #[true, true, true, true, true, true, true, true, true, true, true, false, false, false, false, false] rfl rfl (by kernel_rfl) (fun _ _ _ h => h) (Or.inl ⟨by rfl, ?_⟩) ?_ ?_
  rotate_left
  · intro w'
    go_simp
    with_reducible rfl
  rotate_left
  · simp only [Act.put, List.setIfInBounds_toArray, List.set_cons_zero, List.set_cons_succ, i64_w, i32_w]
    rfl
  refine pure_ (i := 11) (N := some 40) (v := ?_) (a' := ?_) #[true, true, true, true, true, true, true, true, true, true, true, true, false, false, false, false] rfl rfl (by kernel_rfl) (fun _ _ _ h => h) (Or.inl ⟨by rfl, ?_⟩) ?_ ?_
  rotate_left
  · intro w'
    go_simp
    with_reducible rfl
  rotate_left
  · simp only [Act.put, List.setIfInBounds_toArray, List.set_cons_zero, List.set_cons_succ, i64_w, i32_w]
    rfl
  refine pure_ (i := 12) (N := some 41) (v := ?_) (a' := ?_) #[true, true, true, true, true, true, true, true, true, true, true, true, true, false, false, false] rfl rfl (by kernel_rfl) (fun _ _ _ h => h) (Or.inl ⟨by rfl, ?_⟩) ?_ ?_
  rotate_left
  · intro w'
    go_simp
    with_reducible rfl
  rotate_left
  · simp only [Act.put, List.setIfInBounds_toArray, List.set_cons_zero, List.set_cons_succ, i64_w, i32_w]
    rfl
  refine one_ (i := 13) (N := some 6) #[true, true, true, true, true, true, true, true, true, true, true, true, true, true, false, false] rfl rfl (by kernel_rfl) (by decide) (fun K hK => ?_)
  refine value_ (w1 := w3.alloc (.cells #[.int .i64 0, .int .i64 0, .bool false, .slice none 0 0] 39 (0, 0))) (v := .pointer (some ⟨w3.heap.size, 0, none⟩)) (by rfl) rfl ?_ ?_
  · go_simp
    try rfl
  have hb : Below w3.heap.size w3 (w3.alloc (.cells #[.int .i64 0, .int .i64 0, .bool false, .slice none 0 0] 39 (0, 0))) := below_alloc (Below.refl _ _) _
  have hx8 : (w3.alloc (.cells #[.int .i64 0, .int .i64 0, .bool false, .slice none 0 0] 39 (0, 0))).heap[w3.heap.size]? = some (.cells #[.int .i64 0, .int .i64 0, .bool false, .slice none 0 0] 39 (0, 0)) := blk_new w3 _
  generalize hsz : w3.heap.size = g6 at hx8 ⊢
  generalize (w3.alloc (.cells #[.int .i64 0, .int .i64 0, .bool false, .slice none 0 0] 39 (0, 0))) = w4 at hb hx8 ⊢
  have BKg6 := Aside0.mk hx8
  have HB4 := Aside0.mk hb
  have SZ := Aside0.mk (Nat.le_of_eq hsz)
  clear hx8 hb hsz
  refine hK.out _ _ ⟨(blk_cell (blk_below HS.out.box HB4.out) 0).trans rfl, (blk_cell (blk_below BKg3.out HB4.out) 0).trans rfl, (blk_cell (blk_below BKg3.out HB4.out) 1).trans rfl, HS.out.out.below HB4.out⟩ (fun hHeld => ?_)
  clear hK K
  refine norm_ (a' := ?_) ?_ ?_
  rotate_left
  · show Act.put _ (some 6) _ = _
    simp only [Act.put, List.setIfInBounds_toArray, List.set_cons_zero, List.set_cons_succ, i64_w, i32_w]
    rfl
  refine one_ (i := 14) (N := none) #[true, true, true, true, true, true, true, true, true, true, true, true, true, true, true, false] rfl rfl (by kernel_rfl) (by decide) (fun K hK => ?_)
  refine skip_ (w1 := ((((w4.setCell ⟨g6, 0, none⟩ (.int .i64 0)).setCell ⟨g6, 1, none⟩ (.int .i64 0)).setCell ⟨g6, 2, none⟩ (.bool false)).setCell ⟨g6, 3, none⟩ (.slice none 0 0))) (by rfl) rfl ?_ ?_
  · have c0 : w4.cell? ⟨g6, 0, none⟩ = some (.int .i64 0) := (blk_cell BKg6.out 0).trans rfl
    have c1 : w4.cell? ⟨g6, 1, none⟩ = some (.int .i64 0) := (blk_cell BKg6.out 1).trans rfl
    have c2 : w4.cell? ⟨g6, 2, none⟩ = some (.bool false) := (blk_cell BKg6.out 2).trans rfl
    have c3 : w4.cell? ⟨g6, 3, none⟩ = some (.slice none 0 0) := (blk_cell BKg6.out 3).trans rfl
    have d0 := blk_frozen BKg6.out 0
    have d1 := blk_frozen BKg6.out 1
    have d2 := blk_frozen BKg6.out 2
    have d3 := blk_frozen BKg6.out 3
    go_simp
    try rfl
  have n1_ := Aside0.mk (show ((((w4.setCell ⟨g6, 0, none⟩ (.int .i64 0)).setCell ⟨g6, 1, none⟩ (.int .i64 0)).setCell ⟨g6, 2, none⟩ (.bool false)).setCell ⟨g6, 3, none⟩ (.slice none 0 0)).heap[g6]? = some (.cells #[(.int .i64 0), (.int .i64 0), (.bool false), (.slice none 0 0)] 39 (0, 0)) from by refine blk_put (cs := #[(.int .i64 0), (.int .i64 0), (.bool false), .slice none 0 0]) ?_ 3 _ rfl; refine blk_put (cs := #[(.int .i64 0), (.int .i64 0), .bool false, .slice none 0 0]) ?_ 2 _ rfl; refine blk_put (cs := #[(.int .i64 0), .int .i64 0, .bool false, .slice none 0 0]) ?_ 1 _ rfl; refine blk_put (cs := #[.int .i64 0, .int .i64 0, .bool false, .slice none 0 0]) ?_ 0 _ rfl; exact BKg6.out)
  have hb : Below w3.heap.size w3 ((((w4.setCell ⟨g6, 0, none⟩ (.int .i64 0)).setCell ⟨g6, 1, none⟩ (.int .i64 0)).setCell ⟨g6, 2, none⟩ (.bool false)).setCell ⟨g6, 3, none⟩ (.slice none 0 0)) := below_set (below_set (below_set (below_set HB4.out SZ.out) SZ.out) SZ.out) SZ.out
  have n_HB := Aside0.mk (below_step HB.out hb)
  have n_HS := Aside0.mk (HS.out.below hb)
  have n_BKg3 := Aside0.mk (blk_below BKg3.out hb)
  clear HB HS BKg3
  have HB := n_HB
  have HS := n_HS
  have BKg3 := n_BKg3
  clear n_HB n_HS n_BKg3
  clear BKg6 HB4 SZ hb hHeld
  generalize ((((w4.setCell ⟨g6, 0, none⟩ (.int .i64 0)).setCell ⟨g6, 1, none⟩ (.int .i64 0)).setCell ⟨g6, 2, none⟩ (.bool false)).setCell ⟨g6, 3, none⟩ (.slice none 0 0)) = w5 at n1_ HB HS BKg3 ⊢
  have BKg6 := n1_
  clear n1_
  refine hK.out _ _ ⟨(blk_cell HS.out.box 0).trans rfl, (blk_cell BKg3.out 0).trans rfl, (blk_cell BKg3.out 1).trans rfl, HS.out.out⟩ (fun hHeld => ?_)
  clear hK K
  refine pure_ (i := 15) (N := some 7) (v := ?_) (a' := ?_) #[true, true, true, true, true, true, true, true, true, true, true, true, true, true, true, true] rfl rfl (by kernel_rfl) (fun _ _ _ h => h) (Or.inl ⟨by rfl, ?_⟩) ?_ ?_
  rotate_left
  · intro w'
    go_simp
    with_reducible rfl
  rotate_left
  · simp only [Act.put, List.setIfInBounds_toArray, List.set_cons_zero, List.set_cons_succ, i64_w, i32_w]
    rfl
  refine done_ (by kernel_rfl) ?_
  clear hHeld BKg6
  have c30_ : w5.cell? ⟨g3, 0, none⟩ = some (.int .i64 t) := (blk_cell BKg3.out 0).trans rfl
  go_upto_region 11 with (first | (go_at_call 17; refine (bounds_nil gs ob t _ HS.out HWT.out).mono ?_; rintro e_ w6 ⟨rfl, hb⟩; have n_HB := Aside0.mk (below_step HB.out hb); have n_HS := Aside0.mk (HS.out.below hb); have n_BKg3 := Aside0.mk (blk_below BKg3.out hb); clear HB HS BKg3; have HB := n_HB; have HS := n_HS; have BKg3 := n_BKg3; clear n_HB n_HS n_BKg3; clear hb c30_))
  have c30_ : w6.cell? ⟨g3, 0, none⟩ = some (.int .i64 t) := (blk_cell BKg3.out 0).trans rfl
  have c31_ : w6.cell? ⟨g3, 1, none⟩ = some (.int .i64 x) := (blk_cell BKg3.out 1).trans rfl
  have c32_ : w6.cell? ⟨g3, 2, none⟩ = some (.bool b) := (blk_cell BKg3.out 2).trans rfl
  have hLy : decide ((-1 : Int) > x) = false := decide_eq_false (by have h_ := HX.out; omega)
  have hLy2 : decide (x < (-1 : Int)) = false := hLy
  rcases Bool.eq_false_or_eq_true b with hb1 | hb1
  all_goals
    rw [hb1] at c32_
    clear hb1
    go_wp2
    refine start_ (n := 8) (S := fun w' => w'.cell? ⟨gs, 0, none⟩ = some (.map (some ob)) ∧ w'.cell? ⟨g3, 0, none⟩ = some (.int .i64 t) ∧ Mp.At Try.prog 3 encI w' ob (outL t none)) (ds := []) #[false, false, false, false, false, false, false, false] (by kernel_rfl) rfl rfl ⟨(blk_cell (blk_drew HS.out.box) 0).trans rfl, (blk_cell (blk_drew BKg3.out) 0).trans rfl, HS.out.out.drew⟩ (fun hHeld => ?_)
    have hb := below_drew1 (Below.refl w6.heap.size w6)
    have n_HB := Aside0.mk (below_step HB.out hb)
    have n_HS := Aside0.mk (HS.out.below hb)
    have n_BKg3 := Aside0.mk (blk_below BKg3.out hb)
    clear HB HS BKg3
    have HB := n_HB
    have HS := n_HS
    have BKg3 := n_BKg3
    clear n_HB n_HS n_BKg3
    clear hb
    generalize w6.drew = w7 at HB HS BKg3 hHeld ⊢
    refine pure_ (i := 0) (N := some 80) (v := ?_) (a' := ?_) #[true, false, false, false, false, false, false, false] rfl rfl (by kernel_rfl) (fun _ _ _ h => h) (Or.inl ⟨by rfl, ?_⟩) ?_ ?_
    rotate_left
    · intro w'
      go_simp
      with_reducible rfl
    rotate_left
    · simp only [Act.put, List.setIfInBounds_toArray, List.set_cons_zero, List.set_cons_succ, i64_w, i32_w]
      rfl
    refine pure_ (i := 1) (N := some 81) (v := ?_) (a' := ?_) #[true, true, false, false, false, false, false, false] rfl rfl (by kernel_rfl) (fun _ _ _ h => h) (Or.inl ⟨by rfl, ?_⟩) ?_ ?_
    rotate_left
    · intro w'
      go_simp
      with_reducible rfl
    rotate_left
    · simp only [Act.put, List.setIfInBounds_toArray, List.set_cons_zero, List.set_cons_succ, i64_w, i32_w]
      rfl
    refine pure_ (i := 2) (N := some 82) (v := ?_) (a' := ?_) #[true, true, true, false, false, false, false, false] rfl rfl (by kernel_rfl) (fun _ _ _ h => h) (Or.inl ⟨by rfl, ?_⟩) ?_ ?_
    rotate_left
    · intro w'
      go_simp
      with_reducible rfl
    rotate_left
    · simp only [Act.put, List.setIfInBounds_toArray, List.set_cons_zero, List.set_cons_succ, i64_w, i32_w]
      rfl
    refine pure_ (i := 4) (N := some 84) (v := ?_) (a' := ?_) #[true, true, true, false, true, false, false, false] rfl rfl (by kernel_rfl) (fun _ _ _ h => h) (Or.inl ⟨by rfl, ?_⟩) ?_ ?_
    rotate_left
    · intro w'
      go_simp
      with_reducible rfl
    rotate_left
    · simp only [Act.put, List.setIfInBounds_toArray, List.set_cons_zero, List.set_cons_succ, i64_w, i32_w]
      rfl
    refine take_ (i := 3) (N := some 83) (v := ?_) (a' := ?_) #[true, true, true, true, true, false, false, false] rfl rfl (by kernel_rfl) (fun _ _ _ h => h) (Or.inl ⟨by rfl, ?_⟩) hHeld ?_ ?_
    rotate_left
    · rintro w' ⟨s0, s1, sO⟩
      go_simp
      with_reducible rfl
    rotate_left
    · simp only [Act.put, List.setIfInBounds_toArray, List.set_cons_zero, List.set_cons_succ, i64_w, i32_w]
      rfl
    refine take_ (i := 5) (N := some 85) (v := ?_) (a' := ?_) #[true, true, true, true, true, true, false, false] rfl rfl (by kernel_rfl) (fun _ _ _ h => h) (Or.inl ⟨by rfl, ?_⟩) hHeld ?_ ?_
    rotate_left
    · rintro w' ⟨s0, s1, sO⟩
      go_simp
      with_reducible rfl
    rotate_left
    · simp only [Act.put, List.setIfInBounds_toArray, List.set_cons_zero, List.set_cons_succ, i64_w, i32_w]
      rfl
    refine take_ (i := 6) (N := some 86) (v := .map none) (a' := ?_) #[true, true, true, true, true, true, true, false] rfl rfl (by kernel_rfl) (fun _ _ _ h => h) (Or.inl ⟨by rfl, ?_⟩) hHeld ?_ ?_
    · rintro w' ⟨s0, s1, sO⟩
      have hrun := outer_look w' sO HWT.out
      go_simp
      all_goals first | (rw [hrun]; done) | (rw [hrun]; rfl) | (simp [hrun]; done) | exact hrun
    rotate_left
    · simp only [Act.put, List.setIfInBounds_toArray, List.set_cons_zero, List.set_cons_succ, i64_w, i32_w]
      rfl
    refine pure_ (i := 7) (N := some 87) (v := .bool true) (a' := ?_) #[true, true, true, true, true, true, true, true] rfl rfl (by kernel_rfl) (fun _ _ _ h => h) (Or.inl ⟨by rfl, ?_⟩) ?_ ?_
    · intro w'
      have hrun := eqMap none w'
      go_simp
      all_goals first | (rw [hrun]; done) | (rw [hrun]; rfl) | (simp [hrun]; done) | exact hrun
    rotate_left
    · simp only [Act.put, List.setIfInBounds_toArray, List.set_cons_zero, List.set_cons_succ, i64_w, i32_w]
      rfl
    refine done_ (by kernel_rfl) ?_
    clear hHeld
    go_wp2
    refine start_ (n := 8) (S := fun w' => w'.cell? ⟨gs, 0, none⟩ = some (.map (some ob)) ∧ w'.cell? ⟨g3, 0, none⟩ = some (.int .i64 t)) (ds := [7]) #[false, false, false, false, false, false, false, false] (by kernel_rfl) rfl rfl ⟨(blk_cell (blk_drew HS.out.box) 0).trans rfl, (blk_cell (blk_drew BKg3.out) 0).trans rfl⟩ (fun hHeld => ?_)
    have hb := below_drew1 (Below.refl w7.heap.size w7)
    have n_HB := Aside0.mk (below_step HB.out hb)
    have n_HS := Aside0.mk (HS.out.below hb)
    have n_BKg3 := Aside0.mk (blk_below BKg3.out hb)
    clear HB HS BKg3
    have HB := n_HB
    have HS := n_HS
    have BKg3 := n_BKg3
    clear n_HB n_HS n_BKg3
    clear hb
    generalize w7.drew = w8 at HB HS BKg3 hHeld ⊢
    refine pure_ (i := 0) (N := some 88) (v := ?_) (a' := ?_) #[true, false, false, false, false, false, false, false] rfl rfl (by kernel_rfl) (fun _ _ _ h => h) (Or.inl ⟨by rfl, ?_⟩) ?_ ?_
    rotate_left
    · intro w'
      go_simp
      with_reducible rfl
    rotate_left
    · simp only [Act.put, List.setIfInBounds_toArray, List.set_cons_zero, List.set_cons_succ, i64_w, i32_w]
      rfl
    refine pure_ (i := 1) (N := some 89) (v := ?_) (a' := ?_) #[true, true, false, false, false, false, false, false] rfl rfl (by kernel_rfl) (fun _ _ _ h => h) (Or.inl ⟨by rfl, ?_⟩) ?_ ?_
    rotate_left
    · intro w'
      go_simp
      with_reducible rfl
    rotate_left
    · simp only [Act.put, List.setIfInBounds_toArray, List.set_cons_zero, List.set_cons_succ, i64_w, i32_w]
      rfl
    refine pure_ (i := 2) (N := some 90) (v := ?_) (a' := ?_) #[true, true, true, false, false, false, false, false] rfl rfl (by kernel_rfl) (fun _ _ _ h => h) (Or.inl ⟨by rfl, ?_⟩) ?_ ?_
    rotate_left
    · intro w'
      go_simp
      with_reducible rfl
    rotate_left
    · simp only [Act.put, List.setIfInBounds_toArray, List.set_cons_zero, List.set_cons_succ, i64_w, i32_w]
      rfl
    refine pure_ (i := 4) (N := some 92) (v := ?_) (a' := ?_) #[true, true, true, false, true, false, false, false] rfl rfl (by kernel_rfl) (fun _ _ _ h => h) (Or.inl ⟨by rfl, ?_⟩) ?_ ?_
    rotate_left
    · intro w'
      go_simp
      with_reducible rfl
    rotate_left
    · simp only [Act.put, List.setIfInBounds_toArray, List.set_cons_zero, List.set_cons_succ, i64_w, i32_w]
      rfl
    refine take_ (i := 3) (N := some 91) (v := ?_) (a' := ?_) #[true, true, true, true, true, false, false, false] rfl rfl (by kernel_rfl) (fun _ _ _ h => h) (Or.inl ⟨by rfl, ?_⟩) hHeld ?_ ?_
    rotate_left
    · rintro w' ⟨s0, s1⟩
      go_simp
      with_reducible rfl
    rotate_left
    · simp only [Act.put, List.setIfInBounds_toArray, List.set_cons_zero, List.set_cons_succ, i64_w, i32_w]
      rfl
    refine take_ (i := 5) (N := some 93) (v := ?_) (a' := ?_) #[true, true, true, true, true, true, false, false] rfl rfl (by kernel_rfl) (fun _ _ _ h => h) (Or.inl ⟨by rfl, ?_⟩) hHeld ?_ ?_
    rotate_left
    · rintro w' ⟨s0, s1⟩
      go_simp
      with_reducible rfl
    rotate_left
    · simp only [Act.put, List.setIfInBounds_toArray, List.set_cons_zero, List.set_cons_succ, i64_w, i32_w]
      rfl
    refine one_ (i := 6) (N := some 94) #[true, true, true, true, true, true, true, false] rfl rfl (by kernel_rfl) (by decide) (fun K hK => ?_)
    refine value_ (w1 := w8.alloc (.map #[] 0)) (v := .map (some w8.heap.size)) (by rfl) rfl ?_ ?_
    · go_simp
      try rfl
    have INX := Aside0.mk (Mp.at_made Try.prog 3 encI w8)
    have hb : Below w8.heap.size w8 (w8.alloc (.map #[] 0)) := below_alloc (Below.refl _ _) _
    have IBN := Aside0.mk (show W.heap.size ≤ w8.heap.size ∧ gs < w8.heap.size ∧ ob < w8.heap.size ∧ g3 < w8.heap.size from ⟨HB.out.size, HS.out.lt.1, HS.out.lt.2, blk_lt BKg3.out⟩)
    have n_HB := Aside0.mk (below_step HB.out hb)
    have n_HS := Aside0.mk (HS.out.below hb)
    have n_BKg3 := Aside0.mk (blk_below BKg3.out hb)
    clear HB HS BKg3
    have HB := n_HB
    have HS := n_HS
    have BKg3 := n_BKg3
    clear n_HB n_HS n_BKg3
    clear hb
    generalize w8.heap.size = ib at INX IBN ⊢
    generalize (w8.alloc (.map #[] 0)) = w9 at HB HS BKg3 INX ⊢
    refine hK.out _ _ ⟨(blk_cell HS.out.box 0).trans rfl, (blk_cell BKg3.out 0).trans rfl⟩ (fun hHeld => ?_)
    clear hK K
    refine norm_ (a' := ?_) ?_ ?_
    rotate_left
    · show Act.put _ (some 94) _ = _
      simp only [Act.put, List.setIfInBounds_toArray, List.set_cons_zero, List.set_cons_succ, i64_w, i32_w]
      rfl
    refine last_ (i := 7) (N := none) #[true, true, true, true, true, true, true, true] rfl rfl (by kernel_rfl) (by decide) (fun K hK => ?_)
    obtain ⟨o1, hrun, hat3⟩ := Mp.At.store (T := 48) KI injI Try.underlying48 HS.out.out (x := t) (keyI t HWT.out) (.map (some ib))
    have OUT := Aside0.mk (show Mp.At Try.prog 3 encI (setBlock w9 ob o1) ob (outL t (some ib)) from hat3)
    have KP0 := Aside0.mk (setBlock_kp w9 ob o1)
    clear hat3
    refine skip_ (w1 := setBlock w9 ob o1) (by rfl) rfl ?_ ?_
    · simp only [encI] at hrun
      go_simp
      all_goals first | (rw [hrun]; done) | (rw [hrun]; rfl) | (simp [hrun]; done) | exact hrun
    have NE := Aside0.mk (show gs ≠ ob ∧ g3 ≠ ob from ⟨HNE.out, fun e => by have h1_ := BKg3.out; rw [e] at h1_; obtain ⟨es, clock, h2_⟩ := HS.out.out; rw [h2_.blk] at h1_; cases h1_⟩)
    have BOX := Aside0.mk ((KP0.out.block gs HS.out.lt.1 NE.out.1).trans HS.out.box)
    have n1_ := Aside0.mk ((KP0.out.block g3 (blk_lt BKg3.out) NE.out.2).trans BKg3.out)
    have n2_ := Aside0.mk (INX.out.keep (KP0.out.block ib INX.out.lt (by have h_ := IBN.out; omega)))
    have HC10 := Aside0.mk (C_cells (Kd.C_below HC.out HB.out) (W' := setBlock w9 ob o1) (fun k cs t_ f_ hk_ => KP0.out.block k (blk_lt' hk_) (fun e => by obtain ⟨es, clock, h2_⟩ := HS.out.out; rw [e, h2_.blk] at hk_; cases hk_)))
    have KP := Aside0.mk ((Kp.of_below HB.out (fun k => k = ob)).then_ KP0.out (fun k hk => .inl hk))
    clear BKg3 INX HB HS KP0 hrun
    generalize (setBlock w9 ob o1) = w10 at OUT BOX n1_ n2_ HC10 KP ⊢
    have BKg3 := n1_
    have INX := n2_
    clear n1_ n2_
    refine hK.out _ _ ?_
    clear hK K
    refine done_ (by kernel_rfl) ?_
    clear hHeld
    have c33_ : w10.cell? ⟨g3, 3, none⟩ = some (.slice A xs.length cc) := (blk_cell BKg3.out 3).trans rfl
    go_wp2_with (first | (go_at_call 16; refine (sc_calls A cc xs _ HC10.out HCC.out.1 (by have h_ := HCC.out.2; omega)).mono ?_; rintro e_ w11 ⟨v, rfl, hv, hb⟩; obtain ⟨A8, c8, rfl⟩ := Kd.R_slice hv; have HV := Aside0.mk hv; have LT := Aside0.mk (show (g3 < w10.heap.size ∧ gs < w10.heap.size) ∧ ob < w10.heap.size ∧ ib < w10.heap.size from ⟨⟨blk_lt BKg3.out, blk_lt BOX.out⟩, OUT.out.lt, INX.out.lt⟩); have n1_ := Aside0.mk (blk_below BKg3.out hb); have n2_ := Aside0.mk (INX.out.below hb); have n3_ := Aside0.mk (OUT.out.below hb); have n4_ := Aside0.mk (blk_below BOX.out hb); have KP11 := Aside0.mk (Kp.of_below hb (fun k => k = g3)); clear BKg3 INX OUT BOX; have BKg3 := n1_; have INX := n2_; have OUT := n3_; have BOX := n4_; clear n1_ n2_ n3_ n4_ hb hv c33_; have c33_ : w11.cell? ⟨g3, 3, none⟩ = some (.slice A xs.length cc) := (blk_cell BKg3.out 3).trans rfl; have d33_ := blk_frozen BKg3.out 3))
    have KS := Aside0.mk (Kp.of_set w11 g3 3 (.slice A8 xs.length c8))
    have n1_ := Aside0.mk (show (w11.setCell ⟨g3, 3, none⟩ (.slice A8 xs.length c8)).heap[g3]? = some (.cells #[.int .i64 t, .int .i64 x, .bool b, .slice A8 xs.length c8] 39 (0, 0)) from blk_put BKg3.out 3 _ rfl)
    have n2_ := Aside0.mk ((KS.out.block gs (blk_lt BOX.out) (fun e => NG.out.1 e.symm)).trans BOX.out)
    have n3_ := Aside0.mk (Kd.R_far (Kd.R_bound HV.out) (p := ⟨g3, 3, none⟩) (fun k hk e_ => by have e2_ : k = g3 := e_; have h1_ := hk.2.1; have h2_ := LT.out; omega) (.slice A8 xs.length c8))
    have n4_ := Aside0.mk (OUT.out.keep (KS.out.block ob OUT.out.lt NE.out.2.symm))
    have n5_ := Aside0.mk (INX.out.keep (KS.out.block ib INX.out.lt (by have h_ := IBN.out; omega)))
    have n6_ := Aside0.mk (KP11.out.then_ KS.out (fun k hk => .inl hk))
    clear BKg3 HV c33_ d33_ BOX OUT INX KP11 KS
    generalize (w11.setCell ⟨g3, 3, none⟩ (.slice A8 xs.length c8)) = w12 at n1_ n2_ n3_ n4_ n5_ n6_ ⊢
    have BKg3 := n1_
    have BOX := n2_
    have HV := n3_
    have OUT := n4_
    have INX := n5_
    have KP11 := n6_
    clear n1_ n2_ n3_ n4_ n5_ n6_
    refine start_ (n := 11) (S := fun w' => w'.cell? ⟨gs, 0, none⟩ = some (.map (some ob)) ∧ w'.cell? ⟨g3, 0, none⟩ = some (.int .i64 t) ∧ w'.cell? ⟨g3, 1, none⟩ = some (.int .i64 x) ∧ w'.cell? ⟨g3, 2, none⟩ = some (.bool b) ∧ w'.cell? ⟨g3, 3, none⟩ = some (.slice A8 xs.length c8) ∧ Mp.At Try.prog 3 encI w' ob (outL t (some ib))) (ds := [10]) #[false, false, false, false, false, false, false, false, false, false, false] (by kernel_rfl) rfl rfl ⟨(blk_cell (blk_drew BOX.out) 0).trans rfl, (blk_cell (blk_drew BKg3.out) 0).trans rfl, (blk_cell (blk_drew BKg3.out) 1).trans rfl, (blk_cell (blk_drew BKg3.out) 2).trans rfl, (blk_cell (blk_drew BKg3.out) 3).trans rfl, OUT.out.drew⟩ (fun hHeld => ?_)
    have n1_ := Aside0.mk (show w12.drew.heap[g3]? = _ from blk_drew BKg3.out)
    have n2_ := Aside0.mk (show w12.drew.heap[gs]? = _ from blk_drew BOX.out)
    have n3_ := Aside0.mk (show _ from Kd.R_drew HV.out)
    have n4_ := Aside0.mk OUT.out.drew
    have n5_ := Aside0.mk INX.out.drew
    have n6_ := Aside0.mk (KP11.out.then_ (Kp.of_below (below_drew1 (Below.refl w12.heap.size w12)) (fun _ => False)) (fun _ hk => hk.elim))
    clear BKg3 BOX HV OUT INX KP11
    generalize w12.drew = w13 at n1_ n2_ n3_ n4_ n5_ n6_ hHeld ⊢
    have BKg3 := n1_
    have BOX := n2_
    have HV := n3_
    have OUT := n4_
    have INX := n5_
    have KP11 := n6_
    clear n1_ n2_ n3_ n4_ n5_ n6_
    refine pure_ (i := 0) (N := some 99) (v := ?_) (a' := ?_) #[true, false, false, false, false, false, false, false, false, false, false] rfl rfl (by kernel_rfl) (fun _ _ _ h => h) (Or.inl ⟨by rfl, ?_⟩) ?_ ?_
    rotate_left
    · intro w'
      go_simp
      with_reducible rfl
    rotate_left
    · simp only [Act.put, List.setIfInBounds_toArray, List.set_cons_zero, List.set_cons_succ, i64_w, i32_w]
      rfl
    refine pure_ (i := 1) (N := some 100) (v := ?_) (a' := ?_) #[true, true, false, false, false, false, false, false, false, false, false] rfl rfl (by kernel_rfl) (fun _ _ _ h => h) (Or.inl ⟨by rfl, ?_⟩) ?_ ?_
    rotate_left
    · intro w'
      go_simp
      with_reducible rfl
    rotate_left
    · simp only [Act.put, List.setIfInBounds_toArray, List.set_cons_zero, List.set_cons_succ, i64_w, i32_w]
      rfl
    refine pure_ (i := 2) (N := some 101) (v := ?_) (a' := ?_) #[true, true, true, false, false, false, false, false, false, false, false] rfl rfl (by kernel_rfl) (fun _ _ _ h => h) (Or.inl ⟨by rfl, ?_⟩) ?_ ?_
    rotate_left
    · intro w'
      go_simp
      with_reducible rfl
    rotate_left
    · simp only [Act.put, List.setIfInBounds_toArray, List.set_cons_zero, List.set_cons_succ, i64_w, i32_w]
      rfl
    refine pure_ (i := 4) (N := some 103) (v := ?_) (a' := ?_) #[true, true, true, false, true, false, false, false, false, false, false] rfl rfl (by kernel_rfl) (fun _ _ _ h => h) (Or.inl ⟨by rfl, ?_⟩) ?_ ?_
    rotate_left
    · intro w'
      go_simp
      with_reducible rfl
    rotate_left
    · simp only [Act.put, List.setIfInBounds_toArray, List.set_cons_zero, List.set_cons_succ, i64_w, i32_w]
      rfl
    refine pure_ (i := 7) (N := some 106) (v := ?_) (a' := ?_) #[true, true, true, false, true, false, false, true, false, false, false] rfl rfl (by kernel_rfl) (fun _ _ _ h => h) (Or.inl ⟨by rfl, ?_⟩) ?_ ?_
    rotate_left
    · intro w'
      go_simp
      with_reducible rfl
    rotate_left
    · simp only [Act.put, List.setIfInBounds_toArray, List.set_cons_zero, List.set_cons_succ, i64_w, i32_w]
      rfl
    refine take_ (i := 3) (N := some 102) (v := ?_) (a' := ?_) #[true, true, true, true, true, false, false, true, false, false, false] rfl rfl (by kernel_rfl) (fun _ _ _ h => h) (Or.inl ⟨by rfl, ?_⟩) hHeld ?_ ?_
    rotate_left
    · rintro w' ⟨s0, s1, s2, s3, s4, sO⟩
      go_simp
      with_reducible rfl
    rotate_left
    · simp only [Act.put, List.setIfInBounds_toArray, List.set_cons_zero, List.set_cons_succ, i64_w, i32_w]
      rfl
    refine take_ (i := 5) (N := some 104) (v := ?_) (a' := ?_) #[true, true, true, true, true, true, false, true, false, false, false] rfl rfl (by kernel_rfl) (fun _ _ _ h => h) (Or.inl ⟨by rfl, ?_⟩) hHeld ?_ ?_
    rotate_left
    · rintro w' ⟨s0, s1, s2, s3, s4, sO⟩
      go_simp
      with_reducible rfl
    rotate_left
    · simp only [Act.put, List.setIfInBounds_toArray, List.set_cons_zero, List.set_cons_succ, i64_w, i32_w]
      rfl
    refine take_ (i := 8) (N := some 107) (v := ?_) (a' := ?_) #[true, true, true, true, true, true, false, true, true, false, false] rfl rfl (by kernel_rfl) (fun _ _ _ h => h) (Or.inl ⟨by rfl, ?_⟩) hHeld ?_ ?_
    rotate_left
    · rintro w' ⟨s0, s1, s2, s3, s4, sO⟩
      go_simp
      with_reducible rfl
    rotate_left
    · simp only [Act.put, List.setIfInBounds_toArray, List.set_cons_zero, List.set_cons_succ, i64_w, i32_w]
      rfl
    refine take_ (i := 9) (N := some 108) (v := ?_) (a' := ?_) #[true, true, true, true, true, true, false, true, true, true, false] rfl rfl (by kernel_rfl) (fun _ _ _ h => h) (Or.inl ⟨by rfl, ?_⟩) hHeld ?_ ?_
    rotate_left
    · rintro w' ⟨s0, s1, s2, s3, s4, sO⟩
      go_simp
      with_reducible rfl
    rotate_left
    · simp only [Act.put, List.setIfInBounds_toArray, List.set_cons_zero, List.set_cons_succ, i64_w, i32_w]
      rfl
    refine take_ (i := 6) (N := some 105) (v := .map (some ib)) (a' := ?_) #[true, true, true, true, true, true, true, true, true, true, false] rfl rfl (by kernel_rfl) (fun _ _ _ h => h) (Or.inl ⟨by rfl, ?_⟩) hHeld ?_ ?_
    · rintro w' ⟨s0, s1, s2, s3, s4, sO⟩
      have hrun := outer_look w' sO HWT.out
      go_simp
      all_goals first | (rw [hrun]; done) | (rw [hrun]; rfl) | (simp [hrun]; done) | exact hrun
    rotate_left
    · simp only [Act.put, List.setIfInBounds_toArray, List.set_cons_zero, List.set_cons_succ, i64_w, i32_w]
      rfl
    refine last_ (i := 10) (N := none) #[true, true, true, true, true, true, true, true, true, true, true] rfl rfl (by kernel_rfl) (by decide) (fun K hK => ?_)
    have hat10 := INX.out
    obtain ⟨o9, hrun, hat3⟩ := Mp.At.store (T := 53) KI injI Try.underlying53 hat10 HKX.out (encC ⟨.slice A8 xs.length c8, ⟨t, x, b, xs⟩⟩)

    have HAT3 := Aside0.mk hat3
    have KPF := Aside0.mk (setBlock_kp w13 ib o9)
    clear hat3 hat10
    refine skip_ (w1 := setBlock w13 ib o9) (by rfl) rfl ?_ ?_
    · simp only [encI, encC] at hrun
      go_simp
      all_goals first | (rw [hrun]; done) | (rw [hrun]; rfl) | (simp [hrun]; done) | exact hrun
    refine hK.out _ _ ?_
    clear hK K
    refine done_ (by kernel_rfl) ?_
    go_wp2
    go_ret2
    refine ⟨rfl, ib, ?_, ?_, IBN.out.1⟩
    · refine ⟨(KPF.out.block gs (blk_lt BOX.out) (by have h_ := IBN.out; omega)).trans BOX.out, OUT.out.keep (KPF.out.block ob OUT.out.lt (by have h_ := IBN.out; omega)), ⟨[(x, ⟨.slice A8 xs.length c8, ⟨t, x, b, xs⟩⟩)], rfl, HAT3.out, ?_⟩, fun ib' e => by injection e with e; have h_ := IBN.out; omega⟩
      intro q hq
      rw [List.mem_singleton] at hq
      subst hq
      refine Kd.R_mono (Kd.R_lower (Kd.R_step HV.out (fun k ho hlt => KPF.out.block k hlt ?_)) (Nat.zero_le _)) ?_
      · have h2_ := LT.out
        have h3_ := ho.2.1
        omega
      · intro k ho
        have h2_ := LT.out
        have h3_ := ho.2.1
        exact ⟨by omega, by omega, by omega⟩
    · exact (KP.out.then_ KP11.out (fun k hk => .inr (by have e_ : k = g3 := hk; have h1_ := GEg3.out; omega))).then_ KPF.out (fun k hk => .inr (by have e_ : k = ib := hk; have h1_ := IBN.out; omega))
end Go.Proofs.Ytpbljheelkpaiaa.Pg
