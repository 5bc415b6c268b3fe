import Derived.Test.YtmonbhoeplmieaaDoorJsx0
import Derived.Test.YtmonbhoeplmieaaDoorJsx1
import Derived.Test.YtmonbhoeplmieaaDoorJshCn
namespace Go.Proofs.YtmonbhoeplmieaaDoor.Js
open Go.RowKit Go.Proofs.YtmonbhoeplmieaaDoorW.PrintWords Go.Proofs.YtmonbhoeplmieaaDoorW.PrintLast Go.Proofs.YtmonbhoeplmieaaDoorW.PrintMore
attribute [local go_sem] max2_int min2_int max_two min_two max_three min_three max_four min_four   -- for this text's walks alone
set_option linter.unusedVariables false
set_option linter.unusedSimpArgs false

-- BY HAND: function 31 (slices_Clone_string_string)

/-! ### jsonval_clone: function 20 -/
mutual
def jsonval_clone.l0 : Nat → List (S25) → Int → Int → Int → Int → ByteArray → List ByteArray → List (S25) → Option (Int × Int × ByteArray × List ByteArray × (List (S25)))
  | 0, _, _, _, _, _, _, _, _ => none
  | k + 1, x13, x14, x15, x128000, x128001, x128002, x128003, x128004 => if x15 < x14 then (if 0 ≤ x15 then (if x15 < (x13.length : Int) then ((jsonval_clone.f k ((rd_T25 x13 x15).f0) ((rd_T25 x13 x15).f1) ((rd_T25 x13 x15).f2) ((rd_T25 x13 x15).f3) ((rd_T25 x13 x15).f4)).bind fun bt134 => (if x128004.length < 1759218604441 then (jsonval_clone.l0 k x13 x14 (wrap64 (x15 + 1)) x128000 x128001 x128002 x128003 (x128004 ++ [(⟨bt134.1, bt134.2.1, bt134.2.2.1, bt134.2.2.2.1, bt134.2.2.2.2⟩ : S25)])) else (none))) else (none)) else (none)) else (some (x128000, x128001, x128002, x128003, x128004))
def jsonval_clone.f : Nat → Int → Int → ByteArray → List ByteArray → List (S25) → Option (Int × Int × ByteArray × List ByteArray × (List (S25)))
  | 0, _, _, _, _, _ => none
  | k + 1, a0_0, a0_1, a0_2, l0_3, l0_4 => (slices_Clone_string_string.f l0_3).bind fun t129 => (jsonval_clone.l0 k l0_4 (l0_4.length : Int) 0 a0_0 a0_1 a0_2 t129 ([] : List (S25)))
end
theorem jsonval_clone.mono_l : ∀ k, (∀ y0 y1 y2 y3 y4, LeO (jsonval_clone.f k y0 y1 y2 y3 y4) (jsonval_clone.f (k + 1) y0 y1 y2 y3 y4)) ∧ (∀ y0 y1 y2 y3 y4 y5 y6 y7, LeO (jsonval_clone.l0 k y0 y1 y2 y3 y4 y5 y6 y7) (jsonval_clone.l0 (k + 1) y0 y1 y2 y3 y4 y5 y6 y7))
  | 0 => ⟨fun _ _ _ _ _ r h => by simp [jsonval_clone.f] at h, fun _ _ _ _ _ _ _ _ r h => by simp [jsonval_clone.l0] at h⟩
  | k + 1 => by
    obtain ⟨ih0, ih1⟩ := jsonval_clone.mono_l k
    refine ⟨?_, ?_⟩
    · intro y0 y1 y2 y3 y4
      unfold jsonval_clone.f
      repeat' first
      | (with_reducible exact ih0 _ _ _ _ _)
      | (with_reducible exact ih1 _ _ _ _ _ _ _ _)
      | (with_reducible exact LeO.refl _)
      | (with_reducible exact LeO.none _)
      | (with_reducible refine LeO.ite ?_ ?_)
      | (with_reducible refine LeO.bind ?_ (fun _ => ?_))
      | exact ih0 _ _ _ _ _
      | exact ih1 _ _ _ _ _ _ _ _
      | exact LeO.none _
      | refine LeO.ite ?_ ?_
      | refine LeO.bind ?_ (fun _ => ?_)
    · intro y0 y1 y2 y3 y4 y5 y6 y7
      unfold jsonval_clone.l0
      repeat' first
      | (with_reducible exact ih0 _ _ _ _ _)
      | (with_reducible exact ih1 _ _ _ _ _ _ _ _)
      | (with_reducible exact LeO.refl _)
      | (with_reducible exact LeO.none _)
      | (with_reducible refine LeO.ite ?_ ?_)
      | (with_reducible refine LeO.bind ?_ (fun _ => ?_))
      | exact ih0 _ _ _ _ _
      | exact ih1 _ _ _ _ _ _ _ _
      | exact LeO.none _
      | refine LeO.ite ?_ ?_
      | refine LeO.bind ?_ (fun _ => ?_)
theorem jsonval_clone.mono : ∀ a0 a1 a2 a3 a4 k, LeO (jsonval_clone.f k a0 a1 a2 a3 a4) (jsonval_clone.f (k + 1) a0 a1 a2 a3 a4) := by
  intro a0 a1 a2 a3 a4 k
  obtain ⟨ih0, ih1⟩ := jsonval_clone.mono_l k
  exact ih0 a0 a1 a2 a3 a4
def jsonval_clone.T6 : Bool × List (List Nat × List Nat) := (true, [([], []), ([0], [0]), ([], []), ([2], [2]), ([3], [3]), ([1, 4, 3], [1, 4]), ([0, 1, 2, 3, 4, 5], []), ([6, 5, 5, 0, 1, 2, 3, 4, 5], [5, 6])])
def jsonval_clone.B6 : List Nat := [0, 1, 0, 4, 12, 31, 63, 127]
theorem jsonval_clone.tab6 : rtab .any (opsOf Tryd.f20 6) = jsonval_clone.T6 := by kernel_rfl
theorem jsonval_clone.bits6 : waitsOk jsonval_clone.T6.2 jsonval_clone.B6 = true := by kernel_rfl
set_option maxHeartbeats 8000000 in
set_option maxRecDepth 100000 in
theorem jsonval_clone.calls (k : Nat) : ∀ (a0_0 : Int) (a0_1 : Int) (a0_2 : ByteArray) (A0_3 : Option Addr) (c0_3 : Nat) (l0_3 : List ByteArray) (A0_4 : Option Addr) (c0_4 : Nat) (l0_4 : List (S25)) (r1 : Int) (r2 : Int) (r3 : ByteArray) (r4 : List ByteArray) (r5 : List (S25)) (w : World) (hr0_3 : Kd.C Kd.string w A0_3 l0_3.length l0_3) (hc0_3 : l0_3.length ≤ c0_3) (hr0_4 : Kd.C k25 w A0_4 l0_4.length l0_4) (hc0_4 : l0_4.length ≤ c0_4) (h : jsonval_clone.f k a0_0 a0_1 a0_2 l0_3 l0_4 = some (r1, r2, r3, r4, r5)),
    Calls Tryd.prog 20 #[.agg #[.int .i64 a0_0, .int .i64 a0_1, .string a0_2, .slice A0_3 l0_3.length c0_3, .slice A0_4 l0_4.length c0_4]] w fun e w' => ∃ v3_ v4_ : Value, e = .returned (.agg #[.int .i64 r1, .int .i64 r2, .string r3, v3_, v4_]) ∧ Kd.R Kd.string 9 w' w.heap.size (fun _ => True) v3_ r4 ∧ Kd.R k25 25 w' w.heap.size (fun k_ => some k_ ≠ (v3_ : Value).ownBlock) v4_ r5 ∧ Below w.heap.size w w' := by
  induction k using Nat.strongRecOn with
  | _ k ih =>
  intro a0_0 a0_1 a0_2 A0_3 c0_3 l0_3 A0_4 c0_4 l0_4 r1 r2 r3 r4 r5 w hr0_3 hc0_3 hr0_4 hc0_4 h
  cases k with
  | zero => exact absurd h (by simp [jsonval_clone.f])
  | succ k =>
  simp only [jsonval_clone.f] at h
  have hu25 := Tryd.underlying25
  have HR0_3 := Aside0.mk hr0_3
  have HC0_3 := Aside0.mk hc0_3
  clear hr0_3 hc0_3
  have HR0_4 := Aside0.mk hr0_4
  have HC0_4 := Aside0.mk hc0_4
  clear hr0_4 hc0_4
  have HB := Aside0.mk (Below.refl w.heap.size w)
  have H : ((slices_Clone_string_string.f l0_3).bind fun t129 => (jsonval_clone.l0 k l0_4 (l0_4.length : Int) 0 a0_0 a0_1 a0_2 t129 ([] : List (S25)))) = some (r1, r2, r3, r4, r5) := h
  clear h
  replace H := Option.bind_eq_some_iff.mp H
  obtain ⟨t129, A20, H⟩ := H
  replace H : (jsonval_clone.l0 k l0_4 (l0_4.length : Int) 0 a0_0 a0_1 a0_2 t129 ([] : List (S25))) = some (r1, r2, r3, r4, r5) := H
  have A2 := Aside0.mk A20
  clear A20
  have H' := Aside0.mk H
  clear H
  go_enter Tryd.func20, Tryd.ntmps20
  go_wp2_with (first | ((with_reducible refine gate_dst (N := 1) rfl ?_); refine box_event ?hg (N := 1) ?hd (cs := #[.int .i64 a0_0, .int .i64 a0_1, .string a0_2, .slice A0_3 l0_3.length c0_3, .slice A0_4 l0_4.length c0_4]) (t := 25) ?hr ?_; (case hd => rfl); (case hg => rfl); (case hr => first | (go_simp; done) | (go_simp; rfl)); intro gb127 hg w3 hbox hb; have n0_ := Aside0.mk (below_step (by repeat (first | (with_reducible first | exact HB.out | apply below_alloc | apply pw_below_drewN | apply below_drew1) | exact HB.out)) hb); have n1_ := Aside0.mk (hbox); have n2_ := Aside0.mk ((by rw [hg]; exact (below_size (by repeat (first | (with_reducible first | exact HB.out | apply below_alloc | apply pw_below_drewN | apply below_drew1) | exact HB.out))) : w.heap.size ≤ gb127)); have n3_ := Aside0.mk ((by rw [hg]; exact (below_size (by repeat (first | (with_reducible first | exact HB.out | apply below_alloc | apply pw_below_drewN | apply below_drew1) | exact HB.out))) : w.heap.size ≤ gb127)); clear HB; have HB := n0_; have BK127 := n1_; have GW127 := n2_; have GE127 := n3_; clear n0_ n1_ n2_ n3_; clear hb hbox hg) | ((with_reducible refine gate_dst (N := 2) rfl ?_); refine box_event ?hg (N := 2) ?hd (cs := #[.int .i64 0, .int .i64 0, .string (⟨#[]⟩ : ByteArray), .slice none 0 0, .slice none 0 0]) (t := 25) ?hr ?_; (case hd => rfl); (case hg => rfl); (case hr => first | (go_simp; done) | (go_simp; rfl)); intro gb128 hg w4 hbox hb; have n0_ := Aside0.mk (blk_below (g := gb127) (o := .cells #[.int .i64 a0_0, .int .i64 a0_1, .string a0_2, .slice A0_3 l0_3.length c0_3, .slice A0_4 l0_4.length c0_4] 25 (0, 0)) (by (with_reducible repeat (first | refine blk_drewN ?_ _ | refine blk_drew ?_ | refine blk_alloc ?_ _)); exact BK127.out) hb); have n1_ := Aside0.mk (below_step (by repeat (first | (with_reducible first | exact HB.out | apply below_alloc | apply pw_below_drewN | apply below_drew1 | refine below_set ?_ GE127.out) | exact HB.out)) hb); have n2_ := Aside0.mk (hbox); have n3_ := Aside0.mk ((by rw [hg]; exact (below_size (by repeat (first | (with_reducible first | exact HB.out | apply below_alloc | apply pw_below_drewN | apply below_drew1 | refine below_set ?_ GE127.out) | exact HB.out))) : w.heap.size ≤ gb128)); have n4_ := Aside0.mk ((by rw [hg]; exact (below_size (by repeat (first | (with_reducible first | exact HB.out | apply below_alloc | apply pw_below_drewN | apply below_drew1 | refine below_set ?_ GE127.out) | exact HB.out))) : w.heap.size ≤ gb128)); have n5_ := Aside0.mk ((by rw [hg]; exact Nat.ne_of_lt (blk_lt (g := gb127) (o := .cells #[.int .i64 a0_0, .int .i64 a0_1, .string a0_2, .slice A0_3 l0_3.length c0_3, .slice A0_4 l0_4.length c0_4] 25 (0, 0)) (by (with_reducible repeat (first | refine blk_drewN ?_ _ | refine blk_drew ?_ | refine blk_alloc ?_ _)); exact BK127.out)) : gb127 ≠ gb128)); have n6_ := Aside0.mk ((by rw [hg]; exact Nat.ne_of_gt (blk_lt (g := gb127) (o := .cells #[.int .i64 a0_0, .int .i64 a0_1, .string a0_2, .slice A0_3 l0_3.length c0_3, .slice A0_4 l0_4.length c0_4] 25 (0, 0)) (by (with_reducible repeat (first | refine blk_drewN ?_ _ | refine blk_drew ?_ | refine blk_alloc ?_ _)); exact BK127.out)) : gb128 ≠ gb127)); clear BK127; clear HB; have BK127 := n0_; have HB := n1_; have BK128 := n2_; have GW128 := n3_; have GE128 := n4_; have NB127_128 := n5_; have NB128_127 := n6_; clear n0_ n1_ n2_ n3_ n4_ n5_ n6_; clear hb hbox hg; have hnb5 := NB127_128.out; have hnc5 := NB128_127.out; have hcz6_0 : w4.cell? ⟨gb127, 0, none⟩ = some (.int .i64 a0_0) := (blk_cell BK127.out 0).trans rfl; have hcz6_1 : w4.cell? ⟨gb127, 1, none⟩ = some (.int .i64 a0_1) := (blk_cell BK127.out 1).trans rfl; have hcz6_2 : w4.cell? ⟨gb127, 2, none⟩ = some (.string a0_2) := (blk_cell BK127.out 2).trans rfl; have hcz6_3 : w4.cell? ⟨gb127, 3, none⟩ = some (.slice A0_3 l0_3.length c0_3) := (blk_cell BK127.out 3).trans rfl; have hcz6_4 : w4.cell? ⟨gb127, 4, none⟩ = some (.slice A0_4 l0_4.length c0_4) := (blk_cell BK127.out 4).trans rfl; have hfz6_0 := blk_frozen BK127.out 0; have hfz6_1 := blk_frozen BK127.out 1; have hfz6_2 := blk_frozen BK127.out 2; have hfz6_3 := blk_frozen BK127.out 3; have hfz6_4 := blk_frozen BK127.out 4) | ((with_reducible refine gate_callee (f := 31) rfl ?_); refine goesL_ (some 10) rfl rfl Tryd.func31 (by kernel_rfl) rfl #[.slice A0_3 l0_3.length c0_3] rfl (by (try simp only [List.map_toArray, List.map_cons, List.map_nil]); first | done | rfl | (simp only [List.length_drop, List.length_take]; rfl)) ?_; (with_reducible refine (slices_Clone_string_string.calls _ _ l0_3 t129 _ ?side1 ?side2 A2.out).mono ?_); (case side1 => repeat (first | exact (Kd.C_below HR0_3.out HB.out) | (with_reducible refine Kd.C_alloc ?_ _) | (with_reducible refine Kd.C_drewN ?_ _) | (with_reducible refine Kd.C_drew ?_))); (case side2 => exact HC0_3.out); rintro e w7 ⟨v130, rfl, ho0, hb⟩; refine ⟨_, rfl, ?_⟩; have n0_ := Aside0.mk (Kd.R_lower ho0 (below_size (by repeat (first | (with_reducible first | exact HB.out | apply below_alloc | apply pw_below_drewN | apply below_drew1 | refine below_set ?_ GE127.out | refine below_set ?_ GE128.out) | exact HB.out)))); have n1_ := Aside0.mk (blk_below (g := gb127) (o := .cells #[.int .i64 a0_0, .int .i64 a0_1, .string a0_2, .slice A0_3 l0_3.length c0_3, .slice A0_4 l0_4.length c0_4] 25 (0, 0)) (by (with_reducible repeat (first | refine blk_drewN ?_ _ | refine blk_drew ?_ | refine blk_alloc ?_ _)); exact BK127.out) hb); have n2_ := Aside0.mk (blk_below (g := gb128) (o := .cells #[.int .i64 0, .int .i64 0, .string (⟨#[]⟩ : ByteArray), .slice none 0 0, .slice none 0 0] 25 (0, 0)) (by (with_reducible repeat (first | refine blk_drewN ?_ _ | refine blk_drew ?_ | refine blk_alloc ?_ _)); exact BK128.out) hb); have n3_ := Aside0.mk (below_step (by repeat (first | (with_reducible first | exact HB.out | apply below_alloc | apply pw_below_drewN | apply below_drew1 | refine below_set ?_ GE127.out | refine below_set ?_ GE128.out) | exact HB.out)) hb); clear BK127; clear BK128; clear HB; have HO131 := n0_; have BK127 := n1_; have BK128 := n2_; have HB := n3_; clear n0_ n1_ n2_ n3_; (try clear hb); (try clear hb2); (try clear hk); (try clear hi); (try clear ho0); obtain ⟨Ao8, co8, eo8⟩ := Kd.R_slice HO131.out; subst eo8; have hcz9_0 : w7.cell? ⟨gb127, 0, none⟩ = some (.int .i64 a0_0) := (blk_cell BK127.out 0).trans rfl; have hcz9_1 : w7.cell? ⟨gb127, 1, none⟩ = some (.int .i64 a0_1) := (blk_cell BK127.out 1).trans rfl; have hcz9_2 : w7.cell? ⟨gb127, 2, none⟩ = some (.string a0_2) := (blk_cell BK127.out 2).trans rfl; have hcz9_3 : w7.cell? ⟨gb127, 3, none⟩ = some (.slice A0_3 l0_3.length c0_3) := (blk_cell BK127.out 3).trans rfl; have hcz9_4 : w7.cell? ⟨gb127, 4, none⟩ = some (.slice A0_4 l0_4.length c0_4) := (blk_cell BK127.out 4).trans rfl; have hfz9_0 := blk_frozen BK127.out 0; have hfz9_1 := blk_frozen BK127.out 1; have hfz9_2 := blk_frozen BK127.out 2; have hfz9_3 := blk_frozen BK127.out 3; have hfz9_4 := blk_frozen BK127.out 4))
  go_loopg [15] k (fun kq v15 w' => ∃ (x15_1 : Int) (x128004_1 : List (S25)) (u128004 : Value), v15 = .int .i64 x15_1 ∧ Aside0 (jsonval_clone.l0 kq l0_4 (l0_4.length : Int) x15_1 a0_0 a0_1 a0_2 t129 x128004_1 = some (r1, r2, r3, r4, r5)) ∧ Aside0 (kq ≤ k) ∧ Aside0 (Kd.R Kd.string 9 w' w.heap.size (fun _ => True) (.slice Ao8 t129.length co8) t129) ∧ Aside0 (Kd.R k25 25 w' w.heap.size (fun k_ => some k_ ≠ ((.slice Ao8 t129.length co8) : Value).ownBlock ∧ k_ ≠ gb127 ∧ k_ ≠ gb128) u128004 x128004_1) ∧ Aside0 (w'.heap[gb127]? = some (.cells #[.int .i64 a0_0, .int .i64 a0_1, .string a0_2, (.slice Ao8 t129.length co8), u128004] 25 (0, 0))) ∧ Aside0 (w'.heap[gb128]? = some (.cells #[.int .i64 0, .int .i64 0, .string (⟨#[]⟩ : ByteArray), (.slice none 0 0), (.slice none 0 0)] 25 (0, 0))) ∧ Aside0 (Below w.heap.size w w'))
  case atStart => exact ⟨(0), (([] : List (S25))), (.slice none 0 0), (by first | rfl | (simp; done) | (rw [bne_nil_isEmpty]; done) | (simp [*]; done)), H', ⟨Nat.le_refl _⟩, ⟨by (with_reducible repeat (first | apply Kd.R_alloc | apply Kd.R_drewN | apply Kd.R_drew)); exact Kd.R_mono (Kd.R_far (p := ⟨gb127, 4, none⟩) (Kd.R_far (p := ⟨gb127, 3, none⟩) (Kd.R_types HO131.out BK127.out (by decide)) (fun _ hk => hk.2) (.slice Ao8 t129.length co8)) (fun _ hk => hk.2) (.slice none 0 0)) (fun _ hk => trivial)⟩, ⟨by first | exact Kd.R_nil _ _ _ _ _ | exact Kd.N_nil _ _ _ _ _ | exact Kd.V_nil _ _ _ _ _ | exact Kd.Q_nil _ _ _ _ _ | exact Kd.R_nil _ _ _ _ _⟩, ⟨by (with_reducible repeat (first | refine blk_drewN ?_ _ | refine blk_drew ?_ | refine blk_alloc ?_ _)); refine blk_put (cs := #[.int .i64 a0_0, .int .i64 a0_1, .string a0_2, .slice Ao8 t129.length co8, .slice A0_4 l0_4.length c0_4]) ?_ 4 _ rfl; (with_reducible repeat (first | refine blk_drewN ?_ _ | refine blk_drew ?_ | refine blk_alloc ?_ _)); refine blk_put (cs := #[.int .i64 a0_0, .int .i64 a0_1, .string a0_2, .slice A0_3 l0_3.length c0_3, .slice A0_4 l0_4.length c0_4]) ?_ 3 _ rfl; (with_reducible repeat (first | refine blk_drewN ?_ _ | refine blk_drew ?_ | refine blk_alloc ?_ _)); exact BK127.out⟩, ⟨by (with_reducible repeat (first | refine blk_drewN ?_ _ | refine blk_drew ?_ | refine blk_alloc ?_ _)); refine blk_far ?_ NB128_127.out _; (with_reducible repeat (first | refine blk_drewN ?_ _ | refine blk_drew ?_ | refine blk_alloc ?_ _)); refine blk_far ?_ NB128_127.out _; (with_reducible repeat (first | refine blk_drewN ?_ _ | refine blk_drew ?_ | refine blk_alloc ?_ _)); exact BK128.out⟩, ⟨by repeat (first | (with_reducible first | exact HB.out | apply below_alloc | apply pw_below_drewN | apply below_drew1 | refine below_set ?_ GE127.out | refine below_set ?_ GE128.out) | exact HB.out)⟩⟩
  case round =>
    clear H'
    try clear c2
    try clear p2
    try clear c3
    try clear c5
    try clear hcz6_0
    try clear hcz6_1
    try clear hcz6_2
    try clear hcz6_3
    try clear hcz6_4
    try clear hcz9_0
    try clear hcz9_1
    try clear hcz9_2
    try clear hcz9_3
    try clear hcz9_4
    try clear hfz6_0
    try clear hfz6_1
    try clear hfz6_2
    try clear hfz6_3
    try clear hfz6_4
    try clear hfz9_0
    try clear hfz9_1
    try clear hfz9_2
    try clear hfz9_3
    try clear hfz9_4
    try clear BK127
    try clear BK128
    try clear HB
    try clear HO_128003
    try clear HO_128004
    obtain ⟨x15_1, x128004_1, u128004, rfl, HA, HK1, HO_128003, HO_128004, BK127, BK128, HB⟩ := hrel
    cases gk with
    | zero => exact absurd HA.out (by simp [jsonval_clone.l0])
    | succ k1 =>
      have H := HA.out
      clear HA
      simp only [jsonval_clone.l0] at H
      by_cases c10 : x15_1 < (l0_4.length : Int)
      · rw [if_pos c10] at H
        have c10b0 : decide (x15_1 < (l0_4.length : Int)) = true := decide_eq_true c10
        clear c10
        by_cases c11 : 0 ≤ x15_1
        · rw [if_pos c11] at H
          have c11b0 : decide (0 ≤ x15_1) = true := decide_eq_true c11
          clear c11
          by_cases c12 : x15_1 < (l0_4.length : Int)
          · rw [if_pos c12] at H
            have c12b0 : decide (x15_1 < (l0_4.length : Int)) = true := decide_eq_true c12
            clear c12
            replace H := Option.bind_eq_some_iff.mp H
            obtain ⟨⟨t134, t135, t136, t137, t140⟩, A130, H⟩ := H
            replace H : (if x128004_1.length < 1759218604441 then (jsonval_clone.l0 k1 l0_4 (l0_4.length : Int) (wrap64 (x15_1 + 1)) a0_0 a0_1 a0_2 t129 (x128004_1 ++ [(⟨t134, t135, t136, t137, t140⟩ : S25)])) else (none)) = some (r1, r2, r3, r4, r5) := H
            have A13 := Aside0.mk A130
            clear A130
            by_cases c14 : x128004_1.length < 1759218604441
            · rw [if_pos c14] at H
              have LMc14 := Aside0.mk c14
              clear c14
              obtain ⟨y143, hy143⟩ : ∃ y_ : List (S25), y_ = (x128004_1 ++ [(⟨t134, t135, t136, t137, t140⟩ : S25)]) := ⟨_, rfl⟩
              replace H : (jsonval_clone.l0 k1 l0_4 (l0_4.length : Int) (wrap64 (x15_1 + 1)) a0_0 a0_1 a0_2 t129 y143) = some (r1, r2, r3, r4, r5) := by first | (rw [hy143]; with_reducible exact H) | (have H2_ := (Option.bind_some _ _).symm.trans H; rw [hy143]; with_reducible exact H2_) | (have H2_ := (Option.bind_some _ _).symm.trans H; with_reducible exact H2_) | with_reducible exact H | (rw [hy143]; exact H) | exact H
              have Ny143 := Aside0.mk hy143
              clear hy143
              have H' := Aside0.mk H
              clear H
              have p132 : 0 ≤ (x15_1 : Int) := of_decide_eq_true (by first | (with_reducible assumption) | assumption)
              have q132 : x15_1 < (l0_4.length : Int) := of_decide_eq_true (by first | (with_reducible assumption) | assumption)
              obtain ⟨ad132, A132_3, c132_3, A132_4, c132_4, e132, hx132_0, hx132_1, hx132_2, hx132_3, hx132_4, hl132_3, hi132_3, hl132_4, hi132_4⟩ := at_T25 HR0_4.out x15_1 p132 q132
              cases e132
              try replace hx132_0 := (HB.out.cell (World.block_lt_of_cell? w _ hx132_0)).trans hx132_0
              try replace hx132_1 := (HB.out.cell (World.block_lt_of_cell? w _ hx132_1)).trans hx132_1
              try replace hx132_2 := (HB.out.cell (World.block_lt_of_cell? w _ hx132_2)).trans hx132_2
              try replace hx132_3 := (HB.out.cell (World.block_lt_of_cell? w _ hx132_3)).trans hx132_3
              try replace hx132_4 := (HB.out.cell (World.block_lt_of_cell? w _ hx132_4)).trans hx132_4
              have HR132_3 := Aside0.mk hi132_3
              have HC132_3 := Aside0.mk hl132_3
              clear hi132_3 hl132_3
              have HR132_4 := Aside0.mk hi132_4
              have HC132_4 := Aside0.mk hl132_4
              clear hi132_4 hl132_4
              replace p132 := eq_true p132
              replace q132 := eq_true q132
              try go_wp2_with (first | ((with_reducible refine gate_dst (N := 5) rfl ?_); refine box_event ?hg (N := 5) ?hd (cs := #[.int .i64 0, .int .i64 0, .string (⟨#[]⟩ : ByteArray), .slice none 0 0, .slice none 0 0]) (t := 25) ?hr ?_; (case hd => rfl); (case hg => rfl); (case hr => first | (go_simp; done) | (go_simp; rfl)); intro gb133 hg w15 hbox hb; have n0_ := Aside0.mk (Kd.R_below (by (with_reducible repeat (first | apply Kd.R_alloc | apply Kd.R_drewN | apply Kd.R_drew)); exact HO_128003.out) hb); have n1_ := Aside0.mk (Kd.R_below (Kd.R_elderB (by (with_reducible repeat (first | apply Kd.R_alloc | apply Kd.R_drewN | apply Kd.R_drew)); exact HO_128004.out) gb133 (Nat.le_of_eq hg.symm)) hb); have n2_ := Aside0.mk (blk_below (g := gb127) (o := .cells #[.int .i64 a0_0, .int .i64 a0_1, .string a0_2, .slice Ao8 t129.length co8, u128004] 25 (0, 0)) (by (with_reducible repeat (first | refine blk_drewN ?_ _ | refine blk_drew ?_ | refine blk_alloc ?_ _)); exact BK127.out) hb); have n3_ := Aside0.mk (blk_below (g := gb128) (o := .cells #[.int .i64 0, .int .i64 0, .string (⟨#[]⟩ : ByteArray), .slice none 0 0, .slice none 0 0] 25 (0, 0)) (by (with_reducible repeat (first | refine blk_drewN ?_ _ | refine blk_drew ?_ | refine blk_alloc ?_ _)); exact BK128.out) hb); have n4_ := Aside0.mk (below_step (by repeat (first | (with_reducible first | exact HB.out | apply below_alloc | apply pw_below_drewN | apply below_drew1 | refine below_set ?_ GE127.out | refine below_set ?_ GE128.out) | exact HB.out)) hb); have n5_ := Aside0.mk (hbox); have n6_ := Aside0.mk ((by rw [hg]; exact (below_size (by repeat (first | (with_reducible first | exact HB.out | apply below_alloc | apply pw_below_drewN | apply below_drew1 | refine below_set ?_ GE127.out | refine below_set ?_ GE128.out) | exact HB.out))) : w.heap.size ≤ gb133)); have n7_ := Aside0.mk ((by rw [hg]; exact (below_size (by repeat (first | (with_reducible first | exact HB.out | apply below_alloc | apply pw_below_drewN | apply below_drew1 | refine below_set ?_ GE127.out | refine below_set ?_ GE128.out) | exact HB.out))) : w.heap.size ≤ gb133)); have n8_ := Aside0.mk ((by rw [hg]; exact Nat.ne_of_lt (blk_lt (g := gb127) (o := .cells #[.int .i64 a0_0, .int .i64 a0_1, .string a0_2, .slice Ao8 t129.length co8, u128004] 25 (0, 0)) (by (with_reducible repeat (first | refine blk_drewN ?_ _ | refine blk_drew ?_ | refine blk_alloc ?_ _)); exact BK127.out)) : gb127 ≠ gb133)); have n9_ := Aside0.mk ((by rw [hg]; exact Nat.ne_of_gt (blk_lt (g := gb127) (o := .cells #[.int .i64 a0_0, .int .i64 a0_1, .string a0_2, .slice Ao8 t129.length co8, u128004] 25 (0, 0)) (by (with_reducible repeat (first | refine blk_drewN ?_ _ | refine blk_drew ?_ | refine blk_alloc ?_ _)); exact BK127.out)) : gb133 ≠ gb127)); have n10_ := Aside0.mk ((by rw [hg]; exact Nat.ne_of_lt (blk_lt (g := gb128) (o := .cells #[.int .i64 0, .int .i64 0, .string (⟨#[]⟩ : ByteArray), .slice none 0 0, .slice none 0 0] 25 (0, 0)) (by (with_reducible repeat (first | refine blk_drewN ?_ _ | refine blk_drew ?_ | refine blk_alloc ?_ _)); exact BK128.out)) : gb128 ≠ gb133)); have n11_ := Aside0.mk ((by rw [hg]; exact Nat.ne_of_gt (blk_lt (g := gb128) (o := .cells #[.int .i64 0, .int .i64 0, .string (⟨#[]⟩ : ByteArray), .slice none 0 0, .slice none 0 0] 25 (0, 0)) (by (with_reducible repeat (first | refine blk_drewN ?_ _ | refine blk_drew ?_ | refine blk_alloc ?_ _)); exact BK128.out)) : gb133 ≠ gb128)); clear HO_128003; clear HO_128004; clear BK127; clear BK128; clear HB; have HO_128003 := n0_; have HO_128004 := n1_; have BK127 := n2_; have BK128 := n3_; have HB := n4_; have BK133 := n5_; have GW133 := n6_; have GE133 := n7_; have NB127_133 := n8_; have NB133_127 := n9_; have NB128_133 := n10_; have NB133_128 := n11_; clear n0_ n1_ n2_ n3_ n4_ n5_ n6_ n7_ n8_ n9_ n10_ n11_; clear hb hbox hg; have hnb16 := NB133_127.out; have hnc16 := NB127_133.out; have hnb17 := NB133_128.out; have hnc17 := NB128_133.out; have hcz18_0 : w15.cell? ⟨gb133, 0, none⟩ = some (.int .i64 0) := (blk_cell BK133.out 0).trans rfl; have hcz18_1 : w15.cell? ⟨gb133, 1, none⟩ = some (.int .i64 0) := (blk_cell BK133.out 1).trans rfl; have hcz18_2 : w15.cell? ⟨gb133, 2, none⟩ = some (.string (⟨#[]⟩ : ByteArray)) := (blk_cell BK133.out 2).trans rfl; have hcz18_3 : w15.cell? ⟨gb133, 3, none⟩ = some (.slice none 0 0) := (blk_cell BK133.out 3).trans rfl; have hcz18_4 : w15.cell? ⟨gb133, 4, none⟩ = some (.slice none 0 0) := (blk_cell BK133.out 4).trans rfl; have hfz18_0 := blk_frozen BK133.out 0; have hfz18_1 := blk_frozen BK133.out 1; have hfz18_2 := blk_frozen BK133.out 2; have hfz18_3 := blk_frozen BK133.out 3; have hfz18_4 := blk_frozen BK133.out 4))
              have n0_ : Aside0 (Kd.R Kd.string 9 (((((w15.setCell ⟨gb133, 0, none⟩ (.int .i64 ((rd_T25 l0_4 x15_1).f0))).setCell ⟨gb133, 1, none⟩ (.int .i64 ((rd_T25 l0_4 x15_1).f1))).setCell ⟨gb133, 2, none⟩ (.string ((rd_T25 l0_4 x15_1).f2))).setCell ⟨gb133, 3, none⟩ (.slice A132_3 ((rd_T25 l0_4 x15_1).f3).length c132_3)).setCell ⟨gb133, 4, none⟩ (.slice A132_4 ((rd_T25 l0_4 x15_1).f4).length c132_4)) w.heap.size (fun _ => True) (.slice Ao8 t129.length co8) t129) := ⟨by (with_reducible repeat (first | apply Kd.R_alloc | apply Kd.R_drewN | apply Kd.R_drew)); exact Kd.R_mono (Kd.R_far (p := ⟨gb133, 4, none⟩) (Kd.R_far (p := ⟨gb133, 3, none⟩) (Kd.R_far (p := ⟨gb133, 2, none⟩) (Kd.R_far (p := ⟨gb133, 1, none⟩) (Kd.R_far (p := ⟨gb133, 0, none⟩) (Kd.R_types HO_128003.out BK133.out (by decide)) (fun _ hk => hk.2) (.int .i64 ((rd_T25 l0_4 x15_1).f0))) (fun _ hk => hk.2) (.int .i64 ((rd_T25 l0_4 x15_1).f1))) (fun _ hk => hk.2) (.string ((rd_T25 l0_4 x15_1).f2))) (fun _ hk => hk.2) (.slice A132_3 ((rd_T25 l0_4 x15_1).f3).length c132_3)) (fun _ hk => hk.2) (.slice A132_4 ((rd_T25 l0_4 x15_1).f4).length c132_4)) (fun _ hk => trivial)⟩
              have n1_ : Aside0 (Kd.R k25 25 (((((w15.setCell ⟨gb133, 0, none⟩ (.int .i64 ((rd_T25 l0_4 x15_1).f0))).setCell ⟨gb133, 1, none⟩ (.int .i64 ((rd_T25 l0_4 x15_1).f1))).setCell ⟨gb133, 2, none⟩ (.string ((rd_T25 l0_4 x15_1).f2))).setCell ⟨gb133, 3, none⟩ (.slice A132_3 ((rd_T25 l0_4 x15_1).f3).length c132_3)).setCell ⟨gb133, 4, none⟩ (.slice A132_4 ((rd_T25 l0_4 x15_1).f4).length c132_4)) w.heap.size (fun k_ => some k_ ≠ (.slice Ao8 t129.length co8 : Value).ownBlock ∧ k_ ≠ gb127 ∧ k_ ≠ gb128 ∧ k_ ≠ gb133) u128004 x128004_1) := ⟨by (with_reducible repeat (first | apply Kd.R_alloc | apply Kd.R_drewN | apply Kd.R_drew)); exact Kd.R_mono (Kd.R_far (p := ⟨gb133, 4, none⟩) (Kd.R_far (p := ⟨gb133, 3, none⟩) (Kd.R_far (p := ⟨gb133, 2, none⟩) (Kd.R_far (p := ⟨gb133, 1, none⟩) (Kd.R_far (p := ⟨gb133, 0, none⟩) (Kd.R_mono HO_128004.out (fun k_ hk => (⟨hk, hk.2⟩ : _ ∧ k_ ≠ gb133))) (fun _ hk => hk.2) (.int .i64 ((rd_T25 l0_4 x15_1).f0))) (fun _ hk => hk.2) (.int .i64 ((rd_T25 l0_4 x15_1).f1))) (fun _ hk => hk.2) (.string ((rd_T25 l0_4 x15_1).f2))) (fun _ hk => hk.2) (.slice A132_3 ((rd_T25 l0_4 x15_1).f3).length c132_3)) (fun _ hk => hk.2) (.slice A132_4 ((rd_T25 l0_4 x15_1).f4).length c132_4)) (fun _ hk => ⟨hk.1.1.1, ⟨hk.1.1.2.1, ⟨hk.1.1.2.2, hk.1.2⟩⟩⟩)⟩
              have n2_ : Aside0 ((((((w15.setCell ⟨gb133, 0, none⟩ (.int .i64 ((rd_T25 l0_4 x15_1).f0))).setCell ⟨gb133, 1, none⟩ (.int .i64 ((rd_T25 l0_4 x15_1).f1))).setCell ⟨gb133, 2, none⟩ (.string ((rd_T25 l0_4 x15_1).f2))).setCell ⟨gb133, 3, none⟩ (.slice A132_3 ((rd_T25 l0_4 x15_1).f3).length c132_3)).setCell ⟨gb133, 4, none⟩ (.slice A132_4 ((rd_T25 l0_4 x15_1).f4).length c132_4)).heap[gb127]? = some (.cells #[.int .i64 a0_0, .int .i64 a0_1, .string a0_2, .slice Ao8 t129.length co8, u128004] 25 (0, 0))) := ⟨by (with_reducible repeat (first | refine blk_drewN ?_ _ | refine blk_drew ?_ | refine blk_alloc ?_ _)); refine blk_far ?_ NB127_133.out _; (with_reducible repeat (first | refine blk_drewN ?_ _ | refine blk_drew ?_ | refine blk_alloc ?_ _)); refine blk_far ?_ NB127_133.out _; (with_reducible repeat (first | refine blk_drewN ?_ _ | refine blk_drew ?_ | refine blk_alloc ?_ _)); refine blk_far ?_ NB127_133.out _; (with_reducible repeat (first | refine blk_drewN ?_ _ | refine blk_drew ?_ | refine blk_alloc ?_ _)); refine blk_far ?_ NB127_133.out _; (with_reducible repeat (first | refine blk_drewN ?_ _ | refine blk_drew ?_ | refine blk_alloc ?_ _)); refine blk_far ?_ NB127_133.out _; (with_reducible repeat (first | refine blk_drewN ?_ _ | refine blk_drew ?_ | refine blk_alloc ?_ _)); exact BK127.out⟩
              have n3_ : Aside0 ((((((w15.setCell ⟨gb133, 0, none⟩ (.int .i64 ((rd_T25 l0_4 x15_1).f0))).setCell ⟨gb133, 1, none⟩ (.int .i64 ((rd_T25 l0_4 x15_1).f1))).setCell ⟨gb133, 2, none⟩ (.string ((rd_T25 l0_4 x15_1).f2))).setCell ⟨gb133, 3, none⟩ (.slice A132_3 ((rd_T25 l0_4 x15_1).f3).length c132_3)).setCell ⟨gb133, 4, none⟩ (.slice A132_4 ((rd_T25 l0_4 x15_1).f4).length c132_4)).heap[gb128]? = some (.cells #[.int .i64 0, .int .i64 0, .string (⟨#[]⟩ : ByteArray), .slice none 0 0, .slice none 0 0] 25 (0, 0))) := ⟨by (with_reducible repeat (first | refine blk_drewN ?_ _ | refine blk_drew ?_ | refine blk_alloc ?_ _)); refine blk_far ?_ NB128_133.out _; (with_reducible repeat (first | refine blk_drewN ?_ _ | refine blk_drew ?_ | refine blk_alloc ?_ _)); refine blk_far ?_ NB128_133.out _; (with_reducible repeat (first | refine blk_drewN ?_ _ | refine blk_drew ?_ | refine blk_alloc ?_ _)); refine blk_far ?_ NB128_133.out _; (with_reducible repeat (first | refine blk_drewN ?_ _ | refine blk_drew ?_ | refine blk_alloc ?_ _)); refine blk_far ?_ NB128_133.out _; (with_reducible repeat (first | refine blk_drewN ?_ _ | refine blk_drew ?_ | refine blk_alloc ?_ _)); refine blk_far ?_ NB128_133.out _; (with_reducible repeat (first | refine blk_drewN ?_ _ | refine blk_drew ?_ | refine blk_alloc ?_ _)); exact BK128.out⟩
              have n4_ : Aside0 ((((((w15.setCell ⟨gb133, 0, none⟩ (.int .i64 ((rd_T25 l0_4 x15_1).f0))).setCell ⟨gb133, 1, none⟩ (.int .i64 ((rd_T25 l0_4 x15_1).f1))).setCell ⟨gb133, 2, none⟩ (.string ((rd_T25 l0_4 x15_1).f2))).setCell ⟨gb133, 3, none⟩ (.slice A132_3 ((rd_T25 l0_4 x15_1).f3).length c132_3)).setCell ⟨gb133, 4, none⟩ (.slice A132_4 ((rd_T25 l0_4 x15_1).f4).length c132_4)).heap[gb133]? = some (.cells #[.int .i64 ((rd_T25 l0_4 x15_1).f0), .int .i64 ((rd_T25 l0_4 x15_1).f1), .string ((rd_T25 l0_4 x15_1).f2), .slice A132_3 ((rd_T25 l0_4 x15_1).f3).length c132_3, .slice A132_4 ((rd_T25 l0_4 x15_1).f4).length c132_4] 25 (0, 0))) := ⟨by (with_reducible repeat (first | refine blk_drewN ?_ _ | refine blk_drew ?_ | refine blk_alloc ?_ _)); refine blk_put (cs := #[.int .i64 ((rd_T25 l0_4 x15_1).f0), .int .i64 ((rd_T25 l0_4 x15_1).f1), .string ((rd_T25 l0_4 x15_1).f2), .slice A132_3 ((rd_T25 l0_4 x15_1).f3).length c132_3, .slice none 0 0]) ?_ 4 _ rfl; (with_reducible repeat (first | refine blk_drewN ?_ _ | refine blk_drew ?_ | refine blk_alloc ?_ _)); refine blk_put (cs := #[.int .i64 ((rd_T25 l0_4 x15_1).f0), .int .i64 ((rd_T25 l0_4 x15_1).f1), .string ((rd_T25 l0_4 x15_1).f2), .slice none 0 0, .slice none 0 0]) ?_ 3 _ rfl; (with_reducible repeat (first | refine blk_drewN ?_ _ | refine blk_drew ?_ | refine blk_alloc ?_ _)); refine blk_put (cs := #[.int .i64 ((rd_T25 l0_4 x15_1).f0), .int .i64 ((rd_T25 l0_4 x15_1).f1), .string (⟨#[]⟩ : ByteArray), .slice none 0 0, .slice none 0 0]) ?_ 2 _ rfl; (with_reducible repeat (first | refine blk_drewN ?_ _ | refine blk_drew ?_ | refine blk_alloc ?_ _)); refine blk_put (cs := #[.int .i64 ((rd_T25 l0_4 x15_1).f0), .int .i64 0, .string (⟨#[]⟩ : ByteArray), .slice none 0 0, .slice none 0 0]) ?_ 1 _ rfl; (with_reducible repeat (first | refine blk_drewN ?_ _ | refine blk_drew ?_ | refine blk_alloc ?_ _)); refine blk_put (cs := #[.int .i64 0, .int .i64 0, .string (⟨#[]⟩ : ByteArray), .slice none 0 0, .slice none 0 0]) ?_ 0 _ rfl; (with_reducible repeat (first | refine blk_drewN ?_ _ | refine blk_drew ?_ | refine blk_alloc ?_ _)); exact BK133.out⟩
              have n5_ : Aside0 (Below w.heap.size w (((((w15.setCell ⟨gb133, 0, none⟩ (.int .i64 ((rd_T25 l0_4 x15_1).f0))).setCell ⟨gb133, 1, none⟩ (.int .i64 ((rd_T25 l0_4 x15_1).f1))).setCell ⟨gb133, 2, none⟩ (.string ((rd_T25 l0_4 x15_1).f2))).setCell ⟨gb133, 3, none⟩ (.slice A132_3 ((rd_T25 l0_4 x15_1).f3).length c132_3)).setCell ⟨gb133, 4, none⟩ (.slice A132_4 ((rd_T25 l0_4 x15_1).f4).length c132_4))) := ⟨by repeat (first | (with_reducible first | exact HB.out | apply below_alloc | apply pw_below_drewN | apply below_drew1 | refine below_set ?_ GE127.out | refine below_set ?_ GE128.out | refine below_set ?_ GE133.out) | exact HB.out)⟩
              (try clear HO_128003)
              (try clear HO_128004)
              (try clear BK127)
              (try clear BK128)
              (try clear BK133)
              (try clear HB)
              generalize (((((w15.setCell ⟨gb133, 0, none⟩ (.int .i64 ((rd_T25 l0_4 x15_1).f0))).setCell ⟨gb133, 1, none⟩ (.int .i64 ((rd_T25 l0_4 x15_1).f1))).setCell ⟨gb133, 2, none⟩ (.string ((rd_T25 l0_4 x15_1).f2))).setCell ⟨gb133, 3, none⟩ (.slice A132_3 ((rd_T25 l0_4 x15_1).f3).length c132_3)).setCell ⟨gb133, 4, none⟩ (.slice A132_4 ((rd_T25 l0_4 x15_1).f4).length c132_4)) = w19 at n0_ n1_ n2_ n3_ n4_ n5_ ⊢
              have HO_128003 := n0_
              have HO_128004 := n1_
              have BK127 := n2_
              have BK128 := n3_
              have BK133 := n4_
              have HB := n5_
              clear n0_ n1_ n2_ n3_ n4_ n5_
              have n0_ := Aside0.mk (Kd.R_drew HO_128003.out)
              have n1_ := Aside0.mk (Kd.R_drew HO_128004.out)
              have n2_ := Aside0.mk (blk_drew BK127.out)
              have n3_ := Aside0.mk (blk_drew BK128.out)
              have n4_ := Aside0.mk (blk_drew BK133.out)
              have n5_ := Aside0.mk (below_drew1 HB.out)
              clear HO_128003
              clear HO_128004
              clear BK127
              clear BK128
              clear BK133
              clear HB
              have HO_128003 := n0_
              have HO_128004 := n1_
              have BK127 := n2_
              have BK128 := n3_
              have BK133 := n4_
              have HB := n5_
              clear n0_ n1_ n2_ n3_ n4_ n5_
              refine start_ (n := 8) (S := fun w' => w'.cell? ⟨gb127, 0, none⟩ = some (.int .i64 a0_0) ∧ w'.cell? ⟨gb127, 1, none⟩ = some (.int .i64 a0_1) ∧ w'.cell? ⟨gb127, 2, none⟩ = some (.string a0_2) ∧ w'.cell? ⟨gb127, 3, none⟩ = some (.slice Ao8 t129.length co8) ∧ w'.cell? ⟨gb127, 4, none⟩ = some (u128004) ∧ w'.cell? ⟨gb133, 0, none⟩ = some (.int .i64 ((rd_T25 l0_4 x15_1).f0)) ∧ w'.cell? ⟨gb133, 1, none⟩ = some (.int .i64 ((rd_T25 l0_4 x15_1).f1)) ∧ w'.cell? ⟨gb133, 2, none⟩ = some (.string ((rd_T25 l0_4 x15_1).f2)) ∧ w'.cell? ⟨gb133, 3, none⟩ = some (.slice A132_3 ((rd_T25 l0_4 x15_1).f3).length c132_3) ∧ w'.cell? ⟨gb133, 4, none⟩ = some (.slice A132_4 ((rd_T25 l0_4 x15_1).f4).length c132_4)) (ds := [7]) #[false, false, false, false, false, false, false, false] (by kernel_rfl) rfl rfl ⟨(blk_cell BK127.out 0).trans rfl, (blk_cell BK127.out 1).trans rfl, (blk_cell BK127.out 2).trans rfl, (blk_cell BK127.out 3).trans rfl, (blk_cell BK127.out 4).trans rfl, (blk_cell BK133.out 0).trans rfl, (blk_cell BK133.out 1).trans rfl, (blk_cell BK133.out 2).trans rfl, (blk_cell BK133.out 3).trans rfl, (blk_cell BK133.out 4).trans rfl⟩ (fun hHeld => ?_); refine with_tabW jsonval_clone.tab6 jsonval_clone.bits6 (fun HT_ HW_ => ?_)
              generalize w19.drew = w20 at HO_128003 HO_128004 BK127 BK128 BK133 HB hHeld ⊢
              refine pure_ (i := 0) (N := some 19) (v := ?_) (a' := ?_) #[true, false, false, false, false, false, false, false] rfl rfl (any_of HT_.out (by kernel_rfl)) (fun _ _ _ h => h) (Or.inl ⟨by rfl, ?_⟩) ?_ ?_
              rotate_left
              · intro w'
                go_simp
                with_reducible rfl
              rotate_left
              · simp only [Act.put, List.setIfInBounds_toArray, List.set_cons_zero, List.set_cons_succ, i64_w, i32_w]
                rfl
              refine take_ (i := 1) (N := some 20) (v := ?_) (a' := ?_) #[true, true, false, false, false, false, false, false] rfl rfl (take_ofW HT_.out HW_.out (by kernel_rfl)) (fun _ _ _ h => h) (Or.inl ⟨by rfl, ?_⟩) hHeld ?_ ?_
              rotate_left
              · rintro w' ⟨s0, s1, s2, s3, s4, s5, s6, s7, s8, s9⟩
                go_simp
                with_reducible rfl
              rotate_left
              · simp only [Act.put, List.setIfInBounds_toArray, List.set_cons_zero, List.set_cons_succ, i64_w, i32_w]
                rfl
              refine take_ (i := 2) (N := some 21) (v := ?_) (a' := ?_) #[true, true, true, false, false, false, false, false] rfl rfl (take_ofW HT_.out HW_.out (by kernel_rfl)) (fun _ _ _ h => h) (Or.inl ⟨by rfl, ?_⟩) hHeld ?_ ?_
              rotate_left
              · rintro w' ⟨s0, s1, s2, s3, s4, s5, s6, s7, s8, s9⟩
                go_simp
                with_reducible rfl
              rotate_left
              · simp only [Act.put, List.setIfInBounds_toArray, List.set_cons_zero, List.set_cons_succ, i64_w, i32_w]
                rfl
              refine one_ (i := 3) (N := some 22) #[true, true, true, true, false, false, false, false] rfl rfl (one_of HT_.out (by kernel_rfl)) (by decide) (fun K hK => ?_)
              refine goes_ Tryd.func20 (by kernel_rfl) rfl #[.agg #[.int .i64 ((rd_T25 l0_4 x15_1).f0), .int .i64 ((rd_T25 l0_4 x15_1).f1), .string ((rd_T25 l0_4 x15_1).f2), .slice A132_3 ((rd_T25 l0_4 x15_1).f3).length c132_3, .slice A132_4 ((rd_T25 l0_4 x15_1).f4).length c132_4]] (by rfl) rfl rfl (by (try simp only [List.map_toArray, List.map_cons, List.map_nil]); first | done | rfl | (simp only [List.length_drop, List.length_take]; rfl)) ?_
              with_reducible refine (ih k1 (by have := HK1.out; omega) ((rd_T25 l0_4 x15_1).f0) ((rd_T25 l0_4 x15_1).f1) ((rd_T25 l0_4 x15_1).f2) _ _ ((rd_T25 l0_4 x15_1).f3) _ _ ((rd_T25 l0_4 x15_1).f4) t134 t135 t136 t137 t140 _ ?side1 ?side2 ?side3 ?side4 A13.out).mono ?_
              (case side1 => repeat (first | exact (Kd.C_below HR132_3.out HB.out) | (with_reducible refine Kd.C_alloc ?_ _) | (with_reducible refine Kd.C_drewN ?_ _) | (with_reducible refine Kd.C_drew ?_)))
              (case side2 => exact HC132_3.out)
              (case side3 => repeat (first | exact (Kd.C_below HR132_4.out HB.out) | (with_reducible refine Kd.C_alloc ?_ _) | (with_reducible refine Kd.C_drewN ?_ _) | (with_reducible refine Kd.C_drew ?_)))
              (case side4 => exact HC132_4.out)
              rintro e w21 ⟨v138, v141, rfl, ho0, ho1, hb⟩
              refine ⟨_, rfl, ?_⟩
              have n0_ := Aside0.mk (Kd.R_elder' (by (with_reducible repeat (first | apply Kd.R_alloc | apply Kd.R_drewN | apply Kd.R_drew)); exact HO_128003.out) (Kd.R_base ho0) hb)
              have n1_ := Aside0.mk (Kd.R_mono (Kd.R_told (Kd.R_told (Kd.R_old (by (with_reducible repeat (first | apply Kd.R_alloc | apply Kd.R_drewN | apply Kd.R_drew)); exact HO_128004.out) hb) (Kd.R_base ho0)) (Kd.R_base ho1)) (fun _ h_ => h_.1))
              have n2_ := Aside0.mk (Kd.R_lower (Kd.R_new' ho0 (Kd.R_lt (by (with_reducible repeat (first | apply Kd.R_alloc | apply Kd.R_drewN | apply Kd.R_drew)); exact HO_128003.out))) (below_size (by repeat (first | (with_reducible first | exact HB.out | apply below_alloc | apply pw_below_drewN | apply below_drew1 | refine below_set ?_ GE127.out | refine below_set ?_ GE128.out | refine below_set ?_ GE133.out) | exact HB.out))))
              have n3_ := Aside0.mk (Kd.R_lower (Kd.R_newB (Kd.R_newB (Kd.R_newB (Kd.R_new' (Kd.R_new' ho1 (Kd.R_lt (by (with_reducible repeat (first | apply Kd.R_alloc | apply Kd.R_drewN | apply Kd.R_drew)); exact HO_128003.out))) (Kd.R_lt (by (with_reducible repeat (first | apply Kd.R_alloc | apply Kd.R_drewN | apply Kd.R_drew)); exact HO_128004.out))) (g := gb127) (o := .cells #[.int .i64 a0_0, .int .i64 a0_1, .string a0_2, .slice Ao8 t129.length co8, u128004] 25 (0, 0)) (by (with_reducible repeat (first | refine blk_drewN ?_ _ | refine blk_drew ?_ | refine blk_alloc ?_ _)); exact BK127.out)) (g := gb128) (o := .cells #[.int .i64 0, .int .i64 0, .string (⟨#[]⟩ : ByteArray), .slice none 0 0, .slice none 0 0] 25 (0, 0)) (by (with_reducible repeat (first | refine blk_drewN ?_ _ | refine blk_drew ?_ | refine blk_alloc ?_ _)); exact BK128.out)) (g := gb133) (o := .cells #[.int .i64 ((rd_T25 l0_4 x15_1).f0), .int .i64 ((rd_T25 l0_4 x15_1).f1), .string ((rd_T25 l0_4 x15_1).f2), .slice A132_3 ((rd_T25 l0_4 x15_1).f3).length c132_3, .slice A132_4 ((rd_T25 l0_4 x15_1).f4).length c132_4] 25 (0, 0)) (by (with_reducible repeat (first | refine blk_drewN ?_ _ | refine blk_drew ?_ | refine blk_alloc ?_ _)); exact BK133.out)) (below_size (by repeat (first | (with_reducible first | exact HB.out | apply below_alloc | apply pw_below_drewN | apply below_drew1 | refine below_set ?_ GE127.out | refine below_set ?_ GE128.out | refine below_set ?_ GE133.out) | exact HB.out))))
              have n4_ := Aside0.mk (blk_below (g := gb127) (o := .cells #[.int .i64 a0_0, .int .i64 a0_1, .string a0_2, .slice Ao8 t129.length co8, u128004] 25 (0, 0)) (by (with_reducible repeat (first | refine blk_drewN ?_ _ | refine blk_drew ?_ | refine blk_alloc ?_ _)); exact BK127.out) hb)
              have n5_ := Aside0.mk (blk_below (g := gb128) (o := .cells #[.int .i64 0, .int .i64 0, .string (⟨#[]⟩ : ByteArray), .slice none 0 0, .slice none 0 0] 25 (0, 0)) (by (with_reducible repeat (first | refine blk_drewN ?_ _ | refine blk_drew ?_ | refine blk_alloc ?_ _)); exact BK128.out) hb)
              have n6_ := Aside0.mk (blk_below (g := gb133) (o := .cells #[.int .i64 ((rd_T25 l0_4 x15_1).f0), .int .i64 ((rd_T25 l0_4 x15_1).f1), .string ((rd_T25 l0_4 x15_1).f2), .slice A132_3 ((rd_T25 l0_4 x15_1).f3).length c132_3, .slice A132_4 ((rd_T25 l0_4 x15_1).f4).length c132_4] 25 (0, 0)) (by (with_reducible repeat (first | refine blk_drewN ?_ _ | refine blk_drew ?_ | refine blk_alloc ?_ _)); exact BK133.out) hb)
              have n7_ := Aside0.mk (below_step (by repeat (first | (with_reducible first | exact HB.out | apply below_alloc | apply pw_below_drewN | apply below_drew1 | refine below_set ?_ GE127.out | refine below_set ?_ GE128.out | refine below_set ?_ GE133.out) | exact HB.out)) hb)
              clear HO_128003
              clear HO_128004
              clear BK127
              clear BK128
              clear BK133
              clear HB
              have HO_128003 := n0_
              have HO_128004 := n1_
              have HO139 := n2_
              have HO142 := n3_
              have BK127 := n4_
              have BK128 := n5_
              have BK133 := n6_
              have HB := n7_
              clear n0_ n1_ n2_ n3_ n4_ n5_ n6_ n7_
              (try clear hb)
              (try clear hb2)
              (try clear hk)
              (try clear hi)
              (try clear ho0)
              (try clear ho1)
              obtain ⟨Ao23, co23, eo23⟩ := Kd.R_slice HO139.out
              (first | subst eo23 | (injection eo23 with f1_ f2_ f3_; have f4_ := f1_.symm; have f5_ := f3_.symm; clear f1_ f2_ f3_; subst f4_; subst f5_))
              obtain ⟨Ao24, co24, eo24⟩ := Kd.R_slice HO142.out
              (first | subst eo24 | (injection eo24 with f1_ f2_ f3_; have f4_ := f1_.symm; have f5_ := f3_.symm; clear f1_ f2_ f3_; subst f4_; subst f5_))
              refine hK.out _ _ ⟨(blk_cell BK127.out 0).trans rfl, (blk_cell BK127.out 1).trans rfl, (blk_cell BK127.out 2).trans rfl, (blk_cell BK127.out 3).trans rfl, (blk_cell BK127.out 4).trans rfl, (blk_cell BK133.out 0).trans rfl, (blk_cell BK133.out 1).trans rfl, (blk_cell BK133.out 2).trans rfl, (blk_cell BK133.out 3).trans rfl, (blk_cell BK133.out 4).trans rfl⟩ (fun hHeld => ?_)
              clear hK K
              refine norm_ (a' := ?_) ?_ ?_
              rotate_left
              · show Act.put _ (some 22) _ = _
                simp only [Act.put, List.setIfInBounds_toArray, List.set_cons_zero, List.set_cons_succ, i64_w, i32_w]
                rfl
              refine one_ (i := 4) (N := some 23) #[true, true, true, true, true, false, false, false] rfl rfl (one_of HT_.out (by kernel_rfl)) (by decide) (fun K hK => ?_)
              refine value_ (w1 := ?_) (v := ?_) (by rfl) rfl ?_ ?_
              rotate_left 2
              · go_simp
                constructor
                · rfl
                · rfl
              refine hK.out _ _ ⟨(blk_cell (blk_alloc BK127.out _) 0).trans rfl, (blk_cell (blk_alloc BK127.out _) 1).trans rfl, (blk_cell (blk_alloc BK127.out _) 2).trans rfl, (blk_cell (blk_alloc BK127.out _) 3).trans rfl, (blk_cell (blk_alloc BK127.out _) 4).trans rfl, (blk_cell (blk_alloc BK133.out _) 0).trans rfl, (blk_cell (blk_alloc BK133.out _) 1).trans rfl, (blk_cell (blk_alloc BK133.out _) 2).trans rfl, (blk_cell (blk_alloc BK133.out _) 3).trans rfl, (blk_cell (blk_alloc BK133.out _) 4).trans rfl⟩ (fun hHeld => ?_)
              clear hK K
              refine norm_ (a' := ?_) ?_ ?_
              rotate_left
              · show Act.put _ (some 23) _ = _
                simp only [Act.put, List.setIfInBounds_toArray, List.set_cons_zero, List.set_cons_succ, i64_w, i32_w]
                rfl
              refine one_ (i := 5) (N := some 24) #[true, true, true, true, true, true, false, false] rfl rfl (one_of HT_.out (by kernel_rfl)) (by decide) (fun K hK => ?_)
              refine Kd.R_append_step k25 (w0 := w) w.heap.size (by rfl) (.tmp 20) (.tmp 23) 23 25 (.agg #[(.int .i64 0), (.int .i64 0), (.string ⟨#[]⟩), (.slice none 0 0), (.slice none 0 0)]) 80 rfl Tryd.underlying23 info25 rfl (by decide) (by omega) u128004 x128004_1 (⟨t134, t135, t136, t137, t140⟩ : S25) [.int .i64 t134, .int .i64 t135, .string t136, .slice Ao23 t137.length co23, .slice Ao24 t140.length co24] (fun k_ => some k_ ≠ (.slice Ao8 t129.length co8 : Value).ownBlock ∧ k_ ≠ gb127 ∧ k_ ≠ gb128 ∧ k_ ≠ gb133) (fun k_ => ((fun k_ => some k_ ≠ (.slice Ao8 t129.length co8 : Value).ownBlock ∧ k_ ≠ gb127 ∧ k_ ≠ gb128 ∧ k_ ≠ gb133)) k_ ∧ some k_ ≠ (u128004 : Value).ownBlock) rfl rfl ?aP (fun _ hk => hk) ?aF ?aO ?aB ?aS ?aL ?_
              (case aP => exact k25_mkM _ _ _ (⟨t134, t135, t136, t137, t140⟩ : S25) (Kd.R_mono (Kd.R_types (Kd.R_types (Kd.R_types (Kd.R_apart' (HO139.out) (Kd.R_typed HO_128004.out) (by decide)) BK127.out (by decide)) BK128.out (by decide)) BK133.out (by decide)) (fun k_ hk => ⟨⟨hk.1.1.1.1.2, ⟨hk.1.1.2, ⟨hk.1.2, hk.2⟩⟩⟩, hk.1.1.1.2⟩)) (Kd.R_mono (HO142.out) (fun k_ hk => ⟨⟨hk.1.1.1.1.2, ⟨hk.1.1.2, ⟨hk.1.2, hk.2⟩⟩⟩, hk.1.1.1.2⟩)))
              (case aB => exact (by repeat (first | (with_reducible first | exact HB.out | apply below_alloc | apply pw_below_drewN | apply below_drew1 | refine below_set ?_ GE127.out | refine below_set ?_ GE128.out | refine below_set ?_ GE133.out) | exact HB.out)))
              (case aF => exact (fun k_ hk => ⟨Kd.fresh' (Kd.R_lt (by (with_reducible repeat (first | apply Kd.R_alloc | apply Kd.R_drewN | apply Kd.R_drew)); exact HO_128003.out)) k_ hk, Kd.freshB (g := gb127) (o := .cells #[.int .i64 a0_0, .int .i64 a0_1, .string a0_2, .slice Ao8 t129.length co8, u128004] 25 (0, 0)) (by (with_reducible repeat (first | refine blk_drewN ?_ _ | refine blk_drew ?_ | refine blk_alloc ?_ _)); exact BK127.out) k_ hk, Kd.freshB (g := gb128) (o := .cells #[.int .i64 0, .int .i64 0, .string (⟨#[]⟩ : ByteArray), .slice none 0 0, .slice none 0 0] 25 (0, 0)) (by (with_reducible repeat (first | refine blk_drewN ?_ _ | refine blk_drew ?_ | refine blk_alloc ?_ _)); exact BK128.out) k_ hk, Kd.freshB (g := gb133) (o := .cells #[.int .i64 ((rd_T25 l0_4 x15_1).f0), .int .i64 ((rd_T25 l0_4 x15_1).f1), .string ((rd_T25 l0_4 x15_1).f2), .slice A132_3 ((rd_T25 l0_4 x15_1).f3).length c132_3, .slice A132_4 ((rd_T25 l0_4 x15_1).f4).length c132_4] 25 (0, 0)) (by (with_reducible repeat (first | refine blk_drewN ?_ _ | refine blk_drew ?_ | refine blk_alloc ?_ _)); exact BK133.out) k_ hk⟩))
              (case aO => exact (by (with_reducible repeat (first | apply Kd.R_alloc | apply Kd.R_drewN | apply Kd.R_drew)); exact Kd.R_mono HO_128004.out (fun _ hk => ⟨hk.1.1.1, ⟨hk.1.1.2.1, ⟨hk.1.1.2.2.1, hk.1.1.2.2.2⟩⟩⟩)))
              (case aS => exact (below_size (by repeat (first | (with_reducible first | exact HB.out | apply below_alloc | apply pw_below_drewN | apply below_drew1 | refine below_set ?_ GE127.out | refine below_set ?_ GE128.out | refine below_set ?_ GE133.out) | exact HB.out))))
              (case aL => have := LMc14.out; omega)
              intro v144 w22 ho hb hg hat
              rw [← Ny143.out] at ho
              have n0_ := Aside0.mk (Kd.R_over' (by (with_reducible repeat (first | apply Kd.R_alloc | apply Kd.R_drewN | apply Kd.R_drew)); exact HO_128003.out) (Kd.R_typed (by (with_reducible repeat (first | apply Kd.R_alloc | apply Kd.R_drewN | apply Kd.R_drew)); exact HO_128004.out)) (by decide) hg)
              have n1_ := Aside0.mk (blk_grown (g := gb127) (o := .cells #[.int .i64 a0_0, .int .i64 a0_1, .string a0_2, .slice Ao8 t129.length co8, u128004] 25 (0, 0)) (by (with_reducible repeat (first | refine blk_drewN ?_ _ | refine blk_drew ?_ | refine blk_alloc ?_ _)); exact BK127.out) hg (Kd.R_away HO_128004.out (fun _ hk => hk.1.1.2.1)))
              have n2_ := Aside0.mk (blk_grown (g := gb128) (o := .cells #[.int .i64 0, .int .i64 0, .string (⟨#[]⟩ : ByteArray), .slice none 0 0, .slice none 0 0] 25 (0, 0)) (by (with_reducible repeat (first | refine blk_drewN ?_ _ | refine blk_drew ?_ | refine blk_alloc ?_ _)); exact BK128.out) hg (Kd.R_away HO_128004.out (fun _ hk => hk.1.1.2.2.1)))
              have n3_ := Aside0.mk (blk_grown (g := gb133) (o := .cells #[.int .i64 ((rd_T25 l0_4 x15_1).f0), .int .i64 ((rd_T25 l0_4 x15_1).f1), .string ((rd_T25 l0_4 x15_1).f2), .slice A132_3 ((rd_T25 l0_4 x15_1).f3).length c132_3, .slice A132_4 ((rd_T25 l0_4 x15_1).f4).length c132_4] 25 (0, 0)) (by (with_reducible repeat (first | refine blk_drewN ?_ _ | refine blk_drew ?_ | refine blk_alloc ?_ _)); exact BK133.out) hg (Kd.R_away HO_128004.out (fun _ hk => hk.1.1.2.2.2)))
              have n4_ := Aside0.mk (hb)
              have n5_ := Aside0.mk (ho)
              clear HO_128003
              clear BK127
              clear BK128
              clear BK133
              clear HB
              clear HO_128004
              clear HO139
              clear HO142
              have HO_128003 := n0_
              have BK127 := n1_
              have BK128 := n2_
              have BK133 := n3_
              have HB := n4_
              have HO145 := n5_
              clear n0_ n1_ n2_ n3_ n4_ n5_
              clear ho hb hg hat
              obtain ⟨Ao25, co25, eo25⟩ := Kd.R_slice HO145.out
              (first | subst eo25 | (injection eo25 with f1_ f2_ f3_; have f4_ := f1_.symm; have f5_ := f3_.symm; clear f1_ f2_ f3_; subst f4_; subst f5_))
              refine hK.out _ _ ⟨(blk_cell BK127.out 0).trans rfl, (blk_cell BK127.out 1).trans rfl, (blk_cell BK127.out 2).trans rfl, (blk_cell BK127.out 3).trans rfl, (blk_cell BK127.out 4).trans rfl, (blk_cell BK133.out 0).trans rfl, (blk_cell BK133.out 1).trans rfl, (blk_cell BK133.out 2).trans rfl, (blk_cell BK133.out 3).trans rfl, (blk_cell BK133.out 4).trans rfl⟩ (fun hHeld => ?_)
              clear hK K
              refine norm_ (a' := ?_) ?_ ?_
              rotate_left
              · show Act.put _ (some 24) _ = _
                simp only [Act.put, List.setIfInBounds_toArray, List.set_cons_zero, List.set_cons_succ, i64_w, i32_w]
                rfl
              refine pure_ (i := 6) (N := some 25) (v := ?_) (a' := ?_) #[true, true, true, true, true, true, true, false] rfl rfl (any_of HT_.out (by kernel_rfl)) (fun _ _ _ h => h) (Or.inl ⟨by rfl, ?_⟩) ?_ ?_
              rotate_left
              · intro w'
                go_simp
                with_reducible rfl
              rotate_left
              · simp only [Act.put, List.setIfInBounds_toArray, List.set_cons_zero, List.set_cons_succ, i64_w, i32_w]
                rfl
              refine last_ (i := 7) (N := none) #[true, true, true, true, true, true, true, true] rfl rfl (one_of HT_.out (by kernel_rfl)) (by decide) (fun K hK => ?_)
              have hs26 : w22.cell? ⟨gb127, 4, none⟩ = some (u128004) := (blk_cell BK127.out 4).trans rfl
              have hfs26 := blk_frozen BK127.out 4
              have hns26_1 := NB128_127.out
              have hns26_2 := NB133_127.out
              have hms26_1 := NB127_128.out
              have hms26_2 := NB127_133.out
              refine skip_ (w1 := ?_) (by rfl) rfl ?_ ?_
              rotate_left
              · go_simp
                rfl
              refine hK.out _ _ ?_
              clear hK K
              refine done_ (done_of HT_.out (by kernel_rfl)) ?_
              try go_wp2
              go_roundg k1
              case measure => have := HK1.out; omega
              case rel => exact ⟨(wrap64 (x15_1 + 1)), (y143), (.slice Ao25 y143.length co25), (by first | rfl | (simp; done) | (rw [bne_nil_isEmpty]; done) | (simp [*]; done)), H', ⟨by have := HK1.out; omega⟩, ⟨by (with_reducible repeat (first | apply Kd.R_alloc | apply Kd.R_drewN | apply Kd.R_drew)); exact Kd.R_mono (Kd.R_far (p := ⟨gb127, 4, none⟩) (Kd.R_types HO_128003.out BK127.out (by decide)) (fun _ hk => hk.2) (.slice Ao25 y143.length co25)) (fun _ hk => trivial)⟩, ⟨by (with_reducible repeat (first | apply Kd.R_alloc | apply Kd.R_drewN | apply Kd.R_drew)); exact Kd.R_mono (Kd.R_far (p := ⟨gb127, 4, none⟩) (Kd.R_mono HO145.out (fun k_ hk => (⟨hk, hk.2.1⟩ : _ ∧ k_ ≠ gb127))) (fun _ hk => hk.2) (.slice Ao25 y143.length co25)) (fun _ hk => ⟨hk.1.1, ⟨hk.1.2.1, hk.1.2.2.1⟩⟩)⟩, ⟨by (with_reducible repeat (first | refine blk_drewN ?_ _ | refine blk_drew ?_ | refine blk_alloc ?_ _)); refine blk_put (cs := #[.int .i64 a0_0, .int .i64 a0_1, .string a0_2, .slice Ao8 t129.length co8, u128004]) ?_ 4 _ rfl; (with_reducible repeat (first | refine blk_drewN ?_ _ | refine blk_drew ?_ | refine blk_alloc ?_ _)); exact BK127.out⟩, ⟨by (with_reducible repeat (first | refine blk_drewN ?_ _ | refine blk_drew ?_ | refine blk_alloc ?_ _)); refine blk_far ?_ NB128_127.out _; (with_reducible repeat (first | refine blk_drewN ?_ _ | refine blk_drew ?_ | refine blk_alloc ?_ _)); exact BK128.out⟩, ⟨by repeat (first | (with_reducible first | exact HB.out | apply below_alloc | apply pw_below_drewN | apply below_drew1 | refine below_set ?_ GE127.out | refine below_set ?_ GE128.out | refine below_set ?_ GE133.out) | exact HB.out)⟩⟩
            · rw [if_neg c14] at H
              exact absurd H (by simp)
          · rw [if_neg c12] at H
            exact absurd H (by simp)
        · rw [if_neg c11] at H
          exact absurd H (by simp)
      · rw [if_neg c10] at H
        have c10b0 : decide (x15_1 < (l0_4.length : Int)) = false := decide_eq_false c10
        clear c10
        simp only [Option.some.injEq, Prod.mk.injEq] at H
        obtain ⟨rfl, rfl, rfl, rfl, rfl⟩ := H
        have hnb27 := NB127_128.out
        have hnc27 := NB128_127.out
        have hcz28_0 : wr.cell? ⟨gb127, 0, none⟩ = some (.int .i64 a0_0) := (blk_cell BK127.out 0).trans rfl
        have hcz28_1 : wr.cell? ⟨gb127, 1, none⟩ = some (.int .i64 a0_1) := (blk_cell BK127.out 1).trans rfl
        have hcz28_2 : wr.cell? ⟨gb127, 2, none⟩ = some (.string a0_2) := (blk_cell BK127.out 2).trans rfl
        have hcz28_3 : wr.cell? ⟨gb127, 3, none⟩ = some (.slice Ao8 t129.length co8) := (blk_cell BK127.out 3).trans rfl
        have hcz28_4 : wr.cell? ⟨gb127, 4, none⟩ = some (u128004) := (blk_cell BK127.out 4).trans rfl
        have hfz28_0 := blk_frozen BK127.out 0
        have hfz28_1 := blk_frozen BK127.out 1
        have hfz28_2 := blk_frozen BK127.out 2
        have hfz28_3 := blk_frozen BK127.out 3
        have hfz28_4 := blk_frozen BK127.out 4
        have hcz29_0 : wr.cell? ⟨gb128, 0, none⟩ = some (.int .i64 0) := (blk_cell BK128.out 0).trans rfl
        have hcz29_1 : wr.cell? ⟨gb128, 1, none⟩ = some (.int .i64 0) := (blk_cell BK128.out 1).trans rfl
        have hcz29_2 : wr.cell? ⟨gb128, 2, none⟩ = some (.string (⟨#[]⟩ : ByteArray)) := (blk_cell BK128.out 2).trans rfl
        have hcz29_3 : wr.cell? ⟨gb128, 3, none⟩ = some (.slice none 0 0) := (blk_cell BK128.out 3).trans rfl
        have hcz29_4 : wr.cell? ⟨gb128, 4, none⟩ = some (.slice none 0 0) := (blk_cell BK128.out 4).trans rfl
        have hfz29_0 := blk_frozen BK128.out 0
        have hfz29_1 := blk_frozen BK128.out 1
        have hfz29_2 := blk_frozen BK128.out 2
        have hfz29_3 := blk_frozen BK128.out 3
        have hfz29_4 := blk_frozen BK128.out 4
        obtain ⟨Ao30, co30, eo30⟩ := Kd.R_slice HO_128004.out
        subst eo30
        go_wp2
        refine bodyPost_ret (results_cell_row rfl _ _ gb128 25 #[.int .i64 a0_0, .int .i64 a0_1, .string a0_2, .slice Ao8 t129.length co8, .slice Ao30 x128004_1.length co30] (0, 0) _ rfl (by (with_reducible repeat (first | refine blk_drewN ?_ _ | refine blk_drew ?_ | refine blk_alloc ?_ _)); refine blk_put (cs := #[.int .i64 a0_0, .int .i64 a0_1, .string a0_2, .slice Ao8 t129.length co8, .slice none 0 0]) ?_ 4 _ rfl; (with_reducible repeat (first | refine blk_drewN ?_ _ | refine blk_drew ?_ | refine blk_alloc ?_ _)); refine blk_put (cs := #[.int .i64 a0_0, .int .i64 a0_1, .string a0_2, .slice none 0 0, .slice none 0 0]) ?_ 3 _ rfl; (with_reducible repeat (first | refine blk_drewN ?_ _ | refine blk_drew ?_ | refine blk_alloc ?_ _)); refine blk_put (cs := #[.int .i64 a0_0, .int .i64 a0_1, .string (⟨#[]⟩ : ByteArray), .slice none 0 0, .slice none 0 0]) ?_ 2 _ rfl; (with_reducible repeat (first | refine blk_drewN ?_ _ | refine blk_drew ?_ | refine blk_alloc ?_ _)); refine blk_put (cs := #[.int .i64 a0_0, .int .i64 0, .string (⟨#[]⟩ : ByteArray), .slice none 0 0, .slice none 0 0]) ?_ 1 _ rfl; (with_reducible repeat (first | refine blk_drewN ?_ _ | refine blk_drew ?_ | refine blk_alloc ?_ _)); refine blk_put (cs := #[.int .i64 0, .int .i64 0, .string (⟨#[]⟩ : ByteArray), .slice none 0 0, .slice none 0 0]) ?_ 0 _ rfl; (with_reducible repeat (first | refine blk_drewN ?_ _ | refine blk_drew ?_ | refine blk_alloc ?_ _)); exact BK128.out) Tryd.underlying25 rfl (by kernel_rfl)) rfl ?_
        exact ⟨_, _, by first | rfl | (simp [errW_none, errW_some] <;> rfl) | (simp [*, errW_none, errW_some] <;> rfl), by (with_reducible repeat (first | apply Kd.R_alloc | apply Kd.R_drewN | apply Kd.R_drew)); exact Kd.R_mono (Kd.R_far (p := ⟨gb128, 4, none⟩) (Kd.R_far (p := ⟨gb128, 3, none⟩) (Kd.R_far (p := ⟨gb128, 2, none⟩) (Kd.R_far (p := ⟨gb128, 1, none⟩) (Kd.R_far (p := ⟨gb128, 0, none⟩) (Kd.R_types HO_128003.out BK128.out (by decide)) (fun _ hk => hk.2) (.int .i64 a0_0)) (fun _ hk => hk.2) (.int .i64 a0_1)) (fun _ hk => hk.2) (.string a0_2)) (fun _ hk => hk.2) (.slice Ao8 t129.length co8)) (fun _ hk => hk.2) (.slice Ao30 x128004_1.length co30)) (fun _ hk => trivial), by (with_reducible repeat (first | apply Kd.R_alloc | apply Kd.R_drewN | apply Kd.R_drew)); exact Kd.R_mono (Kd.R_far (p := ⟨gb128, 4, none⟩) (Kd.R_far (p := ⟨gb128, 3, none⟩) (Kd.R_far (p := ⟨gb128, 2, none⟩) (Kd.R_far (p := ⟨gb128, 1, none⟩) (Kd.R_far (p := ⟨gb128, 0, none⟩) (Kd.R_mono HO_128004.out (fun k_ hk => (⟨hk, hk.2.2⟩ : _ ∧ k_ ≠ gb128))) (fun _ hk => hk.2) (.int .i64 a0_0)) (fun _ hk => hk.2) (.int .i64 a0_1)) (fun _ hk => hk.2) (.string a0_2)) (fun _ hk => hk.2) (.slice Ao8 t129.length co8)) (fun _ hk => hk.2) (.slice Ao30 x128004_1.length co30)) (fun _ hk => hk.1.1), by repeat (first | (with_reducible first | exact HB.out | apply below_alloc | apply pw_below_drewN | apply below_drew1 | refine below_set ?_ GE127.out | refine below_set ?_ GE128.out) | exact HB.out)⟩

end Go.Proofs.YtmonbhoeplmieaaDoor.Js
