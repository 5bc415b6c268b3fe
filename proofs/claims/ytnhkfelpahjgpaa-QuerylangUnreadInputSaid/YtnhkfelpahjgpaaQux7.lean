import Derived.Test.YtnhkfelpahjgpaaQux0
import Derived.Test.YtnhkfelpahjgpaaQux1
import Derived.Test.YtnhkfelpahjgpaaQux6
import Derived.Test.YtnhkfelpahjgpaaQuhRs
namespace Go.Proofs.Ytnhkfelpahjgpaa.Qu
open Go.RowKit Go.Proofs.YtnhkfelpahjgpaaW.PrintWords Go.Proofs.YtnhkfelpahjgpaaW.PrintLast Go.Proofs.YtnhkfelpahjgpaaW.PrintMore
attribute [local go_sem] max2_int min2_int max_two min_two max_three min_three max_four min_four   -- for this text's walks alone
set_option linter.unusedVariables false
set_option linter.unusedSimpArgs false

attribute [local go_sem high] eqA40
/-! ### glossatorkeep3_influences: function 11 -/
mutual
def glossatorkeep3_influences.l0 : Nat → List Int → Int → List Int → Int → Int → List (List (S43)) → Option (Bool)
  | 0, _, _, _, _, _, _ => none
  | k + 1, x1, x3, x9, x10, x137000, x137001 => if x10 < (x9.length : Int) then (if 0 ≤ x10 then ((querylang_Reads.f x137000 x137001 x1 (rd x9 x10)).bind fun bt141 => (glossatorkeep3_influences.l1 k x1 x3 x9 x10 bt141.1 (bt141.1.length : Int) 0 x137000 x137001)) else (none)) else (some false)
def glossatorkeep3_influences.l1 : Nat → List Int → Int → List Int → Int → List (S40) → Int → Int → Int → List (List (S43)) → Option (Bool)
  | 0, _, _, _, _, _, _, _, _, _ => none
  | k + 1, x1, x3, x9, x10, x33, x34, x35, x137000, x137001 => if x35 < x34 then (if 0 ≤ x35 then (if x35 < (x33.length : Int) then ((glossatorkeep3_inputKey.f x3).bind fun bt147 => (if (((rd_T40 x33 x35).f0) == bt147.1 && (((rd_T40 x33 x35).f1) == bt147.2.1 && (((rd_T40 x33 x35).f2) == bt147.2.2))) = true then (some true) else (if ((rd_T40 x33 x35).f0) = 1 then ((glossatorref3_Contains_int.f k x9 ((rd_T40 x33 x35).f1)).bind fun t150 => (if t150 = true then (glossatorkeep3_influences.l1 k x1 x3 x9 x10 x33 x34 (wrap64 (x35 + 1)) x137000 x137001) else (if x9.length < 17592186044416 then (glossatorkeep3_influences.l1 k x1 x3 (x9 ++ [(rd_T40 x33 x35).f1]) x10 x33 x34 (wrap64 (x35 + 1)) x137000 x137001) else (none)))) else (glossatorkeep3_influences.l1 k x1 x3 x9 x10 x33 x34 (wrap64 (x35 + 1)) x137000 x137001)))) else (none)) else (none)) else (glossatorkeep3_influences.l0 k x1 x3 x9 (wrap64 (x10 + 1)) x137000 x137001)
end
def glossatorkeep3_influences.f (k : Nat) (a0_0 : Int) (l0_1 : List (List (S43))) (l1 : List Int) (a2 : Int) (a3 : Int) : Option (Bool) := glossatorkeep3_influences.l0 k l1 a3 (([a2] : List Int)) 0 a0_0 l0_1
theorem glossatorkeep3_influences.mono_l : ∀ k, (∀ y0 y1 y2 y3 y4 y5, LeO (glossatorkeep3_influences.l0 k y0 y1 y2 y3 y4 y5) (glossatorkeep3_influences.l0 (k + 1) y0 y1 y2 y3 y4 y5)) ∧ (∀ y0 y1 y2 y3 y4 y5 y6 y7 y8, LeO (glossatorkeep3_influences.l1 k y0 y1 y2 y3 y4 y5 y6 y7 y8) (glossatorkeep3_influences.l1 (k + 1) y0 y1 y2 y3 y4 y5 y6 y7 y8))
  | 0 => ⟨fun _ _ _ _ _ _ r h => by simp [glossatorkeep3_influences.l0] at h, fun _ _ _ _ _ _ _ _ _ r h => by simp [glossatorkeep3_influences.l1] at h⟩
  | k + 1 => by
    obtain ⟨ih0, ih1⟩ := glossatorkeep3_influences.mono_l k
    refine ⟨?_, ?_⟩
    · intro y0 y1 y2 y3 y4 y5
      unfold glossatorkeep3_influences.l0
      repeat' first
      | (with_reducible exact ih0 _ _ _ _ _ _)
      | (with_reducible exact ih1 _ _ _ _ _ _ _ _ _)
      | (with_reducible exact glossatorref3_Contains_int.mono _ _ _)
      | (with_reducible exact LeO.refl _)
      | (with_reducible exact LeO.none _)
      | (with_reducible refine LeO.ite ?_ ?_)
      | (with_reducible refine LeO.bind ?_ (fun _ => ?_))
      | exact ih0 _ _ _ _ _ _
      | exact ih1 _ _ _ _ _ _ _ _ _
      | exact glossatorref3_Contains_int.mono _ _ _
      | exact LeO.none _
      | refine LeO.ite ?_ ?_
      | refine LeO.bind ?_ (fun _ => ?_)
    · intro y0 y1 y2 y3 y4 y5 y6 y7 y8
      unfold glossatorkeep3_influences.l1
      repeat' first
      | (with_reducible exact ih0 _ _ _ _ _ _)
      | (with_reducible exact ih1 _ _ _ _ _ _ _ _ _)
      | (with_reducible exact glossatorref3_Contains_int.mono _ _ _)
      | (with_reducible exact LeO.refl _)
      | (with_reducible exact LeO.none _)
      | (with_reducible refine LeO.ite ?_ ?_)
      | (with_reducible refine LeO.bind ?_ (fun _ => ?_))
      | exact ih0 _ _ _ _ _ _
      | exact ih1 _ _ _ _ _ _ _ _ _
      | exact glossatorref3_Contains_int.mono _ _ _
      | exact LeO.none _
      | refine LeO.ite ?_ ?_
      | refine LeO.bind ?_ (fun _ => ?_)
theorem glossatorkeep3_influences.mono : ∀ a0 a1 a2 a3 a4 k, LeO (glossatorkeep3_influences.f k a0 a1 a2 a3 a4) (glossatorkeep3_influences.f (k + 1) a0 a1 a2 a3 a4) := by
  intro a0 a1 a2 a3 a4 k
  obtain ⟨ih0, ih1⟩ := glossatorkeep3_influences.mono_l k
  unfold glossatorkeep3_influences.f
  repeat' first
      | (with_reducible exact ih0 _ _ _ _ _ _)
      | (with_reducible exact ih1 _ _ _ _ _ _ _ _ _)
      | (with_reducible exact glossatorref3_Contains_int.mono _ _ _)
      | (with_reducible exact LeO.refl _)
      | (with_reducible exact LeO.none _)
      | (with_reducible refine LeO.ite ?_ ?_)
      | (with_reducible refine LeO.bind ?_ (fun _ => ?_))
      | exact ih0 _ _ _ _ _ _
      | exact ih1 _ _ _ _ _ _ _ _ _
      | exact glossatorref3_Contains_int.mono _ _ _
      | exact LeO.none _
      | refine LeO.ite ?_ ?_
      | refine LeO.bind ?_ (fun _ => ?_)
def glossatorkeep3_influences.T5 : Bool × List (List Nat × List Nat) := (true, [([], []), ([], []), ([], []), ([], []), ([2, 3], [2, 3]), ([4], [4]), ([0, 1, 5], [0, 1, 5]), ([6], [6]), ([7], [7]), ([7], [7]), ([8, 6, 0, 1, 2, 3, 4, 5, 6, 7, 8], [8]), ([9, 10, 0, 1, 2, 3, 4, 5, 6, 7, 8, 9, 10], [9])])
def glossatorkeep3_influences.B5 : List Nat := [0, 0, 0, 0, 12, 28, 63, 127, 255, 255, 511, 2047]
theorem glossatorkeep3_influences.tab5 : rtab .any (opsOf Try.f11 5) = glossatorkeep3_influences.T5 := by kernel_rfl
theorem glossatorkeep3_influences.bits5 : waitsOk glossatorkeep3_influences.T5.2 glossatorkeep3_influences.B5 = true := by kernel_rfl
set_option maxHeartbeats 8000000 in
set_option maxRecDepth 100000 in
theorem glossatorkeep3_influences.calls (k : Nat) (a0_0 : Int) (A0_1 : Option Addr) (c0_1 : Nat) (l0_1 : List (List (S43))) (A1 : Option Addr) (c1 : Nat) (l1 : List Int) (a2 : Int) (a3 : Int) (r : Bool) (w : World) (hr0_1 : Kd.C (Kd.slice 43 k43) w A0_1 l0_1.length l0_1) (hc0_1 : l0_1.length ≤ c0_1) (hr1 : Kd.C (Kd.int .i64) w A1 l1.length l1) (hc1 : l1.length ≤ c1) (h : glossatorkeep3_influences.f k a0_0 l0_1 l1 a2 a3 = some r) :
    Calls Try.prog 11 #[.agg #[.int .i64 a0_0, .slice A0_1 l0_1.length c0_1], .slice A1 l1.length c1, .int .i64 a2, .int .i64 a3] w fun e w' => e = .returned (.bool r) ∧ Below w.heap.size w w' := by
  have hu24 := Try.underlying24
  have hu40 := Try.underlying40
  have HR0_1 := Aside0.mk hr0_1
  have HC0_1 := Aside0.mk hc0_1
  clear hr0_1 hc0_1
  have HR1 := Aside0.mk hr1
  have HC1 := Aside0.mk hc1
  clear hr1 hc1
  have HB := Aside0.mk (Below.refl w.heap.size w)
  have H : (glossatorkeep3_influences.l0 k l1 a3 (([a2] : List Int)) 0 a0_0 l0_1) = some r := h
  clear h
  obtain ⟨y137, hy137⟩ : ∃ y_ : List Int, y_ = (([a2] : List Int)) := ⟨_, rfl⟩
  replace H : (glossatorkeep3_influences.l0 k l1 a3 y137 0 a0_0 l0_1) = some r := by first | (rw [hy137]; with_reducible exact H) | (have H2_ := (Option.bind_some _ _).symm.trans H; rw [hy137]; with_reducible exact H2_) | (have H2_ := (Option.bind_some _ _).symm.trans H; with_reducible exact H2_) | with_reducible exact H | (rw [hy137]; exact H) | exact H
  have Ny137 := Aside0.mk hy137
  clear hy137
  have H' := Aside0.mk H
  clear H
  go_enter Try.func11, Try.ntmps11
  go_wp2_with (first | ((with_reducible refine gate_dst (N := 4) rfl ?_); refine box_event ?hg (N := 4) ?hd (cs := #[.int .i64 a0_0, .slice A0_1 l0_1.length c0_1]) (t := 24) ?hr ?_; (case hd => rfl); (case hg => rfl); (case hr => first | (go_simp; done) | (go_simp; rfl)); intro gb136 hg w5 hbox hb; have n0_ := Aside0.mk (below_step (by repeat (first | (with_reducible first | exact HB.out | apply below_alloc | apply pw_below_drewN | apply below_drew1) | exact HB.out)) hb); have n1_ := Aside0.mk (hbox); have n2_ := Aside0.mk ((by rw [hg]; exact (below_size (by repeat (first | (with_reducible first | exact HB.out | apply below_alloc | apply pw_below_drewN | apply below_drew1) | exact HB.out))) : w.heap.size ≤ gb136)); have n3_ := Aside0.mk ((by rw [hg]; exact (below_size (by repeat (first | (with_reducible first | exact HB.out | apply below_alloc | apply pw_below_drewN | apply below_drew1) | exact HB.out))) : w.heap.size ≤ gb136)); clear HB; have HB := n0_; have BK136 := n1_; have GW136 := n2_; have GE136 := n3_; clear n0_ n1_ n2_ n3_; clear hb hbox hg) | ((with_reducible refine gate_dst (N := 16) rfl ?_); refine Kd.R_lit (Kd.int .i64) _ 3 ?hg (N := 16) ?hd (xs := ([a2] : List Int)) (inner := [.int .i64 a2]) (ok := fun _ => True) (okp := fun _ => True) ?hr ?hp (fun _ hk => hk) trivial (Below.refl _ _) (Nat.le_refl _) (by simp) ?_; (case hd => rfl); (case hg => rfl); (case hr => first | (go_simp; done) | (go_simp; rfl)); (case hp => exact (Reps.one (show Kd.M (Kd.int .i64) _ _ _ a2 [.int .i64 a2] from rfl) (Reps.none _ _))); intro v138 w6 ho7 hb hg_ hnew_; clear hg_ hnew_; (first | rw [← Ny137.out] at ho7 | (simp only [Int.reduceToNat] at ho7; rw [← Ny137.out] at ho7)); have n0_ := Aside0.mk (Kd.R_lower ho7 (below_size (by repeat (first | (with_reducible first | exact HB.out | apply below_alloc | apply pw_below_drewN | apply below_drew1 | refine below_set ?_ GE136.out) | exact HB.out)))); have n1_ := Aside0.mk (blk_below (g := gb136) (o := .cells #[.int .i64 a0_0, .slice A0_1 l0_1.length c0_1] 24 (0, 0)) (by (with_reducible repeat (first | refine blk_drewN ?_ _ | refine blk_drew ?_ | refine blk_alloc ?_ _)); exact BK136.out) hb); have n2_ := Aside0.mk (below_step (by repeat (first | (with_reducible first | exact HB.out | apply below_alloc | apply pw_below_drewN | apply below_drew1 | refine below_set ?_ GE136.out) | exact HB.out)) hb); clear BK136; clear HB; have HO139 := n0_; have BK136 := n1_; have HB := n2_; clear n0_ n1_ n2_; clear hb ho7))
  go_loopg [9, 10] k (fun kq v9 v10 w' => ∃ (x9_1 : List Int) (x10_1 : Int), v10 = .int .i64 x10_1 ∧ Aside0 (glossatorkeep3_influences.l0 kq l1 a3 x9_1 x10_1 a0_0 l0_1 = some r) ∧ Aside0 (kq ≤ k) ∧ Aside0 (Kd.R (Kd.int .i64) 3 w' w.heap.size (fun _ => True) v9 x9_1) ∧ Aside0 (w'.heap[gb136]? = some (.cells #[.int .i64 a0_0, (.slice A0_1 l0_1.length c0_1)] 24 (0, 0))) ∧ Aside0 (Below w.heap.size w w'))
  case atStart => exact ⟨(y137), (0), (by first | rfl | (simp; done) | (rw [bne_nil_isEmpty]; done) | (simp [*]; done)), H', ⟨Nat.le_refl _⟩, ⟨by (with_reducible repeat (first | apply Kd.R_alloc | apply Kd.R_drewN | apply Kd.R_drew)); exact HO139.out⟩, ⟨by (with_reducible repeat (first | refine blk_drewN ?_ _ | refine blk_drew ?_ | refine blk_alloc ?_ _)); exact BK136.out⟩, ⟨by repeat (first | (with_reducible first | exact HB.out | apply below_alloc | apply pw_below_drewN | apply below_drew1 | refine below_set ?_ GE136.out) | exact HB.out)⟩⟩
  case round =>
    clear H'
    try clear c1
    try clear p2
    try clear p3
    obtain ⟨x9_1, x10_1, rfl, HA, HK1, HO_9, BK136, HB⟩ := hrel
    cases gk with
    | zero => exact absurd HA.out (by simp [glossatorkeep3_influences.l0])
    | succ k1 =>
      have H := HA.out
      clear HA
      simp only [glossatorkeep3_influences.l0] at H
      by_cases c8 : x10_1 < (x9_1.length : Int)
      · rw [if_pos c8] at H
        have c8b0 : decide (x10_1 < (x9_1.length : Int)) = true := decide_eq_true c8
        clear c8
        by_cases c9 : 0 ≤ x10_1
        · rw [if_pos c9] at H
          have c9b0 : decide (0 ≤ x10_1) = true := decide_eq_true c9
          clear c9
          replace H := Option.bind_eq_some_iff.mp H
          obtain ⟨⟨t141, t144⟩, A100, H⟩ := H
          replace H : (glossatorkeep3_influences.l1 k1 l1 a3 x9_1 x10_1 t141 (t141.length : Int) 0 a0_0 l0_1) = some r := H
          have A10 := Aside0.mk A100
          clear A100
          have H' := Aside0.mk H
          clear H
          obtain ⟨Ao11, co11, eo11⟩ := Kd.R_slice HO_9.out
          subst eo11
          try go_wp2
          have n0_ := Aside0.mk (Kd.R_drew HO_9.out)
          have n1_ := Aside0.mk (blk_drew BK136.out)
          have n2_ := Aside0.mk (below_drew1 HB.out)
          clear HO_9
          clear BK136
          clear HB
          have HO_9 := n0_
          have BK136 := n1_
          have HB := n2_
          clear n0_ n1_ n2_
          have p140 : 0 ≤ (x10_1 : Int) := of_decide_eq_true (by first | (with_reducible assumption) | assumption)
          have q140 : x10_1 < (x9_1.length : Int) := of_decide_eq_true (by first | (with_reducible assumption) | assumption)
          obtain ⟨ad140, e140, hx140_0⟩ := Kd.at_int (Kd.R_reads' HO_9.out).2.2 x10_1 p140 q140
          cases e140
          replace p140 := eq_true p140
          replace q140 := eq_true q140
          refine start_ (n := 12) (S := fun w' => w'.cell? ⟨gb136, 0, none⟩ = some (.int .i64 a0_0) ∧ w'.cell? ⟨gb136, 1, none⟩ = some (.slice A0_1 l0_1.length c0_1) ∧ w'.cell? (ad140.add (x10_1).toNat) = some (.int .i64 (rd x9_1 x10_1))) (ds := []) #[false, false, false, false, false, false, false, false, false, false, false, false] (by kernel_rfl) rfl rfl ⟨(blk_cell BK136.out 0).trans rfl, (blk_cell BK136.out 1).trans rfl, hx140_0⟩ (fun hHeld => ?_); refine with_tabW glossatorkeep3_influences.tab5 glossatorkeep3_influences.bits5 (fun HT_ HW_ => ?_)
          generalize wr.drew = w12 at HO_9 BK136 HB hx140_0 hHeld ⊢
          refine pure_ (i := 1) (N := some 25) (v := ?_) (a' := ?_) #[false, true, false, false, false, false, false, false, false, false, false, false] rfl rfl (any_of HT_.out (by kernel_rfl)) (fun _ _ _ h => h) (Or.inl ⟨by rfl, ?_⟩) ?_ ?_
          rotate_left
          · intro w'
            go_simp
            with_reducible rfl
          rotate_left
          · simp only [Act.put, List.setIfInBounds_toArray, List.set_cons_zero, List.set_cons_succ, i64_w, i32_w]
            rfl
          refine pure_ (i := 2) (N := some 26) (v := ?_) (a' := ?_) #[false, true, true, false, false, false, false, false, false, false, false, false] rfl rfl (any_of HT_.out (by kernel_rfl)) (fun _ _ _ h => h) (Or.inl ⟨by rfl, ?_⟩) ?_ ?_
          rotate_left
          · intro w'
            go_simp
            with_reducible rfl
          rotate_left
          · simp only [Act.put, List.setIfInBounds_toArray, List.set_cons_zero, List.set_cons_succ, i64_w, i32_w]
            rfl
          refine pure_ (i := 3) (N := some 27) (v := ?_) (a' := ?_) #[false, true, true, true, false, false, false, false, false, false, false, false] rfl rfl (any_of HT_.out (by kernel_rfl)) (fun _ _ _ h => h) (Or.inl ⟨by rfl, ?_⟩) ?_ ?_
          rotate_left
          · intro w'
            go_simp
            with_reducible rfl
          rotate_left
          · simp only [Act.put, List.setIfInBounds_toArray, List.set_cons_zero, List.set_cons_succ, i64_w, i32_w]
            rfl
          refine pure_ (i := 4) (N := some 28) (v := ?_) (a' := ?_) #[false, true, true, true, true, false, false, false, false, false, false, false] rfl rfl (any_of HT_.out (by kernel_rfl)) (fun _ _ _ h => h) (Or.inl ⟨by rfl, ?_⟩) ?_ ?_
          rotate_left
          · intro w'
            go_simp
            with_reducible rfl
          rotate_left
          · simp only [Act.put, List.setIfInBounds_toArray, List.set_cons_zero, List.set_cons_succ, i64_w, i32_w]
            rfl
          refine take_ (i := 0) (N := some 24) (v := ?_) (a' := ?_) #[true, true, true, true, true, false, false, false, false, false, false, false] rfl rfl (take_ofW HT_.out HW_.out (by kernel_rfl)) (fun _ _ _ h => h) (Or.inl ⟨by rfl, ?_⟩) hHeld ?_ ?_
          rotate_left
          · rintro w' ⟨s0, s1, s2⟩
            go_simp
            with_reducible rfl
          rotate_left
          · simp only [Act.put, List.setIfInBounds_toArray, List.set_cons_zero, List.set_cons_succ, i64_w, i32_w]
            rfl
          refine take_ (i := 5) (N := some 29) (v := ?_) (a' := ?_) #[true, true, true, true, true, true, false, false, false, false, false, false] rfl rfl (take_ofW HT_.out HW_.out (by kernel_rfl)) (fun _ _ _ h => h) (Or.inl ⟨by rfl, ?_⟩) hHeld ?_ ?_
          rotate_left
          · rintro w' ⟨s0, s1, s2⟩
            go_simp
            with_reducible rfl
          rotate_left
          · simp only [Act.put, List.setIfInBounds_toArray, List.set_cons_zero, List.set_cons_succ, i64_w, i32_w]
            rfl
          refine one_ (i := 6) (N := some 30) #[true, true, true, true, true, true, true, false, false, false, false, false] rfl rfl (one_of HT_.out (by kernel_rfl)) (by decide) (fun K hK => ?_)
          refine goes_ Try.func13 (by kernel_rfl) rfl #[.agg #[.int .i64 a0_0, .slice A0_1 l0_1.length c0_1], .slice A1 l1.length c1, .int .i64 (rd x9_1 x10_1)] (by rfl) rfl rfl (by (try simp only [List.map_toArray, List.map_cons, List.map_nil]); first | done | rfl | (simp only [List.length_drop, List.length_take]; rfl)) ?_
          with_reducible refine (querylang_Reads.calls a0_0 _ _ l0_1 _ _ l1 (rd x9_1 x10_1) t141 t144 _ ?side1 ?side2 ?side3 ?side4 A10.out).mono ?_
          (case side1 => repeat (first | exact (Kd.C_below HR0_1.out HB.out) | (with_reducible refine Kd.C_alloc ?_ _) | (with_reducible refine Kd.C_drewN ?_ _) | (with_reducible refine Kd.C_drew ?_)))
          (case side2 => exact HC0_1.out)
          (case side3 => repeat (first | exact (Kd.C_below HR1.out HB.out) | (with_reducible refine Kd.C_alloc ?_ _) | (with_reducible refine Kd.C_drewN ?_ _) | (with_reducible refine Kd.C_drew ?_)))
          (case side4 => exact HC1.out)
          rintro e w13 ⟨v142, rfl, ho0, hb⟩
          have HS2_ := (hb.cell (World.block_lt_of_cell? _ _ (hHeld.2.2))).trans (hHeld.2.2)
          refine ⟨_, rfl, ?_⟩
          have n0_ := Aside0.mk (Kd.R_below (by (with_reducible repeat (first | apply Kd.R_alloc | apply Kd.R_drewN | apply Kd.R_drew)); exact HO_9.out) hb)
          have n1_ := Aside0.mk (Kd.R_lower ho0 (below_size (by repeat (first | (with_reducible first | exact HB.out | apply below_alloc | apply pw_below_drewN | apply below_drew1 | refine below_set ?_ GE136.out) | exact HB.out))))
          have n2_ := Aside0.mk (blk_below (g := gb136) (o := .cells #[.int .i64 a0_0, .slice A0_1 l0_1.length c0_1] 24 (0, 0)) (by (with_reducible repeat (first | refine blk_drewN ?_ _ | refine blk_drew ?_ | refine blk_alloc ?_ _)); exact BK136.out) hb)
          have n3_ := Aside0.mk (below_step (by repeat (first | (with_reducible first | exact HB.out | apply below_alloc | apply pw_below_drewN | apply below_drew1 | refine below_set ?_ GE136.out) | exact HB.out)) hb)
          clear HO_9
          clear BK136
          clear HB
          have HO_9 := n0_
          have HO143 := n1_
          have BK136 := n2_
          have HB := n3_
          clear n0_ n1_ n2_ n3_
          (try clear hb)
          (try clear hb2)
          (try clear hk)
          (try clear hi)
          (try clear ho0)
          refine hK.out _ _ ⟨(blk_cell BK136.out 0).trans rfl, (blk_cell BK136.out 1).trans rfl, HS2_⟩ (fun hHeld => ?_)
          clear hK K
          refine norm_ (a' := ?_) ?_ ?_
          rotate_left
          · show Act.put _ (some 30) _ = _
            simp only [Act.put, List.setIfInBounds_toArray, List.set_cons_zero, List.set_cons_succ, i64_w, i32_w]
            rfl
          refine pure_ (i := 7) (N := some 23) (v := ?_) (a' := ?_) #[true, true, true, true, true, true, true, true, false, false, false, false] rfl rfl (any_of HT_.out (by kernel_rfl)) (fun _ _ _ h => h) (Or.inl ⟨by rfl, ?_⟩) ?_ ?_
          rotate_left
          · intro w'
            go_simp
            with_reducible rfl
          rotate_left
          · simp only [Act.put, List.setIfInBounds_toArray, List.set_cons_zero, List.set_cons_succ, i64_w, i32_w]
            rfl
          refine pure_ (i := 8) (N := some 31) (v := ?_) (a' := ?_) #[true, true, true, true, true, true, true, true, true, false, false, false] rfl rfl (any_of HT_.out (by kernel_rfl)) (fun _ _ _ h => h) (Or.inl ⟨by rfl, ?_⟩) ?_ ?_
          rotate_left
          · intro w'
            go_simp
            with_reducible rfl
          rotate_left
          · simp only [Act.put, List.setIfInBounds_toArray, List.set_cons_zero, List.set_cons_succ, i64_w, i32_w]
            rfl
          refine pure_ (i := 9) (N := some 32) (v := ?_) (a' := ?_) #[true, true, true, true, true, true, true, true, true, true, false, false] rfl rfl (any_of HT_.out (by kernel_rfl)) (fun _ _ _ h => h) (Or.inl ⟨by rfl, ?_⟩) ?_ ?_
          rotate_left
          · intro w'
            go_simp
            with_reducible rfl
          rotate_left
          · simp only [Act.put, List.setIfInBounds_toArray, List.set_cons_zero, List.set_cons_succ, i64_w, i32_w]
            rfl
          refine pure_ (i := 10) (N := some 11) (v := ?_) (a' := ?_) #[true, true, true, true, true, true, true, true, true, true, true, false] rfl rfl (any_of HT_.out (by kernel_rfl)) (fun _ _ _ h => h) (Or.inl ⟨by rfl, ?_⟩) ?_ ?_
          rotate_left
          · intro w'
            go_simp
            with_reducible rfl
          rotate_left
          · simp only [Act.put, List.setIfInBounds_toArray, List.set_cons_zero, List.set_cons_succ, i64_w, i32_w]
            rfl
          refine pure_ (i := 11) (N := some 12) (v := ?_) (a' := ?_) #[true, true, true, true, true, true, true, true, true, true, true, true] rfl rfl (any_of HT_.out (by kernel_rfl)) (fun _ _ _ h => h) (Or.inl ⟨by rfl, ?_⟩) ?_ ?_
          rotate_left
          · intro w'
            go_simp
            with_reducible rfl
          rotate_left
          · simp only [Act.put, List.setIfInBounds_toArray, List.set_cons_zero, List.set_cons_succ, i64_w, i32_w]
            rfl
          refine done_ (done_of HT_.out (by kernel_rfl)) ?_
          obtain ⟨Ao14, co14, eo14⟩ := Kd.R_slice HO143.out
          subst eo14
          try go_wp2
          go_loopg [9, 35] k1 (fun kq v9 v35 w' => ∃ (x9_2 : List Int) (x35_2 : Int), v35 = .int .i64 x35_2 ∧ Aside0 (glossatorkeep3_influences.l1 kq l1 a3 x9_2 x10_1 t141 (t141.length : Int) x35_2 a0_0 l0_1 = some r) ∧ Aside0 (kq ≤ k1) ∧ Aside0 (Kd.R (Kd.int .i64) 3 w' w.heap.size (fun _ => True) v9 x9_2) ∧ Aside0 (Kd.R k40 40 w' w.heap.size (fun _ => True) (.slice Ao14 t141.length co14) t141) ∧ Aside0 (w'.heap[gb136]? = some (.cells #[.int .i64 a0_0, (.slice A0_1 l0_1.length c0_1)] 24 (0, 0))) ∧ Aside0 (Below w.heap.size w w'))
          case atStart => exact ⟨(x9_1), (0), (by first | rfl | (simp; done) | (rw [bne_nil_isEmpty]; done) | (simp [*]; done)), H', ⟨Nat.le_refl _⟩, ⟨by (with_reducible repeat (first | apply Kd.R_alloc | apply Kd.R_drewN | apply Kd.R_drew)); exact HO_9.out⟩, ⟨by (with_reducible repeat (first | apply Kd.R_alloc | apply Kd.R_drewN | apply Kd.R_drew)); exact HO143.out⟩, ⟨by (with_reducible repeat (first | refine blk_drewN ?_ _ | refine blk_drew ?_ | refine blk_alloc ?_ _)); exact BK136.out⟩, ⟨by repeat (first | (with_reducible first | exact HB.out | apply below_alloc | apply pw_below_drewN | apply below_drew1 | refine below_set ?_ GE136.out) | exact HB.out)⟩⟩
          case round =>
            clear H'
            try clear c1
            try clear p1
            try clear q1
            try clear hx1
            try clear p2
            try clear p3
            try clear c8
            try clear c8b0
            try clear c9
            try clear c9b0
            try clear c11
            try clear c13
            try clear p14
            try clear q14
            try clear hx14
            try clear hx140_0
            try clear p140
            try clear p2
            try clear p3
            try clear q140
            obtain ⟨x9_2, x35_2, rfl, HA, HK2, HO_9, HO_33, BK136, HB⟩ := hrel
            cases gk with
            | zero => exact absurd HA.out (by simp [glossatorkeep3_influences.l1])
            | succ k2 =>
              have H := HA.out
              clear HA
              simp only [glossatorkeep3_influences.l1] at H
              by_cases c15 : x35_2 < (t141.length : Int)
              · rw [if_pos c15] at H
                have c15b0 : decide (x35_2 < (t141.length : Int)) = true := decide_eq_true c15
                clear c15
                by_cases c16 : 0 ≤ x35_2
                · rw [if_pos c16] at H
                  have c16b0 : decide (0 ≤ x35_2) = true := decide_eq_true c16
                  clear c16
                  by_cases c17 : x35_2 < (t141.length : Int)
                  · rw [if_pos c17] at H
                    have c17b0 : decide (x35_2 < (t141.length : Int)) = true := decide_eq_true c17
                    clear c17
                    replace H := Option.bind_eq_some_iff.mp H
                    obtain ⟨⟨t147, t148, t149⟩, A180, H⟩ := H
                    replace H : (if (((rd_T40 t141 x35_2).f0) == t147 && (((rd_T40 t141 x35_2).f1) == t148 && (((rd_T40 t141 x35_2).f2) == t149))) = true then (some true) else (if ((rd_T40 t141 x35_2).f0) = 1 then ((glossatorref3_Contains_int.f k2 x9_2 ((rd_T40 t141 x35_2).f1)).bind fun t150 => (if t150 = true then (glossatorkeep3_influences.l1 k2 l1 a3 x9_2 x10_1 t141 (t141.length : Int) (wrap64 (x35_2 + 1)) a0_0 l0_1) else (if x9_2.length < 17592186044416 then (glossatorkeep3_influences.l1 k2 l1 a3 (x9_2 ++ [(rd_T40 t141 x35_2).f1]) x10_1 t141 (t141.length : Int) (wrap64 (x35_2 + 1)) a0_0 l0_1) else (none)))) else (glossatorkeep3_influences.l1 k2 l1 a3 x9_2 x10_1 t141 (t141.length : Int) (wrap64 (x35_2 + 1)) a0_0 l0_1))) = some r := H
                    have A18 := Aside0.mk A180
                    clear A180
                    by_cases c19 : (((rd_T40 t141 x35_2).f0) == t147 && (((rd_T40 t141 x35_2).f1) == t148 && (((rd_T40 t141 x35_2).f2) == t149))) = true
                    · rw [if_pos c19] at H
                      have c19b0 : (((rd_T40 t141 x35_2).f0) == t147 && (((rd_T40 t141 x35_2).f1) == t148 && (((rd_T40 t141 x35_2).f2) == t149))) = true := c19
                      (try (have c19b1 : decide (((rd_T40 t141 x35_2).f0) = t147 && (((rd_T40 t141 x35_2).f1) == t148 && (((rd_T40 t141 x35_2).f2) == t149))) = true := by simpa using c19))
                      (try (have c19b2 : (((rd_T40 t141 x35_2).f0) == t147 && (((rd_T40 t141 x35_2).f1) == t148 && (((rd_T40 t141 x35_2).f2) == t149))) = true := by simpa using c19))
                      clear c19
                      obtain rfl := Option.some.inj H
                      have p145 : 0 ≤ (x35_2 : Int) := of_decide_eq_true (by first | (with_reducible assumption) | assumption)
                      have q145 : x35_2 < (t141.length : Int) := of_decide_eq_true (by first | (with_reducible assumption) | assumption)
                      obtain ⟨ad145, e145, hx145_0, hx145_1, hx145_2⟩ := at_T40 (Kd.R_reads' HO_33.out).2.2 x35_2 p145 q145
                      cases e145
                      replace p145 := eq_true p145
                      replace q145 := eq_true q145
                      try go_wp2_with (first | ((with_reducible refine gate_dst (N := 14) rfl ?_); refine box_event ?hg (N := 14) ?hd (cs := #[.int .i64 0, .int .i64 0, .int .i64 0]) (t := 40) ?hr ?_; (case hd => rfl); (case hg => rfl); (case hr => first | (go_simp; done) | (go_simp; rfl)); intro gb146 hg w20 hbox hb; have n0_ := Aside0.mk (Kd.R_below (by (with_reducible repeat (first | apply Kd.R_alloc | apply Kd.R_drewN | apply Kd.R_drew)); exact HO_9.out) hb); have n1_ := Aside0.mk (Kd.R_below (Kd.R_elderB (by (with_reducible repeat (first | apply Kd.R_alloc | apply Kd.R_drewN | apply Kd.R_drew)); exact HO_33.out) gb146 (Nat.le_of_eq hg.symm)) hb); have n2_ := Aside0.mk (blk_below (g := gb136) (o := .cells #[.int .i64 a0_0, .slice A0_1 l0_1.length c0_1] 24 (0, 0)) (by (with_reducible repeat (first | refine blk_drewN ?_ _ | refine blk_drew ?_ | refine blk_alloc ?_ _)); exact BK136.out) hb); have n3_ := Aside0.mk (below_step (by repeat (first | (with_reducible first | exact HB.out | apply below_alloc | apply pw_below_drewN | apply below_drew1 | refine below_set ?_ GE136.out) | exact HB.out)) hb); have n4_ := Aside0.mk (hbox); have n5_ := Aside0.mk ((by rw [hg]; exact (below_size (by repeat (first | (with_reducible first | exact HB.out | apply below_alloc | apply pw_below_drewN | apply below_drew1 | refine below_set ?_ GE136.out) | exact HB.out))) : w.heap.size ≤ gb146)); have n6_ := Aside0.mk ((by rw [hg]; exact (below_size (by repeat (first | (with_reducible first | exact HB.out | apply below_alloc | apply pw_below_drewN | apply below_drew1 | refine below_set ?_ GE136.out) | exact HB.out))) : w.heap.size ≤ gb146)); have n7_ := Aside0.mk ((by rw [hg]; exact Nat.ne_of_lt (blk_lt (g := gb136) (o := .cells #[.int .i64 a0_0, .slice A0_1 l0_1.length c0_1] 24 (0, 0)) (by (with_reducible repeat (first | refine blk_drewN ?_ _ | refine blk_drew ?_ | refine blk_alloc ?_ _)); exact BK136.out)) : gb136 ≠ gb146)); have n8_ := Aside0.mk ((by rw [hg]; exact Nat.ne_of_gt (blk_lt (g := gb136) (o := .cells #[.int .i64 a0_0, .slice A0_1 l0_1.length c0_1] 24 (0, 0)) (by (with_reducible repeat (first | refine blk_drewN ?_ _ | refine blk_drew ?_ | refine blk_alloc ?_ _)); exact BK136.out)) : gb146 ≠ gb136)); clear HO_9; clear HO_33; clear BK136; clear HB; have HO_9 := n0_; have HO_33 := n1_; have BK136 := n2_; have HB := n3_; have BK146 := n4_; have GW146 := n5_; have GE146 := n6_; have NB136_146 := n7_; have NB146_136 := n8_; clear n0_ n1_ n2_ n3_ n4_ n5_ n6_ n7_ n8_; clear hb hbox hg; have hnb21 := NB146_136.out; have hnc21 := NB136_146.out; have hcz22_0 : w20.cell? ⟨gb146, 0, none⟩ = some (.int .i64 0) := (blk_cell BK146.out 0).trans rfl; have hcz22_1 : w20.cell? ⟨gb146, 1, none⟩ = some (.int .i64 0) := (blk_cell BK146.out 1).trans rfl; have hcz22_2 : w20.cell? ⟨gb146, 2, none⟩ = some (.int .i64 0) := (blk_cell BK146.out 2).trans rfl; have hfz22_0 := blk_frozen BK146.out 0; have hfz22_1 := blk_frozen BK146.out 1; have hfz22_2 := blk_frozen BK146.out 2))
                      have n0_ : Aside0 (Kd.R (Kd.int .i64) 3 (((w20.setCell ⟨gb146, 0, none⟩ (.int .i64 ((rd_T40 t141 x35_2).f0))).setCell ⟨gb146, 1, none⟩ (.int .i64 ((rd_T40 t141 x35_2).f1))).setCell ⟨gb146, 2, none⟩ (.int .i64 ((rd_T40 t141 x35_2).f2))) w.heap.size (fun _ => True) u9 x9_2) := ⟨by (with_reducible repeat (first | apply Kd.R_alloc | apply Kd.R_drewN | apply Kd.R_drew)); exact Kd.R_mono (Kd.R_far (p := ⟨gb146, 2, none⟩) (Kd.R_far (p := ⟨gb146, 1, none⟩) (Kd.R_far (p := ⟨gb146, 0, none⟩) (Kd.R_types HO_9.out BK146.out (by decide)) (fun _ hk => hk.2) (.int .i64 ((rd_T40 t141 x35_2).f0))) (fun _ hk => hk.2) (.int .i64 ((rd_T40 t141 x35_2).f1))) (fun _ hk => hk.2) (.int .i64 ((rd_T40 t141 x35_2).f2))) (fun _ hk => trivial)⟩
                      have n1_ : Aside0 (Kd.R k40 40 (((w20.setCell ⟨gb146, 0, none⟩ (.int .i64 ((rd_T40 t141 x35_2).f0))).setCell ⟨gb146, 1, none⟩ (.int .i64 ((rd_T40 t141 x35_2).f1))).setCell ⟨gb146, 2, none⟩ (.int .i64 ((rd_T40 t141 x35_2).f2))) w.heap.size (fun k_ => k_ ≠ gb146) (.slice (some ad145) t141.length co14) t141) := ⟨by (with_reducible repeat (first | apply Kd.R_alloc | apply Kd.R_drewN | apply Kd.R_drew)); exact Kd.R_mono (Kd.R_far (p := ⟨gb146, 2, none⟩) (Kd.R_far (p := ⟨gb146, 1, none⟩) (Kd.R_far (p := ⟨gb146, 0, none⟩) (Kd.R_mono HO_33.out (fun k_ hk => (⟨hk, hk.2⟩ : _ ∧ k_ ≠ gb146))) (fun _ hk => hk.2) (.int .i64 ((rd_T40 t141 x35_2).f0))) (fun _ hk => hk.2) (.int .i64 ((rd_T40 t141 x35_2).f1))) (fun _ hk => hk.2) (.int .i64 ((rd_T40 t141 x35_2).f2))) (fun _ hk => hk.1.2)⟩
                      have n2_ : Aside0 ((((w20.setCell ⟨gb146, 0, none⟩ (.int .i64 ((rd_T40 t141 x35_2).f0))).setCell ⟨gb146, 1, none⟩ (.int .i64 ((rd_T40 t141 x35_2).f1))).setCell ⟨gb146, 2, none⟩ (.int .i64 ((rd_T40 t141 x35_2).f2))).heap[gb136]? = some (.cells #[.int .i64 a0_0, .slice A0_1 l0_1.length c0_1] 24 (0, 0))) := ⟨by (with_reducible repeat (first | refine blk_drewN ?_ _ | refine blk_drew ?_ | refine blk_alloc ?_ _)); refine blk_far ?_ NB136_146.out _; (with_reducible repeat (first | refine blk_drewN ?_ _ | refine blk_drew ?_ | refine blk_alloc ?_ _)); refine blk_far ?_ NB136_146.out _; (with_reducible repeat (first | refine blk_drewN ?_ _ | refine blk_drew ?_ | refine blk_alloc ?_ _)); refine blk_far ?_ NB136_146.out _; (with_reducible repeat (first | refine blk_drewN ?_ _ | refine blk_drew ?_ | refine blk_alloc ?_ _)); exact BK136.out⟩
                      have n3_ : Aside0 ((((w20.setCell ⟨gb146, 0, none⟩ (.int .i64 ((rd_T40 t141 x35_2).f0))).setCell ⟨gb146, 1, none⟩ (.int .i64 ((rd_T40 t141 x35_2).f1))).setCell ⟨gb146, 2, none⟩ (.int .i64 ((rd_T40 t141 x35_2).f2))).heap[gb146]? = some (.cells #[.int .i64 ((rd_T40 t141 x35_2).f0), .int .i64 ((rd_T40 t141 x35_2).f1), .int .i64 ((rd_T40 t141 x35_2).f2)] 40 (0, 0))) := ⟨by (with_reducible repeat (first | refine blk_drewN ?_ _ | refine blk_drew ?_ | refine blk_alloc ?_ _)); refine blk_put (cs := #[.int .i64 ((rd_T40 t141 x35_2).f0), .int .i64 ((rd_T40 t141 x35_2).f1), .int .i64 0]) ?_ 2 _ rfl; (with_reducible repeat (first | refine blk_drewN ?_ _ | refine blk_drew ?_ | refine blk_alloc ?_ _)); refine blk_put (cs := #[.int .i64 ((rd_T40 t141 x35_2).f0), .int .i64 0, .int .i64 0]) ?_ 1 _ rfl; (with_reducible repeat (first | refine blk_drewN ?_ _ | refine blk_drew ?_ | refine blk_alloc ?_ _)); refine blk_put (cs := #[.int .i64 0, .int .i64 0, .int .i64 0]) ?_ 0 _ rfl; (with_reducible repeat (first | refine blk_drewN ?_ _ | refine blk_drew ?_ | refine blk_alloc ?_ _)); exact BK146.out⟩
                      have n4_ : Aside0 (Below w.heap.size w (((w20.setCell ⟨gb146, 0, none⟩ (.int .i64 ((rd_T40 t141 x35_2).f0))).setCell ⟨gb146, 1, none⟩ (.int .i64 ((rd_T40 t141 x35_2).f1))).setCell ⟨gb146, 2, none⟩ (.int .i64 ((rd_T40 t141 x35_2).f2)))) := ⟨by repeat (first | (with_reducible first | exact HB.out | apply below_alloc | apply pw_below_drewN | apply below_drew1 | refine below_set ?_ GE136.out | refine below_set ?_ GE146.out) | exact HB.out)⟩
                      (try clear HO_9)
                      (try clear HO_33)
                      (try clear BK136)
                      (try clear BK146)
                      (try clear HB)
                      generalize (((w20.setCell ⟨gb146, 0, none⟩ (.int .i64 ((rd_T40 t141 x35_2).f0))).setCell ⟨gb146, 1, none⟩ (.int .i64 ((rd_T40 t141 x35_2).f1))).setCell ⟨gb146, 2, none⟩ (.int .i64 ((rd_T40 t141 x35_2).f2))) = w23 at n0_ n1_ n2_ n3_ n4_ ⊢
                      have HO_9 := n0_
                      have HO_33 := n1_
                      have BK136 := n2_
                      have BK146 := n3_
                      have HB := n4_
                      clear n0_ n1_ n2_ n3_ n4_
                      have n0_ := Aside0.mk (Kd.R_drew HO_9.out)
                      have n1_ := Aside0.mk (Kd.R_drew HO_33.out)
                      have n2_ := Aside0.mk (blk_drew BK136.out)
                      have n3_ := Aside0.mk (blk_drew BK146.out)
                      have n4_ := Aside0.mk (below_drew1 HB.out)
                      clear HO_9
                      clear HO_33
                      clear BK136
                      clear BK146
                      clear HB
                      have HO_9 := n0_
                      have HO_33 := n1_
                      have BK136 := n2_
                      have BK146 := n3_
                      have HB := n4_
                      clear n0_ n1_ n2_ n3_ n4_
                      refine start_ (n := 4) (S := fun w' => w'.cell? ⟨gb146, 0, none⟩ = some (.int .i64 ((rd_T40 t141 x35_2).f0)) ∧ w'.cell? ⟨gb146, 1, none⟩ = some (.int .i64 ((rd_T40 t141 x35_2).f1)) ∧ w'.cell? ⟨gb146, 2, none⟩ = some (.int .i64 ((rd_T40 t141 x35_2).f2))) (ds := []) #[false, false, false, false] (by kernel_rfl) rfl rfl ⟨(blk_cell BK146.out 0).trans rfl, (blk_cell BK146.out 1).trans rfl, (blk_cell BK146.out 2).trans rfl⟩ (fun hHeld => ?_)
                      generalize w23.drew = w24 at HO_9 HO_33 BK136 BK146 HB hHeld ⊢
                      refine pure_ (i := 1) (N := some 40) (v := ?_) (a' := ?_) #[false, true, false, false] rfl rfl (by kernel_rfl) (fun _ _ _ h => h) (Or.inl ⟨by rfl, ?_⟩) ?_ ?_
                      rotate_left
                      · intro w'
                        go_simp
                        with_reducible rfl
                      rotate_left
                      · simp only [Act.put, List.setIfInBounds_toArray, List.set_cons_zero, List.set_cons_succ, i64_w, i32_w]
                        rfl
                      refine take_ (i := 0) (N := some 39) (v := ?_) (a' := ?_) #[true, true, false, false] rfl rfl (by kernel_rfl) (fun _ _ _ h => h) (Or.inl ⟨by rfl, ?_⟩) hHeld ?_ ?_
                      rotate_left
                      · rintro w' ⟨s0, s1, s2⟩
                        go_simp
                        with_reducible rfl
                      rotate_left
                      · simp only [Act.put, List.setIfInBounds_toArray, List.set_cons_zero, List.set_cons_succ, i64_w, i32_w]
                        rfl
                      refine one_ (i := 2) (N := some 41) #[true, true, true, false] rfl rfl (by kernel_rfl) (by decide) (fun K hK => ?_)
                      refine goes_ Try.func18 (by kernel_rfl) rfl #[.int .i64 a3] (by rfl) rfl rfl (by (try simp only [List.map_toArray, List.map_cons, List.map_nil]); first | done | rfl | (simp only [List.length_drop, List.length_take]; rfl)) ?_
                      with_reducible refine (glossatorkeep3_inputKey.calls a3 t147 t148 t149 _ A18.out).mono ?_
                      rintro e w25 ⟨rfl, hb⟩
                      refine ⟨_, rfl, ?_⟩
                      have n0_ := Aside0.mk (Kd.R_below (by (with_reducible repeat (first | apply Kd.R_alloc | apply Kd.R_drewN | apply Kd.R_drew)); exact HO_9.out) hb)
                      have n1_ := Aside0.mk (Kd.R_below (by (with_reducible repeat (first | apply Kd.R_alloc | apply Kd.R_drewN | apply Kd.R_drew)); exact HO_33.out) hb)
                      have n2_ := Aside0.mk (blk_below (g := gb136) (o := .cells #[.int .i64 a0_0, .slice A0_1 l0_1.length c0_1] 24 (0, 0)) (by (with_reducible repeat (first | refine blk_drewN ?_ _ | refine blk_drew ?_ | refine blk_alloc ?_ _)); exact BK136.out) hb)
                      have n3_ := Aside0.mk (blk_below (g := gb146) (o := .cells #[.int .i64 ((rd_T40 t141 x35_2).f0), .int .i64 ((rd_T40 t141 x35_2).f1), .int .i64 ((rd_T40 t141 x35_2).f2)] 40 (0, 0)) (by (with_reducible repeat (first | refine blk_drewN ?_ _ | refine blk_drew ?_ | refine blk_alloc ?_ _)); exact BK146.out) hb)
                      have n4_ := Aside0.mk (below_step (by repeat (first | (with_reducible first | exact HB.out | apply below_alloc | apply pw_below_drewN | apply below_drew1 | refine below_set ?_ GE136.out | refine below_set ?_ GE146.out) | exact HB.out)) hb)
                      clear HO_9
                      clear HO_33
                      clear BK136
                      clear BK146
                      clear HB
                      have HO_9 := n0_
                      have HO_33 := n1_
                      have BK136 := n2_
                      have BK146 := n3_
                      have HB := n4_
                      clear n0_ n1_ n2_ n3_ n4_
                      (try clear hb)
                      (try clear hb2)
                      (try clear hk)
                      (try clear hi)
                      refine hK.out _ _ ⟨(blk_cell BK146.out 0).trans rfl, (blk_cell BK146.out 1).trans rfl, (blk_cell BK146.out 2).trans rfl⟩ (fun hHeld => ?_)
                      clear hK K
                      refine norm_ (a' := ?_) ?_ ?_
                      rotate_left
                      · show Act.put _ (some 41) _ = _
                        simp only [Act.put, List.setIfInBounds_toArray, List.set_cons_zero, List.set_cons_succ, i64_w, i32_w]
                        rfl
                      refine pure_ (i := 3) (N := some 42) (v := ?_) (a' := ?_) #[true, true, true, true] rfl rfl (by kernel_rfl) (fun _ _ _ h => h) (Or.inl ⟨by rfl, ?_⟩) ?_ ?_
                      rotate_left
                      · intro w'
                        go_simp
                        with_reducible rfl
                      rotate_left
                      · simp only [Act.put, List.setIfInBounds_toArray, List.set_cons_zero, List.set_cons_succ, i64_w, i32_w]
                        rfl
                      refine done_ (by kernel_rfl) ?_
                      try go_wp2
                      go_ret
                      exact ⟨by first | rfl | (simp [errW_none, errW_some] <;> rfl) | (simp [*, errW_none, errW_some] <;> rfl), by repeat (first | (with_reducible first | exact HB.out | apply below_alloc | apply pw_below_drewN | apply below_drew1 | refine below_set ?_ GE136.out | refine below_set ?_ GE146.out) | exact HB.out)⟩
                    · rw [if_neg c19] at H
                      have c19b0 : (((rd_T40 t141 x35_2).f0) == t147 && (((rd_T40 t141 x35_2).f1) == t148 && (((rd_T40 t141 x35_2).f2) == t149))) = false := by simpa using c19
                      (try (have c19b1 : decide (((rd_T40 t141 x35_2).f0) = t147 && (((rd_T40 t141 x35_2).f1) == t148 && (((rd_T40 t141 x35_2).f2) == t149))) = false := by simpa using c19))
                      (try (have c19b2 : (((rd_T40 t141 x35_2).f0) == t147 && (((rd_T40 t141 x35_2).f1) == t148 && (((rd_T40 t141 x35_2).f2) == t149))) = false := by simpa using c19))
                      (try (have c19b3 : ¬ (((rd_T40 t141 x35_2).f0) = t147 && (((rd_T40 t141 x35_2).f1) == t148 && (((rd_T40 t141 x35_2).f2) == t149))) := by simpa using c19))
                      clear c19
                      by_cases c26 : ((rd_T40 t141 x35_2).f0) = 1
                      · rw [if_pos c26] at H
                        have c26b0 : (((rd_T40 t141 x35_2).f0) == 1) = true := beq_iff_eq.mpr c26
                        have c26b1 : (((rd_T40 t141 x35_2).f0) != 1) = false := bne_eq_false_iff_eq.mpr c26
                        clear c26
                        replace H := Option.bind_eq_some_iff.mp H
                        obtain ⟨t150, A270, H⟩ := H
                        replace H : (if t150 = true then (glossatorkeep3_influences.l1 k2 l1 a3 x9_2 x10_1 t141 (t141.length : Int) (wrap64 (x35_2 + 1)) a0_0 l0_1) else (if x9_2.length < 17592186044416 then (glossatorkeep3_influences.l1 k2 l1 a3 (x9_2 ++ [(rd_T40 t141 x35_2).f1]) x10_1 t141 (t141.length : Int) (wrap64 (x35_2 + 1)) a0_0 l0_1) else (none))) = some r := H
                        have A27 := Aside0.mk A270
                        clear A270
                        by_cases c28 : t150 = true
                        · subst c28
                          have H1 : (glossatorkeep3_influences.l1 k2 l1 a3 x9_2 x10_1 t141 (t141.length : Int) (wrap64 (x35_2 + 1)) a0_0 l0_1) = some r := by rw [if_pos rfl] at H; exact H
                          clear H
                          have H := H1
                          clear H1
                          have H' := Aside0.mk H
                          clear H
                          have p145 : 0 ≤ (x35_2 : Int) := of_decide_eq_true (by first | (with_reducible assumption) | assumption)
                          have q145 : x35_2 < (t141.length : Int) := of_decide_eq_true (by first | (with_reducible assumption) | assumption)
                          obtain ⟨ad145, e145, hx145_0, hx145_1, hx145_2⟩ := at_T40 (Kd.R_reads' HO_33.out).2.2 x35_2 p145 q145
                          cases e145
                          replace p145 := eq_true p145
                          replace q145 := eq_true q145
                          try go_wp2_with (first | ((with_reducible refine gate_dst (N := 14) rfl ?_); refine box_event ?hg (N := 14) ?hd (cs := #[.int .i64 0, .int .i64 0, .int .i64 0]) (t := 40) ?hr ?_; (case hd => rfl); (case hg => rfl); (case hr => first | (go_simp; done) | (go_simp; rfl)); intro gb146 hg w29 hbox hb; have n0_ := Aside0.mk (Kd.R_below (by (with_reducible repeat (first | apply Kd.R_alloc | apply Kd.R_drewN | apply Kd.R_drew)); exact HO_9.out) hb); have n1_ := Aside0.mk (Kd.R_below (Kd.R_elderB (by (with_reducible repeat (first | apply Kd.R_alloc | apply Kd.R_drewN | apply Kd.R_drew)); exact HO_33.out) gb146 (Nat.le_of_eq hg.symm)) hb); have n2_ := Aside0.mk (blk_below (g := gb136) (o := .cells #[.int .i64 a0_0, .slice A0_1 l0_1.length c0_1] 24 (0, 0)) (by (with_reducible repeat (first | refine blk_drewN ?_ _ | refine blk_drew ?_ | refine blk_alloc ?_ _)); exact BK136.out) hb); have n3_ := Aside0.mk (below_step (by repeat (first | (with_reducible first | exact HB.out | apply below_alloc | apply pw_below_drewN | apply below_drew1 | refine below_set ?_ GE136.out) | exact HB.out)) hb); have n4_ := Aside0.mk (hbox); have n5_ := Aside0.mk ((by rw [hg]; exact (below_size (by repeat (first | (with_reducible first | exact HB.out | apply below_alloc | apply pw_below_drewN | apply below_drew1 | refine below_set ?_ GE136.out) | exact HB.out))) : w.heap.size ≤ gb146)); have n6_ := Aside0.mk ((by rw [hg]; exact (below_size (by repeat (first | (with_reducible first | exact HB.out | apply below_alloc | apply pw_below_drewN | apply below_drew1 | refine below_set ?_ GE136.out) | exact HB.out))) : w.heap.size ≤ gb146)); have n7_ := Aside0.mk ((by rw [hg]; exact Nat.ne_of_lt (blk_lt (g := gb136) (o := .cells #[.int .i64 a0_0, .slice A0_1 l0_1.length c0_1] 24 (0, 0)) (by (with_reducible repeat (first | refine blk_drewN ?_ _ | refine blk_drew ?_ | refine blk_alloc ?_ _)); exact BK136.out)) : gb136 ≠ gb146)); have n8_ := Aside0.mk ((by rw [hg]; exact Nat.ne_of_gt (blk_lt (g := gb136) (o := .cells #[.int .i64 a0_0, .slice A0_1 l0_1.length c0_1] 24 (0, 0)) (by (with_reducible repeat (first | refine blk_drewN ?_ _ | refine blk_drew ?_ | refine blk_alloc ?_ _)); exact BK136.out)) : gb146 ≠ gb136)); clear HO_9; clear HO_33; clear BK136; clear HB; have HO_9 := n0_; have HO_33 := n1_; have BK136 := n2_; have HB := n3_; have BK146 := n4_; have GW146 := n5_; have GE146 := n6_; have NB136_146 := n7_; have NB146_136 := n8_; clear n0_ n1_ n2_ n3_ n4_ n5_ n6_ n7_ n8_; clear hb hbox hg; have hnb30 := NB146_136.out; have hnc30 := NB136_146.out; have hcz31_0 : w29.cell? ⟨gb146, 0, none⟩ = some (.int .i64 0) := (blk_cell BK146.out 0).trans rfl; have hcz31_1 : w29.cell? ⟨gb146, 1, none⟩ = some (.int .i64 0) := (blk_cell BK146.out 1).trans rfl; have hcz31_2 : w29.cell? ⟨gb146, 2, none⟩ = some (.int .i64 0) := (blk_cell BK146.out 2).trans rfl; have hfz31_0 := blk_frozen BK146.out 0; have hfz31_1 := blk_frozen BK146.out 1; have hfz31_2 := blk_frozen BK146.out 2))
                          have n0_ : Aside0 (Kd.R (Kd.int .i64) 3 (((w29.setCell ⟨gb146, 0, none⟩ (.int .i64 ((rd_T40 t141 x35_2).f0))).setCell ⟨gb146, 1, none⟩ (.int .i64 ((rd_T40 t141 x35_2).f1))).setCell ⟨gb146, 2, none⟩ (.int .i64 ((rd_T40 t141 x35_2).f2))) w.heap.size (fun _ => True) u9 x9_2) := ⟨by (with_reducible repeat (first | apply Kd.R_alloc | apply Kd.R_drewN | apply Kd.R_drew)); exact Kd.R_mono (Kd.R_far (p := ⟨gb146, 2, none⟩) (Kd.R_far (p := ⟨gb146, 1, none⟩) (Kd.R_far (p := ⟨gb146, 0, none⟩) (Kd.R_types HO_9.out BK146.out (by decide)) (fun _ hk => hk.2) (.int .i64 ((rd_T40 t141 x35_2).f0))) (fun _ hk => hk.2) (.int .i64 ((rd_T40 t141 x35_2).f1))) (fun _ hk => hk.2) (.int .i64 ((rd_T40 t141 x35_2).f2))) (fun _ hk => trivial)⟩
                          have n1_ : Aside0 (Kd.R k40 40 (((w29.setCell ⟨gb146, 0, none⟩ (.int .i64 ((rd_T40 t141 x35_2).f0))).setCell ⟨gb146, 1, none⟩ (.int .i64 ((rd_T40 t141 x35_2).f1))).setCell ⟨gb146, 2, none⟩ (.int .i64 ((rd_T40 t141 x35_2).f2))) w.heap.size (fun k_ => k_ ≠ gb146) (.slice (some ad145) t141.length co14) t141) := ⟨by (with_reducible repeat (first | apply Kd.R_alloc | apply Kd.R_drewN | apply Kd.R_drew)); exact Kd.R_mono (Kd.R_far (p := ⟨gb146, 2, none⟩) (Kd.R_far (p := ⟨gb146, 1, none⟩) (Kd.R_far (p := ⟨gb146, 0, none⟩) (Kd.R_mono HO_33.out (fun k_ hk => (⟨hk, hk.2⟩ : _ ∧ k_ ≠ gb146))) (fun _ hk => hk.2) (.int .i64 ((rd_T40 t141 x35_2).f0))) (fun _ hk => hk.2) (.int .i64 ((rd_T40 t141 x35_2).f1))) (fun _ hk => hk.2) (.int .i64 ((rd_T40 t141 x35_2).f2))) (fun _ hk => hk.1.2)⟩
                          have n2_ : Aside0 ((((w29.setCell ⟨gb146, 0, none⟩ (.int .i64 ((rd_T40 t141 x35_2).f0))).setCell ⟨gb146, 1, none⟩ (.int .i64 ((rd_T40 t141 x35_2).f1))).setCell ⟨gb146, 2, none⟩ (.int .i64 ((rd_T40 t141 x35_2).f2))).heap[gb136]? = some (.cells #[.int .i64 a0_0, .slice A0_1 l0_1.length c0_1] 24 (0, 0))) := ⟨by (with_reducible repeat (first | refine blk_drewN ?_ _ | refine blk_drew ?_ | refine blk_alloc ?_ _)); refine blk_far ?_ NB136_146.out _; (with_reducible repeat (first | refine blk_drewN ?_ _ | refine blk_drew ?_ | refine blk_alloc ?_ _)); refine blk_far ?_ NB136_146.out _; (with_reducible repeat (first | refine blk_drewN ?_ _ | refine blk_drew ?_ | refine blk_alloc ?_ _)); refine blk_far ?_ NB136_146.out _; (with_reducible repeat (first | refine blk_drewN ?_ _ | refine blk_drew ?_ | refine blk_alloc ?_ _)); exact BK136.out⟩
                          have n3_ : Aside0 ((((w29.setCell ⟨gb146, 0, none⟩ (.int .i64 ((rd_T40 t141 x35_2).f0))).setCell ⟨gb146, 1, none⟩ (.int .i64 ((rd_T40 t141 x35_2).f1))).setCell ⟨gb146, 2, none⟩ (.int .i64 ((rd_T40 t141 x35_2).f2))).heap[gb146]? = some (.cells #[.int .i64 ((rd_T40 t141 x35_2).f0), .int .i64 ((rd_T40 t141 x35_2).f1), .int .i64 ((rd_T40 t141 x35_2).f2)] 40 (0, 0))) := ⟨by (with_reducible repeat (first | refine blk_drewN ?_ _ | refine blk_drew ?_ | refine blk_alloc ?_ _)); refine blk_put (cs := #[.int .i64 ((rd_T40 t141 x35_2).f0), .int .i64 ((rd_T40 t141 x35_2).f1), .int .i64 0]) ?_ 2 _ rfl; (with_reducible repeat (first | refine blk_drewN ?_ _ | refine blk_drew ?_ | refine blk_alloc ?_ _)); refine blk_put (cs := #[.int .i64 ((rd_T40 t141 x35_2).f0), .int .i64 0, .int .i64 0]) ?_ 1 _ rfl; (with_reducible repeat (first | refine blk_drewN ?_ _ | refine blk_drew ?_ | refine blk_alloc ?_ _)); refine blk_put (cs := #[.int .i64 0, .int .i64 0, .int .i64 0]) ?_ 0 _ rfl; (with_reducible repeat (first | refine blk_drewN ?_ _ | refine blk_drew ?_ | refine blk_alloc ?_ _)); exact BK146.out⟩
                          have n4_ : Aside0 (Below w.heap.size w (((w29.setCell ⟨gb146, 0, none⟩ (.int .i64 ((rd_T40 t141 x35_2).f0))).setCell ⟨gb146, 1, none⟩ (.int .i64 ((rd_T40 t141 x35_2).f1))).setCell ⟨gb146, 2, none⟩ (.int .i64 ((rd_T40 t141 x35_2).f2)))) := ⟨by repeat (first | (with_reducible first | exact HB.out | apply below_alloc | apply pw_below_drewN | apply below_drew1 | refine below_set ?_ GE136.out | refine below_set ?_ GE146.out) | exact HB.out)⟩
                          (try clear HO_9)
                          (try clear HO_33)
                          (try clear BK136)
                          (try clear BK146)
                          (try clear HB)
                          generalize (((w29.setCell ⟨gb146, 0, none⟩ (.int .i64 ((rd_T40 t141 x35_2).f0))).setCell ⟨gb146, 1, none⟩ (.int .i64 ((rd_T40 t141 x35_2).f1))).setCell ⟨gb146, 2, none⟩ (.int .i64 ((rd_T40 t141 x35_2).f2))) = w32 at n0_ n1_ n2_ n3_ n4_ ⊢
                          have HO_9 := n0_
                          have HO_33 := n1_
                          have BK136 := n2_
                          have BK146 := n3_
                          have HB := n4_
                          clear n0_ n1_ n2_ n3_ n4_
                          have n0_ := Aside0.mk (Kd.R_drew HO_9.out)
                          have n1_ := Aside0.mk (Kd.R_drew HO_33.out)
                          have n2_ := Aside0.mk (blk_drew BK136.out)
                          have n3_ := Aside0.mk (blk_drew BK146.out)
                          have n4_ := Aside0.mk (below_drew1 HB.out)
                          clear HO_9
                          clear HO_33
                          clear BK136
                          clear BK146
                          clear HB
                          have HO_9 := n0_
                          have HO_33 := n1_
                          have BK136 := n2_
                          have BK146 := n3_
                          have HB := n4_
                          clear n0_ n1_ n2_ n3_ n4_
                          refine start_ (n := 4) (S := fun w' => w'.cell? ⟨gb146, 0, none⟩ = some (.int .i64 ((rd_T40 t141 x35_2).f0)) ∧ w'.cell? ⟨gb146, 1, none⟩ = some (.int .i64 ((rd_T40 t141 x35_2).f1)) ∧ w'.cell? ⟨gb146, 2, none⟩ = some (.int .i64 ((rd_T40 t141 x35_2).f2))) (ds := []) #[false, false, false, false] (by kernel_rfl) rfl rfl ⟨(blk_cell BK146.out 0).trans rfl, (blk_cell BK146.out 1).trans rfl, (blk_cell BK146.out 2).trans rfl⟩ (fun hHeld => ?_)
                          generalize w32.drew = w33 at HO_9 HO_33 BK136 BK146 HB hHeld ⊢
                          refine pure_ (i := 1) (N := some 40) (v := ?_) (a' := ?_) #[false, true, false, false] rfl rfl (by kernel_rfl) (fun _ _ _ h => h) (Or.inl ⟨by rfl, ?_⟩) ?_ ?_
                          rotate_left
                          · intro w'
                            go_simp
                            with_reducible rfl
                          rotate_left
                          · simp only [Act.put, List.setIfInBounds_toArray, List.set_cons_zero, List.set_cons_succ, i64_w, i32_w]
                            rfl
                          refine take_ (i := 0) (N := some 39) (v := ?_) (a' := ?_) #[true, true, false, false] rfl rfl (by kernel_rfl) (fun _ _ _ h => h) (Or.inl ⟨by rfl, ?_⟩) hHeld ?_ ?_
                          rotate_left
                          · rintro w' ⟨s0, s1, s2⟩
                            go_simp
                            with_reducible rfl
                          rotate_left
                          · simp only [Act.put, List.setIfInBounds_toArray, List.set_cons_zero, List.set_cons_succ, i64_w, i32_w]
                            rfl
                          refine one_ (i := 2) (N := some 41) #[true, true, true, false] rfl rfl (by kernel_rfl) (by decide) (fun K hK => ?_)
                          refine goes_ Try.func18 (by kernel_rfl) rfl #[.int .i64 a3] (by rfl) rfl rfl (by (try simp only [List.map_toArray, List.map_cons, List.map_nil]); first | done | rfl | (simp only [List.length_drop, List.length_take]; rfl)) ?_
                          with_reducible refine (glossatorkeep3_inputKey.calls a3 t147 t148 t149 _ A18.out).mono ?_
                          rintro e w34 ⟨rfl, hb⟩
                          refine ⟨_, rfl, ?_⟩
                          have n0_ := Aside0.mk (Kd.R_below (by (with_reducible repeat (first | apply Kd.R_alloc | apply Kd.R_drewN | apply Kd.R_drew)); exact HO_9.out) hb)
                          have n1_ := Aside0.mk (Kd.R_below (by (with_reducible repeat (first | apply Kd.R_alloc | apply Kd.R_drewN | apply Kd.R_drew)); exact HO_33.out) hb)
                          have n2_ := Aside0.mk (blk_below (g := gb136) (o := .cells #[.int .i64 a0_0, .slice A0_1 l0_1.length c0_1] 24 (0, 0)) (by (with_reducible repeat (first | refine blk_drewN ?_ _ | refine blk_drew ?_ | refine blk_alloc ?_ _)); exact BK136.out) hb)
                          have n3_ := Aside0.mk (blk_below (g := gb146) (o := .cells #[.int .i64 ((rd_T40 t141 x35_2).f0), .int .i64 ((rd_T40 t141 x35_2).f1), .int .i64 ((rd_T40 t141 x35_2).f2)] 40 (0, 0)) (by (with_reducible repeat (first | refine blk_drewN ?_ _ | refine blk_drew ?_ | refine blk_alloc ?_ _)); exact BK146.out) hb)
                          have n4_ := Aside0.mk (below_step (by repeat (first | (with_reducible first | exact HB.out | apply below_alloc | apply pw_below_drewN | apply below_drew1 | refine below_set ?_ GE136.out | refine below_set ?_ GE146.out) | exact HB.out)) hb)
                          clear HO_9
                          clear HO_33
                          clear BK136
                          clear BK146
                          clear HB
                          have HO_9 := n0_
                          have HO_33 := n1_
                          have BK136 := n2_
                          have BK146 := n3_
                          have HB := n4_
                          clear n0_ n1_ n2_ n3_ n4_
                          (try clear hb)
                          (try clear hb2)
                          (try clear hk)
                          (try clear hi)
                          refine hK.out _ _ ⟨(blk_cell BK146.out 0).trans rfl, (blk_cell BK146.out 1).trans rfl, (blk_cell BK146.out 2).trans rfl⟩ (fun hHeld => ?_)
                          clear hK K
                          refine norm_ (a' := ?_) ?_ ?_
                          rotate_left
                          · show Act.put _ (some 41) _ = _
                            simp only [Act.put, List.setIfInBounds_toArray, List.set_cons_zero, List.set_cons_succ, i64_w, i32_w]
                            rfl
                          refine pure_ (i := 3) (N := some 42) (v := ?_) (a' := ?_) #[true, true, true, true] rfl rfl (by kernel_rfl) (fun _ _ _ h => h) (Or.inl ⟨by rfl, ?_⟩) ?_ ?_
                          rotate_left
                          · intro w'
                            go_simp
                            with_reducible rfl
                          rotate_left
                          · simp only [Act.put, List.setIfInBounds_toArray, List.set_cons_zero, List.set_cons_succ, i64_w, i32_w]
                            rfl
                          refine done_ (by kernel_rfl) ?_
                          have hcz35_0 : w34.cell? ⟨gb146, 0, none⟩ = some (.int .i64 ((rd_T40 t141 x35_2).f0)) := (blk_cell BK146.out 0).trans rfl
                          have hcz35_1 : w34.cell? ⟨gb146, 1, none⟩ = some (.int .i64 ((rd_T40 t141 x35_2).f1)) := (blk_cell BK146.out 1).trans rfl
                          have hcz35_2 : w34.cell? ⟨gb146, 2, none⟩ = some (.int .i64 ((rd_T40 t141 x35_2).f2)) := (blk_cell BK146.out 2).trans rfl
                          have hfz35_0 := blk_frozen BK146.out 0
                          have hfz35_1 := blk_frozen BK146.out 1
                          have hfz35_2 := blk_frozen BK146.out 2
                          obtain ⟨Ao36, co36, eo36⟩ := Kd.R_slice HO_9.out
                          subst eo36
                          try go_wp2_with (first | (go_at_call 19; (with_reducible refine (glossatorref3_Contains_int.calls k2 _ _ x9_2 ((rd_T40 t141 x35_2).f1) true _ ?side1 ?side2 A27.out).mono ?_); (case side1 => repeat (first | exact (Kd.R_reads' HO_9.out).2.2 | (with_reducible refine Kd.C_alloc ?_ _) | (with_reducible refine Kd.C_drewN ?_ _) | (with_reducible refine Kd.C_drew ?_))); (case side2 => exact (Kd.R_reads' HO_9.out).2.1); rintro e w' ⟨rfl, ⟨nd, rfl⟩⟩))
                          go_roundg k2
                          case measure => have := HK1.out; have := HK2.out; omega
                          case rel => exact ⟨(x9_2), (wrap64 (x35_2 + 1)), (by first | rfl | (simp; done) | (rw [bne_nil_isEmpty]; done) | (simp [*]; done)), H', ⟨by have := HK1.out; have := HK2.out; omega⟩, ⟨by (with_reducible repeat (first | apply Kd.R_alloc | apply Kd.R_drewN | apply Kd.R_drew)); exact HO_9.out⟩, ⟨by (with_reducible repeat (first | apply Kd.R_alloc | apply Kd.R_drewN | apply Kd.R_drew)); exact Kd.R_mono HO_33.out (fun _ hk => trivial)⟩, ⟨by (with_reducible repeat (first | refine blk_drewN ?_ _ | refine blk_drew ?_ | refine blk_alloc ?_ _)); exact BK136.out⟩, ⟨by repeat (first | (with_reducible first | exact HB.out | apply below_alloc | apply pw_below_drewN | apply below_drew1 | refine below_set ?_ GE136.out | refine below_set ?_ GE146.out) | exact HB.out)⟩⟩
                        · replace c28 := Bool.eq_false_iff.mpr c28
                          subst c28
                          have H1 : (if x9_2.length < 17592186044416 then (glossatorkeep3_influences.l1 k2 l1 a3 (x9_2 ++ [(rd_T40 t141 x35_2).f1]) x10_1 t141 (t141.length : Int) (wrap64 (x35_2 + 1)) a0_0 l0_1) else (none)) = some r := by rw [if_neg (show ¬ (false = true) by decide)] at H; exact H
                          clear H
                          have H := H1
                          clear H1
                          by_cases c37 : x9_2.length < 17592186044416
                          · rw [if_pos c37] at H
                            have LMc37 := Aside0.mk c37
                            clear c37
                            obtain ⟨y151, hy151⟩ : ∃ y_ : List Int, y_ = (x9_2 ++ [(rd_T40 t141 x35_2).f1]) := ⟨_, rfl⟩
                            replace H : (glossatorkeep3_influences.l1 k2 l1 a3 y151 x10_1 t141 (t141.length : Int) (wrap64 (x35_2 + 1)) a0_0 l0_1) = some r := by first | (rw [hy151]; with_reducible exact H) | (have H2_ := (Option.bind_some _ _).symm.trans H; rw [hy151]; with_reducible exact H2_) | (have H2_ := (Option.bind_some _ _).symm.trans H; with_reducible exact H2_) | with_reducible exact H | (rw [hy151]; exact H) | exact H
                            have Ny151 := Aside0.mk hy151
                            clear hy151
                            have H' := Aside0.mk H
                            clear H
                            have p145 : 0 ≤ (x35_2 : Int) := of_decide_eq_true (by first | (with_reducible assumption) | assumption)
                            have q145 : x35_2 < (t141.length : Int) := of_decide_eq_true (by first | (with_reducible assumption) | assumption)
                            obtain ⟨ad145, e145, hx145_0, hx145_1, hx145_2⟩ := at_T40 (Kd.R_reads' HO_33.out).2.2 x35_2 p145 q145
                            cases e145
                            replace p145 := eq_true p145
                            replace q145 := eq_true q145
                            try go_wp2_with (first | ((with_reducible refine gate_dst (N := 14) rfl ?_); refine box_event ?hg (N := 14) ?hd (cs := #[.int .i64 0, .int .i64 0, .int .i64 0]) (t := 40) ?hr ?_; (case hd => rfl); (case hg => rfl); (case hr => first | (go_simp; done) | (go_simp; rfl)); intro gb146 hg w38 hbox hb; have n0_ := Aside0.mk (Kd.R_below (by (with_reducible repeat (first | apply Kd.R_alloc | apply Kd.R_drewN | apply Kd.R_drew)); exact HO_9.out) hb); have n1_ := Aside0.mk (Kd.R_below (Kd.R_elderB (by (with_reducible repeat (first | apply Kd.R_alloc | apply Kd.R_drewN | apply Kd.R_drew)); exact HO_33.out) gb146 (Nat.le_of_eq hg.symm)) hb); have n2_ := Aside0.mk (blk_below (g := gb136) (o := .cells #[.int .i64 a0_0, .slice A0_1 l0_1.length c0_1] 24 (0, 0)) (by (with_reducible repeat (first | refine blk_drewN ?_ _ | refine blk_drew ?_ | refine blk_alloc ?_ _)); exact BK136.out) hb); have n3_ := Aside0.mk (below_step (by repeat (first | (with_reducible first | exact HB.out | apply below_alloc | apply pw_below_drewN | apply below_drew1 | refine below_set ?_ GE136.out) | exact HB.out)) hb); have n4_ := Aside0.mk (hbox); have n5_ := Aside0.mk ((by rw [hg]; exact (below_size (by repeat (first | (with_reducible first | exact HB.out | apply below_alloc | apply pw_below_drewN | apply below_drew1 | refine below_set ?_ GE136.out) | exact HB.out))) : w.heap.size ≤ gb146)); have n6_ := Aside0.mk ((by rw [hg]; exact (below_size (by repeat (first | (with_reducible first | exact HB.out | apply below_alloc | apply pw_below_drewN | apply below_drew1 | refine below_set ?_ GE136.out) | exact HB.out))) : w.heap.size ≤ gb146)); have n7_ := Aside0.mk ((by rw [hg]; exact Nat.ne_of_lt (blk_lt (g := gb136) (o := .cells #[.int .i64 a0_0, .slice A0_1 l0_1.length c0_1] 24 (0, 0)) (by (with_reducible repeat (first | refine blk_drewN ?_ _ | refine blk_drew ?_ | refine blk_alloc ?_ _)); exact BK136.out)) : gb136 ≠ gb146)); have n8_ := Aside0.mk ((by rw [hg]; exact Nat.ne_of_gt (blk_lt (g := gb136) (o := .cells #[.int .i64 a0_0, .slice A0_1 l0_1.length c0_1] 24 (0, 0)) (by (with_reducible repeat (first | refine blk_drewN ?_ _ | refine blk_drew ?_ | refine blk_alloc ?_ _)); exact BK136.out)) : gb146 ≠ gb136)); clear HO_9; clear HO_33; clear BK136; clear HB; have HO_9 := n0_; have HO_33 := n1_; have BK136 := n2_; have HB := n3_; have BK146 := n4_; have GW146 := n5_; have GE146 := n6_; have NB136_146 := n7_; have NB146_136 := n8_; clear n0_ n1_ n2_ n3_ n4_ n5_ n6_ n7_ n8_; clear hb hbox hg; have hnb39 := NB146_136.out; have hnc39 := NB136_146.out; have hcz40_0 : w38.cell? ⟨gb146, 0, none⟩ = some (.int .i64 0) := (blk_cell BK146.out 0).trans rfl; have hcz40_1 : w38.cell? ⟨gb146, 1, none⟩ = some (.int .i64 0) := (blk_cell BK146.out 1).trans rfl; have hcz40_2 : w38.cell? ⟨gb146, 2, none⟩ = some (.int .i64 0) := (blk_cell BK146.out 2).trans rfl; have hfz40_0 := blk_frozen BK146.out 0; have hfz40_1 := blk_frozen BK146.out 1; have hfz40_2 := blk_frozen BK146.out 2))
                            have n0_ : Aside0 (Kd.R (Kd.int .i64) 3 (((w38.setCell ⟨gb146, 0, none⟩ (.int .i64 ((rd_T40 t141 x35_2).f0))).setCell ⟨gb146, 1, none⟩ (.int .i64 ((rd_T40 t141 x35_2).f1))).setCell ⟨gb146, 2, none⟩ (.int .i64 ((rd_T40 t141 x35_2).f2))) w.heap.size (fun _ => True) u9 x9_2) := ⟨by (with_reducible repeat (first | apply Kd.R_alloc | apply Kd.R_drewN | apply Kd.R_drew)); exact Kd.R_mono (Kd.R_far (p := ⟨gb146, 2, none⟩) (Kd.R_far (p := ⟨gb146, 1, none⟩) (Kd.R_far (p := ⟨gb146, 0, none⟩) (Kd.R_types HO_9.out BK146.out (by decide)) (fun _ hk => hk.2) (.int .i64 ((rd_T40 t141 x35_2).f0))) (fun _ hk => hk.2) (.int .i64 ((rd_T40 t141 x35_2).f1))) (fun _ hk => hk.2) (.int .i64 ((rd_T40 t141 x35_2).f2))) (fun _ hk => trivial)⟩
                            have n1_ : Aside0 (Kd.R k40 40 (((w38.setCell ⟨gb146, 0, none⟩ (.int .i64 ((rd_T40 t141 x35_2).f0))).setCell ⟨gb146, 1, none⟩ (.int .i64 ((rd_T40 t141 x35_2).f1))).setCell ⟨gb146, 2, none⟩ (.int .i64 ((rd_T40 t141 x35_2).f2))) w.heap.size (fun k_ => k_ ≠ gb146) (.slice (some ad145) t141.length co14) t141) := ⟨by (with_reducible repeat (first | apply Kd.R_alloc | apply Kd.R_drewN | apply Kd.R_drew)); exact Kd.R_mono (Kd.R_far (p := ⟨gb146, 2, none⟩) (Kd.R_far (p := ⟨gb146, 1, none⟩) (Kd.R_far (p := ⟨gb146, 0, none⟩) (Kd.R_mono HO_33.out (fun k_ hk => (⟨hk, hk.2⟩ : _ ∧ k_ ≠ gb146))) (fun _ hk => hk.2) (.int .i64 ((rd_T40 t141 x35_2).f0))) (fun _ hk => hk.2) (.int .i64 ((rd_T40 t141 x35_2).f1))) (fun _ hk => hk.2) (.int .i64 ((rd_T40 t141 x35_2).f2))) (fun _ hk => hk.1.2)⟩
                            have n2_ : Aside0 ((((w38.setCell ⟨gb146, 0, none⟩ (.int .i64 ((rd_T40 t141 x35_2).f0))).setCell ⟨gb146, 1, none⟩ (.int .i64 ((rd_T40 t141 x35_2).f1))).setCell ⟨gb146, 2, none⟩ (.int .i64 ((rd_T40 t141 x35_2).f2))).heap[gb136]? = some (.cells #[.int .i64 a0_0, .slice A0_1 l0_1.length c0_1] 24 (0, 0))) := ⟨by (with_reducible repeat (first | refine blk_drewN ?_ _ | refine blk_drew ?_ | refine blk_alloc ?_ _)); refine blk_far ?_ NB136_146.out _; (with_reducible repeat (first | refine blk_drewN ?_ _ | refine blk_drew ?_ | refine blk_alloc ?_ _)); refine blk_far ?_ NB136_146.out _; (with_reducible repeat (first | refine blk_drewN ?_ _ | refine blk_drew ?_ | refine blk_alloc ?_ _)); refine blk_far ?_ NB136_146.out _; (with_reducible repeat (first | refine blk_drewN ?_ _ | refine blk_drew ?_ | refine blk_alloc ?_ _)); exact BK136.out⟩
                            have n3_ : Aside0 ((((w38.setCell ⟨gb146, 0, none⟩ (.int .i64 ((rd_T40 t141 x35_2).f0))).setCell ⟨gb146, 1, none⟩ (.int .i64 ((rd_T40 t141 x35_2).f1))).setCell ⟨gb146, 2, none⟩ (.int .i64 ((rd_T40 t141 x35_2).f2))).heap[gb146]? = some (.cells #[.int .i64 ((rd_T40 t141 x35_2).f0), .int .i64 ((rd_T40 t141 x35_2).f1), .int .i64 ((rd_T40 t141 x35_2).f2)] 40 (0, 0))) := ⟨by (with_reducible repeat (first | refine blk_drewN ?_ _ | refine blk_drew ?_ | refine blk_alloc ?_ _)); refine blk_put (cs := #[.int .i64 ((rd_T40 t141 x35_2).f0), .int .i64 ((rd_T40 t141 x35_2).f1), .int .i64 0]) ?_ 2 _ rfl; (with_reducible repeat (first | refine blk_drewN ?_ _ | refine blk_drew ?_ | refine blk_alloc ?_ _)); refine blk_put (cs := #[.int .i64 ((rd_T40 t141 x35_2).f0), .int .i64 0, .int .i64 0]) ?_ 1 _ rfl; (with_reducible repeat (first | refine blk_drewN ?_ _ | refine blk_drew ?_ | refine blk_alloc ?_ _)); refine blk_put (cs := #[.int .i64 0, .int .i64 0, .int .i64 0]) ?_ 0 _ rfl; (with_reducible repeat (first | refine blk_drewN ?_ _ | refine blk_drew ?_ | refine blk_alloc ?_ _)); exact BK146.out⟩
                            have n4_ : Aside0 (Below w.heap.size w (((w38.setCell ⟨gb146, 0, none⟩ (.int .i64 ((rd_T40 t141 x35_2).f0))).setCell ⟨gb146, 1, none⟩ (.int .i64 ((rd_T40 t141 x35_2).f1))).setCell ⟨gb146, 2, none⟩ (.int .i64 ((rd_T40 t141 x35_2).f2)))) := ⟨by repeat (first | (with_reducible first | exact HB.out | apply below_alloc | apply pw_below_drewN | apply below_drew1 | refine below_set ?_ GE136.out | refine below_set ?_ GE146.out) | exact HB.out)⟩
                            (try clear HO_9)
                            (try clear HO_33)
                            (try clear BK136)
                            (try clear BK146)
                            (try clear HB)
                            generalize (((w38.setCell ⟨gb146, 0, none⟩ (.int .i64 ((rd_T40 t141 x35_2).f0))).setCell ⟨gb146, 1, none⟩ (.int .i64 ((rd_T40 t141 x35_2).f1))).setCell ⟨gb146, 2, none⟩ (.int .i64 ((rd_T40 t141 x35_2).f2))) = w41 at n0_ n1_ n2_ n3_ n4_ ⊢
                            have HO_9 := n0_
                            have HO_33 := n1_
                            have BK136 := n2_
                            have BK146 := n3_
                            have HB := n4_
                            clear n0_ n1_ n2_ n3_ n4_
                            have n0_ := Aside0.mk (Kd.R_drew HO_9.out)
                            have n1_ := Aside0.mk (Kd.R_drew HO_33.out)
                            have n2_ := Aside0.mk (blk_drew BK136.out)
                            have n3_ := Aside0.mk (blk_drew BK146.out)
                            have n4_ := Aside0.mk (below_drew1 HB.out)
                            clear HO_9
                            clear HO_33
                            clear BK136
                            clear BK146
                            clear HB
                            have HO_9 := n0_
                            have HO_33 := n1_
                            have BK136 := n2_
                            have BK146 := n3_
                            have HB := n4_
                            clear n0_ n1_ n2_ n3_ n4_
                            refine start_ (n := 4) (S := fun w' => w'.cell? ⟨gb146, 0, none⟩ = some (.int .i64 ((rd_T40 t141 x35_2).f0)) ∧ w'.cell? ⟨gb146, 1, none⟩ = some (.int .i64 ((rd_T40 t141 x35_2).f1)) ∧ w'.cell? ⟨gb146, 2, none⟩ = some (.int .i64 ((rd_T40 t141 x35_2).f2))) (ds := []) #[false, false, false, false] (by kernel_rfl) rfl rfl ⟨(blk_cell BK146.out 0).trans rfl, (blk_cell BK146.out 1).trans rfl, (blk_cell BK146.out 2).trans rfl⟩ (fun hHeld => ?_)
                            generalize w41.drew = w42 at HO_9 HO_33 BK136 BK146 HB hHeld ⊢
                            refine pure_ (i := 1) (N := some 40) (v := ?_) (a' := ?_) #[false, true, false, false] rfl rfl (by kernel_rfl) (fun _ _ _ h => h) (Or.inl ⟨by rfl, ?_⟩) ?_ ?_
                            rotate_left
                            · intro w'
                              go_simp
                              with_reducible rfl
                            rotate_left
                            · simp only [Act.put, List.setIfInBounds_toArray, List.set_cons_zero, List.set_cons_succ, i64_w, i32_w]
                              rfl
                            refine take_ (i := 0) (N := some 39) (v := ?_) (a' := ?_) #[true, true, false, false] rfl rfl (by kernel_rfl) (fun _ _ _ h => h) (Or.inl ⟨by rfl, ?_⟩) hHeld ?_ ?_
                            rotate_left
                            · rintro w' ⟨s0, s1, s2⟩
                              go_simp
                              with_reducible rfl
                            rotate_left
                            · simp only [Act.put, List.setIfInBounds_toArray, List.set_cons_zero, List.set_cons_succ, i64_w, i32_w]
                              rfl
                            refine one_ (i := 2) (N := some 41) #[true, true, true, false] rfl rfl (by kernel_rfl) (by decide) (fun K hK => ?_)
                            refine goes_ Try.func18 (by kernel_rfl) rfl #[.int .i64 a3] (by rfl) rfl rfl (by (try simp only [List.map_toArray, List.map_cons, List.map_nil]); first | done | rfl | (simp only [List.length_drop, List.length_take]; rfl)) ?_
                            with_reducible refine (glossatorkeep3_inputKey.calls a3 t147 t148 t149 _ A18.out).mono ?_
                            rintro e w43 ⟨rfl, hb⟩
                            refine ⟨_, rfl, ?_⟩
                            have n0_ := Aside0.mk (Kd.R_below (by (with_reducible repeat (first | apply Kd.R_alloc | apply Kd.R_drewN | apply Kd.R_drew)); exact HO_9.out) hb)
                            have n1_ := Aside0.mk (Kd.R_below (by (with_reducible repeat (first | apply Kd.R_alloc | apply Kd.R_drewN | apply Kd.R_drew)); exact HO_33.out) hb)
                            have n2_ := Aside0.mk (blk_below (g := gb136) (o := .cells #[.int .i64 a0_0, .slice A0_1 l0_1.length c0_1] 24 (0, 0)) (by (with_reducible repeat (first | refine blk_drewN ?_ _ | refine blk_drew ?_ | refine blk_alloc ?_ _)); exact BK136.out) hb)
                            have n3_ := Aside0.mk (blk_below (g := gb146) (o := .cells #[.int .i64 ((rd_T40 t141 x35_2).f0), .int .i64 ((rd_T40 t141 x35_2).f1), .int .i64 ((rd_T40 t141 x35_2).f2)] 40 (0, 0)) (by (with_reducible repeat (first | refine blk_drewN ?_ _ | refine blk_drew ?_ | refine blk_alloc ?_ _)); exact BK146.out) hb)
                            have n4_ := Aside0.mk (below_step (by repeat (first | (with_reducible first | exact HB.out | apply below_alloc | apply pw_below_drewN | apply below_drew1 | refine below_set ?_ GE136.out | refine below_set ?_ GE146.out) | exact HB.out)) hb)
                            clear HO_9
                            clear HO_33
                            clear BK136
                            clear BK146
                            clear HB
                            have HO_9 := n0_
                            have HO_33 := n1_
                            have BK136 := n2_
                            have BK146 := n3_
                            have HB := n4_
                            clear n0_ n1_ n2_ n3_ n4_
                            (try clear hb)
                            (try clear hb2)
                            (try clear hk)
                            (try clear hi)
                            refine hK.out _ _ ⟨(blk_cell BK146.out 0).trans rfl, (blk_cell BK146.out 1).trans rfl, (blk_cell BK146.out 2).trans rfl⟩ (fun hHeld => ?_)
                            clear hK K
                            refine norm_ (a' := ?_) ?_ ?_
                            rotate_left
                            · show Act.put _ (some 41) _ = _
                              simp only [Act.put, List.setIfInBounds_toArray, List.set_cons_zero, List.set_cons_succ, i64_w, i32_w]
                              rfl
                            refine pure_ (i := 3) (N := some 42) (v := ?_) (a' := ?_) #[true, true, true, true] rfl rfl (by kernel_rfl) (fun _ _ _ h => h) (Or.inl ⟨by rfl, ?_⟩) ?_ ?_
                            rotate_left
                            · intro w'
                              go_simp
                              with_reducible rfl
                            rotate_left
                            · simp only [Act.put, List.setIfInBounds_toArray, List.set_cons_zero, List.set_cons_succ, i64_w, i32_w]
                              rfl
                            refine done_ (by kernel_rfl) ?_
                            have hcz44_0 : w43.cell? ⟨gb146, 0, none⟩ = some (.int .i64 ((rd_T40 t141 x35_2).f0)) := (blk_cell BK146.out 0).trans rfl
                            have hcz44_1 : w43.cell? ⟨gb146, 1, none⟩ = some (.int .i64 ((rd_T40 t141 x35_2).f1)) := (blk_cell BK146.out 1).trans rfl
                            have hcz44_2 : w43.cell? ⟨gb146, 2, none⟩ = some (.int .i64 ((rd_T40 t141 x35_2).f2)) := (blk_cell BK146.out 2).trans rfl
                            have hfz44_0 := blk_frozen BK146.out 0
                            have hfz44_1 := blk_frozen BK146.out 1
                            have hfz44_2 := blk_frozen BK146.out 2
                            obtain ⟨Ao45, co45, eo45⟩ := Kd.R_slice HO_9.out
                            subst eo45
                            try go_wp2_with (first | (go_at_call 19; (with_reducible refine (glossatorref3_Contains_int.calls k2 _ _ x9_2 ((rd_T40 t141 x35_2).f1) false _ ?side1 ?side2 A27.out).mono ?_); (case side1 => repeat (first | exact (Kd.R_reads' HO_9.out).2.2 | (with_reducible refine Kd.C_alloc ?_ _) | (with_reducible refine Kd.C_drewN ?_ _) | (with_reducible refine Kd.C_drew ?_))); (case side2 => exact (Kd.R_reads' HO_9.out).2.1); rintro e w' ⟨rfl, ⟨nd, rfl⟩⟩) | ((with_reducible refine gate_builtin (b := .append) (xs := #[.tmp 53, .tmp 56]) rfl ?_); at_builtin; refine Kd.R_append (Kd.int .i64) (w0 := w) w.heap.size rfl (.tmp 53) (.tmp 56) 25 3 (.int .i64 0) 8 rfl Try.underlying25 info3 rfl (by decide) (by omega) (.slice Ao45 x9_2.length co45) x9_2 ((rd_T40 t141 x35_2).f1) [.int .i64 ((rd_T40 t141 x35_2).f1)] (fun _ => True) (fun _ => False) rfl rfl ?aP (fun _ hk => hk.elim) ?aF ?aO ?aB ?aS ?aL ?_; (case aP => exact rfl); (case aB => exact (by repeat (first | (with_reducible first | exact HB.out | apply below_alloc | apply pw_below_drewN | apply below_drew1 | refine below_set ?_ GE136.out | refine below_set ?_ GE146.out) | exact HB.out))); (case aF => exact (fun _ _ => trivial)); (case aO => exact (by (with_reducible repeat (first | apply Kd.R_alloc | apply Kd.R_drewN | apply Kd.R_drew)); exact HO_9.out)); (case aS => exact (below_size (by repeat (first | (with_reducible first | exact HB.out | apply below_alloc | apply pw_below_drewN | apply below_drew1 | refine below_set ?_ GE136.out | refine below_set ?_ GE146.out) | exact HB.out)))); (case aL => have := LMc37.out; omega); intro v152 w46 ho hb hg hat; rw [← Ny151.out] at ho; have n0_ := Aside0.mk (Kd.R_over' (by (with_reducible repeat (first | apply Kd.R_alloc | apply Kd.R_drewN | apply Kd.R_drew)); exact HO_33.out) (Kd.R_typed (by (with_reducible repeat (first | apply Kd.R_alloc | apply Kd.R_drewN | apply Kd.R_drew)); exact HO_9.out)) (by decide) hg); have n1_ := Aside0.mk (blk_grown (g := gb136) (o := .cells #[.int .i64 a0_0, .slice A0_1 l0_1.length c0_1] 24 (0, 0)) (by (with_reducible repeat (first | refine blk_drewN ?_ _ | refine blk_drew ?_ | refine blk_alloc ?_ _)); exact BK136.out) hg (Kd.R_ne HO_9.out BK136.out (by decide))); have n2_ := Aside0.mk (blk_grown (g := gb146) (o := .cells #[.int .i64 ((rd_T40 t141 x35_2).f0), .int .i64 ((rd_T40 t141 x35_2).f1), .int .i64 ((rd_T40 t141 x35_2).f2)] 40 (0, 0)) (by (with_reducible repeat (first | refine blk_drewN ?_ _ | refine blk_drew ?_ | refine blk_alloc ?_ _)); exact BK146.out) hg (Kd.R_ne HO_9.out BK146.out (by decide))); have n3_ := Aside0.mk (hb); have n4_ := Aside0.mk (ho); clear HO_33; clear BK136; clear BK146; clear HB; clear HO_9; have HO_33 := n0_; have BK136 := n1_; have BK146 := n2_; have HB := n3_; have HO153 := n4_; clear n0_ n1_ n2_ n3_ n4_; clear ho hb hg hat))
                            go_roundg k2
                            case measure => have := HK1.out; have := HK2.out; omega
                            case rel => exact ⟨(y151), (wrap64 (x35_2 + 1)), (by first | rfl | (simp; done) | (rw [bne_nil_isEmpty]; done) | (simp [*]; done)), H', ⟨by have := HK1.out; have := HK2.out; omega⟩, ⟨by (with_reducible repeat (first | apply Kd.R_alloc | apply Kd.R_drewN | apply Kd.R_drew)); exact HO153.out⟩, ⟨by (with_reducible repeat (first | apply Kd.R_alloc | apply Kd.R_drewN | apply Kd.R_drew)); exact Kd.R_mono HO_33.out (fun _ hk => trivial)⟩, ⟨by (with_reducible repeat (first | refine blk_drewN ?_ _ | refine blk_drew ?_ | refine blk_alloc ?_ _)); exact BK136.out⟩, ⟨by repeat (first | (with_reducible first | exact HB.out | apply below_alloc | apply pw_below_drewN | apply below_drew1 | refine below_set ?_ GE136.out | refine below_set ?_ GE146.out) | exact HB.out)⟩⟩
                          · rw [if_neg c37] at H
                            exact absurd H (by simp)
                      · rw [if_neg c26] at H
                        have c26b0 : (((rd_T40 t141 x35_2).f0) == 1) = false := beq_eq_false_iff_ne.mpr c26
                        have c26b1 : (((rd_T40 t141 x35_2).f0) != 1) = true := bne_iff_ne.mpr c26
                        have H' := Aside0.mk H
                        clear H
                        have p145 : 0 ≤ (x35_2 : Int) := of_decide_eq_true (by first | (with_reducible assumption) | assumption)
                        have q145 : x35_2 < (t141.length : Int) := of_decide_eq_true (by first | (with_reducible assumption) | assumption)
                        obtain ⟨ad145, e145, hx145_0, hx145_1, hx145_2⟩ := at_T40 (Kd.R_reads' HO_33.out).2.2 x35_2 p145 q145
                        cases e145
                        replace p145 := eq_true p145
                        replace q145 := eq_true q145
                        try go_wp2_with (first | ((with_reducible refine gate_dst (N := 14) rfl ?_); refine box_event ?hg (N := 14) ?hd (cs := #[.int .i64 0, .int .i64 0, .int .i64 0]) (t := 40) ?hr ?_; (case hd => rfl); (case hg => rfl); (case hr => first | (go_simp; done) | (go_simp; rfl)); intro gb146 hg w47 hbox hb; have n0_ := Aside0.mk (Kd.R_below (by (with_reducible repeat (first | apply Kd.R_alloc | apply Kd.R_drewN | apply Kd.R_drew)); exact HO_9.out) hb); have n1_ := Aside0.mk (Kd.R_below (Kd.R_elderB (by (with_reducible repeat (first | apply Kd.R_alloc | apply Kd.R_drewN | apply Kd.R_drew)); exact HO_33.out) gb146 (Nat.le_of_eq hg.symm)) hb); have n2_ := Aside0.mk (blk_below (g := gb136) (o := .cells #[.int .i64 a0_0, .slice A0_1 l0_1.length c0_1] 24 (0, 0)) (by (with_reducible repeat (first | refine blk_drewN ?_ _ | refine blk_drew ?_ | refine blk_alloc ?_ _)); exact BK136.out) hb); have n3_ := Aside0.mk (below_step (by repeat (first | (with_reducible first | exact HB.out | apply below_alloc | apply pw_below_drewN | apply below_drew1 | refine below_set ?_ GE136.out) | exact HB.out)) hb); have n4_ := Aside0.mk (hbox); have n5_ := Aside0.mk ((by rw [hg]; exact (below_size (by repeat (first | (with_reducible first | exact HB.out | apply below_alloc | apply pw_below_drewN | apply below_drew1 | refine below_set ?_ GE136.out) | exact HB.out))) : w.heap.size ≤ gb146)); have n6_ := Aside0.mk ((by rw [hg]; exact (below_size (by repeat (first | (with_reducible first | exact HB.out | apply below_alloc | apply pw_below_drewN | apply below_drew1 | refine below_set ?_ GE136.out) | exact HB.out))) : w.heap.size ≤ gb146)); have n7_ := Aside0.mk ((by rw [hg]; exact Nat.ne_of_lt (blk_lt (g := gb136) (o := .cells #[.int .i64 a0_0, .slice A0_1 l0_1.length c0_1] 24 (0, 0)) (by (with_reducible repeat (first | refine blk_drewN ?_ _ | refine blk_drew ?_ | refine blk_alloc ?_ _)); exact BK136.out)) : gb136 ≠ gb146)); have n8_ := Aside0.mk ((by rw [hg]; exact Nat.ne_of_gt (blk_lt (g := gb136) (o := .cells #[.int .i64 a0_0, .slice A0_1 l0_1.length c0_1] 24 (0, 0)) (by (with_reducible repeat (first | refine blk_drewN ?_ _ | refine blk_drew ?_ | refine blk_alloc ?_ _)); exact BK136.out)) : gb146 ≠ gb136)); clear HO_9; clear HO_33; clear BK136; clear HB; have HO_9 := n0_; have HO_33 := n1_; have BK136 := n2_; have HB := n3_; have BK146 := n4_; have GW146 := n5_; have GE146 := n6_; have NB136_146 := n7_; have NB146_136 := n8_; clear n0_ n1_ n2_ n3_ n4_ n5_ n6_ n7_ n8_; clear hb hbox hg; have hnb48 := NB146_136.out; have hnc48 := NB136_146.out; have hcz49_0 : w47.cell? ⟨gb146, 0, none⟩ = some (.int .i64 0) := (blk_cell BK146.out 0).trans rfl; have hcz49_1 : w47.cell? ⟨gb146, 1, none⟩ = some (.int .i64 0) := (blk_cell BK146.out 1).trans rfl; have hcz49_2 : w47.cell? ⟨gb146, 2, none⟩ = some (.int .i64 0) := (blk_cell BK146.out 2).trans rfl; have hfz49_0 := blk_frozen BK146.out 0; have hfz49_1 := blk_frozen BK146.out 1; have hfz49_2 := blk_frozen BK146.out 2))
                        have n0_ : Aside0 (Kd.R (Kd.int .i64) 3 (((w47.setCell ⟨gb146, 0, none⟩ (.int .i64 ((rd_T40 t141 x35_2).f0))).setCell ⟨gb146, 1, none⟩ (.int .i64 ((rd_T40 t141 x35_2).f1))).setCell ⟨gb146, 2, none⟩ (.int .i64 ((rd_T40 t141 x35_2).f2))) w.heap.size (fun _ => True) u9 x9_2) := ⟨by (with_reducible repeat (first | apply Kd.R_alloc | apply Kd.R_drewN | apply Kd.R_drew)); exact Kd.R_mono (Kd.R_far (p := ⟨gb146, 2, none⟩) (Kd.R_far (p := ⟨gb146, 1, none⟩) (Kd.R_far (p := ⟨gb146, 0, none⟩) (Kd.R_types HO_9.out BK146.out (by decide)) (fun _ hk => hk.2) (.int .i64 ((rd_T40 t141 x35_2).f0))) (fun _ hk => hk.2) (.int .i64 ((rd_T40 t141 x35_2).f1))) (fun _ hk => hk.2) (.int .i64 ((rd_T40 t141 x35_2).f2))) (fun _ hk => trivial)⟩
                        have n1_ : Aside0 (Kd.R k40 40 (((w47.setCell ⟨gb146, 0, none⟩ (.int .i64 ((rd_T40 t141 x35_2).f0))).setCell ⟨gb146, 1, none⟩ (.int .i64 ((rd_T40 t141 x35_2).f1))).setCell ⟨gb146, 2, none⟩ (.int .i64 ((rd_T40 t141 x35_2).f2))) w.heap.size (fun k_ => k_ ≠ gb146) (.slice (some ad145) t141.length co14) t141) := ⟨by (with_reducible repeat (first | apply Kd.R_alloc | apply Kd.R_drewN | apply Kd.R_drew)); exact Kd.R_mono (Kd.R_far (p := ⟨gb146, 2, none⟩) (Kd.R_far (p := ⟨gb146, 1, none⟩) (Kd.R_far (p := ⟨gb146, 0, none⟩) (Kd.R_mono HO_33.out (fun k_ hk => (⟨hk, hk.2⟩ : _ ∧ k_ ≠ gb146))) (fun _ hk => hk.2) (.int .i64 ((rd_T40 t141 x35_2).f0))) (fun _ hk => hk.2) (.int .i64 ((rd_T40 t141 x35_2).f1))) (fun _ hk => hk.2) (.int .i64 ((rd_T40 t141 x35_2).f2))) (fun _ hk => hk.1.2)⟩
                        have n2_ : Aside0 ((((w47.setCell ⟨gb146, 0, none⟩ (.int .i64 ((rd_T40 t141 x35_2).f0))).setCell ⟨gb146, 1, none⟩ (.int .i64 ((rd_T40 t141 x35_2).f1))).setCell ⟨gb146, 2, none⟩ (.int .i64 ((rd_T40 t141 x35_2).f2))).heap[gb136]? = some (.cells #[.int .i64 a0_0, .slice A0_1 l0_1.length c0_1] 24 (0, 0))) := ⟨by (with_reducible repeat (first | refine blk_drewN ?_ _ | refine blk_drew ?_ | refine blk_alloc ?_ _)); refine blk_far ?_ NB136_146.out _; (with_reducible repeat (first | refine blk_drewN ?_ _ | refine blk_drew ?_ | refine blk_alloc ?_ _)); refine blk_far ?_ NB136_146.out _; (with_reducible repeat (first | refine blk_drewN ?_ _ | refine blk_drew ?_ | refine blk_alloc ?_ _)); refine blk_far ?_ NB136_146.out _; (with_reducible repeat (first | refine blk_drewN ?_ _ | refine blk_drew ?_ | refine blk_alloc ?_ _)); exact BK136.out⟩
                        have n3_ : Aside0 ((((w47.setCell ⟨gb146, 0, none⟩ (.int .i64 ((rd_T40 t141 x35_2).f0))).setCell ⟨gb146, 1, none⟩ (.int .i64 ((rd_T40 t141 x35_2).f1))).setCell ⟨gb146, 2, none⟩ (.int .i64 ((rd_T40 t141 x35_2).f2))).heap[gb146]? = some (.cells #[.int .i64 ((rd_T40 t141 x35_2).f0), .int .i64 ((rd_T40 t141 x35_2).f1), .int .i64 ((rd_T40 t141 x35_2).f2)] 40 (0, 0))) := ⟨by (with_reducible repeat (first | refine blk_drewN ?_ _ | refine blk_drew ?_ | refine blk_alloc ?_ _)); refine blk_put (cs := #[.int .i64 ((rd_T40 t141 x35_2).f0), .int .i64 ((rd_T40 t141 x35_2).f1), .int .i64 0]) ?_ 2 _ rfl; (with_reducible repeat (first | refine blk_drewN ?_ _ | refine blk_drew ?_ | refine blk_alloc ?_ _)); refine blk_put (cs := #[.int .i64 ((rd_T40 t141 x35_2).f0), .int .i64 0, .int .i64 0]) ?_ 1 _ rfl; (with_reducible repeat (first | refine blk_drewN ?_ _ | refine blk_drew ?_ | refine blk_alloc ?_ _)); refine blk_put (cs := #[.int .i64 0, .int .i64 0, .int .i64 0]) ?_ 0 _ rfl; (with_reducible repeat (first | refine blk_drewN ?_ _ | refine blk_drew ?_ | refine blk_alloc ?_ _)); exact BK146.out⟩
                        have n4_ : Aside0 (Below w.heap.size w (((w47.setCell ⟨gb146, 0, none⟩ (.int .i64 ((rd_T40 t141 x35_2).f0))).setCell ⟨gb146, 1, none⟩ (.int .i64 ((rd_T40 t141 x35_2).f1))).setCell ⟨gb146, 2, none⟩ (.int .i64 ((rd_T40 t141 x35_2).f2)))) := ⟨by repeat (first | (with_reducible first | exact HB.out | apply below_alloc | apply pw_below_drewN | apply below_drew1 | refine below_set ?_ GE136.out | refine below_set ?_ GE146.out) | exact HB.out)⟩
                        (try clear HO_9)
                        (try clear HO_33)
                        (try clear BK136)
                        (try clear BK146)
                        (try clear HB)
                        generalize (((w47.setCell ⟨gb146, 0, none⟩ (.int .i64 ((rd_T40 t141 x35_2).f0))).setCell ⟨gb146, 1, none⟩ (.int .i64 ((rd_T40 t141 x35_2).f1))).setCell ⟨gb146, 2, none⟩ (.int .i64 ((rd_T40 t141 x35_2).f2))) = w50 at n0_ n1_ n2_ n3_ n4_ ⊢
                        have HO_9 := n0_
                        have HO_33 := n1_
                        have BK136 := n2_
                        have BK146 := n3_
                        have HB := n4_
                        clear n0_ n1_ n2_ n3_ n4_
                        have n0_ := Aside0.mk (Kd.R_drew HO_9.out)
                        have n1_ := Aside0.mk (Kd.R_drew HO_33.out)
                        have n2_ := Aside0.mk (blk_drew BK136.out)
                        have n3_ := Aside0.mk (blk_drew BK146.out)
                        have n4_ := Aside0.mk (below_drew1 HB.out)
                        clear HO_9
                        clear HO_33
                        clear BK136
                        clear BK146
                        clear HB
                        have HO_9 := n0_
                        have HO_33 := n1_
                        have BK136 := n2_
                        have BK146 := n3_
                        have HB := n4_
                        clear n0_ n1_ n2_ n3_ n4_
                        refine start_ (n := 4) (S := fun w' => w'.cell? ⟨gb146, 0, none⟩ = some (.int .i64 ((rd_T40 t141 x35_2).f0)) ∧ w'.cell? ⟨gb146, 1, none⟩ = some (.int .i64 ((rd_T40 t141 x35_2).f1)) ∧ w'.cell? ⟨gb146, 2, none⟩ = some (.int .i64 ((rd_T40 t141 x35_2).f2))) (ds := []) #[false, false, false, false] (by kernel_rfl) rfl rfl ⟨(blk_cell BK146.out 0).trans rfl, (blk_cell BK146.out 1).trans rfl, (blk_cell BK146.out 2).trans rfl⟩ (fun hHeld => ?_)
                        generalize w50.drew = w51 at HO_9 HO_33 BK136 BK146 HB hHeld ⊢
                        refine pure_ (i := 1) (N := some 40) (v := ?_) (a' := ?_) #[false, true, false, false] rfl rfl (by kernel_rfl) (fun _ _ _ h => h) (Or.inl ⟨by rfl, ?_⟩) ?_ ?_
                        rotate_left
                        · intro w'
                          go_simp
                          with_reducible rfl
                        rotate_left
                        · simp only [Act.put, List.setIfInBounds_toArray, List.set_cons_zero, List.set_cons_succ, i64_w, i32_w]
                          rfl
                        refine take_ (i := 0) (N := some 39) (v := ?_) (a' := ?_) #[true, true, false, false] rfl rfl (by kernel_rfl) (fun _ _ _ h => h) (Or.inl ⟨by rfl, ?_⟩) hHeld ?_ ?_
                        rotate_left
                        · rintro w' ⟨s0, s1, s2⟩
                          go_simp
                          with_reducible rfl
                        rotate_left
                        · simp only [Act.put, List.setIfInBounds_toArray, List.set_cons_zero, List.set_cons_succ, i64_w, i32_w]
                          rfl
                        refine one_ (i := 2) (N := some 41) #[true, true, true, false] rfl rfl (by kernel_rfl) (by decide) (fun K hK => ?_)
                        refine goes_ Try.func18 (by kernel_rfl) rfl #[.int .i64 a3] (by rfl) rfl rfl (by (try simp only [List.map_toArray, List.map_cons, List.map_nil]); first | done | rfl | (simp only [List.length_drop, List.length_take]; rfl)) ?_
                        with_reducible refine (glossatorkeep3_inputKey.calls a3 t147 t148 t149 _ A18.out).mono ?_
                        rintro e w52 ⟨rfl, hb⟩
                        refine ⟨_, rfl, ?_⟩
                        have n0_ := Aside0.mk (Kd.R_below (by (with_reducible repeat (first | apply Kd.R_alloc | apply Kd.R_drewN | apply Kd.R_drew)); exact HO_9.out) hb)
                        have n1_ := Aside0.mk (Kd.R_below (by (with_reducible repeat (first | apply Kd.R_alloc | apply Kd.R_drewN | apply Kd.R_drew)); exact HO_33.out) hb)
                        have n2_ := Aside0.mk (blk_below (g := gb136) (o := .cells #[.int .i64 a0_0, .slice A0_1 l0_1.length c0_1] 24 (0, 0)) (by (with_reducible repeat (first | refine blk_drewN ?_ _ | refine blk_drew ?_ | refine blk_alloc ?_ _)); exact BK136.out) hb)
                        have n3_ := Aside0.mk (blk_below (g := gb146) (o := .cells #[.int .i64 ((rd_T40 t141 x35_2).f0), .int .i64 ((rd_T40 t141 x35_2).f1), .int .i64 ((rd_T40 t141 x35_2).f2)] 40 (0, 0)) (by (with_reducible repeat (first | refine blk_drewN ?_ _ | refine blk_drew ?_ | refine blk_alloc ?_ _)); exact BK146.out) hb)
                        have n4_ := Aside0.mk (below_step (by repeat (first | (with_reducible first | exact HB.out | apply below_alloc | apply pw_below_drewN | apply below_drew1 | refine below_set ?_ GE136.out | refine below_set ?_ GE146.out) | exact HB.out)) hb)
                        clear HO_9
                        clear HO_33
                        clear BK136
                        clear BK146
                        clear HB
                        have HO_9 := n0_
                        have HO_33 := n1_
                        have BK136 := n2_
                        have BK146 := n3_
                        have HB := n4_
                        clear n0_ n1_ n2_ n3_ n4_
                        (try clear hb)
                        (try clear hb2)
                        (try clear hk)
                        (try clear hi)
                        refine hK.out _ _ ⟨(blk_cell BK146.out 0).trans rfl, (blk_cell BK146.out 1).trans rfl, (blk_cell BK146.out 2).trans rfl⟩ (fun hHeld => ?_)
                        clear hK K
                        refine norm_ (a' := ?_) ?_ ?_
                        rotate_left
                        · show Act.put _ (some 41) _ = _
                          simp only [Act.put, List.setIfInBounds_toArray, List.set_cons_zero, List.set_cons_succ, i64_w, i32_w]
                          rfl
                        refine pure_ (i := 3) (N := some 42) (v := ?_) (a' := ?_) #[true, true, true, true] rfl rfl (by kernel_rfl) (fun _ _ _ h => h) (Or.inl ⟨by rfl, ?_⟩) ?_ ?_
                        rotate_left
                        · intro w'
                          go_simp
                          with_reducible rfl
                        rotate_left
                        · simp only [Act.put, List.setIfInBounds_toArray, List.set_cons_zero, List.set_cons_succ, i64_w, i32_w]
                          rfl
                        refine done_ (by kernel_rfl) ?_
                        have hcz53_0 : w52.cell? ⟨gb146, 0, none⟩ = some (.int .i64 ((rd_T40 t141 x35_2).f0)) := (blk_cell BK146.out 0).trans rfl
                        have hcz53_1 : w52.cell? ⟨gb146, 1, none⟩ = some (.int .i64 ((rd_T40 t141 x35_2).f1)) := (blk_cell BK146.out 1).trans rfl
                        have hcz53_2 : w52.cell? ⟨gb146, 2, none⟩ = some (.int .i64 ((rd_T40 t141 x35_2).f2)) := (blk_cell BK146.out 2).trans rfl
                        have hfz53_0 := blk_frozen BK146.out 0
                        have hfz53_1 := blk_frozen BK146.out 1
                        have hfz53_2 := blk_frozen BK146.out 2
                        try go_wp2
                        go_roundg k2
                        case measure => have := HK1.out; have := HK2.out; omega
                        case rel => exact ⟨(x9_2), (wrap64 (x35_2 + 1)), (by first | rfl | (simp; done) | (rw [bne_nil_isEmpty]; done) | (simp [*]; done)), H', ⟨by have := HK1.out; have := HK2.out; omega⟩, ⟨by (with_reducible repeat (first | apply Kd.R_alloc | apply Kd.R_drewN | apply Kd.R_drew)); exact HO_9.out⟩, ⟨by (with_reducible repeat (first | apply Kd.R_alloc | apply Kd.R_drewN | apply Kd.R_drew)); exact Kd.R_mono HO_33.out (fun _ hk => trivial)⟩, ⟨by (with_reducible repeat (first | refine blk_drewN ?_ _ | refine blk_drew ?_ | refine blk_alloc ?_ _)); exact BK136.out⟩, ⟨by repeat (first | (with_reducible first | exact HB.out | apply below_alloc | apply pw_below_drewN | apply below_drew1 | refine below_set ?_ GE136.out | refine below_set ?_ GE146.out) | exact HB.out)⟩⟩
                  · rw [if_neg c17] at H
                    exact absurd H (by simp)
                · rw [if_neg c16] at H
                  exact absurd H (by simp)
              · rw [if_neg c15] at H
                have c15b0 : decide (x35_2 < (t141.length : Int)) = false := decide_eq_false c15
                clear c15
                have H' := Aside0.mk H
                clear H
                go_wp2
                go_roundg k2
                case measure => have := HK1.out; have := HK2.out; omega
                case rel => exact ⟨(x9_2), (wrap64 (x10_1 + 1)), (by first | rfl | (simp; done) | (rw [bne_nil_isEmpty]; done) | (simp [*]; done)), H', ⟨by have := HK1.out; have := HK2.out; omega⟩, ⟨by (with_reducible repeat (first | apply Kd.R_alloc | apply Kd.R_drewN | apply Kd.R_drew)); exact HO_9.out⟩, ⟨by (with_reducible repeat (first | refine blk_drewN ?_ _ | refine blk_drew ?_ | refine blk_alloc ?_ _)); exact BK136.out⟩, ⟨by repeat (first | (with_reducible first | exact HB.out | apply below_alloc | apply pw_below_drewN | apply below_drew1 | refine below_set ?_ GE136.out) | exact HB.out)⟩⟩
        · rw [if_neg c9] at H
          exact absurd H (by simp)
      · rw [if_neg c8] at H
        have c8b0 : decide (x10_1 < (x9_1.length : Int)) = false := decide_eq_false c8
        clear c8
        obtain rfl := Option.some.inj H
        obtain ⟨Ao54, co54, eo54⟩ := Kd.R_slice HO_9.out
        subst eo54
        go_wp2
        go_ret
        exact ⟨by first | rfl | (simp [errW_none, errW_some] <;> rfl) | (simp [*, errW_none, errW_some] <;> rfl), by repeat (first | (with_reducible first | exact HB.out | apply below_alloc | apply pw_below_drewN | apply below_drew1 | refine below_set ?_ GE136.out) | exact HB.out)⟩

end Go.Proofs.Ytnhkfelpahjgpaa.Qu
