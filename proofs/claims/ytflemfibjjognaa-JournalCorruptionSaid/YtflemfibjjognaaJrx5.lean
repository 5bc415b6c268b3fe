import Derived.Test.YtflemfibjjognaaJrx0
import Derived.Test.YtflemfibjjognaaJrx1
import Derived.Test.YtflemfibjjognaaJrx2
import Derived.Test.YtflemfibjjognaaJrx4
namespace Go.Proofs.Ytflemfibjjognaa.Jr
open Go.RowKit Go.Proofs.YtflemfibjjognaaW.PrintWords Go.Proofs.YtflemfibjjognaaW.PrintLast Go.Proofs.YtflemfibjjognaaW.PrintMore
attribute [local go_sem] max2_int min2_int max_two min_two max_three min_three max_four min_four   -- for this text's walks alone
set_option linter.unusedVariables false
set_option linter.unusedSimpArgs false

attribute [local go_sem high] eqA31
/-! ### journal_scan: function 20 -/
def journal_scan.l0 : Nat → ByteArray → List (S31) → Int → Option ((List (S31)) × Int × Int)
  | 0, _, _, _ => none
  | k + 1, x0, x2, x3 => if 0 ≤ x3 then (if x3 ≤ (x0.size : Int) then ((journal_next.f k (x0.extract (x3 : Int).toNat x0.size)).bind fun bt143 => (if bt143.2.2.2.1 = 0 then (some (x2, x3, bt143.2.2.2.2)) else (if x2.length < 3518437208883 then (journal_scan.l0 k x0 (x2 ++ [(⟨bt143.1, bt143.2.1, bt143.2.2.1⟩ : S31)]) (wrap64 (x3 + bt143.2.2.2.1))) else (none)))) else (none)) else (none)
def journal_scan.f (k : Nat) (a0 : ByteArray) : Option ((List (S31)) × Int × Int) := journal_scan.l0 k a0 ([] : List (S31)) 0
theorem journal_scan.mono_l : ∀ k, (∀ y0 y1 y2, LeO (journal_scan.l0 k y0 y1 y2) (journal_scan.l0 (k + 1) y0 y1 y2))
  | 0 => fun _ _ _ r h => by simp [journal_scan.l0] at h
  | k + 1 => by
    have ih0 := journal_scan.mono_l k
    · intro y0 y1 y2
      unfold journal_scan.l0
      repeat' first
      | (with_reducible exact ih0 _ _ _)
      | (with_reducible exact journal_next.mono _ _)
      | (with_reducible exact LeO.refl _)
      | (with_reducible exact LeO.none _)
      | (with_reducible refine LeO.ite ?_ ?_)
      | (with_reducible refine LeO.bind ?_ (fun _ => ?_))
      | exact ih0 _ _ _
      | exact journal_next.mono _ _
      | exact LeO.none _
      | refine LeO.ite ?_ ?_
      | refine LeO.bind ?_ (fun _ => ?_)
theorem journal_scan.mono : ∀ a0 k, LeO (journal_scan.f k a0) (journal_scan.f (k + 1) a0) := by
  intro a0 k
  have ih0 := journal_scan.mono_l k
  unfold journal_scan.f
  repeat' first
      | (with_reducible exact ih0 _ _ _)
      | (with_reducible exact journal_next.mono _ _)
      | (with_reducible exact LeO.refl _)
      | (with_reducible exact LeO.none _)
      | (with_reducible refine LeO.ite ?_ ?_)
      | (with_reducible refine LeO.bind ?_ (fun _ => ?_))
      | exact ih0 _ _ _
      | exact journal_next.mono _ _
      | exact LeO.none _
      | refine LeO.ite ?_ ?_
      | refine LeO.bind ?_ (fun _ => ?_)
set_option maxHeartbeats 8000000 in
set_option maxRecDepth 100000 in
theorem journal_scan.calls (k : Nat) (a0 : ByteArray) (r1 : List (S31)) (r2 : Int) (r3 : Int) (w : World) (h : journal_scan.f k a0 = some (r1, r2, r3)) :
    Calls Try.prog 20 #[.string a0] w fun e w' => ∃ v0_ : Value, e = .returned (.tuple #[v0_, .int .i64 r2, .int .i64 r3]) ∧ Kd.R k31 31 w' w.heap.size (fun _ => True) v0_ r1 ∧ Below w.heap.size w w' := by
  have hu31 := Try.underlying31
  have HB := Aside0.mk (Below.refl w.heap.size w)
  have H : (journal_scan.l0 k a0 ([] : List (S31)) 0) = some (r1, r2, r3) := h
  clear h
  have H' := Aside0.mk H
  clear H
  go_enter Try.func20, Try.ntmps20
  go_wp2
  go_loopg [2, 3] k (fun kq v2 v3 w' => ∃ (x2_1 : List (S31)) (x3_1 : Int), v3 = .int .i64 x3_1 ∧ Aside0 (journal_scan.l0 kq a0 x2_1 x3_1 = some (r1, r2, r3)) ∧ Aside0 (kq ≤ k) ∧ Aside0 (Kd.R k31 31 w' w.heap.size (fun _ => True) v2 x2_1) ∧ Aside0 (Below w.heap.size w w'))
  case atStart => exact ⟨(([] : List (S31))), (0), (by first | rfl | (simp; done) | (rw [bne_nil_isEmpty]; done) | (simp [*]; done)), H', ⟨Nat.le_refl _⟩, ⟨by first | exact Kd.R_nil _ _ _ _ _ | exact Kd.N_nil _ _ _ _ _ | exact Kd.V_nil _ _ _ _ _ | exact Kd.Q_nil _ _ _ _ _ | exact Kd.S_nil _ _ _ _ _⟩, ⟨by repeat (first | (with_reducible first | exact HB.out | apply below_alloc | apply pw_below_drewN | apply below_drew1) | exact HB.out)⟩⟩
  case round =>
    clear H'
    obtain ⟨x2_1, x3_1, rfl, HA, HK1, HO_2, HB⟩ := hrel
    cases gk with
    | zero => exact absurd HA.out (by simp [journal_scan.l0])
    | succ k1 =>
      have H := HA.out
      clear HA
      simp only [journal_scan.l0] at H
      by_cases c2 : 0 ≤ x3_1
      · rw [if_pos c2] at H
        have c2b0 := eq_true c2
        have c2b1 : decide (0 ≤ x3_1) = true := decide_eq_true c2
        clear c2
        by_cases c3 : x3_1 ≤ (a0.size : Int)
        · rw [if_pos c3] at H
          have c3b0 := eq_true c3
          have c3b1 : decide (x3_1 ≤ (a0.size : Int)) = true := decide_eq_true c3
          clear c3
          replace H := Option.bind_eq_some_iff.mp H
          obtain ⟨⟨t143, t144, t145, t146, t147⟩, A40, H⟩ := H
          replace H : (if t146 = 0 then (some (x2_1, x3_1, t147)) else (if x2_1.length < 3518437208883 then (journal_scan.l0 k1 a0 (x2_1 ++ [(⟨t143, t144, t145⟩ : S31)]) (wrap64 (x3_1 + t146))) else (none))) = some (r1, r2, r3) := H
          have A4 := Aside0.mk A40
          clear A40
          by_cases c5 : t146 = 0
          · rw [if_pos c5] at H
            have c5b0 : (t146 == 0) = true := beq_iff_eq.mpr c5
            have c5b1 : (t146 != 0) = false := bne_eq_false_iff_eq.mpr c5
            clear c5
            simp only [Option.some.injEq, Prod.mk.injEq] at H
            obtain ⟨rfl, rfl, rfl⟩ := H
            go_wp2_with (first | ((with_reducible refine gate_callee (f := 28) rfl ?_); refine goesL_ (some 12) rfl rfl Try.func28 (by kernel_rfl) rfl #[.string (a0.extract (x3_1 : Int).toNat a0.size)] rfl (by (try simp only [List.map_toArray, List.map_cons, List.map_nil]); first | done | rfl | (simp only [List.length_drop, List.length_take]; rfl)) ?_; (with_reducible refine (journal_next.calls k1 (a0.extract (x3_1 : Int).toNat a0.size) t143 t144 t145 t146 t147 _ A4.out).mono ?_); rintro e w6 ⟨rfl, hb⟩; refine ⟨_, rfl, ?_⟩; have n0_ := Aside0.mk (Kd.R_below (by (with_reducible repeat (first | apply Kd.R_alloc | apply Kd.R_drewN | apply Kd.R_drew)); exact HO_2.out) hb); have n1_ := Aside0.mk (below_step (by repeat (first | (with_reducible first | exact HB.out | apply below_alloc | apply pw_below_drewN | apply below_drew1) | exact HB.out)) hb); clear HO_2; clear HB; have HO_2 := n0_; have HB := n1_; clear n0_ n1_; (try clear hb); (try clear hb2); (try clear hk); (try clear hi)) | ((with_reducible refine gate_dst (N := 5) rfl ?_); refine box_event ?hg (N := 5) ?hd (cs := #[.string (⟨#[]⟩ : ByteArray), .string (⟨#[]⟩ : ByteArray), .bool false]) (t := 31) ?hr ?_; (case hd => rfl); (case hg => rfl); (case hr => first | (go_simp; done) | (go_simp; rfl)); intro gb148 hg w7 hbox hb; have n0_ := Aside0.mk (Kd.R_below (Kd.R_elderB (by (with_reducible repeat (first | apply Kd.R_alloc | apply Kd.R_drewN | apply Kd.R_drew)); exact HO_2.out) gb148 (Nat.le_of_eq hg.symm)) hb); have n1_ := Aside0.mk (below_step (by repeat (first | (with_reducible first | exact HB.out | apply below_alloc | apply pw_below_drewN | apply below_drew1) | exact HB.out)) hb); have n2_ := Aside0.mk (hbox); have n3_ := Aside0.mk ((by rw [hg]; exact (below_size (by repeat (first | (with_reducible first | exact HB.out | apply below_alloc | apply pw_below_drewN | apply below_drew1) | exact HB.out))) : w.heap.size ≤ gb148)); have n4_ := Aside0.mk ((by rw [hg]; exact (below_size (by repeat (first | (with_reducible first | exact HB.out | apply below_alloc | apply pw_below_drewN | apply below_drew1) | exact HB.out))) : w.heap.size ≤ gb148)); clear HO_2; clear HB; have HO_2 := n0_; have HB := n1_; have BK148 := n2_; have GW148 := n3_; have GE148 := n4_; clear n0_ n1_ n2_ n3_ n4_; clear hb hbox hg; have hcz8_0 : w7.cell? ⟨gb148, 0, none⟩ = some (.string (⟨#[]⟩ : ByteArray)) := (blk_cell BK148.out 0).trans rfl; have hcz8_1 : w7.cell? ⟨gb148, 1, none⟩ = some (.string (⟨#[]⟩ : ByteArray)) := (blk_cell BK148.out 1).trans rfl; have hcz8_2 : w7.cell? ⟨gb148, 2, none⟩ = some (.bool false) := (blk_cell BK148.out 2).trans rfl; have hfz8_0 := blk_frozen BK148.out 0; have hfz8_1 := blk_frozen BK148.out 1; have hfz8_2 := blk_frozen BK148.out 2))
            go_ret3
            exact ⟨_, by first | rfl | (simp [errW_none, errW_some] <;> rfl) | (simp [*, errW_none, errW_some] <;> rfl), by (with_reducible repeat (first | apply Kd.R_alloc | apply Kd.R_drewN | apply Kd.R_drew)); exact Kd.R_mono (Kd.R_far (p := ⟨gb148, 2, none⟩) (Kd.R_far (p := ⟨gb148, 1, none⟩) (Kd.R_far (p := ⟨gb148, 0, none⟩) (Kd.R_mono HO_2.out (fun k_ hk => (⟨hk, hk.2⟩ : _ ∧ k_ ≠ gb148))) (fun _ hk => hk.2) (.string t143)) (fun _ hk => hk.2) (.string t144)) (fun _ hk => hk.2) (.bool t145)) (fun _ hk => trivial), by repeat (first | (with_reducible first | exact HB.out | apply below_alloc | apply pw_below_drewN | apply below_drew1 | refine below_set ?_ GE148.out) | exact HB.out)⟩
          · rw [if_neg c5] at H
            have c5b0 : (t146 == 0) = false := beq_eq_false_iff_ne.mpr c5
            have c5b1 : (t146 != 0) = true := bne_iff_ne.mpr c5
            by_cases c9 : x2_1.length < 3518437208883
            · rw [if_pos c9] at H
              have LMc9 := Aside0.mk c9
              clear c9
              obtain ⟨y149, hy149⟩ : ∃ y_ : List (S31), y_ = (x2_1 ++ [(⟨t143, t144, t145⟩ : S31)]) := ⟨_, rfl⟩
              replace H : (journal_scan.l0 k1 a0 y149 (wrap64 (x3_1 + t146))) = some (r1, r2, r3) := by first | (rw [hy149]; with_reducible exact H) | (have H2_ := (Option.bind_some _ _).symm.trans H; rw [hy149]; with_reducible exact H2_) | (have H2_ := (Option.bind_some _ _).symm.trans H; with_reducible exact H2_) | with_reducible exact H | (rw [hy149]; exact H) | exact H
              have Ny149 := Aside0.mk hy149
              clear hy149
              have H' := Aside0.mk H
              clear H
              go_wp2_with (first | ((with_reducible refine gate_callee (f := 28) rfl ?_); refine goesL_ (some 12) rfl rfl Try.func28 (by kernel_rfl) rfl #[.string (a0.extract (x3_1 : Int).toNat a0.size)] rfl (by (try simp only [List.map_toArray, List.map_cons, List.map_nil]); first | done | rfl | (simp only [List.length_drop, List.length_take]; rfl)) ?_; (with_reducible refine (journal_next.calls k1 (a0.extract (x3_1 : Int).toNat a0.size) t143 t144 t145 t146 t147 _ A4.out).mono ?_); rintro e w10 ⟨rfl, hb⟩; refine ⟨_, rfl, ?_⟩; have n0_ := Aside0.mk (Kd.R_below (by (with_reducible repeat (first | apply Kd.R_alloc | apply Kd.R_drewN | apply Kd.R_drew)); exact HO_2.out) hb); have n1_ := Aside0.mk (below_step (by repeat (first | (with_reducible first | exact HB.out | apply below_alloc | apply pw_below_drewN | apply below_drew1) | exact HB.out)) hb); clear HO_2; clear HB; have HO_2 := n0_; have HB := n1_; clear n0_ n1_; (try clear hb); (try clear hb2); (try clear hk); (try clear hi)) | ((with_reducible refine gate_dst (N := 5) rfl ?_); refine box_event ?hg (N := 5) ?hd (cs := #[.string (⟨#[]⟩ : ByteArray), .string (⟨#[]⟩ : ByteArray), .bool false]) (t := 31) ?hr ?_; (case hd => rfl); (case hg => rfl); (case hr => first | (go_simp; done) | (go_simp; rfl)); intro gb148 hg w11 hbox hb; have n0_ := Aside0.mk (Kd.R_below (Kd.R_elderB (by (with_reducible repeat (first | apply Kd.R_alloc | apply Kd.R_drewN | apply Kd.R_drew)); exact HO_2.out) gb148 (Nat.le_of_eq hg.symm)) hb); have n1_ := Aside0.mk (below_step (by repeat (first | (with_reducible first | exact HB.out | apply below_alloc | apply pw_below_drewN | apply below_drew1) | exact HB.out)) hb); have n2_ := Aside0.mk (hbox); have n3_ := Aside0.mk ((by rw [hg]; exact (below_size (by repeat (first | (with_reducible first | exact HB.out | apply below_alloc | apply pw_below_drewN | apply below_drew1) | exact HB.out))) : w.heap.size ≤ gb148)); have n4_ := Aside0.mk ((by rw [hg]; exact (below_size (by repeat (first | (with_reducible first | exact HB.out | apply below_alloc | apply pw_below_drewN | apply below_drew1) | exact HB.out))) : w.heap.size ≤ gb148)); clear HO_2; clear HB; have HO_2 := n0_; have HB := n1_; have BK148 := n2_; have GW148 := n3_; have GE148 := n4_; clear n0_ n1_ n2_ n3_ n4_; clear hb hbox hg; have hcz12_0 : w11.cell? ⟨gb148, 0, none⟩ = some (.string (⟨#[]⟩ : ByteArray)) := (blk_cell BK148.out 0).trans rfl; have hcz12_1 : w11.cell? ⟨gb148, 1, none⟩ = some (.string (⟨#[]⟩ : ByteArray)) := (blk_cell BK148.out 1).trans rfl; have hcz12_2 : w11.cell? ⟨gb148, 2, none⟩ = some (.bool false) := (blk_cell BK148.out 2).trans rfl; have hfz12_0 := blk_frozen BK148.out 0; have hfz12_1 := blk_frozen BK148.out 1; have hfz12_2 := blk_frozen BK148.out 2) | ((with_reducible refine gate_builtin (b := .append) (xs := #[.tmp 21, .tmp 23]) rfl ?_); at_builtin; refine Kd.R_append k31 (w0 := w) w.heap.size rfl (.tmp 21) (.tmp 23) 22 31 (.agg #[(.string ⟨#[]⟩), (.string ⟨#[]⟩), (.bool false)]) 40 rfl Try.underlying22 info31 rfl (by decide) (by omega) u2 x2_1 (⟨t143, t144, t145⟩ : S31) [.string t143, .string t144, .bool t145] (fun k_ => k_ ≠ gb148) (fun _ => False) rfl (by first | (go_simp; done) | (go_simp; rfl)) ?aP (fun _ hk => hk.elim) ?aF ?aO ?aB ?aS ?aL ?_; (case aP => exact k31_mkM _ _ _ (⟨t143, t144, t145⟩ : S31)); (case aB => exact (by repeat (first | (with_reducible first | exact HB.out | apply below_alloc | apply pw_below_drewN | apply below_drew1 | refine below_set ?_ GE148.out) | exact HB.out))); (case aF => exact (fun k_ hk => Kd.freshB (g := gb148) (o := .cells #[.string t143, .string t144, .bool t145] 31 (0, 0)) (by (with_reducible repeat (first | refine blk_drewN ?_ _ | refine blk_drew ?_ | refine blk_alloc ?_ _)); refine blk_put (cs := #[.string t143, .string t144, .bool false]) ?_ 2 _ rfl; (with_reducible repeat (first | refine blk_drewN ?_ _ | refine blk_drew ?_ | refine blk_alloc ?_ _)); refine blk_put (cs := #[.string t143, .string (⟨#[]⟩ : ByteArray), .bool false]) ?_ 1 _ rfl; (with_reducible repeat (first | refine blk_drewN ?_ _ | refine blk_drew ?_ | refine blk_alloc ?_ _)); refine blk_put (cs := #[.string (⟨#[]⟩ : ByteArray), .string (⟨#[]⟩ : ByteArray), .bool false]) ?_ 0 _ rfl; (with_reducible repeat (first | refine blk_drewN ?_ _ | refine blk_drew ?_ | refine blk_alloc ?_ _)); exact BK148.out) k_ hk)); (case aO => exact (by (with_reducible repeat (first | apply Kd.R_alloc | apply Kd.R_drewN | apply Kd.R_drew)); exact Kd.R_mono (Kd.R_far (p := ⟨gb148, 2, none⟩) (Kd.R_far (p := ⟨gb148, 1, none⟩) (Kd.R_far (p := ⟨gb148, 0, none⟩) (Kd.R_mono HO_2.out (fun k_ hk => (⟨hk, hk.2⟩ : _ ∧ k_ ≠ gb148))) (fun _ hk => hk.2) (.string t143)) (fun _ hk => hk.2) (.string t144)) (fun _ hk => hk.2) (.bool t145)) (fun _ hk => hk.1.2))); (case aS => exact (below_size (by repeat (first | (with_reducible first | exact HB.out | apply below_alloc | apply pw_below_drewN | apply below_drew1 | refine below_set ?_ GE148.out) | exact HB.out)))); (case aL => have := LMc9.out; omega); intro v150 w13 ho hb hg hat; rw [← Ny149.out] at ho; have n0_ := Aside0.mk (blk_grown (g := gb148) (o := .cells #[.string t143, .string t144, .bool t145] 31 (0, 0)) (by (with_reducible repeat (first | refine blk_drewN ?_ _ | refine blk_drew ?_ | refine blk_alloc ?_ _)); refine blk_put (cs := #[.string t143, .string t144, .bool false]) ?_ 2 _ rfl; (with_reducible repeat (first | refine blk_drewN ?_ _ | refine blk_drew ?_ | refine blk_alloc ?_ _)); refine blk_put (cs := #[.string t143, .string (⟨#[]⟩ : ByteArray), .bool false]) ?_ 1 _ rfl; (with_reducible repeat (first | refine blk_drewN ?_ _ | refine blk_drew ?_ | refine blk_alloc ?_ _)); refine blk_put (cs := #[.string (⟨#[]⟩ : ByteArray), .string (⟨#[]⟩ : ByteArray), .bool false]) ?_ 0 _ rfl; (with_reducible repeat (first | refine blk_drewN ?_ _ | refine blk_drew ?_ | refine blk_alloc ?_ _)); exact BK148.out) hg (Kd.R_away HO_2.out (fun _ hk => hk.2))); have n1_ := Aside0.mk (hb); have n2_ := Aside0.mk (ho); clear BK148; clear HB; clear HO_2; have BK148 := n0_; have HB := n1_; have HO151 := n2_; clear n0_ n1_ n2_; clear ho hb hg hat))
              go_roundg k1
              case measure => have := HK1.out; omega
              case rel => exact ⟨(y149), (wrap64 (x3_1 + t146)), (by first | rfl | (simp; done) | (rw [bne_nil_isEmpty]; done) | (simp [*]; done)), H', ⟨by have := HK1.out; omega⟩, ⟨by (with_reducible repeat (first | apply Kd.R_alloc | apply Kd.R_drewN | apply Kd.R_drew)); exact Kd.R_mono HO151.out (fun _ hk => trivial)⟩, ⟨by repeat (first | (with_reducible first | exact HB.out | apply below_alloc | apply pw_below_drewN | apply below_drew1 | refine below_set ?_ GE148.out) | exact HB.out)⟩⟩
            · rw [if_neg c9] at H
              exact absurd H (by simp)
        · rw [if_neg c3] at H
          exact absurd H (by simp)
      · rw [if_neg c2] at H
        exact absurd H (by simp)

/-! ### journal_Read: function 10 -/
def journal_Read.f (k : Nat) (a0 : ByteArray) : Option ((List (S31)) × Int × Int) := if (a0.size : Int) > 40000 then (some (([] : List (S31)), 0, 2)) else ((journal_scan.f k a0).bind fun bt152 => (if bt152.2.2 = 0 then (some (bt152.1, bt152.2.1, 0)) else (some (([] : List (S31)), 0, bt152.2.2))))
theorem journal_Read.mono : ∀ a0 k, LeO (journal_Read.f k a0) (journal_Read.f (k + 1) a0) := by
  intro a0 k
  unfold journal_Read.f
  repeat' first
      | (with_reducible exact journal_scan.mono _ _)
      | (with_reducible exact LeO.refl _)
      | (with_reducible exact LeO.none _)
      | (with_reducible refine LeO.ite ?_ ?_)
      | (with_reducible refine LeO.bind ?_ (fun _ => ?_))
      | exact journal_scan.mono _ _
      | exact LeO.none _
      | refine LeO.ite ?_ ?_
      | refine LeO.bind ?_ (fun _ => ?_)
set_option maxHeartbeats 8000000 in
set_option maxRecDepth 100000 in
theorem journal_Read.calls (k : Nat) (a0 : ByteArray) (r1 : List (S31)) (r2 : Int) (r3 : Int) (w : World) (h : journal_Read.f k a0 = some (r1, r2, r3)) :
    Calls Try.prog 10 #[.string a0] w fun e w' => ∃ v0_ : Value, e = .returned (.tuple #[v0_, .int .i64 r2, .int .i64 r3]) ∧ Kd.R k31 31 w' w.heap.size (fun _ => True) v0_ r1 ∧ Below w.heap.size w w' := by
  have HB := Aside0.mk (Below.refl w.heap.size w)
  have H : (if (a0.size : Int) > 40000 then (some (([] : List (S31)), 0, 2)) else ((journal_scan.f k a0).bind fun bt152 => (if bt152.2.2 = 0 then (some (bt152.1, bt152.2.1, 0)) else (some (([] : List (S31)), 0, bt152.2.2))))) = some (r1, r2, r3) := h
  clear h
  by_cases c2 : (a0.size : Int) > 40000
  · rw [if_pos c2] at H
    have c2b0 : decide (40000 < (a0.size : Int)) = true := decide_eq_true c2
    have c2b1 : decide (40000 < a0.size) = true := decide_eq_true (by omega)
    clear c2
    simp only [Option.some.injEq, Prod.mk.injEq] at H
    obtain ⟨rfl, rfl, rfl⟩ := H
    go_enter Try.func10, Try.ntmps10
    go_wp2
    go_ret3
    exact ⟨_, by first | rfl | (simp [errW_none, errW_some] <;> rfl) | (simp [*, errW_none, errW_some] <;> rfl), by first | exact Kd.R_nil _ _ _ _ _ | exact Kd.N_nil _ _ _ _ _ | exact Kd.V_nil _ _ _ _ _ | exact Kd.Q_nil _ _ _ _ _ | exact Kd.S_nil _ _ _ _ _, by repeat (first | (with_reducible first | exact HB.out | apply below_alloc | apply pw_below_drewN | apply below_drew1) | exact HB.out)⟩
  · rw [if_neg c2] at H
    have c2b0 : decide (40000 < (a0.size : Int)) = false := decide_eq_false c2
    have c2b1 : decide (40000 < a0.size) = false := decide_eq_false (by omega)
    clear c2
    replace H := Option.bind_eq_some_iff.mp H
    obtain ⟨⟨t152, t153, t154⟩, A30, H⟩ := H
    replace H : (if t154 = 0 then (some (t152, t153, 0)) else (some (([] : List (S31)), 0, t154))) = some (r1, r2, r3) := H
    have A3 := Aside0.mk A30
    clear A30
    by_cases c4 : t154 = 0
    · rw [if_pos c4] at H
      have c4b0 : (t154 == 0) = true := beq_iff_eq.mpr c4
      have c4b1 : (t154 != 0) = false := bne_eq_false_iff_eq.mpr c4
      clear c4
      simp only [Option.some.injEq, Prod.mk.injEq] at H
      obtain ⟨rfl, rfl, rfl⟩ := H
      go_enter Try.func10, Try.ntmps10
      go_wp2_with (first | ((with_reducible refine gate_callee (f := 20) rfl ?_); refine goesL_ (some 13) rfl rfl Try.func20 (by kernel_rfl) rfl #[.string a0] rfl (by (try simp only [List.map_toArray, List.map_cons, List.map_nil]); first | done | rfl | (simp only [List.length_drop, List.length_take]; rfl)) ?_; (with_reducible refine (journal_scan.calls k a0 t152 t153 t154 _ A3.out).mono ?_); rintro e w5 ⟨v155, rfl, ho0, hb⟩; refine ⟨_, rfl, ?_⟩; have n0_ := Aside0.mk (Kd.R_lower ho0 (below_size (by repeat (first | (with_reducible first | exact HB.out | apply below_alloc | apply pw_below_drewN | apply below_drew1) | exact HB.out)))); have n1_ := Aside0.mk (below_step (by repeat (first | (with_reducible first | exact HB.out | apply below_alloc | apply pw_below_drewN | apply below_drew1) | exact HB.out)) hb); clear HB; have HO156 := n0_; have HB := n1_; clear n0_ n1_; (try clear hb); (try clear hb2); (try clear hk); (try clear hi); (try clear ho0)))
      go_ret3
      exact ⟨_, by first | rfl | (simp [errW_none, errW_some] <;> rfl) | (simp [*, errW_none, errW_some] <;> rfl), by (with_reducible repeat (first | apply Kd.R_alloc | apply Kd.R_drewN | apply Kd.R_drew)); exact HO156.out, by repeat (first | (with_reducible first | exact HB.out | apply below_alloc | apply pw_below_drewN | apply below_drew1) | exact HB.out)⟩
    · rw [if_neg c4] at H
      have c4b0 : (t154 == 0) = false := beq_eq_false_iff_ne.mpr c4
      have c4b1 : (t154 != 0) = true := bne_iff_ne.mpr c4
      simp only [Option.some.injEq, Prod.mk.injEq] at H
      obtain ⟨rfl, rfl, rfl⟩ := H
      go_enter Try.func10, Try.ntmps10
      go_wp2_with (first | ((with_reducible refine gate_callee (f := 20) rfl ?_); refine goesL_ (some 13) rfl rfl Try.func20 (by kernel_rfl) rfl #[.string a0] rfl (by (try simp only [List.map_toArray, List.map_cons, List.map_nil]); first | done | rfl | (simp only [List.length_drop, List.length_take]; rfl)) ?_; (with_reducible refine (journal_scan.calls k a0 t152 t153 t154 _ A3.out).mono ?_); rintro e w6 ⟨v155, rfl, ho0, hb⟩; refine ⟨_, rfl, ?_⟩; have n0_ := Aside0.mk (Kd.R_lower ho0 (below_size (by repeat (first | (with_reducible first | exact HB.out | apply below_alloc | apply pw_below_drewN | apply below_drew1) | exact HB.out)))); have n1_ := Aside0.mk (below_step (by repeat (first | (with_reducible first | exact HB.out | apply below_alloc | apply pw_below_drewN | apply below_drew1) | exact HB.out)) hb); clear HB; have HO156 := n0_; have HB := n1_; clear n0_ n1_; (try clear hb); (try clear hb2); (try clear hk); (try clear hi); (try clear ho0)))
      go_ret3
      exact ⟨_, by first | rfl | (simp [errW_none, errW_some] <;> rfl) | (simp [*, errW_none, errW_some] <;> rfl), by first | exact Kd.R_nil _ _ _ _ _ | exact Kd.N_nil _ _ _ _ _ | exact Kd.V_nil _ _ _ _ _ | exact Kd.Q_nil _ _ _ _ _ | exact Kd.S_nil _ _ _ _ _, by repeat (first | (with_reducible first | exact HB.out | apply below_alloc | apply pw_below_drewN | apply below_drew1) | exact HB.out)⟩

/-! ### api_QRecord: function 11 -/
def api_QRecord.l0 : Nat → List (S31) → List (S31) → Int → Int → Option (Bool)
  | 0, _, _, _, _ => none
  | k + 1, x1, x12, x13, x14 => if x14 < x13 then (if 0 ≤ x14 then (if x14 < (x12.length : Int) then (if x14 < (x1.length : Int) then (if (!((((rd_T31 x12 x14).f0).toList) == (((rd_T31 x1 x14).f0).toList)) || (!((((rd_T31 x12 x14).f1).toList) == (((rd_T31 x1 x14).f1).toList)) || (!(((rd_T31 x12 x14).f2) == ((rd_T31 x1 x14).f2))))) = true then (some false) else (api_QRecord.l0 k x1 x12 x13 (wrap64 (x14 + 1)))) else (none)) else (none)) else (none)) else (some true)
def api_QRecord.f (k : Nat) (l0 : List (S31)) (l1 : List (S31)) : Option (Bool) := if (l0.length : Int) = (l1.length : Int) then (api_QRecord.l0 k l1 l0 (l0.length : Int) 0) else (some false)
theorem api_QRecord.mono_l : ∀ k, (∀ y0 y1 y2 y3, LeO (api_QRecord.l0 k y0 y1 y2 y3) (api_QRecord.l0 (k + 1) y0 y1 y2 y3))
  | 0 => fun _ _ _ _ r h => by simp [api_QRecord.l0] at h
  | k + 1 => by
    have ih0 := api_QRecord.mono_l k
    · intro y0 y1 y2 y3
      unfold api_QRecord.l0
      repeat' first
      | (with_reducible exact ih0 _ _ _ _)
      | (with_reducible exact LeO.refl _)
      | (with_reducible exact LeO.none _)
      | (with_reducible refine LeO.ite ?_ ?_)
      | (with_reducible refine LeO.bind ?_ (fun _ => ?_))
      | exact ih0 _ _ _ _
      | exact LeO.none _
      | refine LeO.ite ?_ ?_
      | refine LeO.bind ?_ (fun _ => ?_)
theorem api_QRecord.mono : ∀ a0 a1 k, LeO (api_QRecord.f k a0 a1) (api_QRecord.f (k + 1) a0 a1) := by
  intro a0 a1 k
  have ih0 := api_QRecord.mono_l k
  unfold api_QRecord.f
  repeat' first
      | (with_reducible exact ih0 _ _ _ _)
      | (with_reducible exact LeO.refl _)
      | (with_reducible exact LeO.none _)
      | (with_reducible refine LeO.ite ?_ ?_)
      | (with_reducible refine LeO.bind ?_ (fun _ => ?_))
      | exact ih0 _ _ _ _
      | exact LeO.none _
      | refine LeO.ite ?_ ?_
      | refine LeO.bind ?_ (fun _ => ?_)
set_option maxHeartbeats 8000000 in
set_option maxRecDepth 100000 in
theorem api_QRecord.calls (k : Nat) (A0 : Option Addr) (c0 : Nat) (l0 : List (S31)) (A1 : Option Addr) (c1 : Nat) (l1 : List (S31)) (r : Bool) (w : World) (hr0 : Kd.C k31 w A0 l0.length l0) (hc0 : l0.length ≤ c0) (hr1 : Kd.C k31 w A1 l1.length l1) (hc1 : l1.length ≤ c1) (h : api_QRecord.f k l0 l1 = some r) :
    Calls Try.prog 11 #[.slice A0 l0.length c0, .slice A1 l1.length c1] w fun e w' => e = .returned (.bool r) ∧ Below w.heap.size w w' := by
  have hu31 := Try.underlying31
  have HR0 := Aside0.mk hr0
  have HC0 := Aside0.mk hc0
  clear hr0 hc0
  have HR1 := Aside0.mk hr1
  have HC1 := Aside0.mk hc1
  clear hr1 hc1
  have HB := Aside0.mk (Below.refl w.heap.size w)
  have H : (if (l0.length : Int) = (l1.length : Int) then (api_QRecord.l0 k l1 l0 (l0.length : Int) 0) else (some false)) = some r := h
  clear h
  by_cases c3 : (l0.length : Int) = (l1.length : Int)
  · rw [if_pos c3] at H
    have c3b0 : ((l0.length : Int) == (l1.length : Int)) = true := beq_iff_eq.mpr c3
    have c3b1 : ((l0.length : Int) != (l1.length : Int)) = false := bne_eq_false_iff_eq.mpr c3
    have c3b2 : (l0.length == l1.length) = true := by first | simpa using c3 | (simp at c3 ⊢; omega)
    clear c3
    have H' := Aside0.mk H
    clear H
    go_enter Try.func11, Try.ntmps11
    go_wp2
    repeat (go_quiet (fail); try go_wp2)
    go_loopg [14] k (fun kq v14 w' => ∃ (x14_1 : Int), v14 = .int .i64 x14_1 ∧ Aside0 (api_QRecord.l0 kq l1 l0 (l0.length : Int) x14_1 = some r) ∧ Aside0 (kq ≤ k) ∧ Aside0 (Below w.heap.size w w'))
    case atStart => exact ⟨(0), (by first | rfl | (simp; done) | (rw [bne_nil_isEmpty]; done) | (simp [*]; done)), H', ⟨Nat.le_refl _⟩, ⟨by repeat (first | (with_reducible first | exact HB.out | apply below_alloc | apply pw_below_drewN | apply below_drew1) | exact HB.out)⟩⟩
    case round =>
      clear H'
      try clear c1
      try clear p2
      try clear c3
      try clear c3b0
      try clear c3b1
      try clear c3b2
      obtain ⟨x14_1, rfl, HA, HK1, HB⟩ := hrel
      cases gk with
      | zero => exact absurd HA.out (by simp [api_QRecord.l0])
      | succ k1 =>
        have H := HA.out
        clear HA
        simp only [api_QRecord.l0] at H
        by_cases c4 : x14_1 < (l0.length : Int)
        · rw [if_pos c4] at H
          have c4b0 : decide (x14_1 < (l0.length : Int)) = true := decide_eq_true c4
          clear c4
          by_cases c5 : 0 ≤ x14_1
          · rw [if_pos c5] at H
            have c5b0 : decide (0 ≤ x14_1) = true := decide_eq_true c5
            clear c5
            by_cases c6 : x14_1 < (l0.length : Int)
            · rw [if_pos c6] at H
              have c6b0 : decide (x14_1 < (l0.length : Int)) = true := decide_eq_true c6
              clear c6
              by_cases c7 : x14_1 < (l1.length : Int)
              · rw [if_pos c7] at H
                have c7b0 : decide (x14_1 < (l1.length : Int)) = true := decide_eq_true c7
                clear c7
                by_cases c8 : (!((((rd_T31 l0 x14_1).f0).toList) == (((rd_T31 l1 x14_1).f0).toList)) || (!((((rd_T31 l0 x14_1).f1).toList) == (((rd_T31 l1 x14_1).f1).toList)) || (!(((rd_T31 l0 x14_1).f2) == ((rd_T31 l1 x14_1).f2))))) = true
                · rw [if_pos c8] at H
                  have c8b0 : (!((((rd_T31 l0 x14_1).f0).toList) == (((rd_T31 l1 x14_1).f0).toList)) || (!((((rd_T31 l0 x14_1).f1).toList) == (((rd_T31 l1 x14_1).f1).toList)) || (!(((rd_T31 l0 x14_1).f2) == ((rd_T31 l1 x14_1).f2))))) = true := c8
                  clear c8
                  obtain rfl := Option.some.inj H
                  have p157 : 0 ≤ (x14_1 : Int) := of_decide_eq_true (by first | (with_reducible assumption) | assumption)
                  have q157 : x14_1 < (l0.length : Int) := of_decide_eq_true (by first | (with_reducible assumption) | assumption)
                  obtain ⟨ad157, e157, hx157_0, hx157_1, hx157_2⟩ := at_T31 HR0.out x14_1 p157 q157
                  cases e157
                  replace hx157_0 := (HB.out.cell (World.block_lt_of_cell? w _ hx157_0)).trans hx157_0
                  replace hx157_1 := (HB.out.cell (World.block_lt_of_cell? w _ hx157_1)).trans hx157_1
                  replace hx157_2 := (HB.out.cell (World.block_lt_of_cell? w _ hx157_2)).trans hx157_2
                  replace p157 := eq_true p157
                  replace q157 := eq_true q157
                  go_wp2_with (first | ((with_reducible refine gate_dst (N := 6) rfl ?_); refine box_event ?hg (N := 6) ?hd (cs := #[.string (⟨#[]⟩ : ByteArray), .string (⟨#[]⟩ : ByteArray), .bool false]) (t := 31) ?hr ?_; (case hd => rfl); (case hg => rfl); (case hr => first | (go_simp; done) | (go_simp; rfl)); intro gb158 hg w9 hbox hb; have n0_ := Aside0.mk (below_step (by repeat (first | (with_reducible first | exact HB.out | apply below_alloc | apply pw_below_drewN | apply below_drew1) | exact HB.out)) hb); have n1_ := Aside0.mk (hbox); have n2_ := Aside0.mk ((by rw [hg]; exact (below_size (by repeat (first | (with_reducible first | exact HB.out | apply below_alloc | apply pw_below_drewN | apply below_drew1) | exact HB.out))) : w.heap.size ≤ gb158)); have n3_ := Aside0.mk ((by rw [hg]; exact (below_size (by repeat (first | (with_reducible first | exact HB.out | apply below_alloc | apply pw_below_drewN | apply below_drew1) | exact HB.out))) : w.heap.size ≤ gb158)); clear HB; have HB := n0_; have BK158 := n1_; have GW158 := n2_; have GE158 := n3_; clear n0_ n1_ n2_ n3_; clear hb hbox hg; have hcz10_0 : w9.cell? ⟨gb158, 0, none⟩ = some (.string (⟨#[]⟩ : ByteArray)) := (blk_cell BK158.out 0).trans rfl; have hcz10_1 : w9.cell? ⟨gb158, 1, none⟩ = some (.string (⟨#[]⟩ : ByteArray)) := (blk_cell BK158.out 1).trans rfl; have hcz10_2 : w9.cell? ⟨gb158, 2, none⟩ = some (.bool false) := (blk_cell BK158.out 2).trans rfl; have hfz10_0 := blk_frozen BK158.out 0; have hfz10_1 := blk_frozen BK158.out 1; have hfz10_2 := blk_frozen BK158.out 2; have p159 : 0 ≤ (x14_1 : Int) := of_decide_eq_true (by first | (with_reducible assumption) | assumption); have q159 : x14_1 < (l1.length : Int) := of_decide_eq_true (by first | (with_reducible assumption) | assumption); obtain ⟨ad159, e159, hx159_0, hx159_1, hx159_2⟩ := at_T31 HR1.out x14_1 p159 q159; cases e159; have hn159_0 : ad159.block ≠ gb158 := Nat.ne_of_lt (Nat.lt_of_lt_of_le (by have := World.block_lt_of_cell? _ _ hx159_0; first | rwa [add_block] at this | exact this) GW158.out); have hn159_1 : ad159.block ≠ gb158 := Nat.ne_of_lt (Nat.lt_of_lt_of_le (by have := World.block_lt_of_cell? _ _ hx159_0; first | rwa [add_block] at this | exact this) GW158.out); have hn159_2 : ad159.block ≠ gb158 := Nat.ne_of_lt (Nat.lt_of_lt_of_le (by have := World.block_lt_of_cell? _ _ hx159_0; first | rwa [add_block] at this | exact this) GW158.out); replace hx159_0 := (HB.out.cell (World.block_lt_of_cell? w _ hx159_0)).trans hx159_0; replace hx159_1 := (HB.out.cell (World.block_lt_of_cell? w _ hx159_1)).trans hx159_1; replace hx159_2 := (HB.out.cell (World.block_lt_of_cell? w _ hx159_2)).trans hx159_2; replace hx159_0 := (cell_far (p := ⟨gb158, 0, none⟩) (by first | (rw [add_block]; exact hn159_0) | (show (Addr.add _ _).block ≠ _; rw [add_block]; exact hn159_0) | exact hn159_0) (.string ((rd_T31 l0 x14_1).f0))).trans hx159_0; replace hx159_1 := (cell_far (p := ⟨gb158, 0, none⟩) (by first | (rw [add_block]; exact hn159_0) | (show (Addr.add _ _).block ≠ _; rw [add_block]; exact hn159_0) | exact hn159_0) (.string ((rd_T31 l0 x14_1).f0))).trans hx159_1; replace hx159_2 := (cell_far (p := ⟨gb158, 0, none⟩) (by first | (rw [add_block]; exact hn159_0) | (show (Addr.add _ _).block ≠ _; rw [add_block]; exact hn159_0) | exact hn159_0) (.string ((rd_T31 l0 x14_1).f0))).trans hx159_2; replace hx159_0 := (cell_far (p := ⟨gb158, 1, none⟩) (by first | (rw [add_block]; exact hn159_1) | (show (Addr.add _ _).block ≠ _; rw [add_block]; exact hn159_1) | exact hn159_1) (.string ((rd_T31 l0 x14_1).f1))).trans hx159_0; replace hx159_1 := (cell_far (p := ⟨gb158, 1, none⟩) (by first | (rw [add_block]; exact hn159_1) | (show (Addr.add _ _).block ≠ _; rw [add_block]; exact hn159_1) | exact hn159_1) (.string ((rd_T31 l0 x14_1).f1))).trans hx159_1; replace hx159_2 := (cell_far (p := ⟨gb158, 1, none⟩) (by first | (rw [add_block]; exact hn159_1) | (show (Addr.add _ _).block ≠ _; rw [add_block]; exact hn159_1) | exact hn159_1) (.string ((rd_T31 l0 x14_1).f1))).trans hx159_2; replace hx159_0 := (cell_far (p := ⟨gb158, 2, none⟩) (by first | (rw [add_block]; exact hn159_2) | (show (Addr.add _ _).block ≠ _; rw [add_block]; exact hn159_2) | exact hn159_2) (.bool ((rd_T31 l0 x14_1).f2))).trans hx159_0; replace hx159_1 := (cell_far (p := ⟨gb158, 2, none⟩) (by first | (rw [add_block]; exact hn159_2) | (show (Addr.add _ _).block ≠ _; rw [add_block]; exact hn159_2) | exact hn159_2) (.bool ((rd_T31 l0 x14_1).f2))).trans hx159_1; replace hx159_2 := (cell_far (p := ⟨gb158, 2, none⟩) (by first | (rw [add_block]; exact hn159_2) | (show (Addr.add _ _).block ≠ _; rw [add_block]; exact hn159_2) | exact hn159_2) (.bool ((rd_T31 l0 x14_1).f2))).trans hx159_2; (try have hy159_0 := fun (n_ : Nat) => (show (((((w9.drewN n_).setCell ⟨gb158, 0, none⟩ (.string ((rd_T31 l0 x14_1).f0))).setCell ⟨gb158, 1, none⟩ (.string ((rd_T31 l0 x14_1).f1))).setCell ⟨gb158, 2, none⟩ (.bool ((rd_T31 l0 x14_1).f2)))).cell? _ = some _ from hx159_0)); (try have hy159_1 := fun (n_ : Nat) => (show (((((w9.drewN n_).setCell ⟨gb158, 0, none⟩ (.string ((rd_T31 l0 x14_1).f0))).setCell ⟨gb158, 1, none⟩ (.string ((rd_T31 l0 x14_1).f1))).setCell ⟨gb158, 2, none⟩ (.bool ((rd_T31 l0 x14_1).f2)))).cell? _ = some _ from hx159_1)); (try have hy159_2 := fun (n_ : Nat) => (show (((((w9.drewN n_).setCell ⟨gb158, 0, none⟩ (.string ((rd_T31 l0 x14_1).f0))).setCell ⟨gb158, 1, none⟩ (.string ((rd_T31 l0 x14_1).f1))).setCell ⟨gb158, 2, none⟩ (.bool ((rd_T31 l0 x14_1).f2)))).cell? _ = some _ from hx159_2)); clear hn159_0; clear hn159_1; clear hn159_2; replace p159 := eq_true p159; replace q159 := eq_true q159))
                  repeat (go_quiet (first | ((with_reducible refine gate_dst (N := 6) rfl ?_); refine box_event ?hg (N := 6) ?hd (cs := #[.string (⟨#[]⟩ : ByteArray), .string (⟨#[]⟩ : ByteArray), .bool false]) (t := 31) ?hr ?_; (case hd => rfl); (case hg => rfl); (case hr => first | (go_simp; done) | (go_simp; rfl)); intro gb158 hg w9 hbox hb; have n0_ := Aside0.mk (below_step (by repeat (first | (with_reducible first | exact HB.out | apply below_alloc | apply pw_below_drewN | apply below_drew1) | exact HB.out)) hb); have n1_ := Aside0.mk (hbox); have n2_ := Aside0.mk ((by rw [hg]; exact (below_size (by repeat (first | (with_reducible first | exact HB.out | apply below_alloc | apply pw_below_drewN | apply below_drew1) | exact HB.out))) : w.heap.size ≤ gb158)); have n3_ := Aside0.mk ((by rw [hg]; exact (below_size (by repeat (first | (with_reducible first | exact HB.out | apply below_alloc | apply pw_below_drewN | apply below_drew1) | exact HB.out))) : w.heap.size ≤ gb158)); clear HB; have HB := n0_; have BK158 := n1_; have GW158 := n2_; have GE158 := n3_; clear n0_ n1_ n2_ n3_; clear hb hbox hg; have hcz10_0 : w9.cell? ⟨gb158, 0, none⟩ = some (.string (⟨#[]⟩ : ByteArray)) := (blk_cell BK158.out 0).trans rfl; have hcz10_1 : w9.cell? ⟨gb158, 1, none⟩ = some (.string (⟨#[]⟩ : ByteArray)) := (blk_cell BK158.out 1).trans rfl; have hcz10_2 : w9.cell? ⟨gb158, 2, none⟩ = some (.bool false) := (blk_cell BK158.out 2).trans rfl; have hfz10_0 := blk_frozen BK158.out 0; have hfz10_1 := blk_frozen BK158.out 1; have hfz10_2 := blk_frozen BK158.out 2; have p159 : 0 ≤ (x14_1 : Int) := of_decide_eq_true (by first | (with_reducible assumption) | assumption); have q159 : x14_1 < (l1.length : Int) := of_decide_eq_true (by first | (with_reducible assumption) | assumption); obtain ⟨ad159, e159, hx159_0, hx159_1, hx159_2⟩ := at_T31 HR1.out x14_1 p159 q159; cases e159; have hn159_0 : ad159.block ≠ gb158 := Nat.ne_of_lt (Nat.lt_of_lt_of_le (by have := World.block_lt_of_cell? _ _ hx159_0; first | rwa [add_block] at this | exact this) GW158.out); have hn159_1 : ad159.block ≠ gb158 := Nat.ne_of_lt (Nat.lt_of_lt_of_le (by have := World.block_lt_of_cell? _ _ hx159_0; first | rwa [add_block] at this | exact this) GW158.out); have hn159_2 : ad159.block ≠ gb158 := Nat.ne_of_lt (Nat.lt_of_lt_of_le (by have := World.block_lt_of_cell? _ _ hx159_0; first | rwa [add_block] at this | exact this) GW158.out); replace hx159_0 := (HB.out.cell (World.block_lt_of_cell? w _ hx159_0)).trans hx159_0; replace hx159_1 := (HB.out.cell (World.block_lt_of_cell? w _ hx159_1)).trans hx159_1; replace hx159_2 := (HB.out.cell (World.block_lt_of_cell? w _ hx159_2)).trans hx159_2; replace hx159_0 := (cell_far (p := ⟨gb158, 0, none⟩) (by first | (rw [add_block]; exact hn159_0) | (show (Addr.add _ _).block ≠ _; rw [add_block]; exact hn159_0) | exact hn159_0) (.string ((rd_T31 l0 x14_1).f0))).trans hx159_0; replace hx159_1 := (cell_far (p := ⟨gb158, 0, none⟩) (by first | (rw [add_block]; exact hn159_0) | (show (Addr.add _ _).block ≠ _; rw [add_block]; exact hn159_0) | exact hn159_0) (.string ((rd_T31 l0 x14_1).f0))).trans hx159_1; replace hx159_2 := (cell_far (p := ⟨gb158, 0, none⟩) (by first | (rw [add_block]; exact hn159_0) | (show (Addr.add _ _).block ≠ _; rw [add_block]; exact hn159_0) | exact hn159_0) (.string ((rd_T31 l0 x14_1).f0))).trans hx159_2; replace hx159_0 := (cell_far (p := ⟨gb158, 1, none⟩) (by first | (rw [add_block]; exact hn159_1) | (show (Addr.add _ _).block ≠ _; rw [add_block]; exact hn159_1) | exact hn159_1) (.string ((rd_T31 l0 x14_1).f1))).trans hx159_0; replace hx159_1 := (cell_far (p := ⟨gb158, 1, none⟩) (by first | (rw [add_block]; exact hn159_1) | (show (Addr.add _ _).block ≠ _; rw [add_block]; exact hn159_1) | exact hn159_1) (.string ((rd_T31 l0 x14_1).f1))).trans hx159_1; replace hx159_2 := (cell_far (p := ⟨gb158, 1, none⟩) (by first | (rw [add_block]; exact hn159_1) | (show (Addr.add _ _).block ≠ _; rw [add_block]; exact hn159_1) | exact hn159_1) (.string ((rd_T31 l0 x14_1).f1))).trans hx159_2; replace hx159_0 := (cell_far (p := ⟨gb158, 2, none⟩) (by first | (rw [add_block]; exact hn159_2) | (show (Addr.add _ _).block ≠ _; rw [add_block]; exact hn159_2) | exact hn159_2) (.bool ((rd_T31 l0 x14_1).f2))).trans hx159_0; replace hx159_1 := (cell_far (p := ⟨gb158, 2, none⟩) (by first | (rw [add_block]; exact hn159_2) | (show (Addr.add _ _).block ≠ _; rw [add_block]; exact hn159_2) | exact hn159_2) (.bool ((rd_T31 l0 x14_1).f2))).trans hx159_1; replace hx159_2 := (cell_far (p := ⟨gb158, 2, none⟩) (by first | (rw [add_block]; exact hn159_2) | (show (Addr.add _ _).block ≠ _; rw [add_block]; exact hn159_2) | exact hn159_2) (.bool ((rd_T31 l0 x14_1).f2))).trans hx159_2; (try have hy159_0 := fun (n_ : Nat) => (show (((((w9.drewN n_).setCell ⟨gb158, 0, none⟩ (.string ((rd_T31 l0 x14_1).f0))).setCell ⟨gb158, 1, none⟩ (.string ((rd_T31 l0 x14_1).f1))).setCell ⟨gb158, 2, none⟩ (.bool ((rd_T31 l0 x14_1).f2)))).cell? _ = some _ from hx159_0)); (try have hy159_1 := fun (n_ : Nat) => (show (((((w9.drewN n_).setCell ⟨gb158, 0, none⟩ (.string ((rd_T31 l0 x14_1).f0))).setCell ⟨gb158, 1, none⟩ (.string ((rd_T31 l0 x14_1).f1))).setCell ⟨gb158, 2, none⟩ (.bool ((rd_T31 l0 x14_1).f2)))).cell? _ = some _ from hx159_1)); (try have hy159_2 := fun (n_ : Nat) => (show (((((w9.drewN n_).setCell ⟨gb158, 0, none⟩ (.string ((rd_T31 l0 x14_1).f0))).setCell ⟨gb158, 1, none⟩ (.string ((rd_T31 l0 x14_1).f1))).setCell ⟨gb158, 2, none⟩ (.bool ((rd_T31 l0 x14_1).f2)))).cell? _ = some _ from hx159_2)); clear hn159_0; clear hn159_1; clear hn159_2; replace p159 := eq_true p159; replace q159 := eq_true q159)); try go_wp2_with (first | ((with_reducible refine gate_dst (N := 6) rfl ?_); refine box_event ?hg (N := 6) ?hd (cs := #[.string (⟨#[]⟩ : ByteArray), .string (⟨#[]⟩ : ByteArray), .bool false]) (t := 31) ?hr ?_; (case hd => rfl); (case hg => rfl); (case hr => first | (go_simp; done) | (go_simp; rfl)); intro gb158 hg w9 hbox hb; have n0_ := Aside0.mk (below_step (by repeat (first | (with_reducible first | exact HB.out | apply below_alloc | apply pw_below_drewN | apply below_drew1) | exact HB.out)) hb); have n1_ := Aside0.mk (hbox); have n2_ := Aside0.mk ((by rw [hg]; exact (below_size (by repeat (first | (with_reducible first | exact HB.out | apply below_alloc | apply pw_below_drewN | apply below_drew1) | exact HB.out))) : w.heap.size ≤ gb158)); have n3_ := Aside0.mk ((by rw [hg]; exact (below_size (by repeat (first | (with_reducible first | exact HB.out | apply below_alloc | apply pw_below_drewN | apply below_drew1) | exact HB.out))) : w.heap.size ≤ gb158)); clear HB; have HB := n0_; have BK158 := n1_; have GW158 := n2_; have GE158 := n3_; clear n0_ n1_ n2_ n3_; clear hb hbox hg; have hcz10_0 : w9.cell? ⟨gb158, 0, none⟩ = some (.string (⟨#[]⟩ : ByteArray)) := (blk_cell BK158.out 0).trans rfl; have hcz10_1 : w9.cell? ⟨gb158, 1, none⟩ = some (.string (⟨#[]⟩ : ByteArray)) := (blk_cell BK158.out 1).trans rfl; have hcz10_2 : w9.cell? ⟨gb158, 2, none⟩ = some (.bool false) := (blk_cell BK158.out 2).trans rfl; have hfz10_0 := blk_frozen BK158.out 0; have hfz10_1 := blk_frozen BK158.out 1; have hfz10_2 := blk_frozen BK158.out 2; have p159 : 0 ≤ (x14_1 : Int) := of_decide_eq_true (by first | (with_reducible assumption) | assumption); have q159 : x14_1 < (l1.length : Int) := of_decide_eq_true (by first | (with_reducible assumption) | assumption); obtain ⟨ad159, e159, hx159_0, hx159_1, hx159_2⟩ := at_T31 HR1.out x14_1 p159 q159; cases e159; have hn159_0 : ad159.block ≠ gb158 := Nat.ne_of_lt (Nat.lt_of_lt_of_le (by have := World.block_lt_of_cell? _ _ hx159_0; first | rwa [add_block] at this | exact this) GW158.out); have hn159_1 : ad159.block ≠ gb158 := Nat.ne_of_lt (Nat.lt_of_lt_of_le (by have := World.block_lt_of_cell? _ _ hx159_0; first | rwa [add_block] at this | exact this) GW158.out); have hn159_2 : ad159.block ≠ gb158 := Nat.ne_of_lt (Nat.lt_of_lt_of_le (by have := World.block_lt_of_cell? _ _ hx159_0; first | rwa [add_block] at this | exact this) GW158.out); replace hx159_0 := (HB.out.cell (World.block_lt_of_cell? w _ hx159_0)).trans hx159_0; replace hx159_1 := (HB.out.cell (World.block_lt_of_cell? w _ hx159_1)).trans hx159_1; replace hx159_2 := (HB.out.cell (World.block_lt_of_cell? w _ hx159_2)).trans hx159_2; replace hx159_0 := (cell_far (p := ⟨gb158, 0, none⟩) (by first | (rw [add_block]; exact hn159_0) | (show (Addr.add _ _).block ≠ _; rw [add_block]; exact hn159_0) | exact hn159_0) (.string ((rd_T31 l0 x14_1).f0))).trans hx159_0; replace hx159_1 := (cell_far (p := ⟨gb158, 0, none⟩) (by first | (rw [add_block]; exact hn159_0) | (show (Addr.add _ _).block ≠ _; rw [add_block]; exact hn159_0) | exact hn159_0) (.string ((rd_T31 l0 x14_1).f0))).trans hx159_1; replace hx159_2 := (cell_far (p := ⟨gb158, 0, none⟩) (by first | (rw [add_block]; exact hn159_0) | (show (Addr.add _ _).block ≠ _; rw [add_block]; exact hn159_0) | exact hn159_0) (.string ((rd_T31 l0 x14_1).f0))).trans hx159_2; replace hx159_0 := (cell_far (p := ⟨gb158, 1, none⟩) (by first | (rw [add_block]; exact hn159_1) | (show (Addr.add _ _).block ≠ _; rw [add_block]; exact hn159_1) | exact hn159_1) (.string ((rd_T31 l0 x14_1).f1))).trans hx159_0; replace hx159_1 := (cell_far (p := ⟨gb158, 1, none⟩) (by first | (rw [add_block]; exact hn159_1) | (show (Addr.add _ _).block ≠ _; rw [add_block]; exact hn159_1) | exact hn159_1) (.string ((rd_T31 l0 x14_1).f1))).trans hx159_1; replace hx159_2 := (cell_far (p := ⟨gb158, 1, none⟩) (by first | (rw [add_block]; exact hn159_1) | (show (Addr.add _ _).block ≠ _; rw [add_block]; exact hn159_1) | exact hn159_1) (.string ((rd_T31 l0 x14_1).f1))).trans hx159_2; replace hx159_0 := (cell_far (p := ⟨gb158, 2, none⟩) (by first | (rw [add_block]; exact hn159_2) | (show (Addr.add _ _).block ≠ _; rw [add_block]; exact hn159_2) | exact hn159_2) (.bool ((rd_T31 l0 x14_1).f2))).trans hx159_0; replace hx159_1 := (cell_far (p := ⟨gb158, 2, none⟩) (by first | (rw [add_block]; exact hn159_2) | (show (Addr.add _ _).block ≠ _; rw [add_block]; exact hn159_2) | exact hn159_2) (.bool ((rd_T31 l0 x14_1).f2))).trans hx159_1; replace hx159_2 := (cell_far (p := ⟨gb158, 2, none⟩) (by first | (rw [add_block]; exact hn159_2) | (show (Addr.add _ _).block ≠ _; rw [add_block]; exact hn159_2) | exact hn159_2) (.bool ((rd_T31 l0 x14_1).f2))).trans hx159_2; (try have hy159_0 := fun (n_ : Nat) => (show (((((w9.drewN n_).setCell ⟨gb158, 0, none⟩ (.string ((rd_T31 l0 x14_1).f0))).setCell ⟨gb158, 1, none⟩ (.string ((rd_T31 l0 x14_1).f1))).setCell ⟨gb158, 2, none⟩ (.bool ((rd_T31 l0 x14_1).f2)))).cell? _ = some _ from hx159_0)); (try have hy159_1 := fun (n_ : Nat) => (show (((((w9.drewN n_).setCell ⟨gb158, 0, none⟩ (.string ((rd_T31 l0 x14_1).f0))).setCell ⟨gb158, 1, none⟩ (.string ((rd_T31 l0 x14_1).f1))).setCell ⟨gb158, 2, none⟩ (.bool ((rd_T31 l0 x14_1).f2)))).cell? _ = some _ from hx159_1)); (try have hy159_2 := fun (n_ : Nat) => (show (((((w9.drewN n_).setCell ⟨gb158, 0, none⟩ (.string ((rd_T31 l0 x14_1).f0))).setCell ⟨gb158, 1, none⟩ (.string ((rd_T31 l0 x14_1).f1))).setCell ⟨gb158, 2, none⟩ (.bool ((rd_T31 l0 x14_1).f2)))).cell? _ = some _ from hx159_2)); clear hn159_0; clear hn159_1; clear hn159_2; replace p159 := eq_true p159; replace q159 := eq_true q159)))
                  go_ret
                  exact ⟨by first | rfl | (simp [errW_none, errW_some] <;> rfl) | (simp [*, errW_none, errW_some] <;> rfl), by repeat (first | (with_reducible first | exact HB.out | apply below_alloc | apply pw_below_drewN | apply below_drew1 | refine below_set ?_ GE158.out) | exact HB.out)⟩
                · rw [if_neg c8] at H
                  have c8b0 : (!((((rd_T31 l0 x14_1).f0).toList) == (((rd_T31 l1 x14_1).f0).toList)) || (!((((rd_T31 l0 x14_1).f1).toList) == (((rd_T31 l1 x14_1).f1).toList)) || (!(((rd_T31 l0 x14_1).f2) == ((rd_T31 l1 x14_1).f2))))) = false := by simpa using c8
                  clear c8
                  have H' := Aside0.mk H
                  clear H
                  have p157 : 0 ≤ (x14_1 : Int) := of_decide_eq_true (by first | (with_reducible assumption) | assumption)
                  have q157 : x14_1 < (l0.length : Int) := of_decide_eq_true (by first | (with_reducible assumption) | assumption)
                  obtain ⟨ad157, e157, hx157_0, hx157_1, hx157_2⟩ := at_T31 HR0.out x14_1 p157 q157
                  cases e157
                  replace hx157_0 := (HB.out.cell (World.block_lt_of_cell? w _ hx157_0)).trans hx157_0
                  replace hx157_1 := (HB.out.cell (World.block_lt_of_cell? w _ hx157_1)).trans hx157_1
                  replace hx157_2 := (HB.out.cell (World.block_lt_of_cell? w _ hx157_2)).trans hx157_2
                  replace p157 := eq_true p157
                  replace q157 := eq_true q157
                  go_wp2_with (first | ((with_reducible refine gate_dst (N := 6) rfl ?_); refine box_event ?hg (N := 6) ?hd (cs := #[.string (⟨#[]⟩ : ByteArray), .string (⟨#[]⟩ : ByteArray), .bool false]) (t := 31) ?hr ?_; (case hd => rfl); (case hg => rfl); (case hr => first | (go_simp; done) | (go_simp; rfl)); intro gb158 hg w11 hbox hb; have n0_ := Aside0.mk (below_step (by repeat (first | (with_reducible first | exact HB.out | apply below_alloc | apply pw_below_drewN | apply below_drew1) | exact HB.out)) hb); have n1_ := Aside0.mk (hbox); have n2_ := Aside0.mk ((by rw [hg]; exact (below_size (by repeat (first | (with_reducible first | exact HB.out | apply below_alloc | apply pw_below_drewN | apply below_drew1) | exact HB.out))) : w.heap.size ≤ gb158)); have n3_ := Aside0.mk ((by rw [hg]; exact (below_size (by repeat (first | (with_reducible first | exact HB.out | apply below_alloc | apply pw_below_drewN | apply below_drew1) | exact HB.out))) : w.heap.size ≤ gb158)); clear HB; have HB := n0_; have BK158 := n1_; have GW158 := n2_; have GE158 := n3_; clear n0_ n1_ n2_ n3_; clear hb hbox hg; have hcz12_0 : w11.cell? ⟨gb158, 0, none⟩ = some (.string (⟨#[]⟩ : ByteArray)) := (blk_cell BK158.out 0).trans rfl; have hcz12_1 : w11.cell? ⟨gb158, 1, none⟩ = some (.string (⟨#[]⟩ : ByteArray)) := (blk_cell BK158.out 1).trans rfl; have hcz12_2 : w11.cell? ⟨gb158, 2, none⟩ = some (.bool false) := (blk_cell BK158.out 2).trans rfl; have hfz12_0 := blk_frozen BK158.out 0; have hfz12_1 := blk_frozen BK158.out 1; have hfz12_2 := blk_frozen BK158.out 2; have p159 : 0 ≤ (x14_1 : Int) := of_decide_eq_true (by first | (with_reducible assumption) | assumption); have q159 : x14_1 < (l1.length : Int) := of_decide_eq_true (by first | (with_reducible assumption) | assumption); obtain ⟨ad159, e159, hx159_0, hx159_1, hx159_2⟩ := at_T31 HR1.out x14_1 p159 q159; cases e159; have hn159_0 : ad159.block ≠ gb158 := Nat.ne_of_lt (Nat.lt_of_lt_of_le (by have := World.block_lt_of_cell? _ _ hx159_0; first | rwa [add_block] at this | exact this) GW158.out); have hn159_1 : ad159.block ≠ gb158 := Nat.ne_of_lt (Nat.lt_of_lt_of_le (by have := World.block_lt_of_cell? _ _ hx159_0; first | rwa [add_block] at this | exact this) GW158.out); have hn159_2 : ad159.block ≠ gb158 := Nat.ne_of_lt (Nat.lt_of_lt_of_le (by have := World.block_lt_of_cell? _ _ hx159_0; first | rwa [add_block] at this | exact this) GW158.out); replace hx159_0 := (HB.out.cell (World.block_lt_of_cell? w _ hx159_0)).trans hx159_0; replace hx159_1 := (HB.out.cell (World.block_lt_of_cell? w _ hx159_1)).trans hx159_1; replace hx159_2 := (HB.out.cell (World.block_lt_of_cell? w _ hx159_2)).trans hx159_2; replace hx159_0 := (cell_far (p := ⟨gb158, 0, none⟩) (by first | (rw [add_block]; exact hn159_0) | (show (Addr.add _ _).block ≠ _; rw [add_block]; exact hn159_0) | exact hn159_0) (.string ((rd_T31 l0 x14_1).f0))).trans hx159_0; replace hx159_1 := (cell_far (p := ⟨gb158, 0, none⟩) (by first | (rw [add_block]; exact hn159_0) | (show (Addr.add _ _).block ≠ _; rw [add_block]; exact hn159_0) | exact hn159_0) (.string ((rd_T31 l0 x14_1).f0))).trans hx159_1; replace hx159_2 := (cell_far (p := ⟨gb158, 0, none⟩) (by first | (rw [add_block]; exact hn159_0) | (show (Addr.add _ _).block ≠ _; rw [add_block]; exact hn159_0) | exact hn159_0) (.string ((rd_T31 l0 x14_1).f0))).trans hx159_2; replace hx159_0 := (cell_far (p := ⟨gb158, 1, none⟩) (by first | (rw [add_block]; exact hn159_1) | (show (Addr.add _ _).block ≠ _; rw [add_block]; exact hn159_1) | exact hn159_1) (.string ((rd_T31 l0 x14_1).f1))).trans hx159_0; replace hx159_1 := (cell_far (p := ⟨gb158, 1, none⟩) (by first | (rw [add_block]; exact hn159_1) | (show (Addr.add _ _).block ≠ _; rw [add_block]; exact hn159_1) | exact hn159_1) (.string ((rd_T31 l0 x14_1).f1))).trans hx159_1; replace hx159_2 := (cell_far (p := ⟨gb158, 1, none⟩) (by first | (rw [add_block]; exact hn159_1) | (show (Addr.add _ _).block ≠ _; rw [add_block]; exact hn159_1) | exact hn159_1) (.string ((rd_T31 l0 x14_1).f1))).trans hx159_2; replace hx159_0 := (cell_far (p := ⟨gb158, 2, none⟩) (by first | (rw [add_block]; exact hn159_2) | (show (Addr.add _ _).block ≠ _; rw [add_block]; exact hn159_2) | exact hn159_2) (.bool ((rd_T31 l0 x14_1).f2))).trans hx159_0; replace hx159_1 := (cell_far (p := ⟨gb158, 2, none⟩) (by first | (rw [add_block]; exact hn159_2) | (show (Addr.add _ _).block ≠ _; rw [add_block]; exact hn159_2) | exact hn159_2) (.bool ((rd_T31 l0 x14_1).f2))).trans hx159_1; replace hx159_2 := (cell_far (p := ⟨gb158, 2, none⟩) (by first | (rw [add_block]; exact hn159_2) | (show (Addr.add _ _).block ≠ _; rw [add_block]; exact hn159_2) | exact hn159_2) (.bool ((rd_T31 l0 x14_1).f2))).trans hx159_2; (try have hy159_0 := fun (n_ : Nat) => (show (((((w11.drewN n_).setCell ⟨gb158, 0, none⟩ (.string ((rd_T31 l0 x14_1).f0))).setCell ⟨gb158, 1, none⟩ (.string ((rd_T31 l0 x14_1).f1))).setCell ⟨gb158, 2, none⟩ (.bool ((rd_T31 l0 x14_1).f2)))).cell? _ = some _ from hx159_0)); (try have hy159_1 := fun (n_ : Nat) => (show (((((w11.drewN n_).setCell ⟨gb158, 0, none⟩ (.string ((rd_T31 l0 x14_1).f0))).setCell ⟨gb158, 1, none⟩ (.string ((rd_T31 l0 x14_1).f1))).setCell ⟨gb158, 2, none⟩ (.bool ((rd_T31 l0 x14_1).f2)))).cell? _ = some _ from hx159_1)); (try have hy159_2 := fun (n_ : Nat) => (show (((((w11.drewN n_).setCell ⟨gb158, 0, none⟩ (.string ((rd_T31 l0 x14_1).f0))).setCell ⟨gb158, 1, none⟩ (.string ((rd_T31 l0 x14_1).f1))).setCell ⟨gb158, 2, none⟩ (.bool ((rd_T31 l0 x14_1).f2)))).cell? _ = some _ from hx159_2)); clear hn159_0; clear hn159_1; clear hn159_2; replace p159 := eq_true p159; replace q159 := eq_true q159))
                  repeat (go_quiet (first | ((with_reducible refine gate_dst (N := 6) rfl ?_); refine box_event ?hg (N := 6) ?hd (cs := #[.string (⟨#[]⟩ : ByteArray), .string (⟨#[]⟩ : ByteArray), .bool false]) (t := 31) ?hr ?_; (case hd => rfl); (case hg => rfl); (case hr => first | (go_simp; done) | (go_simp; rfl)); intro gb158 hg w11 hbox hb; have n0_ := Aside0.mk (below_step (by repeat (first | (with_reducible first | exact HB.out | apply below_alloc | apply pw_below_drewN | apply below_drew1) | exact HB.out)) hb); have n1_ := Aside0.mk (hbox); have n2_ := Aside0.mk ((by rw [hg]; exact (below_size (by repeat (first | (with_reducible first | exact HB.out | apply below_alloc | apply pw_below_drewN | apply below_drew1) | exact HB.out))) : w.heap.size ≤ gb158)); have n3_ := Aside0.mk ((by rw [hg]; exact (below_size (by repeat (first | (with_reducible first | exact HB.out | apply below_alloc | apply pw_below_drewN | apply below_drew1) | exact HB.out))) : w.heap.size ≤ gb158)); clear HB; have HB := n0_; have BK158 := n1_; have GW158 := n2_; have GE158 := n3_; clear n0_ n1_ n2_ n3_; clear hb hbox hg; have hcz12_0 : w11.cell? ⟨gb158, 0, none⟩ = some (.string (⟨#[]⟩ : ByteArray)) := (blk_cell BK158.out 0).trans rfl; have hcz12_1 : w11.cell? ⟨gb158, 1, none⟩ = some (.string (⟨#[]⟩ : ByteArray)) := (blk_cell BK158.out 1).trans rfl; have hcz12_2 : w11.cell? ⟨gb158, 2, none⟩ = some (.bool false) := (blk_cell BK158.out 2).trans rfl; have hfz12_0 := blk_frozen BK158.out 0; have hfz12_1 := blk_frozen BK158.out 1; have hfz12_2 := blk_frozen BK158.out 2; have p159 : 0 ≤ (x14_1 : Int) := of_decide_eq_true (by first | (with_reducible assumption) | assumption); have q159 : x14_1 < (l1.length : Int) := of_decide_eq_true (by first | (with_reducible assumption) | assumption); obtain ⟨ad159, e159, hx159_0, hx159_1, hx159_2⟩ := at_T31 HR1.out x14_1 p159 q159; cases e159; have hn159_0 : ad159.block ≠ gb158 := Nat.ne_of_lt (Nat.lt_of_lt_of_le (by have := World.block_lt_of_cell? _ _ hx159_0; first | rwa [add_block] at this | exact this) GW158.out); have hn159_1 : ad159.block ≠ gb158 := Nat.ne_of_lt (Nat.lt_of_lt_of_le (by have := World.block_lt_of_cell? _ _ hx159_0; first | rwa [add_block] at this | exact this) GW158.out); have hn159_2 : ad159.block ≠ gb158 := Nat.ne_of_lt (Nat.lt_of_lt_of_le (by have := World.block_lt_of_cell? _ _ hx159_0; first | rwa [add_block] at this | exact this) GW158.out); replace hx159_0 := (HB.out.cell (World.block_lt_of_cell? w _ hx159_0)).trans hx159_0; replace hx159_1 := (HB.out.cell (World.block_lt_of_cell? w _ hx159_1)).trans hx159_1; replace hx159_2 := (HB.out.cell (World.block_lt_of_cell? w _ hx159_2)).trans hx159_2; replace hx159_0 := (cell_far (p := ⟨gb158, 0, none⟩) (by first | (rw [add_block]; exact hn159_0) | (show (Addr.add _ _).block ≠ _; rw [add_block]; exact hn159_0) | exact hn159_0) (.string ((rd_T31 l0 x14_1).f0))).trans hx159_0; replace hx159_1 := (cell_far (p := ⟨gb158, 0, none⟩) (by first | (rw [add_block]; exact hn159_0) | (show (Addr.add _ _).block ≠ _; rw [add_block]; exact hn159_0) | exact hn159_0) (.string ((rd_T31 l0 x14_1).f0))).trans hx159_1; replace hx159_2 := (cell_far (p := ⟨gb158, 0, none⟩) (by first | (rw [add_block]; exact hn159_0) | (show (Addr.add _ _).block ≠ _; rw [add_block]; exact hn159_0) | exact hn159_0) (.string ((rd_T31 l0 x14_1).f0))).trans hx159_2; replace hx159_0 := (cell_far (p := ⟨gb158, 1, none⟩) (by first | (rw [add_block]; exact hn159_1) | (show (Addr.add _ _).block ≠ _; rw [add_block]; exact hn159_1) | exact hn159_1) (.string ((rd_T31 l0 x14_1).f1))).trans hx159_0; replace hx159_1 := (cell_far (p := ⟨gb158, 1, none⟩) (by first | (rw [add_block]; exact hn159_1) | (show (Addr.add _ _).block ≠ _; rw [add_block]; exact hn159_1) | exact hn159_1) (.string ((rd_T31 l0 x14_1).f1))).trans hx159_1; replace hx159_2 := (cell_far (p := ⟨gb158, 1, none⟩) (by first | (rw [add_block]; exact hn159_1) | (show (Addr.add _ _).block ≠ _; rw [add_block]; exact hn159_1) | exact hn159_1) (.string ((rd_T31 l0 x14_1).f1))).trans hx159_2; replace hx159_0 := (cell_far (p := ⟨gb158, 2, none⟩) (by first | (rw [add_block]; exact hn159_2) | (show (Addr.add _ _).block ≠ _; rw [add_block]; exact hn159_2) | exact hn159_2) (.bool ((rd_T31 l0 x14_1).f2))).trans hx159_0; replace hx159_1 := (cell_far (p := ⟨gb158, 2, none⟩) (by first | (rw [add_block]; exact hn159_2) | (show (Addr.add _ _).block ≠ _; rw [add_block]; exact hn159_2) | exact hn159_2) (.bool ((rd_T31 l0 x14_1).f2))).trans hx159_1; replace hx159_2 := (cell_far (p := ⟨gb158, 2, none⟩) (by first | (rw [add_block]; exact hn159_2) | (show (Addr.add _ _).block ≠ _; rw [add_block]; exact hn159_2) | exact hn159_2) (.bool ((rd_T31 l0 x14_1).f2))).trans hx159_2; (try have hy159_0 := fun (n_ : Nat) => (show (((((w11.drewN n_).setCell ⟨gb158, 0, none⟩ (.string ((rd_T31 l0 x14_1).f0))).setCell ⟨gb158, 1, none⟩ (.string ((rd_T31 l0 x14_1).f1))).setCell ⟨gb158, 2, none⟩ (.bool ((rd_T31 l0 x14_1).f2)))).cell? _ = some _ from hx159_0)); (try have hy159_1 := fun (n_ : Nat) => (show (((((w11.drewN n_).setCell ⟨gb158, 0, none⟩ (.string ((rd_T31 l0 x14_1).f0))).setCell ⟨gb158, 1, none⟩ (.string ((rd_T31 l0 x14_1).f1))).setCell ⟨gb158, 2, none⟩ (.bool ((rd_T31 l0 x14_1).f2)))).cell? _ = some _ from hx159_1)); (try have hy159_2 := fun (n_ : Nat) => (show (((((w11.drewN n_).setCell ⟨gb158, 0, none⟩ (.string ((rd_T31 l0 x14_1).f0))).setCell ⟨gb158, 1, none⟩ (.string ((rd_T31 l0 x14_1).f1))).setCell ⟨gb158, 2, none⟩ (.bool ((rd_T31 l0 x14_1).f2)))).cell? _ = some _ from hx159_2)); clear hn159_0; clear hn159_1; clear hn159_2; replace p159 := eq_true p159; replace q159 := eq_true q159)); try go_wp2_with (first | ((with_reducible refine gate_dst (N := 6) rfl ?_); refine box_event ?hg (N := 6) ?hd (cs := #[.string (⟨#[]⟩ : ByteArray), .string (⟨#[]⟩ : ByteArray), .bool false]) (t := 31) ?hr ?_; (case hd => rfl); (case hg => rfl); (case hr => first | (go_simp; done) | (go_simp; rfl)); intro gb158 hg w11 hbox hb; have n0_ := Aside0.mk (below_step (by repeat (first | (with_reducible first | exact HB.out | apply below_alloc | apply pw_below_drewN | apply below_drew1) | exact HB.out)) hb); have n1_ := Aside0.mk (hbox); have n2_ := Aside0.mk ((by rw [hg]; exact (below_size (by repeat (first | (with_reducible first | exact HB.out | apply below_alloc | apply pw_below_drewN | apply below_drew1) | exact HB.out))) : w.heap.size ≤ gb158)); have n3_ := Aside0.mk ((by rw [hg]; exact (below_size (by repeat (first | (with_reducible first | exact HB.out | apply below_alloc | apply pw_below_drewN | apply below_drew1) | exact HB.out))) : w.heap.size ≤ gb158)); clear HB; have HB := n0_; have BK158 := n1_; have GW158 := n2_; have GE158 := n3_; clear n0_ n1_ n2_ n3_; clear hb hbox hg; have hcz12_0 : w11.cell? ⟨gb158, 0, none⟩ = some (.string (⟨#[]⟩ : ByteArray)) := (blk_cell BK158.out 0).trans rfl; have hcz12_1 : w11.cell? ⟨gb158, 1, none⟩ = some (.string (⟨#[]⟩ : ByteArray)) := (blk_cell BK158.out 1).trans rfl; have hcz12_2 : w11.cell? ⟨gb158, 2, none⟩ = some (.bool false) := (blk_cell BK158.out 2).trans rfl; have hfz12_0 := blk_frozen BK158.out 0; have hfz12_1 := blk_frozen BK158.out 1; have hfz12_2 := blk_frozen BK158.out 2; have p159 : 0 ≤ (x14_1 : Int) := of_decide_eq_true (by first | (with_reducible assumption) | assumption); have q159 : x14_1 < (l1.length : Int) := of_decide_eq_true (by first | (with_reducible assumption) | assumption); obtain ⟨ad159, e159, hx159_0, hx159_1, hx159_2⟩ := at_T31 HR1.out x14_1 p159 q159; cases e159; have hn159_0 : ad159.block ≠ gb158 := Nat.ne_of_lt (Nat.lt_of_lt_of_le (by have := World.block_lt_of_cell? _ _ hx159_0; first | rwa [add_block] at this | exact this) GW158.out); have hn159_1 : ad159.block ≠ gb158 := Nat.ne_of_lt (Nat.lt_of_lt_of_le (by have := World.block_lt_of_cell? _ _ hx159_0; first | rwa [add_block] at this | exact this) GW158.out); have hn159_2 : ad159.block ≠ gb158 := Nat.ne_of_lt (Nat.lt_of_lt_of_le (by have := World.block_lt_of_cell? _ _ hx159_0; first | rwa [add_block] at this | exact this) GW158.out); replace hx159_0 := (HB.out.cell (World.block_lt_of_cell? w _ hx159_0)).trans hx159_0; replace hx159_1 := (HB.out.cell (World.block_lt_of_cell? w _ hx159_1)).trans hx159_1; replace hx159_2 := (HB.out.cell (World.block_lt_of_cell? w _ hx159_2)).trans hx159_2; replace hx159_0 := (cell_far (p := ⟨gb158, 0, none⟩) (by first | (rw [add_block]; exact hn159_0) | (show (Addr.add _ _).block ≠ _; rw [add_block]; exact hn159_0) | exact hn159_0) (.string ((rd_T31 l0 x14_1).f0))).trans hx159_0; replace hx159_1 := (cell_far (p := ⟨gb158, 0, none⟩) (by first | (rw [add_block]; exact hn159_0) | (show (Addr.add _ _).block ≠ _; rw [add_block]; exact hn159_0) | exact hn159_0) (.string ((rd_T31 l0 x14_1).f0))).trans hx159_1; replace hx159_2 := (cell_far (p := ⟨gb158, 0, none⟩) (by first | (rw [add_block]; exact hn159_0) | (show (Addr.add _ _).block ≠ _; rw [add_block]; exact hn159_0) | exact hn159_0) (.string ((rd_T31 l0 x14_1).f0))).trans hx159_2; replace hx159_0 := (cell_far (p := ⟨gb158, 1, none⟩) (by first | (rw [add_block]; exact hn159_1) | (show (Addr.add _ _).block ≠ _; rw [add_block]; exact hn159_1) | exact hn159_1) (.string ((rd_T31 l0 x14_1).f1))).trans hx159_0; replace hx159_1 := (cell_far (p := ⟨gb158, 1, none⟩) (by first | (rw [add_block]; exact hn159_1) | (show (Addr.add _ _).block ≠ _; rw [add_block]; exact hn159_1) | exact hn159_1) (.string ((rd_T31 l0 x14_1).f1))).trans hx159_1; replace hx159_2 := (cell_far (p := ⟨gb158, 1, none⟩) (by first | (rw [add_block]; exact hn159_1) | (show (Addr.add _ _).block ≠ _; rw [add_block]; exact hn159_1) | exact hn159_1) (.string ((rd_T31 l0 x14_1).f1))).trans hx159_2; replace hx159_0 := (cell_far (p := ⟨gb158, 2, none⟩) (by first | (rw [add_block]; exact hn159_2) | (show (Addr.add _ _).block ≠ _; rw [add_block]; exact hn159_2) | exact hn159_2) (.bool ((rd_T31 l0 x14_1).f2))).trans hx159_0; replace hx159_1 := (cell_far (p := ⟨gb158, 2, none⟩) (by first | (rw [add_block]; exact hn159_2) | (show (Addr.add _ _).block ≠ _; rw [add_block]; exact hn159_2) | exact hn159_2) (.bool ((rd_T31 l0 x14_1).f2))).trans hx159_1; replace hx159_2 := (cell_far (p := ⟨gb158, 2, none⟩) (by first | (rw [add_block]; exact hn159_2) | (show (Addr.add _ _).block ≠ _; rw [add_block]; exact hn159_2) | exact hn159_2) (.bool ((rd_T31 l0 x14_1).f2))).trans hx159_2; (try have hy159_0 := fun (n_ : Nat) => (show (((((w11.drewN n_).setCell ⟨gb158, 0, none⟩ (.string ((rd_T31 l0 x14_1).f0))).setCell ⟨gb158, 1, none⟩ (.string ((rd_T31 l0 x14_1).f1))).setCell ⟨gb158, 2, none⟩ (.bool ((rd_T31 l0 x14_1).f2)))).cell? _ = some _ from hx159_0)); (try have hy159_1 := fun (n_ : Nat) => (show (((((w11.drewN n_).setCell ⟨gb158, 0, none⟩ (.string ((rd_T31 l0 x14_1).f0))).setCell ⟨gb158, 1, none⟩ (.string ((rd_T31 l0 x14_1).f1))).setCell ⟨gb158, 2, none⟩ (.bool ((rd_T31 l0 x14_1).f2)))).cell? _ = some _ from hx159_1)); (try have hy159_2 := fun (n_ : Nat) => (show (((((w11.drewN n_).setCell ⟨gb158, 0, none⟩ (.string ((rd_T31 l0 x14_1).f0))).setCell ⟨gb158, 1, none⟩ (.string ((rd_T31 l0 x14_1).f1))).setCell ⟨gb158, 2, none⟩ (.bool ((rd_T31 l0 x14_1).f2)))).cell? _ = some _ from hx159_2)); clear hn159_0; clear hn159_1; clear hn159_2; replace p159 := eq_true p159; replace q159 := eq_true q159)))
                  go_roundg k1
                  case measure => have := HK1.out; omega
                  case rel => exact ⟨(wrap64 (x14_1 + 1)), (by first | rfl | (simp; done) | (rw [bne_nil_isEmpty]; done) | (simp [*]; done)), H', ⟨by have := HK1.out; omega⟩, ⟨by repeat (first | (with_reducible first | exact HB.out | apply below_alloc | apply pw_below_drewN | apply below_drew1 | refine below_set ?_ GE158.out) | exact HB.out)⟩⟩
              · rw [if_neg c7] at H
                exact absurd H (by simp)
            · rw [if_neg c6] at H
              exact absurd H (by simp)
          · rw [if_neg c5] at H
            exact absurd H (by simp)
        · rw [if_neg c4] at H
          have c4b0 : decide (x14_1 < (l0.length : Int)) = false := decide_eq_false c4
          clear c4
          obtain rfl := Option.some.inj H
          go_wp2
          repeat (go_quiet (fail); try go_wp2)
          go_ret
          exact ⟨by first | rfl | (simp [errW_none, errW_some] <;> rfl) | (simp [*, errW_none, errW_some] <;> rfl), by repeat (first | (with_reducible first | exact HB.out | apply below_alloc | apply pw_below_drewN | apply below_drew1) | exact HB.out)⟩
  · rw [if_neg c3] at H
    have c3b0 : ((l0.length : Int) == (l1.length : Int)) = false := beq_eq_false_iff_ne.mpr c3
    have c3b1 : ((l0.length : Int) != (l1.length : Int)) = true := bne_iff_ne.mpr c3
    have c3b2 : (l0.length == l1.length) = false := by first | simpa using c3 | (simp at c3 ⊢; omega)
    obtain rfl := Option.some.inj H
    go_enter Try.func11, Try.ntmps11
    go_wp2
    repeat (go_quiet (fail); try go_wp2)
    go_ret
    exact ⟨by first | rfl | (simp [errW_none, errW_some] <;> rfl) | (simp [*, errW_none, errW_some] <;> rfl), by repeat (first | (with_reducible first | exact HB.out | apply below_alloc | apply pw_below_drewN | apply below_drew1) | exact HB.out)⟩

/-! ### glossatorkeep3_JournalRoundTrip: function 3 -/
def glossatorkeep3_JournalRoundTrip.f (k : Nat) (l0 : List (S31)) : Option (Bool) := (glossatorkeep3_journalExample.f k).bind fun t160 => (if t160 = true then ((glossatorkeep3_written.f k l0).bind fun bt161 => ((journal_Read.f k bt161.1).bind fun bt165 => ((glossatorkeep3_journalExample.f k).bind fun t170 => (if t170 = true then (if bt165.2.2 = 0 then (if bt165.2.1 = (bt161.1.size : Int) then ((api_QRecord.f k bt165.1 bt161.2).bind fun t171 => (some t171)) else (some false)) else (some false)) else (some false))))) else (some false))
theorem glossatorkeep3_JournalRoundTrip.mono : ∀ a0 k, LeO (glossatorkeep3_JournalRoundTrip.f k a0) (glossatorkeep3_JournalRoundTrip.f (k + 1) a0) := by
  intro a0 k
  unfold glossatorkeep3_JournalRoundTrip.f
  repeat' first
      | (with_reducible exact api_QRecord.mono _ _ _)
      | (with_reducible exact glossatorkeep3_journalExample.mono _)
      | (with_reducible exact glossatorkeep3_written.mono _ _)
      | (with_reducible exact journal_Read.mono _ _)
      | (with_reducible exact LeO.refl _)
      | (with_reducible exact LeO.none _)
      | (with_reducible refine LeO.ite ?_ ?_)
      | (with_reducible refine LeO.bind ?_ (fun _ => ?_))
      | exact api_QRecord.mono _ _ _
      | exact glossatorkeep3_journalExample.mono _
      | exact glossatorkeep3_written.mono _ _
      | exact journal_Read.mono _ _
      | exact LeO.none _
      | refine LeO.ite ?_ ?_
      | refine LeO.bind ?_ (fun _ => ?_)
set_option maxHeartbeats 8000000 in
set_option maxRecDepth 100000 in
theorem glossatorkeep3_JournalRoundTrip.calls (k : Nat) (A0 : Option Addr) (c0 : Nat) (l0 : List (S31)) (r : Bool) (w : World) (hr0 : Kd.C k31 w A0 l0.length l0) (hc0 : l0.length ≤ c0) (h : glossatorkeep3_JournalRoundTrip.f k l0 = some r) :
    Calls Try.prog 3 #[.slice A0 l0.length c0] w fun e w' => e = .returned (.bool r) ∧ Below w.heap.size w w' := by
  have HR0 := Aside0.mk hr0
  have HC0 := Aside0.mk hc0
  clear hr0 hc0
  have HB := Aside0.mk (Below.refl w.heap.size w)
  have H : ((glossatorkeep3_journalExample.f k).bind fun t160 => (if t160 = true then ((glossatorkeep3_written.f k l0).bind fun bt161 => ((journal_Read.f k bt161.1).bind fun bt165 => ((glossatorkeep3_journalExample.f k).bind fun t170 => (if t170 = true then (if bt165.2.2 = 0 then (if bt165.2.1 = (bt161.1.size : Int) then ((api_QRecord.f k bt165.1 bt161.2).bind fun t171 => (some t171)) else (some false)) else (some false)) else (some false))))) else (some false))) = some r := h
  clear h
  replace H := Option.bind_eq_some_iff.mp H
  obtain ⟨t160, A20, H⟩ := H
  replace H : (if t160 = true then ((glossatorkeep3_written.f k l0).bind fun bt161 => ((journal_Read.f k bt161.1).bind fun bt165 => ((glossatorkeep3_journalExample.f k).bind fun t170 => (if t170 = true then (if bt165.2.2 = 0 then (if bt165.2.1 = (bt161.1.size : Int) then ((api_QRecord.f k bt165.1 bt161.2).bind fun t171 => (some t171)) else (some false)) else (some false)) else (some false))))) else (some false)) = some r := H
  have A2 := Aside0.mk A20
  clear A20
  by_cases c3 : t160 = true
  · subst c3
    have H1 : ((glossatorkeep3_written.f k l0).bind fun bt161 => ((journal_Read.f k bt161.1).bind fun bt165 => ((glossatorkeep3_journalExample.f k).bind fun t170 => (if t170 = true then (if bt165.2.2 = 0 then (if bt165.2.1 = (bt161.1.size : Int) then ((api_QRecord.f k bt165.1 bt161.2).bind fun t171 => (some t171)) else (some false)) else (some false)) else (some false))))) = some r := by rw [if_pos rfl] at H; exact H
    clear H
    have H := H1
    clear H1
    replace H := Option.bind_eq_some_iff.mp H
    obtain ⟨⟨t161, t162⟩, A40, H⟩ := H
    replace H : ((journal_Read.f k t161).bind fun bt165 => ((glossatorkeep3_journalExample.f k).bind fun t170 => (if t170 = true then (if bt165.2.2 = 0 then (if bt165.2.1 = (t161.size : Int) then ((api_QRecord.f k bt165.1 t162).bind fun t171 => (some t171)) else (some false)) else (some false)) else (some false)))) = some r := H
    have A4 := Aside0.mk A40
    clear A40
    replace H := Option.bind_eq_some_iff.mp H
    obtain ⟨⟨t165, t166, t167⟩, A50, H⟩ := H
    replace H : ((glossatorkeep3_journalExample.f k).bind fun t170 => (if t170 = true then (if t167 = 0 then (if t166 = (t161.size : Int) then ((api_QRecord.f k t165 t162).bind fun t171 => (some t171)) else (some false)) else (some false)) else (some false))) = some r := H
    have A5 := Aside0.mk A50
    clear A50
    replace H := Option.bind_eq_some_iff.mp H
    obtain ⟨t170, A60, H⟩ := H
    replace H : (if t170 = true then (if t167 = 0 then (if t166 = (t161.size : Int) then ((api_QRecord.f k t165 t162).bind fun t171 => (some t171)) else (some false)) else (some false)) else (some false)) = some r := H
    have A6 := Aside0.mk A60
    clear A60
    by_cases c7 : t170 = true
    · subst c7
      have H1 : (if t167 = 0 then (if t166 = (t161.size : Int) then ((api_QRecord.f k t165 t162).bind fun t171 => (some t171)) else (some false)) else (some false)) = some r := by rw [if_pos rfl] at H; exact H
      clear H
      have H := H1
      clear H1
      by_cases c8 : t167 = 0
      · rw [if_pos c8] at H
        have c8b0 : (t167 == 0) = true := beq_iff_eq.mpr c8
        have c8b1 : (t167 != 0) = false := bne_eq_false_iff_eq.mpr c8
        clear c8
        by_cases c9 : t166 = (t161.size : Int)
        · rw [if_pos c9] at H
          have c9b0 : (t166 == (t161.size : Int)) = true := beq_iff_eq.mpr c9
          have c9b1 : (t166 != (t161.size : Int)) = false := bne_eq_false_iff_eq.mpr c9
          clear c9
          replace H := Option.bind_eq_some_iff.mp H
          obtain ⟨t171, A100, H⟩ := H
          replace H : (some t171) = some r := H
          have A10 := Aside0.mk A100
          clear A100
          obtain rfl := Option.some.inj H
          go_enter Try.func3, Try.ntmps3
          go_wp2_with (first | ((with_reducible refine gate_callee (f := 8) rfl ?_); refine goesL_ (some 8) rfl rfl Try.func8 (by kernel_rfl) rfl #[] rfl (by (try simp only [List.map_toArray, List.map_cons, List.map_nil]); first | done | rfl | (simp only [List.length_drop, List.length_take]; rfl)) ?_; (with_reducible refine (glossatorkeep3_journalExample.calls k  true _ A2.out).mono ?_); rintro e w11 ⟨rfl, hb⟩; refine ⟨_, rfl, ?_⟩; have n0_ := Aside0.mk (below_step (by repeat (first | (with_reducible first | exact HB.out | apply below_alloc | apply pw_below_drewN | apply below_drew1) | exact HB.out)) hb); clear HB; have HB := n0_; clear n0_; (try clear hb); (try clear hb2); (try clear hk); (try clear hi)) | ((with_reducible refine gate_callee (f := 9) rfl ?_); refine goesL_ (some 12) rfl rfl Try.func9 (by kernel_rfl) rfl #[.slice A0 l0.length c0] rfl (by (try simp only [List.map_toArray, List.map_cons, List.map_nil]); first | done | rfl | (simp only [List.length_drop, List.length_take]; rfl)) ?_; (with_reducible refine (glossatorkeep3_written.calls k _ _ l0 t161 t162 _ ?side1 ?side2 A4.out).mono ?_); (case side1 => repeat (first | exact (Kd.C_below HR0.out HB.out) | (with_reducible refine Kd.C_alloc ?_ _) | (with_reducible refine Kd.C_drewN ?_ _) | (with_reducible refine Kd.C_drew ?_))); (case side2 => exact HC0.out); rintro e w12 ⟨v163, rfl, ho0, hb⟩; refine ⟨_, rfl, ?_⟩; have n0_ := Aside0.mk (Kd.R_lower ho0 (below_size (by repeat (first | (with_reducible first | exact HB.out | apply below_alloc | apply pw_below_drewN | apply below_drew1) | exact HB.out)))); have n1_ := Aside0.mk (below_step (by repeat (first | (with_reducible first | exact HB.out | apply below_alloc | apply pw_below_drewN | apply below_drew1) | exact HB.out)) hb); clear HB; have HO164 := n0_; have HB := n1_; clear n0_ n1_; (try clear hb); (try clear hb2); (try clear hk); (try clear hi); (try clear ho0)) | ((with_reducible refine gate_callee (f := 10) rfl ?_); refine goesL_ (some 17) rfl rfl Try.func10 (by kernel_rfl) rfl #[.string t161] rfl (by (try simp only [List.map_toArray, List.map_cons, List.map_nil]); first | done | rfl | (simp only [List.length_drop, List.length_take]; rfl)) ?_; (with_reducible refine (journal_Read.calls k t161 t165 t166 t167 _ A5.out).mono ?_); rintro e w13 ⟨v168, rfl, ho0, hb⟩; refine ⟨_, rfl, ?_⟩; have n0_ := Aside0.mk (Kd.R_elder' (by (with_reducible repeat (first | apply Kd.R_alloc | apply Kd.R_drewN | apply Kd.R_drew)); exact HO164.out) (Kd.R_base ho0) hb); have n1_ := Aside0.mk (Kd.R_lower (Kd.R_new' ho0 (Kd.R_lt (by (with_reducible repeat (first | apply Kd.R_alloc | apply Kd.R_drewN | apply Kd.R_drew)); exact HO164.out))) (below_size (by repeat (first | (with_reducible first | exact HB.out | apply below_alloc | apply pw_below_drewN | apply below_drew1) | exact HB.out)))); have n2_ := Aside0.mk (below_step (by repeat (first | (with_reducible first | exact HB.out | apply below_alloc | apply pw_below_drewN | apply below_drew1) | exact HB.out)) hb); clear HO164; clear HB; have HO164 := n0_; have HO169 := n1_; have HB := n2_; clear n0_ n1_ n2_; (try clear hb); (try clear hb2); (try clear hk); (try clear hi); (try clear ho0)) | ((with_reducible refine gate_callee (f := 8) rfl ?_); refine goesL_ (some 21) rfl rfl Try.func8 (by kernel_rfl) rfl #[] rfl (by (try simp only [List.map_toArray, List.map_cons, List.map_nil]); first | done | rfl | (simp only [List.length_drop, List.length_take]; rfl)) ?_; (with_reducible refine (glossatorkeep3_journalExample.calls k  true _ A6.out).mono ?_); rintro e w14 ⟨rfl, hb⟩; refine ⟨_, rfl, ?_⟩; have n0_ := Aside0.mk (Kd.R_below (by (with_reducible repeat (first | apply Kd.R_alloc | apply Kd.R_drewN | apply Kd.R_drew)); exact HO164.out) hb); have n1_ := Aside0.mk (Kd.R_below (by (with_reducible repeat (first | apply Kd.R_alloc | apply Kd.R_drewN | apply Kd.R_drew)); exact HO169.out) hb); have n2_ := Aside0.mk (below_step (by repeat (first | (with_reducible first | exact HB.out | apply below_alloc | apply pw_below_drewN | apply below_drew1) | exact HB.out)) hb); clear HO164; clear HO169; clear HB; have HO164 := n0_; have HO169 := n1_; have HB := n2_; clear n0_ n1_ n2_; (try clear hb); (try clear hb2); (try clear hk); (try clear hi); obtain ⟨Ao15, co15, eo15⟩ := Kd.R_slice HO169.out; subst eo15; obtain ⟨Ao16, co16, eo16⟩ := Kd.R_slice HO164.out; subst eo16) | (go_at_call 11; (with_reducible refine (api_QRecord.calls k _ _ t165 _ _ t162 t171 _ ?side1 ?side2 ?side3 ?side4 A10.out).mono ?_); (case side1 => repeat (first | exact (Kd.R_reads' HO169.out).2.2 | (with_reducible refine Kd.C_alloc ?_ _) | (with_reducible refine Kd.C_drewN ?_ _) | (with_reducible refine Kd.C_drew ?_))); (case side2 => exact (Kd.R_reads' HO169.out).2.1); (case side3 => repeat (first | exact (Kd.R_reads' HO164.out).2.2 | (with_reducible refine Kd.C_alloc ?_ _) | (with_reducible refine Kd.C_drewN ?_ _) | (with_reducible refine Kd.C_drew ?_))); (case side4 => exact (Kd.R_reads' HO164.out).2.1); rintro e w17 ⟨rfl, hb⟩; have n0_ := Aside0.mk (Kd.R_below (by (with_reducible repeat (first | apply Kd.R_alloc | apply Kd.R_drewN | apply Kd.R_drew)); exact HO164.out) hb); have n1_ := Aside0.mk (Kd.R_below (by (with_reducible repeat (first | apply Kd.R_alloc | apply Kd.R_drewN | apply Kd.R_drew)); exact HO169.out) hb); have n2_ := Aside0.mk (below_step (by repeat (first | (with_reducible first | exact HB.out | apply below_alloc | apply pw_below_drewN | apply below_drew1) | exact HB.out)) hb); clear HO164; clear HO169; clear HB; have HO164 := n0_; have HO169 := n1_; have HB := n2_; clear n0_ n1_ n2_; (try clear hb); (try clear hb2); (try clear hk); (try clear hi)))
          go_ret
          exact ⟨by first | rfl | (simp [errW_none, errW_some] <;> rfl) | (simp [*, errW_none, errW_some] <;> rfl), by repeat (first | (with_reducible first | exact HB.out | apply below_alloc | apply pw_below_drewN | apply below_drew1) | exact HB.out)⟩
        · rw [if_neg c9] at H
          have c9b0 : (t166 == (t161.size : Int)) = false := beq_eq_false_iff_ne.mpr c9
          have c9b1 : (t166 != (t161.size : Int)) = true := bne_iff_ne.mpr c9
          obtain rfl := Option.some.inj H
          go_enter Try.func3, Try.ntmps3
          go_wp2_with (first | ((with_reducible refine gate_callee (f := 8) rfl ?_); refine goesL_ (some 8) rfl rfl Try.func8 (by kernel_rfl) rfl #[] rfl (by (try simp only [List.map_toArray, List.map_cons, List.map_nil]); first | done | rfl | (simp only [List.length_drop, List.length_take]; rfl)) ?_; (with_reducible refine (glossatorkeep3_journalExample.calls k  true _ A2.out).mono ?_); rintro e w18 ⟨rfl, hb⟩; refine ⟨_, rfl, ?_⟩; have n0_ := Aside0.mk (below_step (by repeat (first | (with_reducible first | exact HB.out | apply below_alloc | apply pw_below_drewN | apply below_drew1) | exact HB.out)) hb); clear HB; have HB := n0_; clear n0_; (try clear hb); (try clear hb2); (try clear hk); (try clear hi)) | ((with_reducible refine gate_callee (f := 9) rfl ?_); refine goesL_ (some 12) rfl rfl Try.func9 (by kernel_rfl) rfl #[.slice A0 l0.length c0] rfl (by (try simp only [List.map_toArray, List.map_cons, List.map_nil]); first | done | rfl | (simp only [List.length_drop, List.length_take]; rfl)) ?_; (with_reducible refine (glossatorkeep3_written.calls k _ _ l0 t161 t162 _ ?side1 ?side2 A4.out).mono ?_); (case side1 => repeat (first | exact (Kd.C_below HR0.out HB.out) | (with_reducible refine Kd.C_alloc ?_ _) | (with_reducible refine Kd.C_drewN ?_ _) | (with_reducible refine Kd.C_drew ?_))); (case side2 => exact HC0.out); rintro e w19 ⟨v163, rfl, ho0, hb⟩; refine ⟨_, rfl, ?_⟩; have n0_ := Aside0.mk (Kd.R_lower ho0 (below_size (by repeat (first | (with_reducible first | exact HB.out | apply below_alloc | apply pw_below_drewN | apply below_drew1) | exact HB.out)))); have n1_ := Aside0.mk (below_step (by repeat (first | (with_reducible first | exact HB.out | apply below_alloc | apply pw_below_drewN | apply below_drew1) | exact HB.out)) hb); clear HB; have HO164 := n0_; have HB := n1_; clear n0_ n1_; (try clear hb); (try clear hb2); (try clear hk); (try clear hi); (try clear ho0)) | ((with_reducible refine gate_callee (f := 10) rfl ?_); refine goesL_ (some 17) rfl rfl Try.func10 (by kernel_rfl) rfl #[.string t161] rfl (by (try simp only [List.map_toArray, List.map_cons, List.map_nil]); first | done | rfl | (simp only [List.length_drop, List.length_take]; rfl)) ?_; (with_reducible refine (journal_Read.calls k t161 t165 t166 t167 _ A5.out).mono ?_); rintro e w20 ⟨v168, rfl, ho0, hb⟩; refine ⟨_, rfl, ?_⟩; have n0_ := Aside0.mk (Kd.R_elder' (by (with_reducible repeat (first | apply Kd.R_alloc | apply Kd.R_drewN | apply Kd.R_drew)); exact HO164.out) (Kd.R_base ho0) hb); have n1_ := Aside0.mk (Kd.R_lower (Kd.R_new' ho0 (Kd.R_lt (by (with_reducible repeat (first | apply Kd.R_alloc | apply Kd.R_drewN | apply Kd.R_drew)); exact HO164.out))) (below_size (by repeat (first | (with_reducible first | exact HB.out | apply below_alloc | apply pw_below_drewN | apply below_drew1) | exact HB.out)))); have n2_ := Aside0.mk (below_step (by repeat (first | (with_reducible first | exact HB.out | apply below_alloc | apply pw_below_drewN | apply below_drew1) | exact HB.out)) hb); clear HO164; clear HB; have HO164 := n0_; have HO169 := n1_; have HB := n2_; clear n0_ n1_ n2_; (try clear hb); (try clear hb2); (try clear hk); (try clear hi); (try clear ho0)) | ((with_reducible refine gate_callee (f := 8) rfl ?_); refine goesL_ (some 21) rfl rfl Try.func8 (by kernel_rfl) rfl #[] rfl (by (try simp only [List.map_toArray, List.map_cons, List.map_nil]); first | done | rfl | (simp only [List.length_drop, List.length_take]; rfl)) ?_; (with_reducible refine (glossatorkeep3_journalExample.calls k  true _ A6.out).mono ?_); rintro e w21 ⟨rfl, hb⟩; refine ⟨_, rfl, ?_⟩; have n0_ := Aside0.mk (Kd.R_below (by (with_reducible repeat (first | apply Kd.R_alloc | apply Kd.R_drewN | apply Kd.R_drew)); exact HO164.out) hb); have n1_ := Aside0.mk (Kd.R_below (by (with_reducible repeat (first | apply Kd.R_alloc | apply Kd.R_drewN | apply Kd.R_drew)); exact HO169.out) hb); have n2_ := Aside0.mk (below_step (by repeat (first | (with_reducible first | exact HB.out | apply below_alloc | apply pw_below_drewN | apply below_drew1) | exact HB.out)) hb); clear HO164; clear HO169; clear HB; have HO164 := n0_; have HO169 := n1_; have HB := n2_; clear n0_ n1_ n2_; (try clear hb); (try clear hb2); (try clear hk); (try clear hi)))
          go_ret
          exact ⟨by first | rfl | (simp [errW_none, errW_some] <;> rfl) | (simp [*, errW_none, errW_some] <;> rfl), by repeat (first | (with_reducible first | exact HB.out | apply below_alloc | apply pw_below_drewN | apply below_drew1) | exact HB.out)⟩
      · rw [if_neg c8] at H
        have c8b0 : (t167 == 0) = false := beq_eq_false_iff_ne.mpr c8
        have c8b1 : (t167 != 0) = true := bne_iff_ne.mpr c8
        obtain rfl := Option.some.inj H
        go_enter Try.func3, Try.ntmps3
        go_wp2_with (first | ((with_reducible refine gate_callee (f := 8) rfl ?_); refine goesL_ (some 8) rfl rfl Try.func8 (by kernel_rfl) rfl #[] rfl (by (try simp only [List.map_toArray, List.map_cons, List.map_nil]); first | done | rfl | (simp only [List.length_drop, List.length_take]; rfl)) ?_; (with_reducible refine (glossatorkeep3_journalExample.calls k  true _ A2.out).mono ?_); rintro e w22 ⟨rfl, hb⟩; refine ⟨_, rfl, ?_⟩; have n0_ := Aside0.mk (below_step (by repeat (first | (with_reducible first | exact HB.out | apply below_alloc | apply pw_below_drewN | apply below_drew1) | exact HB.out)) hb); clear HB; have HB := n0_; clear n0_; (try clear hb); (try clear hb2); (try clear hk); (try clear hi)) | ((with_reducible refine gate_callee (f := 9) rfl ?_); refine goesL_ (some 12) rfl rfl Try.func9 (by kernel_rfl) rfl #[.slice A0 l0.length c0] rfl (by (try simp only [List.map_toArray, List.map_cons, List.map_nil]); first | done | rfl | (simp only [List.length_drop, List.length_take]; rfl)) ?_; (with_reducible refine (glossatorkeep3_written.calls k _ _ l0 t161 t162 _ ?side1 ?side2 A4.out).mono ?_); (case side1 => repeat (first | exact (Kd.C_below HR0.out HB.out) | (with_reducible refine Kd.C_alloc ?_ _) | (with_reducible refine Kd.C_drewN ?_ _) | (with_reducible refine Kd.C_drew ?_))); (case side2 => exact HC0.out); rintro e w23 ⟨v163, rfl, ho0, hb⟩; refine ⟨_, rfl, ?_⟩; have n0_ := Aside0.mk (Kd.R_lower ho0 (below_size (by repeat (first | (with_reducible first | exact HB.out | apply below_alloc | apply pw_below_drewN | apply below_drew1) | exact HB.out)))); have n1_ := Aside0.mk (below_step (by repeat (first | (with_reducible first | exact HB.out | apply below_alloc | apply pw_below_drewN | apply below_drew1) | exact HB.out)) hb); clear HB; have HO164 := n0_; have HB := n1_; clear n0_ n1_; (try clear hb); (try clear hb2); (try clear hk); (try clear hi); (try clear ho0)) | ((with_reducible refine gate_callee (f := 10) rfl ?_); refine goesL_ (some 17) rfl rfl Try.func10 (by kernel_rfl) rfl #[.string t161] rfl (by (try simp only [List.map_toArray, List.map_cons, List.map_nil]); first | done | rfl | (simp only [List.length_drop, List.length_take]; rfl)) ?_; (with_reducible refine (journal_Read.calls k t161 t165 t166 t167 _ A5.out).mono ?_); rintro e w24 ⟨v168, rfl, ho0, hb⟩; refine ⟨_, rfl, ?_⟩; have n0_ := Aside0.mk (Kd.R_elder' (by (with_reducible repeat (first | apply Kd.R_alloc | apply Kd.R_drewN | apply Kd.R_drew)); exact HO164.out) (Kd.R_base ho0) hb); have n1_ := Aside0.mk (Kd.R_lower (Kd.R_new' ho0 (Kd.R_lt (by (with_reducible repeat (first | apply Kd.R_alloc | apply Kd.R_drewN | apply Kd.R_drew)); exact HO164.out))) (below_size (by repeat (first | (with_reducible first | exact HB.out | apply below_alloc | apply pw_below_drewN | apply below_drew1) | exact HB.out)))); have n2_ := Aside0.mk (below_step (by repeat (first | (with_reducible first | exact HB.out | apply below_alloc | apply pw_below_drewN | apply below_drew1) | exact HB.out)) hb); clear HO164; clear HB; have HO164 := n0_; have HO169 := n1_; have HB := n2_; clear n0_ n1_ n2_; (try clear hb); (try clear hb2); (try clear hk); (try clear hi); (try clear ho0)) | ((with_reducible refine gate_callee (f := 8) rfl ?_); refine goesL_ (some 21) rfl rfl Try.func8 (by kernel_rfl) rfl #[] rfl (by (try simp only [List.map_toArray, List.map_cons, List.map_nil]); first | done | rfl | (simp only [List.length_drop, List.length_take]; rfl)) ?_; (with_reducible refine (glossatorkeep3_journalExample.calls k  true _ A6.out).mono ?_); rintro e w25 ⟨rfl, hb⟩; refine ⟨_, rfl, ?_⟩; have n0_ := Aside0.mk (Kd.R_below (by (with_reducible repeat (first | apply Kd.R_alloc | apply Kd.R_drewN | apply Kd.R_drew)); exact HO164.out) hb); have n1_ := Aside0.mk (Kd.R_below (by (with_reducible repeat (first | apply Kd.R_alloc | apply Kd.R_drewN | apply Kd.R_drew)); exact HO169.out) hb); have n2_ := Aside0.mk (below_step (by repeat (first | (with_reducible first | exact HB.out | apply below_alloc | apply pw_below_drewN | apply below_drew1) | exact HB.out)) hb); clear HO164; clear HO169; clear HB; have HO164 := n0_; have HO169 := n1_; have HB := n2_; clear n0_ n1_ n2_; (try clear hb); (try clear hb2); (try clear hk); (try clear hi)))
        go_ret
        exact ⟨by first | rfl | (simp [errW_none, errW_some] <;> rfl) | (simp [*, errW_none, errW_some] <;> rfl), by repeat (first | (with_reducible first | exact HB.out | apply below_alloc | apply pw_below_drewN | apply below_drew1) | exact HB.out)⟩
    · replace c7 := Bool.eq_false_iff.mpr c7
      subst c7
      have H1 : (some false) = some r := by rw [if_neg (show ¬ (false = true) by decide)] at H; exact H
      clear H
      have H := H1
      clear H1
      obtain rfl := Option.some.inj H
      go_enter Try.func3, Try.ntmps3
      go_wp2_with (first | ((with_reducible refine gate_callee (f := 8) rfl ?_); refine goesL_ (some 8) rfl rfl Try.func8 (by kernel_rfl) rfl #[] rfl (by (try simp only [List.map_toArray, List.map_cons, List.map_nil]); first | done | rfl | (simp only [List.length_drop, List.length_take]; rfl)) ?_; (with_reducible refine (glossatorkeep3_journalExample.calls k  true _ A2.out).mono ?_); rintro e w26 ⟨rfl, hb⟩; refine ⟨_, rfl, ?_⟩; have n0_ := Aside0.mk (below_step (by repeat (first | (with_reducible first | exact HB.out | apply below_alloc | apply pw_below_drewN | apply below_drew1) | exact HB.out)) hb); clear HB; have HB := n0_; clear n0_; (try clear hb); (try clear hb2); (try clear hk); (try clear hi)) | ((with_reducible refine gate_callee (f := 9) rfl ?_); refine goesL_ (some 12) rfl rfl Try.func9 (by kernel_rfl) rfl #[.slice A0 l0.length c0] rfl (by (try simp only [List.map_toArray, List.map_cons, List.map_nil]); first | done | rfl | (simp only [List.length_drop, List.length_take]; rfl)) ?_; (with_reducible refine (glossatorkeep3_written.calls k _ _ l0 t161 t162 _ ?side1 ?side2 A4.out).mono ?_); (case side1 => repeat (first | exact (Kd.C_below HR0.out HB.out) | (with_reducible refine Kd.C_alloc ?_ _) | (with_reducible refine Kd.C_drewN ?_ _) | (with_reducible refine Kd.C_drew ?_))); (case side2 => exact HC0.out); rintro e w27 ⟨v163, rfl, ho0, hb⟩; refine ⟨_, rfl, ?_⟩; have n0_ := Aside0.mk (Kd.R_lower ho0 (below_size (by repeat (first | (with_reducible first | exact HB.out | apply below_alloc | apply pw_below_drewN | apply below_drew1) | exact HB.out)))); have n1_ := Aside0.mk (below_step (by repeat (first | (with_reducible first | exact HB.out | apply below_alloc | apply pw_below_drewN | apply below_drew1) | exact HB.out)) hb); clear HB; have HO164 := n0_; have HB := n1_; clear n0_ n1_; (try clear hb); (try clear hb2); (try clear hk); (try clear hi); (try clear ho0)) | ((with_reducible refine gate_callee (f := 10) rfl ?_); refine goesL_ (some 17) rfl rfl Try.func10 (by kernel_rfl) rfl #[.string t161] rfl (by (try simp only [List.map_toArray, List.map_cons, List.map_nil]); first | done | rfl | (simp only [List.length_drop, List.length_take]; rfl)) ?_; (with_reducible refine (journal_Read.calls k t161 t165 t166 t167 _ A5.out).mono ?_); rintro e w28 ⟨v168, rfl, ho0, hb⟩; refine ⟨_, rfl, ?_⟩; have n0_ := Aside0.mk (Kd.R_elder' (by (with_reducible repeat (first | apply Kd.R_alloc | apply Kd.R_drewN | apply Kd.R_drew)); exact HO164.out) (Kd.R_base ho0) hb); have n1_ := Aside0.mk (Kd.R_lower (Kd.R_new' ho0 (Kd.R_lt (by (with_reducible repeat (first | apply Kd.R_alloc | apply Kd.R_drewN | apply Kd.R_drew)); exact HO164.out))) (below_size (by repeat (first | (with_reducible first | exact HB.out | apply below_alloc | apply pw_below_drewN | apply below_drew1) | exact HB.out)))); have n2_ := Aside0.mk (below_step (by repeat (first | (with_reducible first | exact HB.out | apply below_alloc | apply pw_below_drewN | apply below_drew1) | exact HB.out)) hb); clear HO164; clear HB; have HO164 := n0_; have HO169 := n1_; have HB := n2_; clear n0_ n1_ n2_; (try clear hb); (try clear hb2); (try clear hk); (try clear hi); (try clear ho0)) | ((with_reducible refine gate_callee (f := 8) rfl ?_); refine goesL_ (some 21) rfl rfl Try.func8 (by kernel_rfl) rfl #[] rfl (by (try simp only [List.map_toArray, List.map_cons, List.map_nil]); first | done | rfl | (simp only [List.length_drop, List.length_take]; rfl)) ?_; (with_reducible refine (glossatorkeep3_journalExample.calls k  false _ A6.out).mono ?_); rintro e w29 ⟨rfl, hb⟩; refine ⟨_, rfl, ?_⟩; have n0_ := Aside0.mk (Kd.R_below (by (with_reducible repeat (first | apply Kd.R_alloc | apply Kd.R_drewN | apply Kd.R_drew)); exact HO164.out) hb); have n1_ := Aside0.mk (Kd.R_below (by (with_reducible repeat (first | apply Kd.R_alloc | apply Kd.R_drewN | apply Kd.R_drew)); exact HO169.out) hb); have n2_ := Aside0.mk (below_step (by repeat (first | (with_reducible first | exact HB.out | apply below_alloc | apply pw_below_drewN | apply below_drew1) | exact HB.out)) hb); clear HO164; clear HO169; clear HB; have HO164 := n0_; have HO169 := n1_; have HB := n2_; clear n0_ n1_ n2_; (try clear hb); (try clear hb2); (try clear hk); (try clear hi)))
      go_ret
      exact ⟨by first | rfl | (simp [errW_none, errW_some] <;> rfl) | (simp [*, errW_none, errW_some] <;> rfl), by repeat (first | (with_reducible first | exact HB.out | apply below_alloc | apply pw_below_drewN | apply below_drew1) | exact HB.out)⟩
  · replace c3 := Bool.eq_false_iff.mpr c3
    subst c3
    have H1 : (some false) = some r := by rw [if_neg (show ¬ (false = true) by decide)] at H; exact H
    clear H
    have H := H1
    clear H1
    obtain rfl := Option.some.inj H
    go_enter Try.func3, Try.ntmps3
    go_wp2_with (first | ((with_reducible refine gate_callee (f := 8) rfl ?_); refine goesL_ (some 8) rfl rfl Try.func8 (by kernel_rfl) rfl #[] rfl (by (try simp only [List.map_toArray, List.map_cons, List.map_nil]); first | done | rfl | (simp only [List.length_drop, List.length_take]; rfl)) ?_; (with_reducible refine (glossatorkeep3_journalExample.calls k  false _ A2.out).mono ?_); rintro e w30 ⟨rfl, hb⟩; refine ⟨_, rfl, ?_⟩; have n0_ := Aside0.mk (below_step (by repeat (first | (with_reducible first | exact HB.out | apply below_alloc | apply pw_below_drewN | apply below_drew1) | exact HB.out)) hb); clear HB; have HB := n0_; clear n0_; (try clear hb); (try clear hb2); (try clear hk); (try clear hi)))
    go_ret
    exact ⟨by first | rfl | (simp [errW_none, errW_some] <;> rfl) | (simp [*, errW_none, errW_some] <;> rfl), by repeat (first | (with_reducible first | exact HB.out | apply below_alloc | apply pw_below_drewN | apply below_drew1) | exact HB.out)⟩

/-! ### glossatorref3_Mod: function 12 -/
def glossatorref3_Mod.f (a0 : Int) (a1 : Int) : Option (Int) := if a1 = 0 then (none) else (if (Int.tmod a0 a1) < 0 then (some (wrap64 ((Int.tmod a0 a1) + a1))) else (some (Int.tmod a0 a1)))
set_option maxHeartbeats 8000000 in
set_option maxRecDepth 100000 in
theorem glossatorref3_Mod.calls (a0 : Int) (a1 : Int) (r : Int) (w : World) (h : glossatorref3_Mod.f a0 a1 = some r) :
    Calls Try.prog 12 #[.int .i64 a0, .int .i64 a1] w fun e w' => e = .returned (.int .i64 r) ∧ Drawn0 w w' := by
  have H : (if a1 = 0 then (none) else (if (Int.tmod a0 a1) < 0 then (some (wrap64 ((Int.tmod a0 a1) + a1))) else (some (Int.tmod a0 a1)))) = some r := h
  clear h
  by_cases c3 : a1 = 0
  · rw [if_pos c3] at H
    exact absurd H (by simp)
  · rw [if_neg c3] at H
    have c3b0 : (a1 == 0) = false := beq_eq_false_iff_ne.mpr c3
    have c3b1 : (a1 != 0) = true := bne_iff_ne.mpr c3
    by_cases c4 : (Int.tmod a0 a1) < 0
    · rw [if_pos c4] at H
      have c4b0 : decide ((Int.tmod a0 a1) < 0) = true := decide_eq_true c4
      clear c4
      obtain rfl := Option.some.inj H
      go_enter Try.func12, Try.ntmps12
      go_wp2
      go_ret
      exact ⟨by first | rfl | (simp; done) | (simp [*]; done), by repeat (first | exact Drawn0.refl _ | apply Drawn0.step)⟩
    · rw [if_neg c4] at H
      have c4b0 : decide ((Int.tmod a0 a1) < 0) = false := decide_eq_false c4
      clear c4
      obtain rfl := Option.some.inj H
      go_enter Try.func12, Try.ntmps12
      go_wp2
      go_ret
      exact ⟨by first | rfl | (simp; done) | (simp [*]; done), by repeat (first | exact Drawn0.refl _ | apply Drawn0.step)⟩

/-! ### journal_Recover: function 13 -/
def journal_Recover.f (k : Nat) (a0 : ByteArray) : Option (ByteArray × (List (S31))) := if 0 ≤ (mn (a0.size : Int) 40000) then (if (mn (a0.size : Int) 40000) ≤ (a0.size : Int) then ((journal_scan.f k (a0.extract 0 ((mn (a0.size : Int) 40000) : Int).toNat)).bind fun bt172 => (if 0 ≤ bt172.2.1 then (if bt172.2.1 ≤ ((a0.extract 0 ((mn (a0.size : Int) 40000) : Int).toNat).size : Int) then (some ((a0.extract 0 ((mn (a0.size : Int) 40000) : Int).toNat).extract 0 (bt172.2.1 : Int).toNat, bt172.1)) else (none)) else (none))) else (none)) else (none)
theorem journal_Recover.mono : ∀ a0 k, LeO (journal_Recover.f k a0) (journal_Recover.f (k + 1) a0) := by
  intro a0 k
  unfold journal_Recover.f
  repeat' first
      | (with_reducible exact journal_scan.mono _ _)
      | (with_reducible exact LeO.refl _)
      | (with_reducible exact LeO.none _)
      | (with_reducible refine LeO.ite ?_ ?_)
      | (with_reducible refine LeO.bind ?_ (fun _ => ?_))
      | exact journal_scan.mono _ _
      | exact LeO.none _
      | refine LeO.ite ?_ ?_
      | refine LeO.bind ?_ (fun _ => ?_)
set_option maxHeartbeats 8000000 in
set_option maxRecDepth 100000 in
theorem journal_Recover.calls (k : Nat) (a0 : ByteArray) (r1 : ByteArray) (r2 : List (S31)) (w : World) (h : journal_Recover.f k a0 = some (r1, r2)) :
    Calls Try.prog 13 #[.string a0] w fun e w' => ∃ v1_ : Value, e = .returned (.tuple #[.string r1, v1_]) ∧ Kd.R k31 31 w' w.heap.size (fun _ => True) v1_ r2 ∧ Below w.heap.size w w' := by
  have HB := Aside0.mk (Below.refl w.heap.size w)
  have H : (if 0 ≤ (mn (a0.size : Int) 40000) then (if (mn (a0.size : Int) 40000) ≤ (a0.size : Int) then ((journal_scan.f k (a0.extract 0 ((mn (a0.size : Int) 40000) : Int).toNat)).bind fun bt172 => (if 0 ≤ bt172.2.1 then (if bt172.2.1 ≤ ((a0.extract 0 ((mn (a0.size : Int) 40000) : Int).toNat).size : Int) then (some ((a0.extract 0 ((mn (a0.size : Int) 40000) : Int).toNat).extract 0 (bt172.2.1 : Int).toNat, bt172.1)) else (none)) else (none))) else (none)) else (none)) = some (r1, r2) := h
  clear h
  obtain ⟨ji2, hji2⟩ : ∃ j_ : Int, (mn (a0.size : Int) 40000) = j_ := ⟨_, rfl⟩
  replace H : (if 0 ≤ (ji2) then (if (ji2) ≤ (a0.size : Int) then ((journal_scan.f k (a0.extract 0 ((ji2) : Int).toNat)).bind fun bt172 => (if 0 ≤ bt172.2.1 then (if bt172.2.1 ≤ ((a0.extract 0 ((ji2) : Int).toNat).size : Int) then (some ((a0.extract 0 ((ji2) : Int).toNat).extract 0 (bt172.2.1 : Int).toNat, bt172.1)) else (none)) else (none))) else (none)) else (none)) = some (r1, r2) := by first | (rw [hji2] at H; exact H) | (simp only [hji2] at H ⊢; exact H)
  (try (have hji2h : ji2 ≤ 40000 := by (rw [← hji2]; unfold mn; (repeat' split) <;> omega)))
  (try (have hji2g : ji2 ≤ 64 := by omega))
  (try (have hji2l : 0 ≤ ji2 := by (rw [← hji2]; unfold mn; (repeat' split) <;> omega)))
  (try (have hji2m : 0 ≤ ji2 := by omega))
  have hji2_ : (if 40000 < (a0.size : Int) then 40000 else (a0.size : Int)) = ji2 := hji2
  by_cases c3 : 0 ≤ (ji2)
  · rw [if_pos c3] at H
    have c3b0 := eq_true c3
    have c3b1 : decide (0 ≤ (ji2)) = true := decide_eq_true c3
    clear c3
    by_cases c4 : (ji2) ≤ (a0.size : Int)
    · rw [if_pos c4] at H
      have c4b0 := eq_true c4
      have c4b1 : decide ((ji2) ≤ (a0.size : Int)) = true := decide_eq_true c4
      clear c4
      replace H := Option.bind_eq_some_iff.mp H
      obtain ⟨⟨t172, t173, t174⟩, A50, H⟩ := H
      replace H : (if 0 ≤ t173 then (if t173 ≤ ((a0.extract 0 ((ji2) : Int).toNat).size : Int) then (some ((a0.extract 0 ((ji2) : Int).toNat).extract 0 (t173 : Int).toNat, t172)) else (none)) else (none)) = some (r1, r2) := H
      have A5 := Aside0.mk A50
      clear A50
      by_cases c6 : 0 ≤ t173
      · rw [if_pos c6] at H
        have c6b0 := eq_true c6
        have c6b1 : decide (0 ≤ t173) = true := decide_eq_true c6
        clear c6
        by_cases c7 : t173 ≤ ((a0.extract 0 ((ji2) : Int).toNat).size : Int)
        · rw [if_pos c7] at H
          have c7b0 := eq_true c7
          have c7b1 : decide (t173 ≤ ((a0.extract 0 ((ji2) : Int).toNat).size : Int)) = true := decide_eq_true c7
          have c7m : t173 ≤ max ji2 0 := by have hz_ := c7; rw [ByteArray.size_extract] at hz_; omega
          clear c7
          simp only [Option.some.injEq, Prod.mk.injEq] at H
          obtain ⟨rfl, rfl⟩ := H
          go_enter Try.func13, Try.ntmps13
          go_wp2_with (first | ((with_reducible refine gate_callee (f := 20) rfl ?_); refine goesL_ (some 14) rfl rfl Try.func20 (by kernel_rfl) rfl #[.string (a0.extract 0 ((ji2) : Int).toNat)] rfl (by (try simp only [List.map_toArray, List.map_cons, List.map_nil]); first | done | (simp only [hji2]; rfl) | rfl | (simp only [List.length_drop, List.length_take]; rfl)) ?_; (with_reducible refine (journal_scan.calls k (a0.extract 0 ((ji2) : Int).toNat) t172 t173 t174 _ A5.out).mono ?_); rintro e w8 ⟨v175, rfl, ho0, hb⟩; refine ⟨_, rfl, ?_⟩; have n0_ := Aside0.mk (Kd.R_lower ho0 (below_size (by repeat (first | (with_reducible first | exact HB.out | apply below_alloc | apply pw_below_drewN | apply below_drew1) | exact HB.out)))); have n1_ := Aside0.mk (below_step (by repeat (first | (with_reducible first | exact HB.out | apply below_alloc | apply pw_below_drewN | apply below_drew1) | exact HB.out)) hb); clear HB; have HO176 := n0_; have HB := n1_; clear n0_ n1_; (try clear hb); (try clear hb2); (try clear hk); (try clear hi); (try clear ho0)))
          go_ret2
          exact ⟨_, by first | rfl | (simp [errW_none, errW_some] <;> rfl) | (simp only [← hji2]; first | rfl | (simp [errW_none, errW_some] <;> rfl)) | (simp [*, errW_none, errW_some] <;> rfl), by (with_reducible repeat (first | apply Kd.R_alloc | apply Kd.R_drewN | apply Kd.R_drew)); exact HO176.out, by repeat (first | (with_reducible first | exact HB.out | apply below_alloc | apply pw_below_drewN | apply below_drew1) | exact HB.out)⟩
        · rw [if_neg c7] at H
          exact absurd H (by simp)
      · rw [if_neg c6] at H
        exact absurd H (by simp)
    · rw [if_neg c4] at H
      exact absurd H (by simp)
  · rw [if_neg c3] at H
    exact absurd H (by simp)

end Go.Proofs.Ytflemfibjjognaa.Jr
