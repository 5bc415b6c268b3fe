import Derived.Laws.Cover1
import Derived.Test.YtgigbllohagfmaaFbx0
import Derived.Test.YtgigbllohagfmaaFbx2
import Derived.Test.YtgigbllohagfmaaFbx3
namespace Go.Proofs.Ytgigbllohagfmaa.Fb
open Go.RowKit Go.Proofs.YtgigbllohagfmaaW.PrintWords Go.Proofs.YtgigbllohagfmaaW.PrintLast Go.Proofs.YtgigbllohagfmaaW.PrintMore
attribute [local go_sem] max2_int min2_int max_two min_two max_three min_three max_four min_four   -- for this text's walks alone
set_option linter.unusedVariables false
set_option linter.unusedSimpArgs false

/-! ### glossatorkeep3_FilewatchBatchInvariants: function 3 -/
mutual
def glossatorkeep3_FilewatchBatchInvariants.l0 : Nat → Int → List (S31) → Int → Int → Option (Bool)
  | 0, _, _, _, _ => none
  | k + 1, x1, x5, x25, x26 => if x26 < x25 then (if 0 ≤ x26 then (if x26 < (x5.length : Int) then (if (((rd_T31 x5 x26).f1).length : Int) = 0 then (some false) else (if x26 > 0 then (if 0 ≤ (wrap64 (x26 - 1)) then (if (wrap64 (x26 - 1)) < (x5.length : Int) then (if ((rd_T31 x5 x26).f0) < ((rd_T31 x5 (wrap64 (x26 - 1))).f0) then (some false) else (glossatorkeep3_FilewatchBatchInvariants.l1 k x1 x5 x26 ((rd_T31 x5 x26).f1) x25 x26 (((rd_T31 x5 x26).f1).length : Int) 0)) else (none)) else (none)) else (glossatorkeep3_FilewatchBatchInvariants.l1 k x1 x5 x26 ((rd_T31 x5 x26).f1) x25 x26 (((rd_T31 x5 x26).f1).length : Int) 0))) else (none)) else (none)) else ((glossatorkeep3_watchExample.f k).bind fun t177 => (some t177))
def glossatorkeep3_FilewatchBatchInvariants.l1 : Nat → Int → List (S31) → Int → List (S33) → Int → Int → Int → Int → Option (Bool)
  | 0, _, _, _, _, _, _, _, _ => none
  | k + 1, x1, x5, x7, x8, x25, x26, x56, x57 => if x57 < x56 then (if x57 > 0 then (if 0 ≤ (wrap64 (x57 - 1)) then (if (wrap64 (x57 - 1)) < (x8.length : Int) then (if 0 ≤ x57 then (if x57 < (x8.length : Int) then (if ((Op.bytesLess (((rd_T33 x8 (wrap64 (x57 - 1))).f1).toList) (((rd_T33 x8 x57).f1).toList)) = true) then (if 0 ≤ x7 then (if x7 < (x5.length : Int) then (if (wrap64 (((rd_T33 x8 x57).f0) + x1)) > ((rd_T31 x5 x7).f0) then (some false) else (glossatorkeep3_FilewatchBatchInvariants.l1 k x1 x5 x7 x8 x25 x26 x56 (wrap64 (x57 + 1)))) else (none)) else (none)) else (some false)) else (none)) else (none)) else (none)) else (none)) else (if 0 ≤ x57 then (if x57 < (x8.length : Int) then (if 0 ≤ x7 then (if x7 < (x5.length : Int) then (if (wrap64 (((rd_T33 x8 x57).f0) + x1)) > ((rd_T31 x5 x7).f0) then (some false) else (glossatorkeep3_FilewatchBatchInvariants.l1 k x1 x5 x7 x8 x25 x26 x56 (wrap64 (x57 + 1)))) else (none)) else (none)) else (none)) else (none))) else (glossatorkeep3_FilewatchBatchInvariants.l0 k x1 x5 x25 (wrap64 (x26 + 1)))
end
def glossatorkeep3_FilewatchBatchInvariants.f (k : Nat) (l0 : List (S33)) (a1 : Int) : Option (Bool) := (glossatorkeep3_watchExample.f k).bind fun t159 => (if t159 = true then ((glossatorkeep3_timed.f k l0).bind fun t160 => ((glossatorref3_Mod.f a1 60).bind fun t163 => ((filewatch_Batches.f k t160 t163).bind fun bt164 => (if bt164.2 = 0 then (glossatorkeep3_FilewatchBatchInvariants.l0 k t163 bt164.1 (bt164.1.length : Int) 0) else (some false))))) else (some false))
theorem glossatorkeep3_FilewatchBatchInvariants.mono_l : ∀ k, (∀ y0 y1 y2 y3, LeO (glossatorkeep3_FilewatchBatchInvariants.l0 k y0 y1 y2 y3) (glossatorkeep3_FilewatchBatchInvariants.l0 (k + 1) y0 y1 y2 y3)) ∧ (∀ y0 y1 y2 y3 y4 y5 y6 y7, LeO (glossatorkeep3_FilewatchBatchInvariants.l1 k y0 y1 y2 y3 y4 y5 y6 y7) (glossatorkeep3_FilewatchBatchInvariants.l1 (k + 1) y0 y1 y2 y3 y4 y5 y6 y7))
  | 0 => ⟨fun _ _ _ _ r h => by simp [glossatorkeep3_FilewatchBatchInvariants.l0] at h, fun _ _ _ _ _ _ _ _ r h => by simp [glossatorkeep3_FilewatchBatchInvariants.l1] at h⟩
  | k + 1 => by
    obtain ⟨ih0, ih1⟩ := glossatorkeep3_FilewatchBatchInvariants.mono_l k
    refine ⟨?_, ?_⟩
    · intro y0 y1 y2 y3
      unfold glossatorkeep3_FilewatchBatchInvariants.l0
      repeat' first
      | (with_reducible exact ih0 _ _ _ _)
      | (with_reducible exact ih1 _ _ _ _ _ _ _ _)
      | (with_reducible exact filewatch_Batches.mono _ _ _)
      | (with_reducible exact glossatorkeep3_timed.mono _ _)
      | (with_reducible exact glossatorkeep3_watchExample.mono _)
      | (with_reducible exact LeO.refl _)
      | (with_reducible exact LeO.none _)
      | (with_reducible refine LeO.ite ?_ ?_)
      | (with_reducible refine LeO.bind ?_ (fun _ => ?_))
      | exact ih0 _ _ _ _
      | exact ih1 _ _ _ _ _ _ _ _
      | exact filewatch_Batches.mono _ _ _
      | exact glossatorkeep3_timed.mono _ _
      | exact glossatorkeep3_watchExample.mono _
      | exact LeO.none _
      | refine LeO.ite ?_ ?_
      | refine LeO.bind ?_ (fun _ => ?_)
    · intro y0 y1 y2 y3 y4 y5 y6 y7
      unfold glossatorkeep3_FilewatchBatchInvariants.l1
      repeat' first
      | (with_reducible exact ih0 _ _ _ _)
      | (with_reducible exact ih1 _ _ _ _ _ _ _ _)
      | (with_reducible exact filewatch_Batches.mono _ _ _)
      | (with_reducible exact glossatorkeep3_timed.mono _ _)
      | (with_reducible exact glossatorkeep3_watchExample.mono _)
      | (with_reducible exact LeO.refl _)
      | (with_reducible exact LeO.none _)
      | (with_reducible refine LeO.ite ?_ ?_)
      | (with_reducible refine LeO.bind ?_ (fun _ => ?_))
      | exact ih0 _ _ _ _
      | exact ih1 _ _ _ _ _ _ _ _
      | exact filewatch_Batches.mono _ _ _
      | exact glossatorkeep3_timed.mono _ _
      | exact glossatorkeep3_watchExample.mono _
      | exact LeO.none _
      | refine LeO.ite ?_ ?_
      | refine LeO.bind ?_ (fun _ => ?_)
theorem glossatorkeep3_FilewatchBatchInvariants.mono : ∀ a0 a1 k, LeO (glossatorkeep3_FilewatchBatchInvariants.f k a0 a1) (glossatorkeep3_FilewatchBatchInvariants.f (k + 1) a0 a1) := by
  intro a0 a1 k
  obtain ⟨ih0, ih1⟩ := glossatorkeep3_FilewatchBatchInvariants.mono_l k
  unfold glossatorkeep3_FilewatchBatchInvariants.f
  repeat' first
      | (with_reducible exact ih0 _ _ _ _)
      | (with_reducible exact ih1 _ _ _ _ _ _ _ _)
      | (with_reducible exact filewatch_Batches.mono _ _ _)
      | (with_reducible exact glossatorkeep3_timed.mono _ _)
      | (with_reducible exact glossatorkeep3_watchExample.mono _)
      | (with_reducible exact LeO.refl _)
      | (with_reducible exact LeO.none _)
      | (with_reducible refine LeO.ite ?_ ?_)
      | (with_reducible refine LeO.bind ?_ (fun _ => ?_))
      | exact ih0 _ _ _ _
      | exact ih1 _ _ _ _ _ _ _ _
      | exact filewatch_Batches.mono _ _ _
      | exact glossatorkeep3_timed.mono _ _
      | exact glossatorkeep3_watchExample.mono _
      | exact LeO.none _
      | refine LeO.ite ?_ ?_
      | refine LeO.bind ?_ (fun _ => ?_)
set_option maxHeartbeats 8000000 in
set_option maxRecDepth 100000 in
theorem glossatorkeep3_FilewatchBatchInvariants.calls (k : Nat) (A0 : Option Addr) (c0 : Nat) (l0 : List (S33)) (a1 : Int) (r : Bool) (w : World) (hr0 : Kd.C k33 w A0 l0.length l0) (hc0 : l0.length ≤ c0) (h : glossatorkeep3_FilewatchBatchInvariants.f k l0 a1 = some r) :
    Calls Try.prog 3 #[.slice A0 l0.length c0, .int .i64 a1] w fun e w' => e = .returned (.bool r) ∧ Below w.heap.size w w' := by
  have HR0 := Aside0.mk hr0
  have HC0 := Aside0.mk hc0
  clear hr0 hc0
  have HB := Aside0.mk (Below.refl w.heap.size w)
  have H : ((glossatorkeep3_watchExample.f k).bind fun t159 => (if t159 = true then ((glossatorkeep3_timed.f k l0).bind fun t160 => ((glossatorref3_Mod.f a1 60).bind fun t163 => ((filewatch_Batches.f k t160 t163).bind fun bt164 => (if bt164.2 = 0 then (glossatorkeep3_FilewatchBatchInvariants.l0 k t163 bt164.1 (bt164.1.length : Int) 0) else (some false))))) else (some false))) = some r := h
  clear h
  replace H := Option.bind_eq_some_iff.mp H
  obtain ⟨t159, A30, H⟩ := H
  replace H : (if t159 = true then ((glossatorkeep3_timed.f k l0).bind fun t160 => ((glossatorref3_Mod.f a1 60).bind fun t163 => ((filewatch_Batches.f k t160 t163).bind fun bt164 => (if bt164.2 = 0 then (glossatorkeep3_FilewatchBatchInvariants.l0 k t163 bt164.1 (bt164.1.length : Int) 0) else (some false))))) else (some false)) = some r := H
  have A3 := Aside0.mk A30
  clear A30
  by_cases c4 : t159 = true
  · subst c4
    have H1 : ((glossatorkeep3_timed.f k l0).bind fun t160 => ((glossatorref3_Mod.f a1 60).bind fun t163 => ((filewatch_Batches.f k t160 t163).bind fun bt164 => (if bt164.2 = 0 then (glossatorkeep3_FilewatchBatchInvariants.l0 k t163 bt164.1 (bt164.1.length : Int) 0) else (some false))))) = some r := by rw [if_pos rfl] at H; exact H
    clear H
    have H := H1
    clear H1
    replace H := Option.bind_eq_some_iff.mp H
    obtain ⟨t160, A50, H⟩ := H
    replace H : ((glossatorref3_Mod.f a1 60).bind fun t163 => ((filewatch_Batches.f k t160 t163).bind fun bt164 => (if bt164.2 = 0 then (glossatorkeep3_FilewatchBatchInvariants.l0 k t163 bt164.1 (bt164.1.length : Int) 0) else (some false)))) = some r := H
    have A5 := Aside0.mk A50
    clear A50
    replace H := Option.bind_eq_some_iff.mp H
    obtain ⟨t163, A60, H⟩ := H
    replace H : ((filewatch_Batches.f k t160 t163).bind fun bt164 => (if bt164.2 = 0 then (glossatorkeep3_FilewatchBatchInvariants.l0 k t163 bt164.1 (bt164.1.length : Int) 0) else (some false))) = some r := H
    have A6 := Aside0.mk A60
    clear A60
    replace H := Option.bind_eq_some_iff.mp H
    obtain ⟨⟨t164, t165⟩, A70, H⟩ := H
    replace H : (if t165 = 0 then (glossatorkeep3_FilewatchBatchInvariants.l0 k t163 t164 (t164.length : Int) 0) else (some false)) = some r := H
    have A7 := Aside0.mk A70
    clear A70
    by_cases c8 : t165 = 0
    · rw [if_pos c8] at H
      have c8b0 : (t165 == 0) = true := beq_iff_eq.mpr c8
      have c8b1 : (t165 != 0) = false := bne_eq_false_iff_eq.mpr c8
      clear c8
      have H' := Aside0.mk H
      clear H
      go_enter Try.func3, Try.ntmps3
      go_wp2_with (first | (go_at_call 6; (with_reducible refine (glossatorkeep3_watchExample.calls k  true _ A3.out).mono ?_); rintro e w9 ⟨rfl, hb⟩; have n0_ := Aside0.mk (below_step (by repeat (first | (with_reducible first | exact HB.out | apply below_alloc | apply pw_below_drewN | apply below_drew1) | exact HB.out)) hb); clear HB; have HB := n0_; clear n0_; (try clear hb); (try clear hb2); (try clear hk); (try clear hi)) | (go_at_call 7; (with_reducible refine (glossatorkeep3_timed.calls k _ _ l0 t160 _ ?side1 ?side2 A5.out).mono ?_); (case side1 => repeat (first | exact (Kd.C_below HR0.out HB.out) | (with_reducible refine Kd.C_alloc ?_ _) | (with_reducible refine Kd.C_drewN ?_ _) | (with_reducible refine Kd.C_drew ?_))); (case side2 => exact HC0.out); rintro e w10 ⟨v161, rfl, ho0, hb⟩; have n0_ := Aside0.mk (Kd.R_lower ho0 (below_size (by repeat (first | (with_reducible first | exact HB.out | apply below_alloc | apply pw_below_drewN | apply below_drew1) | exact HB.out)))); have n1_ := Aside0.mk (below_step (by repeat (first | (with_reducible first | exact HB.out | apply below_alloc | apply pw_below_drewN | apply below_drew1) | exact HB.out)) hb); clear HB; have HO162 := n0_; have HB := n1_; clear n0_ n1_; (try clear hb); (try clear hb2); (try clear hk); (try clear hi); (try clear ho0)) | (go_at_call 8; (with_reducible refine (glossatorref3_Mod.calls a1 60 t163 _ A6.out).mono ?_); rintro e w' ⟨rfl, ⟨nd, rfl⟩⟩; (try first | exact ⟨rfl, _, World.drewN_drewN _ _ _⟩ | exact ⟨rfl, _, Eq.trans (World.drewN_drewN _ _ _) (congrArg (World.drewN _) (Nat.add_assoc _ _ _))⟩); obtain ⟨Ao11, co11, eo11⟩ := Kd.R_slice HO162.out; subst eo11) | (go_at_call 9; (with_reducible refine (filewatch_Batches.calls k _ _ t160 t163 t164 t165 _ ?side1 ?side2 A7.out).mono ?_); (case side1 => repeat (first | exact (Kd.R_reads' HO162.out).2.2 | (with_reducible refine Kd.C_alloc ?_ _) | (with_reducible refine Kd.C_drewN ?_ _) | (with_reducible refine Kd.C_drew ?_))); (case side2 => exact (Kd.R_reads' HO162.out).2.1); rintro e w12 ⟨v166, rfl, ho0, hb⟩; have n0_ := Aside0.mk (Kd.R_below (by (with_reducible repeat (first | apply Kd.R_alloc | apply Kd.R_drewN | apply Kd.R_drew)); exact HO162.out) hb); have n1_ := Aside0.mk (Kd.S_lower (Kd.S_new' ho0 (Kd.R_lt (by (with_reducible repeat (first | apply Kd.R_alloc | apply Kd.R_drewN | apply Kd.R_drew)); exact HO162.out))) (below_size (by repeat (first | (with_reducible first | exact HB.out | apply below_alloc | apply pw_below_drewN | apply below_drew1) | exact HB.out)))); have n2_ := Aside0.mk (below_step (by repeat (first | (with_reducible first | exact HB.out | apply below_alloc | apply pw_below_drewN | apply below_drew1) | exact HB.out)) hb); clear HO162; clear HB; have HO162 := n0_; have HO167 := n1_; have HB := n2_; clear n0_ n1_ n2_; (try clear hb); (try clear hb2); (try clear hk); (try clear hi); (try clear ho0); obtain ⟨Ao13, co13, eo13⟩ := Kd.S_slice HO167.out; subst eo13))
      repeat (go_quiet (first | (go_at_call 6; (with_reducible refine (glossatorkeep3_watchExample.calls k  true _ A3.out).mono ?_); rintro e w9 ⟨rfl, hb⟩; have n0_ := Aside0.mk (below_step (by repeat (first | (with_reducible first | exact HB.out | apply below_alloc | apply pw_below_drewN | apply below_drew1) | exact HB.out)) hb); clear HB; have HB := n0_; clear n0_; (try clear hb); (try clear hb2); (try clear hk); (try clear hi)) | (go_at_call 7; (with_reducible refine (glossatorkeep3_timed.calls k _ _ l0 t160 _ ?side1 ?side2 A5.out).mono ?_); (case side1 => repeat (first | exact (Kd.C_below HR0.out HB.out) | (with_reducible refine Kd.C_alloc ?_ _) | (with_reducible refine Kd.C_drewN ?_ _) | (with_reducible refine Kd.C_drew ?_))); (case side2 => exact HC0.out); rintro e w10 ⟨v161, rfl, ho0, hb⟩; have n0_ := Aside0.mk (Kd.R_lower ho0 (below_size (by repeat (first | (with_reducible first | exact HB.out | apply below_alloc | apply pw_below_drewN | apply below_drew1) | exact HB.out)))); have n1_ := Aside0.mk (below_step (by repeat (first | (with_reducible first | exact HB.out | apply below_alloc | apply pw_below_drewN | apply below_drew1) | exact HB.out)) hb); clear HB; have HO162 := n0_; have HB := n1_; clear n0_ n1_; (try clear hb); (try clear hb2); (try clear hk); (try clear hi); (try clear ho0)) | (go_at_call 8; (with_reducible refine (glossatorref3_Mod.calls a1 60 t163 _ A6.out).mono ?_); rintro e w' ⟨rfl, ⟨nd, rfl⟩⟩; (try first | exact ⟨rfl, _, World.drewN_drewN _ _ _⟩ | exact ⟨rfl, _, Eq.trans (World.drewN_drewN _ _ _) (congrArg (World.drewN _) (Nat.add_assoc _ _ _))⟩); obtain ⟨Ao11, co11, eo11⟩ := Kd.R_slice HO162.out; subst eo11) | (go_at_call 9; (with_reducible refine (filewatch_Batches.calls k _ _ t160 t163 t164 t165 _ ?side1 ?side2 A7.out).mono ?_); (case side1 => repeat (first | exact (Kd.R_reads' HO162.out).2.2 | (with_reducible refine Kd.C_alloc ?_ _) | (with_reducible refine Kd.C_drewN ?_ _) | (with_reducible refine Kd.C_drew ?_))); (case side2 => exact (Kd.R_reads' HO162.out).2.1); rintro e w12 ⟨v166, rfl, ho0, hb⟩; have n0_ := Aside0.mk (Kd.R_below (by (with_reducible repeat (first | apply Kd.R_alloc | apply Kd.R_drewN | apply Kd.R_drew)); exact HO162.out) hb); have n1_ := Aside0.mk (Kd.S_lower (Kd.S_new' ho0 (Kd.R_lt (by (with_reducible repeat (first | apply Kd.R_alloc | apply Kd.R_drewN | apply Kd.R_drew)); exact HO162.out))) (below_size (by repeat (first | (with_reducible first | exact HB.out | apply below_alloc | apply pw_below_drewN | apply below_drew1) | exact HB.out)))); have n2_ := Aside0.mk (below_step (by repeat (first | (with_reducible first | exact HB.out | apply below_alloc | apply pw_below_drewN | apply below_drew1) | exact HB.out)) hb); clear HO162; clear HB; have HO162 := n0_; have HO167 := n1_; have HB := n2_; clear n0_ n1_ n2_; (try clear hb); (try clear hb2); (try clear hk); (try clear hi); (try clear ho0); obtain ⟨Ao13, co13, eo13⟩ := Kd.S_slice HO167.out; subst eo13)); try go_wp2_with (first | (go_at_call 6; (with_reducible refine (glossatorkeep3_watchExample.calls k  true _ A3.out).mono ?_); rintro e w9 ⟨rfl, hb⟩; have n0_ := Aside0.mk (below_step (by repeat (first | (with_reducible first | exact HB.out | apply below_alloc | apply pw_below_drewN | apply below_drew1) | exact HB.out)) hb); clear HB; have HB := n0_; clear n0_; (try clear hb); (try clear hb2); (try clear hk); (try clear hi)) | (go_at_call 7; (with_reducible refine (glossatorkeep3_timed.calls k _ _ l0 t160 _ ?side1 ?side2 A5.out).mono ?_); (case side1 => repeat (first | exact (Kd.C_below HR0.out HB.out) | (with_reducible refine Kd.C_alloc ?_ _) | (with_reducible refine Kd.C_drewN ?_ _) | (with_reducible refine Kd.C_drew ?_))); (case side2 => exact HC0.out); rintro e w10 ⟨v161, rfl, ho0, hb⟩; have n0_ := Aside0.mk (Kd.R_lower ho0 (below_size (by repeat (first | (with_reducible first | exact HB.out | apply below_alloc | apply pw_below_drewN | apply below_drew1) | exact HB.out)))); have n1_ := Aside0.mk (below_step (by repeat (first | (with_reducible first | exact HB.out | apply below_alloc | apply pw_below_drewN | apply below_drew1) | exact HB.out)) hb); clear HB; have HO162 := n0_; have HB := n1_; clear n0_ n1_; (try clear hb); (try clear hb2); (try clear hk); (try clear hi); (try clear ho0)) | (go_at_call 8; (with_reducible refine (glossatorref3_Mod.calls a1 60 t163 _ A6.out).mono ?_); rintro e w' ⟨rfl, ⟨nd, rfl⟩⟩; (try first | exact ⟨rfl, _, World.drewN_drewN _ _ _⟩ | exact ⟨rfl, _, Eq.trans (World.drewN_drewN _ _ _) (congrArg (World.drewN _) (Nat.add_assoc _ _ _))⟩); obtain ⟨Ao11, co11, eo11⟩ := Kd.R_slice HO162.out; subst eo11) | (go_at_call 9; (with_reducible refine (filewatch_Batches.calls k _ _ t160 t163 t164 t165 _ ?side1 ?side2 A7.out).mono ?_); (case side1 => repeat (first | exact (Kd.R_reads' HO162.out).2.2 | (with_reducible refine Kd.C_alloc ?_ _) | (with_reducible refine Kd.C_drewN ?_ _) | (with_reducible refine Kd.C_drew ?_))); (case side2 => exact (Kd.R_reads' HO162.out).2.1); rintro e w12 ⟨v166, rfl, ho0, hb⟩; have n0_ := Aside0.mk (Kd.R_below (by (with_reducible repeat (first | apply Kd.R_alloc | apply Kd.R_drewN | apply Kd.R_drew)); exact HO162.out) hb); have n1_ := Aside0.mk (Kd.S_lower (Kd.S_new' ho0 (Kd.R_lt (by (with_reducible repeat (first | apply Kd.R_alloc | apply Kd.R_drewN | apply Kd.R_drew)); exact HO162.out))) (below_size (by repeat (first | (with_reducible first | exact HB.out | apply below_alloc | apply pw_below_drewN | apply below_drew1) | exact HB.out)))); have n2_ := Aside0.mk (below_step (by repeat (first | (with_reducible first | exact HB.out | apply below_alloc | apply pw_below_drewN | apply below_drew1) | exact HB.out)) hb); clear HO162; clear HB; have HO162 := n0_; have HO167 := n1_; have HB := n2_; clear n0_ n1_ n2_; (try clear hb); (try clear hb2); (try clear hk); (try clear hi); (try clear ho0); obtain ⟨Ao13, co13, eo13⟩ := Kd.S_slice HO167.out; subst eo13)))
      go_loopg [26] k (fun kq v26 w' => ∃ (x26_1 : Int), v26 = .int .i64 x26_1 ∧ Aside0 (glossatorkeep3_FilewatchBatchInvariants.l0 kq t163 t164 (t164.length : Int) x26_1 = some r) ∧ Aside0 (kq ≤ k) ∧ Aside0 (Kd.S k31 31 w' w.heap.size (fun _ => True) (.slice Ao13 t164.length co13) t164) ∧ Aside0 (Below w.heap.size w w'))
      case atStart => exact ⟨(0), (by first | rfl | (simp; done) | (rw [bne_nil_isEmpty]; done) | (simp [*]; done)), H', ⟨Nat.le_refl _⟩, ⟨by (with_reducible repeat (first | apply Kd.S_alloc | apply Kd.S_drewN | apply Kd.S_drew)); exact Kd.S_mono HO167.out (fun _ hk => trivial)⟩, ⟨by repeat (first | (with_reducible first | exact HB.out | apply below_alloc | apply pw_below_drewN | apply below_drew1) | exact HB.out)⟩⟩
      case round =>
        clear H'
        try clear p2
        try clear c3
        try clear p3
        try clear c4
        try clear c8
        try clear c8b0
        try clear c8b1
        obtain ⟨x26_1, rfl, HA, HK1, HO_5, HB⟩ := hrel
        cases gk with
        | zero => exact absurd HA.out (by simp [glossatorkeep3_FilewatchBatchInvariants.l0])
        | succ k1 =>
          have H := HA.out
          clear HA
          simp only [glossatorkeep3_FilewatchBatchInvariants.l0] at H
          by_cases c14 : x26_1 < (t164.length : Int)
          · rw [if_pos c14] at H
            have c14b0 : decide (x26_1 < (t164.length : Int)) = true := decide_eq_true c14
            clear c14
            by_cases c15 : 0 ≤ x26_1
            · rw [if_pos c15] at H
              have c15b0 : decide (0 ≤ x26_1) = true := decide_eq_true c15
              clear c15
              by_cases c16 : x26_1 < (t164.length : Int)
              · rw [if_pos c16] at H
                have c16b0 : decide (x26_1 < (t164.length : Int)) = true := decide_eq_true c16
                clear c16
                by_cases c17 : (((rd_T31 t164 x26_1).f1).length : Int) = 0
                · rw [if_pos c17] at H
                  have c17b0 : ((((rd_T31 t164 x26_1).f1).length : Int) == 0) = true := beq_iff_eq.mpr c17
                  have c17b1 : ((((rd_T31 t164 x26_1).f1).length : Int) != 0) = false := bne_eq_false_iff_eq.mpr c17
                  clear c17
                  obtain rfl := Option.some.inj H
                  have p168 : 0 ≤ (x26_1 : Int) := of_decide_eq_true (by first | (with_reducible assumption) | assumption)
                  have q168 : x26_1 < (t164.length : Int) := of_decide_eq_true (by first | (with_reducible assumption) | assumption)
                  obtain ⟨ad168, A168_1, c168_1, e168, hx168_0, hx168_1, hl168_1, hi168_1⟩ := at_T31 (Kd.S_reads' HO_5.out).2.2 x26_1 p168 q168
                  cases e168
                  obtain ⟨ce168, hce168, hMe168, hcc168⟩ := Kd.S_get HO_5.out z31 x26_1 p168 (by first | exact q168 | exact of_decide_eq_true (by first | (with_reducible assumption) | assumption) | (have e_ := (Kd.S_reads' HO_5.out).1; omega))
                  obtain ⟨ve168_1, rfl, ge168_1⟩ := k31_openM hMe168
                  have hv168_1 := hcc168 1 _ rfl
                  rw [add_field _ _ 1 (by omega)] at hv168_1
                  replace hv168_1 := Option.some.inj (hv168_1.symm.trans hx168_1)
                  rw [hv168_1] at ge168_1
                  have HL168_1 := Aside0.mk (show Kd.R k33 33 _ _ _ _ ((rd_T31 t164 x26_1).f1) from ge168_1)
                  clear hv168_1 ge168_1
                  clear hcc168 hce168
                  have HR168_1 := Aside0.mk hi168_1
                  have HC168_1 := Aside0.mk hl168_1
                  clear hi168_1 hl168_1
                  replace p168 := eq_true p168
                  replace q168 := eq_true q168
                  go_wp2
                  repeat (go_quiet (fail); try go_wp2)
                  go_ret
                  exact ⟨by first | rfl | (simp [errW_none, errW_some] <;> rfl) | (simp [*, errW_none, errW_some] <;> rfl), by repeat (first | (with_reducible first | exact HB.out | apply below_alloc | apply pw_below_drewN | apply below_drew1) | exact HB.out)⟩
                · rw [if_neg c17] at H
                  have c17b0 : ((((rd_T31 t164 x26_1).f1).length : Int) == 0) = false := beq_eq_false_iff_ne.mpr c17
                  have c17b1 : ((((rd_T31 t164 x26_1).f1).length : Int) != 0) = true := bne_iff_ne.mpr c17
                  have c17b2 : ¬ (((rd_T31 t164 x26_1).f1) = []) := fun h_ => c17 (by rw [h_]; rfl)
                  by_cases c18 : x26_1 > 0
                  · rw [if_pos c18] at H
                    have c18b0 : decide (0 < x26_1) = true := decide_eq_true c18
                    clear c18
                    obtain ⟨ji19, hji19⟩ : ∃ j_ : Int, (wrap64 (x26_1 - 1)) = j_ := ⟨_, rfl⟩
                    replace H : (if 0 ≤ (ji19) then (if (ji19) < (t164.length : Int) then (if ((rd_T31 t164 x26_1).f0) < ((rd_T31 t164 (ji19)).f0) then (some false) else (glossatorkeep3_FilewatchBatchInvariants.l1 k1 t163 t164 x26_1 ((rd_T31 t164 x26_1).f1) (t164.length : Int) x26_1 (((rd_T31 t164 x26_1).f1).length : Int) 0)) else (none)) else (none)) = some r := by first | (rw [hji19] at H; exact H) | (simp only [hji19] at H ⊢; exact H)
                    have hji19w : (IntKind.i64.wrap (x26_1 - 1)) = ji19 := (i64_w _).trans hji19
                    by_cases c20 : 0 ≤ (ji19)
                    · rw [if_pos c20] at H
                      have c20b0 : decide (0 ≤ (ji19)) = true := decide_eq_true c20
                      clear c20
                      by_cases c21 : (ji19) < (t164.length : Int)
                      · rw [if_pos c21] at H
                        have c21b0 : decide ((ji19) < (t164.length : Int)) = true := decide_eq_true c21
                        clear c21
                        by_cases c22 : ((rd_T31 t164 x26_1).f0) < ((rd_T31 t164 (ji19)).f0)
                        · rw [if_pos c22] at H
                          have c22b0 : decide (((rd_T31 t164 x26_1).f0) < ((rd_T31 t164 (ji19)).f0)) = true := decide_eq_true c22
                          clear c22
                          obtain rfl := Option.some.inj H
                          have p168 : 0 ≤ (x26_1 : Int) := of_decide_eq_true (by first | (with_reducible assumption) | assumption)
                          have q168 : x26_1 < (t164.length : Int) := of_decide_eq_true (by first | (with_reducible assumption) | assumption)
                          obtain ⟨ad168, A168_1, c168_1, e168, hx168_0, hx168_1, hl168_1, hi168_1⟩ := at_T31 (Kd.S_reads' HO_5.out).2.2 x26_1 p168 q168
                          cases e168
                          obtain ⟨ce168, hce168, hMe168, hcc168⟩ := Kd.S_get HO_5.out z31 x26_1 p168 (by first | exact q168 | exact of_decide_eq_true (by first | (with_reducible assumption) | assumption) | (have e_ := (Kd.S_reads' HO_5.out).1; omega))
                          obtain ⟨ve168_1, rfl, ge168_1⟩ := k31_openM hMe168
                          have hv168_1 := hcc168 1 _ rfl
                          rw [add_field _ _ 1 (by omega)] at hv168_1
                          replace hv168_1 := Option.some.inj (hv168_1.symm.trans hx168_1)
                          rw [hv168_1] at ge168_1
                          have HL168_1 := Aside0.mk (show Kd.R k33 33 _ _ _ _ ((rd_T31 t164 x26_1).f1) from ge168_1)
                          clear hv168_1 ge168_1
                          clear hcc168 hce168
                          have HR168_1 := Aside0.mk hi168_1
                          have HC168_1 := Aside0.mk hl168_1
                          clear hi168_1 hl168_1
                          replace p168 := eq_true p168
                          replace q168 := eq_true q168
                          have p169 : 0 ≤ (x26_1 : Int) := of_decide_eq_true (by first | (with_reducible assumption) | assumption)
                          have q169 : x26_1 < (t164.length : Int) := of_decide_eq_true (by first | (with_reducible assumption) | assumption)
                          obtain ⟨ad169, A169_1, c169_1, e169, hx169_0, hx169_1, hl169_1, hi169_1⟩ := at_T31 (Kd.S_reads' HO_5.out).2.2 x26_1 p169 q169
                          obtain rfl : ad168 = ad169 := (by injection e169)
                          obtain ⟨ce169, hce169, hMe169, hcc169⟩ := Kd.S_get HO_5.out z31 x26_1 p169 (by first | exact q169 | exact of_decide_eq_true (by first | (with_reducible assumption) | assumption) | (have e_ := (Kd.S_reads' HO_5.out).1; omega))
                          obtain ⟨ve169_1, rfl, ge169_1⟩ := k31_openM hMe169
                          have hv169_1 := hcc169 1 _ rfl
                          rw [add_field _ _ 1 (by omega)] at hv169_1
                          replace hv169_1 := Option.some.inj (hv169_1.symm.trans hx169_1)
                          rw [hv169_1] at ge169_1
                          have HL169_1 := Aside0.mk (show Kd.R k33 33 _ _ _ _ ((rd_T31 t164 x26_1).f1) from ge169_1)
                          clear hv169_1 ge169_1
                          clear hcc169 hce169
                          have HR169_1 := Aside0.mk hi169_1
                          have HC169_1 := Aside0.mk hl169_1
                          clear hi169_1 hl169_1
                          replace p169 := eq_true p169
                          replace q169 := eq_true q169
                          have ea_ := Option.some.inj (hx168_1.symm.trans hx169_1)
                          injection ea_ with ea_ en_ ec_
                          subst ea_
                          subst ec_
                          clear en_
                          have p170 : 0 ≤ ((ji19) : Int) := of_decide_eq_true (by first | (with_reducible assumption) | assumption)
                          have q170 : (ji19) < (t164.length : Int) := of_decide_eq_true (by first | (with_reducible assumption) | assumption)
                          obtain ⟨ad170, A170_1, c170_1, e170, hx170_0, hx170_1, hl170_1, hi170_1⟩ := at_T31 (Kd.S_reads' HO_5.out).2.2 (ji19) p170 q170
                          obtain rfl : ad168 = ad170 := (by injection e170)
                          obtain ⟨ce170, hce170, hMe170, hcc170⟩ := Kd.S_get HO_5.out z31 (ji19) p170 (by first | exact q170 | exact of_decide_eq_true (by first | (with_reducible assumption) | assumption) | (have e_ := (Kd.S_reads' HO_5.out).1; omega))
                          obtain ⟨ve170_1, rfl, ge170_1⟩ := k31_openM hMe170
                          have hv170_1 := hcc170 1 _ rfl
                          rw [add_field _ _ 1 (by omega)] at hv170_1
                          replace hv170_1 := Option.some.inj (hv170_1.symm.trans hx170_1)
                          rw [hv170_1] at ge170_1
                          have HL170_1 := Aside0.mk (show Kd.R k33 33 _ _ _ _ ((rd_T31 t164 (ji19)).f1) from ge170_1)
                          clear hv170_1 ge170_1
                          clear hcc170 hce170
                          have HR170_1 := Aside0.mk hi170_1
                          have HC170_1 := Aside0.mk hl170_1
                          clear hi170_1 hl170_1
                          replace p170 := eq_true p170
                          replace q170 := eq_true q170
                          go_wp2
                          repeat (go_quiet (fail); try go_wp2)
                          go_ret
                          exact ⟨by first | rfl | (simp [errW_none, errW_some] <;> rfl) | (simp only [← hji19]; first | rfl | (simp [errW_none, errW_some] <;> rfl)) | (simp [*, errW_none, errW_some] <;> rfl), by repeat (first | (with_reducible first | exact HB.out | apply below_alloc | apply pw_below_drewN | apply below_drew1) | exact HB.out)⟩
                        · rw [if_neg c22] at H
                          have c22b0 : decide (((rd_T31 t164 x26_1).f0) < ((rd_T31 t164 (ji19)).f0)) = false := decide_eq_false c22
                          clear c22
                          have H' := Aside0.mk H
                          clear H
                          have p168 : 0 ≤ (x26_1 : Int) := of_decide_eq_true (by first | (with_reducible assumption) | assumption)
                          have q168 : x26_1 < (t164.length : Int) := of_decide_eq_true (by first | (with_reducible assumption) | assumption)
                          obtain ⟨ad168, A168_1, c168_1, e168, hx168_0, hx168_1, hl168_1, hi168_1⟩ := at_T31 (Kd.S_reads' HO_5.out).2.2 x26_1 p168 q168
                          cases e168
                          obtain ⟨ce168, hce168, hMe168, hcc168⟩ := Kd.S_get HO_5.out z31 x26_1 p168 (by first | exact q168 | exact of_decide_eq_true (by first | (with_reducible assumption) | assumption) | (have e_ := (Kd.S_reads' HO_5.out).1; omega))
                          obtain ⟨ve168_1, rfl, ge168_1⟩ := k31_openM hMe168
                          have hv168_1 := hcc168 1 _ rfl
                          rw [add_field _ _ 1 (by omega)] at hv168_1
                          replace hv168_1 := Option.some.inj (hv168_1.symm.trans hx168_1)
                          rw [hv168_1] at ge168_1
                          have HL168_1 := Aside0.mk (show Kd.R k33 33 _ _ _ _ ((rd_T31 t164 x26_1).f1) from ge168_1)
                          clear hv168_1 ge168_1
                          clear hcc168 hce168
                          have HR168_1 := Aside0.mk hi168_1
                          have HC168_1 := Aside0.mk hl168_1
                          clear hi168_1 hl168_1
                          replace p168 := eq_true p168
                          replace q168 := eq_true q168
                          have p169 : 0 ≤ (x26_1 : Int) := of_decide_eq_true (by first | (with_reducible assumption) | assumption)
                          have q169 : x26_1 < (t164.length : Int) := of_decide_eq_true (by first | (with_reducible assumption) | assumption)
                          obtain ⟨ad169, A169_1, c169_1, e169, hx169_0, hx169_1, hl169_1, hi169_1⟩ := at_T31 (Kd.S_reads' HO_5.out).2.2 x26_1 p169 q169
                          obtain rfl : ad168 = ad169 := (by injection e169)
                          obtain ⟨ce169, hce169, hMe169, hcc169⟩ := Kd.S_get HO_5.out z31 x26_1 p169 (by first | exact q169 | exact of_decide_eq_true (by first | (with_reducible assumption) | assumption) | (have e_ := (Kd.S_reads' HO_5.out).1; omega))
                          obtain ⟨ve169_1, rfl, ge169_1⟩ := k31_openM hMe169
                          have hv169_1 := hcc169 1 _ rfl
                          rw [add_field _ _ 1 (by omega)] at hv169_1
                          replace hv169_1 := Option.some.inj (hv169_1.symm.trans hx169_1)
                          rw [hv169_1] at ge169_1
                          have HL169_1 := Aside0.mk (show Kd.R k33 33 _ _ _ _ ((rd_T31 t164 x26_1).f1) from ge169_1)
                          clear hv169_1 ge169_1
                          clear hcc169 hce169
                          have HR169_1 := Aside0.mk hi169_1
                          have HC169_1 := Aside0.mk hl169_1
                          clear hi169_1 hl169_1
                          replace p169 := eq_true p169
                          replace q169 := eq_true q169
                          have ea_ := Option.some.inj (hx168_1.symm.trans hx169_1)
                          injection ea_ with ea_ en_ ec_
                          subst ea_
                          subst ec_
                          clear en_
                          have p170 : 0 ≤ ((ji19) : Int) := of_decide_eq_true (by first | (with_reducible assumption) | assumption)
                          have q170 : (ji19) < (t164.length : Int) := of_decide_eq_true (by first | (with_reducible assumption) | assumption)
                          obtain ⟨ad170, A170_1, c170_1, e170, hx170_0, hx170_1, hl170_1, hi170_1⟩ := at_T31 (Kd.S_reads' HO_5.out).2.2 (ji19) p170 q170
                          obtain rfl : ad168 = ad170 := (by injection e170)
                          obtain ⟨ce170, hce170, hMe170, hcc170⟩ := Kd.S_get HO_5.out z31 (ji19) p170 (by first | exact q170 | exact of_decide_eq_true (by first | (with_reducible assumption) | assumption) | (have e_ := (Kd.S_reads' HO_5.out).1; omega))
                          obtain ⟨ve170_1, rfl, ge170_1⟩ := k31_openM hMe170
                          have hv170_1 := hcc170 1 _ rfl
                          rw [add_field _ _ 1 (by omega)] at hv170_1
                          replace hv170_1 := Option.some.inj (hv170_1.symm.trans hx170_1)
                          rw [hv170_1] at ge170_1
                          have HL170_1 := Aside0.mk (show Kd.R k33 33 _ _ _ _ ((rd_T31 t164 (ji19)).f1) from ge170_1)
                          clear hv170_1 ge170_1
                          clear hcc170 hce170
                          have HR170_1 := Aside0.mk hi170_1
                          have HC170_1 := Aside0.mk hl170_1
                          clear hi170_1 hl170_1
                          replace p170 := eq_true p170
                          replace q170 := eq_true q170
                          go_wp2
                          repeat (go_quiet (fail); try go_wp2)
                          go_loopg [57] k1 (fun kq v57 w' => ∃ (x57_2 : Int), v57 = .int .i64 x57_2 ∧ Aside0 (glossatorkeep3_FilewatchBatchInvariants.l1 kq t163 t164 x26_1 ((rd_T31 t164 x26_1).f1) (t164.length : Int) x26_1 (((rd_T31 t164 x26_1).f1).length : Int) x57_2 = some r) ∧ Aside0 (kq ≤ k1) ∧ Aside0 (Kd.S k31 31 w' w.heap.size (fun _ => True) (.slice (some ad168) t164.length co13) t164) ∧ Aside0 (Kd.C k33 w' A168_1 ((rd_T31 t164 x26_1).f1).length ((rd_T31 t164 x26_1).f1)) ∧ Aside0 (Below w.heap.size w w'))
                          case atStart => exact ⟨(0), (by first | rfl | (simp; done) | (rw [bne_nil_isEmpty]; done) | (simp [*]; done)), H', ⟨Nat.le_refl _⟩, ⟨by (with_reducible repeat (first | apply Kd.S_alloc | apply Kd.S_drewN | apply Kd.S_drew)); exact HO_5.out⟩, ⟨by repeat (first | (with_reducible exact HR168_1.out) | (with_reducible refine Kd.C_alloc ?_ _) | (with_reducible refine Kd.C_drewN ?_ _) | (with_reducible refine Kd.C_drew ?_) | exact HR168_1.out)⟩, ⟨by repeat (first | (with_reducible first | exact HB.out | apply below_alloc | apply pw_below_drewN | apply below_drew1) | exact HB.out)⟩⟩
                          case round =>
                            clear H'
                            try clear c1
                            try clear p1
                            try clear q1
                            try clear hx1
                            try clear c2
                            try clear p2
                            try clear c3
                            try clear p3
                            try clear c4
                            try clear p6
                            try clear c8
                            try clear c8b0
                            try clear c8b1
                            try clear c14
                            try clear c14b0
                            try clear c15
                            try clear c15b0
                            try clear c16
                            try clear c16b0
                            try clear p16
                            try clear q16
                            try clear hx16
                            try clear c17
                            try clear c17b0
                            try clear c17b1
                            try clear c17b2
                            try clear p17
                            try clear q17
                            try clear hx17
                            try clear c18
                            try clear c18b0
                            try clear c20
                            try clear c20b0
                            try clear c21
                            try clear c21b0
                            try clear c22
                            try clear c22b0
                            try clear hx168_0
                            try clear hx168_1
                            try clear hx169_0
                            try clear hx169_1
                            try clear hx170_0
                            try clear hx170_1
                            try clear p168
                            try clear p169
                            try clear p170
                            try clear p2
                            try clear p3
                            try clear q168
                            try clear q169
                            try clear q170
                            obtain ⟨x57_2, rfl, HA, HK2, HO_5, HR168_1, HB⟩ := hrel
                            cases gk with
                            | zero => exact absurd HA.out (by simp [glossatorkeep3_FilewatchBatchInvariants.l1])
                            | succ k2 =>
                              have H := HA.out
                              clear HA
                              simp only [glossatorkeep3_FilewatchBatchInvariants.l1] at H
                              by_cases c23 : x57_2 < (((rd_T31 t164 x26_1).f1).length : Int)
                              · rw [if_pos c23] at H
                                have c23b0 : decide (x57_2 < (((rd_T31 t164 x26_1).f1).length : Int)) = true := decide_eq_true c23
                                clear c23
                                by_cases c24 : x57_2 > 0
                                · rw [if_pos c24] at H
                                  have c24b0 : decide (0 < x57_2) = true := decide_eq_true c24
                                  clear c24
                                  obtain ⟨ji25, hji25⟩ : ∃ j_ : Int, (wrap64 (x57_2 - 1)) = j_ := ⟨_, rfl⟩
                                  replace H : (if 0 ≤ (ji25) then (if (ji25) < (((rd_T31 t164 x26_1).f1).length : Int) then (if 0 ≤ x57_2 then (if x57_2 < (((rd_T31 t164 x26_1).f1).length : Int) then (if ((Op.bytesLess (((rd_T33 ((rd_T31 t164 x26_1).f1) (ji25)).f1).toList) (((rd_T33 ((rd_T31 t164 x26_1).f1) x57_2).f1).toList)) = true) then (if 0 ≤ x26_1 then (if x26_1 < (t164.length : Int) then (if (wrap64 (((rd_T33 ((rd_T31 t164 x26_1).f1) x57_2).f0) + t163)) > ((rd_T31 t164 x26_1).f0) then (some false) else (glossatorkeep3_FilewatchBatchInvariants.l1 k2 t163 t164 x26_1 ((rd_T31 t164 x26_1).f1) (t164.length : Int) x26_1 (((rd_T31 t164 x26_1).f1).length : Int) (wrap64 (x57_2 + 1)))) else (none)) else (none)) else (some false)) else (none)) else (none)) else (none)) else (none)) = some r := by first | (rw [hji25] at H; exact H) | (simp only [hji25] at H ⊢; exact H)
                                  have hji25w : (IntKind.i64.wrap (x57_2 - 1)) = ji25 := (i64_w _).trans hji25
                                  by_cases c26 : 0 ≤ (ji25)
                                  · rw [if_pos c26] at H
                                    have c26b0 : decide (0 ≤ (ji25)) = true := decide_eq_true c26
                                    clear c26
                                    by_cases c27 : (ji25) < (((rd_T31 t164 x26_1).f1).length : Int)
                                    · rw [if_pos c27] at H
                                      have c27b0 : decide ((ji25) < (((rd_T31 t164 x26_1).f1).length : Int)) = true := decide_eq_true c27
                                      clear c27
                                      by_cases c28 : 0 ≤ x57_2
                                      · rw [if_pos c28] at H
                                        have c28b0 : decide (0 ≤ x57_2) = true := decide_eq_true c28
                                        clear c28
                                        by_cases c29 : x57_2 < (((rd_T31 t164 x26_1).f1).length : Int)
                                        · rw [if_pos c29] at H
                                          have c29b0 : decide (x57_2 < (((rd_T31 t164 x26_1).f1).length : Int)) = true := decide_eq_true c29
                                          clear c29
                                          by_cases c30 : ((Op.bytesLess (((rd_T33 ((rd_T31 t164 x26_1).f1) (ji25)).f1).toList) (((rd_T33 ((rd_T31 t164 x26_1).f1) x57_2).f1).toList)) = true)
                                          · rw [if_pos c30] at H
                                            have c30b0 : (Op.bytesLess (((rd_T33 ((rd_T31 t164 x26_1).f1) (ji25)).f1).toList) (((rd_T33 ((rd_T31 t164 x26_1).f1) x57_2).f1).toList)) = true := c30
                                            clear c30
                                            by_cases c31 : 0 ≤ x26_1
                                            · rw [if_pos c31] at H
                                              have c31b0 : decide (0 ≤ x26_1) = true := decide_eq_true c31
                                              clear c31
                                              by_cases c32 : x26_1 < (t164.length : Int)
                                              · rw [if_pos c32] at H
                                                have c32b0 : decide (x26_1 < (t164.length : Int)) = true := decide_eq_true c32
                                                clear c32
                                                by_cases c33 : (wrap64 (((rd_T33 ((rd_T31 t164 x26_1).f1) x57_2).f0) + t163)) > ((rd_T31 t164 x26_1).f0)
                                                · rw [if_pos c33] at H
                                                  have c33b0 : decide (((rd_T31 t164 x26_1).f0) < (wrap64 (((rd_T33 ((rd_T31 t164 x26_1).f1) x57_2).f0) + t163))) = true := decide_eq_true c33
                                                  clear c33
                                                  obtain rfl := Option.some.inj H
                                                  have p171 : 0 ≤ ((ji25) : Int) := of_decide_eq_true (by first | (with_reducible assumption) | assumption)
                                                  have q171 : (ji25) < (((rd_T31 t164 x26_1).f1).length : Int) := of_decide_eq_true (by first | (with_reducible assumption) | assumption)
                                                  obtain ⟨ad171, e171, hx171_0, hx171_1, hx171_2⟩ := at_T33 HR168_1.out (ji25) p171 q171
                                                  cases e171
                                                  try replace hx171_0 := (HB.out.cell (World.block_lt_of_cell? w _ hx171_0)).trans hx171_0
                                                  try replace hx171_1 := (HB.out.cell (World.block_lt_of_cell? w _ hx171_1)).trans hx171_1
                                                  try replace hx171_2 := (HB.out.cell (World.block_lt_of_cell? w _ hx171_2)).trans hx171_2
                                                  replace p171 := eq_true p171
                                                  replace q171 := eq_true q171
                                                  have p172 : 0 ≤ (x57_2 : Int) := of_decide_eq_true (by first | (with_reducible assumption) | assumption)
                                                  have q172 : x57_2 < (((rd_T31 t164 x26_1).f1).length : Int) := of_decide_eq_true (by first | (with_reducible assumption) | assumption)
                                                  obtain ⟨ad172, e172, hx172_0, hx172_1, hx172_2⟩ := at_T33 HR168_1.out x57_2 p172 q172
                                                  obtain rfl : ad171 = ad172 := (by injection e172)
                                                  try replace hx172_0 := (HB.out.cell (World.block_lt_of_cell? w _ hx172_0)).trans hx172_0
                                                  try replace hx172_1 := (HB.out.cell (World.block_lt_of_cell? w _ hx172_1)).trans hx172_1
                                                  try replace hx172_2 := (HB.out.cell (World.block_lt_of_cell? w _ hx172_2)).trans hx172_2
                                                  replace p172 := eq_true p172
                                                  replace q172 := eq_true q172
                                                  have p173 : 0 ≤ (x57_2 : Int) := of_decide_eq_true (by first | (with_reducible assumption) | assumption)
                                                  have q173 : x57_2 < (((rd_T31 t164 x26_1).f1).length : Int) := of_decide_eq_true (by first | (with_reducible assumption) | assumption)
                                                  obtain ⟨ad173, e173, hx173_0, hx173_1, hx173_2⟩ := at_T33 HR168_1.out x57_2 p173 q173
                                                  obtain rfl : ad171 = ad173 := (by injection e173)
                                                  try replace hx173_0 := (HB.out.cell (World.block_lt_of_cell? w _ hx173_0)).trans hx173_0
                                                  try replace hx173_1 := (HB.out.cell (World.block_lt_of_cell? w _ hx173_1)).trans hx173_1
                                                  try replace hx173_2 := (HB.out.cell (World.block_lt_of_cell? w _ hx173_2)).trans hx173_2
                                                  replace p173 := eq_true p173
                                                  replace q173 := eq_true q173
                                                  have p174 : 0 ≤ (x26_1 : Int) := of_decide_eq_true (by first | (with_reducible assumption) | assumption)
                                                  have q174 : x26_1 < (t164.length : Int) := of_decide_eq_true (by first | (with_reducible assumption) | assumption)
                                                  obtain ⟨ad174, A174_1, c174_1, e174, hx174_0, hx174_1, hl174_1, hi174_1⟩ := at_T31 (Kd.S_reads' HO_5.out).2.2 x26_1 p174 q174
                                                  obtain rfl : ad168 = ad174 := (by injection e174)
                                                  obtain ⟨ce174, hce174, hMe174, hcc174⟩ := Kd.S_get HO_5.out z31 x26_1 p174 (by first | exact q174 | exact of_decide_eq_true (by first | (with_reducible assumption) | assumption) | (have e_ := (Kd.S_reads' HO_5.out).1; omega))
                                                  obtain ⟨ve174_1, rfl, ge174_1⟩ := k31_openM hMe174
                                                  have hv174_1 := hcc174 1 _ rfl
                                                  rw [add_field _ _ 1 (by omega)] at hv174_1
                                                  replace hv174_1 := Option.some.inj (hv174_1.symm.trans hx174_1)
                                                  rw [hv174_1] at ge174_1
                                                  have HL174_1 := Aside0.mk (show Kd.R k33 33 _ _ _ _ ((rd_T31 t164 x26_1).f1) from ge174_1)
                                                  clear hv174_1 ge174_1
                                                  clear hcc174 hce174
                                                  have HR174_1 := Aside0.mk hi174_1
                                                  have HC174_1 := Aside0.mk hl174_1
                                                  clear hi174_1 hl174_1
                                                  replace p174 := eq_true p174
                                                  replace q174 := eq_true q174
                                                  go_wp2
                                                  repeat (go_quiet (fail); try go_wp2)
                                                  go_ret
                                                  exact ⟨by first | rfl | (simp [errW_none, errW_some] <;> rfl) | (simp only [← hji19, ← hji25]; first | rfl | (simp [errW_none, errW_some] <;> rfl)) | (simp [*, errW_none, errW_some] <;> rfl), by repeat (first | (with_reducible first | exact HB.out | apply below_alloc | apply pw_below_drewN | apply below_drew1) | exact HB.out)⟩
                                                · rw [if_neg c33] at H
                                                  have c33b0 : decide (((rd_T31 t164 x26_1).f0) < (wrap64 (((rd_T33 ((rd_T31 t164 x26_1).f1) x57_2).f0) + t163))) = false := decide_eq_false c33
                                                  clear c33
                                                  have H' := Aside0.mk H
                                                  clear H
                                                  have p171 : 0 ≤ ((ji25) : Int) := of_decide_eq_true (by first | (with_reducible assumption) | assumption)
                                                  have q171 : (ji25) < (((rd_T31 t164 x26_1).f1).length : Int) := of_decide_eq_true (by first | (with_reducible assumption) | assumption)
                                                  obtain ⟨ad171, e171, hx171_0, hx171_1, hx171_2⟩ := at_T33 HR168_1.out (ji25) p171 q171
                                                  cases e171
                                                  try replace hx171_0 := (HB.out.cell (World.block_lt_of_cell? w _ hx171_0)).trans hx171_0
                                                  try replace hx171_1 := (HB.out.cell (World.block_lt_of_cell? w _ hx171_1)).trans hx171_1
                                                  try replace hx171_2 := (HB.out.cell (World.block_lt_of_cell? w _ hx171_2)).trans hx171_2
                                                  replace p171 := eq_true p171
                                                  replace q171 := eq_true q171
                                                  have p172 : 0 ≤ (x57_2 : Int) := of_decide_eq_true (by first | (with_reducible assumption) | assumption)
                                                  have q172 : x57_2 < (((rd_T31 t164 x26_1).f1).length : Int) := of_decide_eq_true (by first | (with_reducible assumption) | assumption)
                                                  obtain ⟨ad172, e172, hx172_0, hx172_1, hx172_2⟩ := at_T33 HR168_1.out x57_2 p172 q172
                                                  obtain rfl : ad171 = ad172 := (by injection e172)
                                                  try replace hx172_0 := (HB.out.cell (World.block_lt_of_cell? w _ hx172_0)).trans hx172_0
                                                  try replace hx172_1 := (HB.out.cell (World.block_lt_of_cell? w _ hx172_1)).trans hx172_1
                                                  try replace hx172_2 := (HB.out.cell (World.block_lt_of_cell? w _ hx172_2)).trans hx172_2
                                                  replace p172 := eq_true p172
                                                  replace q172 := eq_true q172
                                                  have p173 : 0 ≤ (x57_2 : Int) := of_decide_eq_true (by first | (with_reducible assumption) | assumption)
                                                  have q173 : x57_2 < (((rd_T31 t164 x26_1).f1).length : Int) := of_decide_eq_true (by first | (with_reducible assumption) | assumption)
                                                  obtain ⟨ad173, e173, hx173_0, hx173_1, hx173_2⟩ := at_T33 HR168_1.out x57_2 p173 q173
                                                  obtain rfl : ad171 = ad173 := (by injection e173)
                                                  try replace hx173_0 := (HB.out.cell (World.block_lt_of_cell? w _ hx173_0)).trans hx173_0
                                                  try replace hx173_1 := (HB.out.cell (World.block_lt_of_cell? w _ hx173_1)).trans hx173_1
                                                  try replace hx173_2 := (HB.out.cell (World.block_lt_of_cell? w _ hx173_2)).trans hx173_2
                                                  replace p173 := eq_true p173
                                                  replace q173 := eq_true q173
                                                  have p174 : 0 ≤ (x26_1 : Int) := of_decide_eq_true (by first | (with_reducible assumption) | assumption)
                                                  have q174 : x26_1 < (t164.length : Int) := of_decide_eq_true (by first | (with_reducible assumption) | assumption)
                                                  obtain ⟨ad174, A174_1, c174_1, e174, hx174_0, hx174_1, hl174_1, hi174_1⟩ := at_T31 (Kd.S_reads' HO_5.out).2.2 x26_1 p174 q174
                                                  obtain rfl : ad168 = ad174 := (by injection e174)
                                                  obtain ⟨ce174, hce174, hMe174, hcc174⟩ := Kd.S_get HO_5.out z31 x26_1 p174 (by first | exact q174 | exact of_decide_eq_true (by first | (with_reducible assumption) | assumption) | (have e_ := (Kd.S_reads' HO_5.out).1; omega))
                                                  obtain ⟨ve174_1, rfl, ge174_1⟩ := k31_openM hMe174
                                                  have hv174_1 := hcc174 1 _ rfl
                                                  rw [add_field _ _ 1 (by omega)] at hv174_1
                                                  replace hv174_1 := Option.some.inj (hv174_1.symm.trans hx174_1)
                                                  rw [hv174_1] at ge174_1
                                                  have HL174_1 := Aside0.mk (show Kd.R k33 33 _ _ _ _ ((rd_T31 t164 x26_1).f1) from ge174_1)
                                                  clear hv174_1 ge174_1
                                                  clear hcc174 hce174
                                                  have HR174_1 := Aside0.mk hi174_1
                                                  have HC174_1 := Aside0.mk hl174_1
                                                  clear hi174_1 hl174_1
                                                  replace p174 := eq_true p174
                                                  replace q174 := eq_true q174
                                                  go_wp2
                                                  repeat (go_quiet (fail); try go_wp2)
                                                  go_roundg k2
                                                  case measure => have := HK1.out; have := HK2.out; omega
                                                  case rel => exact ⟨(wrap64 (x57_2 + 1)), (by first | rfl | (simp; done) | (rw [bne_nil_isEmpty]; done) | (simp [*]; done)), H', ⟨by have := HK1.out; have := HK2.out; omega⟩, ⟨by (with_reducible repeat (first | apply Kd.S_alloc | apply Kd.S_drewN | apply Kd.S_drew)); exact HO_5.out⟩, ⟨by repeat (first | (with_reducible exact HR168_1.out) | (with_reducible refine Kd.C_alloc ?_ _) | (with_reducible refine Kd.C_drewN ?_ _) | (with_reducible refine Kd.C_drew ?_) | exact HR168_1.out)⟩, ⟨by repeat (first | (with_reducible first | exact HB.out | apply below_alloc | apply pw_below_drewN | apply below_drew1) | exact HB.out)⟩⟩
                                              · rw [if_neg c32] at H
                                                exact absurd H (by simp)
                                            · rw [if_neg c31] at H
                                              exact absurd H (by simp)
                                          · rw [if_neg c30] at H
                                            have c30b0 : (Op.bytesLess (((rd_T33 ((rd_T31 t164 x26_1).f1) (ji25)).f1).toList) (((rd_T33 ((rd_T31 t164 x26_1).f1) x57_2).f1).toList)) = false := by simpa using c30
                                            clear c30
                                            obtain rfl := Option.some.inj H
                                            have p171 : 0 ≤ ((ji25) : Int) := of_decide_eq_true (by first | (with_reducible assumption) | assumption)
                                            have q171 : (ji25) < (((rd_T31 t164 x26_1).f1).length : Int) := of_decide_eq_true (by first | (with_reducible assumption) | assumption)
                                            obtain ⟨ad171, e171, hx171_0, hx171_1, hx171_2⟩ := at_T33 HR168_1.out (ji25) p171 q171
                                            cases e171
                                            try replace hx171_0 := (HB.out.cell (World.block_lt_of_cell? w _ hx171_0)).trans hx171_0
                                            try replace hx171_1 := (HB.out.cell (World.block_lt_of_cell? w _ hx171_1)).trans hx171_1
                                            try replace hx171_2 := (HB.out.cell (World.block_lt_of_cell? w _ hx171_2)).trans hx171_2
                                            replace p171 := eq_true p171
                                            replace q171 := eq_true q171
                                            have p172 : 0 ≤ (x57_2 : Int) := of_decide_eq_true (by first | (with_reducible assumption) | assumption)
                                            have q172 : x57_2 < (((rd_T31 t164 x26_1).f1).length : Int) := of_decide_eq_true (by first | (with_reducible assumption) | assumption)
                                            obtain ⟨ad172, e172, hx172_0, hx172_1, hx172_2⟩ := at_T33 HR168_1.out x57_2 p172 q172
                                            obtain rfl : ad171 = ad172 := (by injection e172)
                                            try replace hx172_0 := (HB.out.cell (World.block_lt_of_cell? w _ hx172_0)).trans hx172_0
                                            try replace hx172_1 := (HB.out.cell (World.block_lt_of_cell? w _ hx172_1)).trans hx172_1
                                            try replace hx172_2 := (HB.out.cell (World.block_lt_of_cell? w _ hx172_2)).trans hx172_2
                                            replace p172 := eq_true p172
                                            replace q172 := eq_true q172
                                            go_wp2
                                            repeat (go_quiet (fail); try go_wp2)
                                            go_ret
                                            exact ⟨by first | rfl | (simp [errW_none, errW_some] <;> rfl) | (simp only [← hji19, ← hji25]; first | rfl | (simp [errW_none, errW_some] <;> rfl)) | (simp [*, errW_none, errW_some] <;> rfl), by repeat (first | (with_reducible first | exact HB.out | apply below_alloc | apply pw_below_drewN | apply below_drew1) | exact HB.out)⟩
                                        · rw [if_neg c29] at H
                                          exact absurd H (by simp)
                                      · rw [if_neg c28] at H
                                        exact absurd H (by simp)
                                    · rw [if_neg c27] at H
                                      exact absurd H (by simp)
                                  · rw [if_neg c26] at H
                                    exact absurd H (by simp)
                                · rw [if_neg c24] at H
                                  have c24b0 : decide (0 < x57_2) = false := decide_eq_false c24
                                  clear c24
                                  by_cases c34 : 0 ≤ x57_2
                                  · rw [if_pos c34] at H
                                    have c34b0 : decide (0 ≤ x57_2) = true := decide_eq_true c34
                                    clear c34
                                    by_cases c35 : x57_2 < (((rd_T31 t164 x26_1).f1).length : Int)
                                    · rw [if_pos c35] at H
                                      have c35b0 : decide (x57_2 < (((rd_T31 t164 x26_1).f1).length : Int)) = true := decide_eq_true c35
                                      clear c35
                                      by_cases c36 : 0 ≤ x26_1
                                      · rw [if_pos c36] at H
                                        have c36b0 : decide (0 ≤ x26_1) = true := decide_eq_true c36
                                        clear c36
                                        by_cases c37 : x26_1 < (t164.length : Int)
                                        · rw [if_pos c37] at H
                                          have c37b0 : decide (x26_1 < (t164.length : Int)) = true := decide_eq_true c37
                                          clear c37
                                          by_cases c38 : (wrap64 (((rd_T33 ((rd_T31 t164 x26_1).f1) x57_2).f0) + t163)) > ((rd_T31 t164 x26_1).f0)
                                          · rw [if_pos c38] at H
                                            have c38b0 : decide (((rd_T31 t164 x26_1).f0) < (wrap64 (((rd_T33 ((rd_T31 t164 x26_1).f1) x57_2).f0) + t163))) = true := decide_eq_true c38
                                            clear c38
                                            obtain rfl := Option.some.inj H
                                            have p175 : 0 ≤ (x57_2 : Int) := of_decide_eq_true (by first | (with_reducible assumption) | assumption)
                                            have q175 : x57_2 < (((rd_T31 t164 x26_1).f1).length : Int) := of_decide_eq_true (by first | (with_reducible assumption) | assumption)
                                            obtain ⟨ad175, e175, hx175_0, hx175_1, hx175_2⟩ := at_T33 HR168_1.out x57_2 p175 q175
                                            cases e175
                                            try replace hx175_0 := (HB.out.cell (World.block_lt_of_cell? w _ hx175_0)).trans hx175_0
                                            try replace hx175_1 := (HB.out.cell (World.block_lt_of_cell? w _ hx175_1)).trans hx175_1
                                            try replace hx175_2 := (HB.out.cell (World.block_lt_of_cell? w _ hx175_2)).trans hx175_2
                                            replace p175 := eq_true p175
                                            replace q175 := eq_true q175
                                            have p176 : 0 ≤ (x26_1 : Int) := of_decide_eq_true (by first | (with_reducible assumption) | assumption)
                                            have q176 : x26_1 < (t164.length : Int) := of_decide_eq_true (by first | (with_reducible assumption) | assumption)
                                            obtain ⟨ad176, A176_1, c176_1, e176, hx176_0, hx176_1, hl176_1, hi176_1⟩ := at_T31 (Kd.S_reads' HO_5.out).2.2 x26_1 p176 q176
                                            obtain rfl : ad168 = ad176 := (by injection e176)
                                            obtain ⟨ce176, hce176, hMe176, hcc176⟩ := Kd.S_get HO_5.out z31 x26_1 p176 (by first | exact q176 | exact of_decide_eq_true (by first | (with_reducible assumption) | assumption) | (have e_ := (Kd.S_reads' HO_5.out).1; omega))
                                            obtain ⟨ve176_1, rfl, ge176_1⟩ := k31_openM hMe176
                                            have hv176_1 := hcc176 1 _ rfl
                                            rw [add_field _ _ 1 (by omega)] at hv176_1
                                            replace hv176_1 := Option.some.inj (hv176_1.symm.trans hx176_1)
                                            rw [hv176_1] at ge176_1
                                            have HL176_1 := Aside0.mk (show Kd.R k33 33 _ _ _ _ ((rd_T31 t164 x26_1).f1) from ge176_1)
                                            clear hv176_1 ge176_1
                                            clear hcc176 hce176
                                            have HR176_1 := Aside0.mk hi176_1
                                            have HC176_1 := Aside0.mk hl176_1
                                            clear hi176_1 hl176_1
                                            replace p176 := eq_true p176
                                            replace q176 := eq_true q176
                                            go_wp2
                                            repeat (go_quiet (fail); try go_wp2)
                                            go_ret
                                            exact ⟨by first | rfl | (simp [errW_none, errW_some] <;> rfl) | (simp only [← hji19]; first | rfl | (simp [errW_none, errW_some] <;> rfl)) | (simp [*, errW_none, errW_some] <;> rfl), by repeat (first | (with_reducible first | exact HB.out | apply below_alloc | apply pw_below_drewN | apply below_drew1) | exact HB.out)⟩
                                          · rw [if_neg c38] at H
                                            have c38b0 : decide (((rd_T31 t164 x26_1).f0) < (wrap64 (((rd_T33 ((rd_T31 t164 x26_1).f1) x57_2).f0) + t163))) = false := decide_eq_false c38
                                            clear c38
                                            have H' := Aside0.mk H
                                            clear H
                                            have p175 : 0 ≤ (x57_2 : Int) := of_decide_eq_true (by first | (with_reducible assumption) | assumption)
                                            have q175 : x57_2 < (((rd_T31 t164 x26_1).f1).length : Int) := of_decide_eq_true (by first | (with_reducible assumption) | assumption)
                                            obtain ⟨ad175, e175, hx175_0, hx175_1, hx175_2⟩ := at_T33 HR168_1.out x57_2 p175 q175
                                            cases e175
                                            try replace hx175_0 := (HB.out.cell (World.block_lt_of_cell? w _ hx175_0)).trans hx175_0
                                            try replace hx175_1 := (HB.out.cell (World.block_lt_of_cell? w _ hx175_1)).trans hx175_1
                                            try replace hx175_2 := (HB.out.cell (World.block_lt_of_cell? w _ hx175_2)).trans hx175_2
                                            replace p175 := eq_true p175
                                            replace q175 := eq_true q175
                                            have p176 : 0 ≤ (x26_1 : Int) := of_decide_eq_true (by first | (with_reducible assumption) | assumption)
                                            have q176 : x26_1 < (t164.length : Int) := of_decide_eq_true (by first | (with_reducible assumption) | assumption)
                                            obtain ⟨ad176, A176_1, c176_1, e176, hx176_0, hx176_1, hl176_1, hi176_1⟩ := at_T31 (Kd.S_reads' HO_5.out).2.2 x26_1 p176 q176
                                            obtain rfl : ad168 = ad176 := (by injection e176)
                                            obtain ⟨ce176, hce176, hMe176, hcc176⟩ := Kd.S_get HO_5.out z31 x26_1 p176 (by first | exact q176 | exact of_decide_eq_true (by first | (with_reducible assumption) | assumption) | (have e_ := (Kd.S_reads' HO_5.out).1; omega))
                                            obtain ⟨ve176_1, rfl, ge176_1⟩ := k31_openM hMe176
                                            have hv176_1 := hcc176 1 _ rfl
                                            rw [add_field _ _ 1 (by omega)] at hv176_1
                                            replace hv176_1 := Option.some.inj (hv176_1.symm.trans hx176_1)
                                            rw [hv176_1] at ge176_1
                                            have HL176_1 := Aside0.mk (show Kd.R k33 33 _ _ _ _ ((rd_T31 t164 x26_1).f1) from ge176_1)
                                            clear hv176_1 ge176_1
                                            clear hcc176 hce176
                                            have HR176_1 := Aside0.mk hi176_1
                                            have HC176_1 := Aside0.mk hl176_1
                                            clear hi176_1 hl176_1
                                            replace p176 := eq_true p176
                                            replace q176 := eq_true q176
                                            go_wp2
                                            repeat (go_quiet (fail); try go_wp2)
                                            go_roundg k2
                                            case measure => have := HK1.out; have := HK2.out; omega
                                            case rel => exact ⟨(wrap64 (x57_2 + 1)), (by first | rfl | (simp; done) | (rw [bne_nil_isEmpty]; done) | (simp [*]; done)), H', ⟨by have := HK1.out; have := HK2.out; omega⟩, ⟨by (with_reducible repeat (first | apply Kd.S_alloc | apply Kd.S_drewN | apply Kd.S_drew)); exact HO_5.out⟩, ⟨by repeat (first | (with_reducible exact HR168_1.out) | (with_reducible refine Kd.C_alloc ?_ _) | (with_reducible refine Kd.C_drewN ?_ _) | (with_reducible refine Kd.C_drew ?_) | exact HR168_1.out)⟩, ⟨by repeat (first | (with_reducible first | exact HB.out | apply below_alloc | apply pw_below_drewN | apply below_drew1) | exact HB.out)⟩⟩
                                        · rw [if_neg c37] at H
                                          exact absurd H (by simp)
                                      · rw [if_neg c36] at H
                                        exact absurd H (by simp)
                                    · rw [if_neg c35] at H
                                      exact absurd H (by simp)
                                  · rw [if_neg c34] at H
                                    exact absurd H (by simp)
                              · rw [if_neg c23] at H
                                have c23b0 : decide (x57_2 < (((rd_T31 t164 x26_1).f1).length : Int)) = false := decide_eq_false c23
                                clear c23
                                have H' := Aside0.mk H
                                clear H
                                go_wp2
                                repeat (go_quiet (fail); try go_wp2)
                                go_roundg k2
                                case measure => have := HK1.out; have := HK2.out; omega
                                case rel => exact ⟨(wrap64 (x26_1 + 1)), (by first | rfl | (simp; done) | (rw [bne_nil_isEmpty]; done) | (simp [*]; done)), H', ⟨by have := HK1.out; have := HK2.out; omega⟩, ⟨by (with_reducible repeat (first | apply Kd.S_alloc | apply Kd.S_drewN | apply Kd.S_drew)); exact HO_5.out⟩, ⟨by repeat (first | (with_reducible first | exact HB.out | apply below_alloc | apply pw_below_drewN | apply below_drew1) | exact HB.out)⟩⟩
                      · rw [if_neg c21] at H
                        exact absurd H (by simp)
                    · rw [if_neg c20] at H
                      exact absurd H (by simp)
                  · rw [if_neg c18] at H
                    have c18b0 : decide (0 < x26_1) = false := decide_eq_false c18
                    clear c18
                    have H' := Aside0.mk H
                    clear H
                    have p168 : 0 ≤ (x26_1 : Int) := of_decide_eq_true (by first | (with_reducible assumption) | assumption)
                    have q168 : x26_1 < (t164.length : Int) := of_decide_eq_true (by first | (with_reducible assumption) | assumption)
                    obtain ⟨ad168, A168_1, c168_1, e168, hx168_0, hx168_1, hl168_1, hi168_1⟩ := at_T31 (Kd.S_reads' HO_5.out).2.2 x26_1 p168 q168
                    cases e168
                    obtain ⟨ce168, hce168, hMe168, hcc168⟩ := Kd.S_get HO_5.out z31 x26_1 p168 (by first | exact q168 | exact of_decide_eq_true (by first | (with_reducible assumption) | assumption) | (have e_ := (Kd.S_reads' HO_5.out).1; omega))
                    obtain ⟨ve168_1, rfl, ge168_1⟩ := k31_openM hMe168
                    have hv168_1 := hcc168 1 _ rfl
                    rw [add_field _ _ 1 (by omega)] at hv168_1
                    replace hv168_1 := Option.some.inj (hv168_1.symm.trans hx168_1)
                    rw [hv168_1] at ge168_1
                    have HL168_1 := Aside0.mk (show Kd.R k33 33 _ _ _ _ ((rd_T31 t164 x26_1).f1) from ge168_1)
                    clear hv168_1 ge168_1
                    clear hcc168 hce168
                    have HR168_1 := Aside0.mk hi168_1
                    have HC168_1 := Aside0.mk hl168_1
                    clear hi168_1 hl168_1
                    replace p168 := eq_true p168
                    replace q168 := eq_true q168
                    go_wp2
                    repeat (go_quiet (fail); try go_wp2)
                    go_loopg [57] k1 (fun kq v57 w' => ∃ (x57_2 : Int), v57 = .int .i64 x57_2 ∧ Aside0 (glossatorkeep3_FilewatchBatchInvariants.l1 kq t163 t164 x26_1 ((rd_T31 t164 x26_1).f1) (t164.length : Int) x26_1 (((rd_T31 t164 x26_1).f1).length : Int) x57_2 = some r) ∧ Aside0 (kq ≤ k1) ∧ Aside0 (Kd.S k31 31 w' w.heap.size (fun _ => True) (.slice (some ad168) t164.length co13) t164) ∧ Aside0 (Kd.C k33 w' A168_1 ((rd_T31 t164 x26_1).f1).length ((rd_T31 t164 x26_1).f1)) ∧ Aside0 (Below w.heap.size w w'))
                    case atStart => exact ⟨(0), (by first | rfl | (simp; done) | (rw [bne_nil_isEmpty]; done) | (simp [*]; done)), H', ⟨Nat.le_refl _⟩, ⟨by (with_reducible repeat (first | apply Kd.S_alloc | apply Kd.S_drewN | apply Kd.S_drew)); exact HO_5.out⟩, ⟨by repeat (first | (with_reducible exact HR168_1.out) | (with_reducible refine Kd.C_alloc ?_ _) | (with_reducible refine Kd.C_drewN ?_ _) | (with_reducible refine Kd.C_drew ?_) | exact HR168_1.out)⟩, ⟨by repeat (first | (with_reducible first | exact HB.out | apply below_alloc | apply pw_below_drewN | apply below_drew1) | exact HB.out)⟩⟩
                    case round =>
                      clear H'
                      try clear c1
                      try clear p1
                      try clear q1
                      try clear hx1
                      try clear c2
                      try clear p2
                      try clear c3
                      try clear p3
                      try clear c4
                      try clear p6
                      try clear c8
                      try clear c8b0
                      try clear c8b1
                      try clear c14
                      try clear c14b0
                      try clear c15
                      try clear c15b0
                      try clear c16
                      try clear c16b0
                      try clear p16
                      try clear q16
                      try clear hx16
                      try clear c17
                      try clear c17b0
                      try clear c17b1
                      try clear c17b2
                      try clear p17
                      try clear q17
                      try clear hx17
                      try clear c18
                      try clear c18b0
                      try clear c20
                      try clear c20b0
                      try clear c21
                      try clear c21b0
                      try clear c22
                      try clear c22b0
                      try clear c23
                      try clear c23b0
                      try clear c24
                      try clear c24b0
                      try clear c26
                      try clear c26b0
                      try clear c27
                      try clear c27b0
                      try clear c28
                      try clear c28b0
                      try clear c29
                      try clear c29b0
                      try clear c30
                      try clear c30b0
                      try clear c31
                      try clear c31b0
                      try clear c32
                      try clear c32b0
                      try clear c33
                      try clear c33b0
                      try clear c34
                      try clear c34b0
                      try clear c35
                      try clear c35b0
                      try clear c36
                      try clear c36b0
                      try clear c37
                      try clear c37b0
                      try clear c38
                      try clear c38b0
                      try clear hx168_0
                      try clear hx168_1
                      try clear hx169_0
                      try clear hx169_1
                      try clear hx170_0
                      try clear hx170_1
                      try clear hx171_0
                      try clear hx171_1
                      try clear hx171_2
                      try clear hx172_0
                      try clear hx172_1
                      try clear hx172_2
                      try clear hx173_0
                      try clear hx173_1
                      try clear hx173_2
                      try clear hx174_0
                      try clear hx174_1
                      try clear hx175_0
                      try clear hx175_1
                      try clear hx175_2
                      try clear hx176_0
                      try clear hx176_1
                      try clear p1
                      try clear p16
                      try clear p168
                      try clear p169
                      try clear p17
                      try clear p170
                      try clear p171
                      try clear p172
                      try clear p173
                      try clear p174
                      try clear p175
                      try clear p176
                      try clear p2
                      try clear p3
                      try clear p6
                      try clear q1
                      try clear q16
                      try clear q168
                      try clear q169
                      try clear q17
                      try clear q170
                      try clear q171
                      try clear q172
                      try clear q173
                      try clear q174
                      try clear q175
                      try clear q176
                      obtain ⟨x57_2, rfl, HA, HK2, HO_5, HR168_1, HB⟩ := hrel
                      cases gk with
                      | zero => exact absurd HA.out (by simp [glossatorkeep3_FilewatchBatchInvariants.l1])
                      | succ k2 =>
                        have H := HA.out
                        clear HA
                        simp only [glossatorkeep3_FilewatchBatchInvariants.l1] at H
                        by_cases c39 : x57_2 < (((rd_T31 t164 x26_1).f1).length : Int)
                        · rw [if_pos c39] at H
                          have c39b0 : decide (x57_2 < (((rd_T31 t164 x26_1).f1).length : Int)) = true := decide_eq_true c39
                          clear c39
                          by_cases c40 : x57_2 > 0
                          · rw [if_pos c40] at H
                            have c40b0 : decide (0 < x57_2) = true := decide_eq_true c40
                            clear c40
                            obtain ⟨ji41, hji41⟩ : ∃ j_ : Int, (wrap64 (x57_2 - 1)) = j_ := ⟨_, rfl⟩
                            replace H : (if 0 ≤ (ji41) then (if (ji41) < (((rd_T31 t164 x26_1).f1).length : Int) then (if 0 ≤ x57_2 then (if x57_2 < (((rd_T31 t164 x26_1).f1).length : Int) then (if ((Op.bytesLess (((rd_T33 ((rd_T31 t164 x26_1).f1) (ji41)).f1).toList) (((rd_T33 ((rd_T31 t164 x26_1).f1) x57_2).f1).toList)) = true) then (if 0 ≤ x26_1 then (if x26_1 < (t164.length : Int) then (if (wrap64 (((rd_T33 ((rd_T31 t164 x26_1).f1) x57_2).f0) + t163)) > ((rd_T31 t164 x26_1).f0) then (some false) else (glossatorkeep3_FilewatchBatchInvariants.l1 k2 t163 t164 x26_1 ((rd_T31 t164 x26_1).f1) (t164.length : Int) x26_1 (((rd_T31 t164 x26_1).f1).length : Int) (wrap64 (x57_2 + 1)))) else (none)) else (none)) else (some false)) else (none)) else (none)) else (none)) else (none)) = some r := by first | (rw [hji41] at H; exact H) | (simp only [hji41] at H ⊢; exact H)
                            have hji41w : (IntKind.i64.wrap (x57_2 - 1)) = ji41 := (i64_w _).trans hji41
                            by_cases c42 : 0 ≤ (ji41)
                            · rw [if_pos c42] at H
                              have c42b0 : decide (0 ≤ (ji41)) = true := decide_eq_true c42
                              clear c42
                              by_cases c43 : (ji41) < (((rd_T31 t164 x26_1).f1).length : Int)
                              · rw [if_pos c43] at H
                                have c43b0 : decide ((ji41) < (((rd_T31 t164 x26_1).f1).length : Int)) = true := decide_eq_true c43
                                clear c43
                                by_cases c44 : 0 ≤ x57_2
                                · rw [if_pos c44] at H
                                  have c44b0 : decide (0 ≤ x57_2) = true := decide_eq_true c44
                                  clear c44
                                  by_cases c45 : x57_2 < (((rd_T31 t164 x26_1).f1).length : Int)
                                  · rw [if_pos c45] at H
                                    have c45b0 : decide (x57_2 < (((rd_T31 t164 x26_1).f1).length : Int)) = true := decide_eq_true c45
                                    clear c45
                                    by_cases c46 : ((Op.bytesLess (((rd_T33 ((rd_T31 t164 x26_1).f1) (ji41)).f1).toList) (((rd_T33 ((rd_T31 t164 x26_1).f1) x57_2).f1).toList)) = true)
                                    · rw [if_pos c46] at H
                                      have c46b0 : (Op.bytesLess (((rd_T33 ((rd_T31 t164 x26_1).f1) (ji41)).f1).toList) (((rd_T33 ((rd_T31 t164 x26_1).f1) x57_2).f1).toList)) = true := c46
                                      clear c46
                                      by_cases c47 : 0 ≤ x26_1
                                      · rw [if_pos c47] at H
                                        have c47b0 : decide (0 ≤ x26_1) = true := decide_eq_true c47
                                        clear c47
                                        by_cases c48 : x26_1 < (t164.length : Int)
                                        · rw [if_pos c48] at H
                                          have c48b0 : decide (x26_1 < (t164.length : Int)) = true := decide_eq_true c48
                                          clear c48
                                          by_cases c49 : (wrap64 (((rd_T33 ((rd_T31 t164 x26_1).f1) x57_2).f0) + t163)) > ((rd_T31 t164 x26_1).f0)
                                          · rw [if_pos c49] at H
                                            have c49b0 : decide (((rd_T31 t164 x26_1).f0) < (wrap64 (((rd_T33 ((rd_T31 t164 x26_1).f1) x57_2).f0) + t163))) = true := decide_eq_true c49
                                            clear c49
                                            obtain rfl := Option.some.inj H
                                            have p171 : 0 ≤ ((ji41) : Int) := of_decide_eq_true (by first | (with_reducible assumption) | assumption)
                                            have q171 : (ji41) < (((rd_T31 t164 x26_1).f1).length : Int) := of_decide_eq_true (by first | (with_reducible assumption) | assumption)
                                            obtain ⟨ad171, e171, hx171_0, hx171_1, hx171_2⟩ := at_T33 HR168_1.out (ji41) p171 q171
                                            cases e171
                                            try replace hx171_0 := (HB.out.cell (World.block_lt_of_cell? w _ hx171_0)).trans hx171_0
                                            try replace hx171_1 := (HB.out.cell (World.block_lt_of_cell? w _ hx171_1)).trans hx171_1
                                            try replace hx171_2 := (HB.out.cell (World.block_lt_of_cell? w _ hx171_2)).trans hx171_2
                                            replace p171 := eq_true p171
                                            replace q171 := eq_true q171
                                            have p172 : 0 ≤ (x57_2 : Int) := of_decide_eq_true (by first | (with_reducible assumption) | assumption)
                                            have q172 : x57_2 < (((rd_T31 t164 x26_1).f1).length : Int) := of_decide_eq_true (by first | (with_reducible assumption) | assumption)
                                            obtain ⟨ad172, e172, hx172_0, hx172_1, hx172_2⟩ := at_T33 HR168_1.out x57_2 p172 q172
                                            obtain rfl : ad171 = ad172 := (by injection e172)
                                            try replace hx172_0 := (HB.out.cell (World.block_lt_of_cell? w _ hx172_0)).trans hx172_0
                                            try replace hx172_1 := (HB.out.cell (World.block_lt_of_cell? w _ hx172_1)).trans hx172_1
                                            try replace hx172_2 := (HB.out.cell (World.block_lt_of_cell? w _ hx172_2)).trans hx172_2
                                            replace p172 := eq_true p172
                                            replace q172 := eq_true q172
                                            have p173 : 0 ≤ (x57_2 : Int) := of_decide_eq_true (by first | (with_reducible assumption) | assumption)
                                            have q173 : x57_2 < (((rd_T31 t164 x26_1).f1).length : Int) := of_decide_eq_true (by first | (with_reducible assumption) | assumption)
                                            obtain ⟨ad173, e173, hx173_0, hx173_1, hx173_2⟩ := at_T33 HR168_1.out x57_2 p173 q173
                                            obtain rfl : ad171 = ad173 := (by injection e173)
                                            try replace hx173_0 := (HB.out.cell (World.block_lt_of_cell? w _ hx173_0)).trans hx173_0
                                            try replace hx173_1 := (HB.out.cell (World.block_lt_of_cell? w _ hx173_1)).trans hx173_1
                                            try replace hx173_2 := (HB.out.cell (World.block_lt_of_cell? w _ hx173_2)).trans hx173_2
                                            replace p173 := eq_true p173
                                            replace q173 := eq_true q173
                                            have p174 : 0 ≤ (x26_1 : Int) := of_decide_eq_true (by first | (with_reducible assumption) | assumption)
                                            have q174 : x26_1 < (t164.length : Int) := of_decide_eq_true (by first | (with_reducible assumption) | assumption)
                                            obtain ⟨ad174, A174_1, c174_1, e174, hx174_0, hx174_1, hl174_1, hi174_1⟩ := at_T31 (Kd.S_reads' HO_5.out).2.2 x26_1 p174 q174
                                            obtain rfl : ad168 = ad174 := (by injection e174)
                                            obtain ⟨ce174, hce174, hMe174, hcc174⟩ := Kd.S_get HO_5.out z31 x26_1 p174 (by first | exact q174 | exact of_decide_eq_true (by first | (with_reducible assumption) | assumption) | (have e_ := (Kd.S_reads' HO_5.out).1; omega))
                                            obtain ⟨ve174_1, rfl, ge174_1⟩ := k31_openM hMe174
                                            have hv174_1 := hcc174 1 _ rfl
                                            rw [add_field _ _ 1 (by omega)] at hv174_1
                                            replace hv174_1 := Option.some.inj (hv174_1.symm.trans hx174_1)
                                            rw [hv174_1] at ge174_1
                                            have HL174_1 := Aside0.mk (show Kd.R k33 33 _ _ _ _ ((rd_T31 t164 x26_1).f1) from ge174_1)
                                            clear hv174_1 ge174_1
                                            clear hcc174 hce174
                                            have HR174_1 := Aside0.mk hi174_1
                                            have HC174_1 := Aside0.mk hl174_1
                                            clear hi174_1 hl174_1
                                            replace p174 := eq_true p174
                                            replace q174 := eq_true q174
                                            go_wp2
                                            repeat (go_quiet (fail); try go_wp2)
                                            go_ret
                                            exact ⟨by first | rfl | (simp [errW_none, errW_some] <;> rfl) | (simp only [← hji41]; first | rfl | (simp [errW_none, errW_some] <;> rfl)) | (simp [*, errW_none, errW_some] <;> rfl), by repeat (first | (with_reducible first | exact HB.out | apply below_alloc | apply pw_below_drewN | apply below_drew1) | exact HB.out)⟩
                                          · rw [if_neg c49] at H
                                            have c49b0 : decide (((rd_T31 t164 x26_1).f0) < (wrap64 (((rd_T33 ((rd_T31 t164 x26_1).f1) x57_2).f0) + t163))) = false := decide_eq_false c49
                                            clear c49
                                            have H' := Aside0.mk H
                                            clear H
                                            have p171 : 0 ≤ ((ji41) : Int) := of_decide_eq_true (by first | (with_reducible assumption) | assumption)
                                            have q171 : (ji41) < (((rd_T31 t164 x26_1).f1).length : Int) := of_decide_eq_true (by first | (with_reducible assumption) | assumption)
                                            obtain ⟨ad171, e171, hx171_0, hx171_1, hx171_2⟩ := at_T33 HR168_1.out (ji41) p171 q171
                                            cases e171
                                            try replace hx171_0 := (HB.out.cell (World.block_lt_of_cell? w _ hx171_0)).trans hx171_0
                                            try replace hx171_1 := (HB.out.cell (World.block_lt_of_cell? w _ hx171_1)).trans hx171_1
                                            try replace hx171_2 := (HB.out.cell (World.block_lt_of_cell? w _ hx171_2)).trans hx171_2
                                            replace p171 := eq_true p171
                                            replace q171 := eq_true q171
                                            have p172 : 0 ≤ (x57_2 : Int) := of_decide_eq_true (by first | (with_reducible assumption) | assumption)
                                            have q172 : x57_2 < (((rd_T31 t164 x26_1).f1).length : Int) := of_decide_eq_true (by first | (with_reducible assumption) | assumption)
                                            obtain ⟨ad172, e172, hx172_0, hx172_1, hx172_2⟩ := at_T33 HR168_1.out x57_2 p172 q172
                                            obtain rfl : ad171 = ad172 := (by injection e172)
                                            try replace hx172_0 := (HB.out.cell (World.block_lt_of_cell? w _ hx172_0)).trans hx172_0
                                            try replace hx172_1 := (HB.out.cell (World.block_lt_of_cell? w _ hx172_1)).trans hx172_1
                                            try replace hx172_2 := (HB.out.cell (World.block_lt_of_cell? w _ hx172_2)).trans hx172_2
                                            replace p172 := eq_true p172
                                            replace q172 := eq_true q172
                                            have p173 : 0 ≤ (x57_2 : Int) := of_decide_eq_true (by first | (with_reducible assumption) | assumption)
                                            have q173 : x57_2 < (((rd_T31 t164 x26_1).f1).length : Int) := of_decide_eq_true (by first | (with_reducible assumption) | assumption)
                                            obtain ⟨ad173, e173, hx173_0, hx173_1, hx173_2⟩ := at_T33 HR168_1.out x57_2 p173 q173
                                            obtain rfl : ad171 = ad173 := (by injection e173)
                                            try replace hx173_0 := (HB.out.cell (World.block_lt_of_cell? w _ hx173_0)).trans hx173_0
                                            try replace hx173_1 := (HB.out.cell (World.block_lt_of_cell? w _ hx173_1)).trans hx173_1
                                            try replace hx173_2 := (HB.out.cell (World.block_lt_of_cell? w _ hx173_2)).trans hx173_2
                                            replace p173 := eq_true p173
                                            replace q173 := eq_true q173
                                            have p174 : 0 ≤ (x26_1 : Int) := of_decide_eq_true (by first | (with_reducible assumption) | assumption)
                                            have q174 : x26_1 < (t164.length : Int) := of_decide_eq_true (by first | (with_reducible assumption) | assumption)
                                            obtain ⟨ad174, A174_1, c174_1, e174, hx174_0, hx174_1, hl174_1, hi174_1⟩ := at_T31 (Kd.S_reads' HO_5.out).2.2 x26_1 p174 q174
                                            obtain rfl : ad168 = ad174 := (by injection e174)
                                            obtain ⟨ce174, hce174, hMe174, hcc174⟩ := Kd.S_get HO_5.out z31 x26_1 p174 (by first | exact q174 | exact of_decide_eq_true (by first | (with_reducible assumption) | assumption) | (have e_ := (Kd.S_reads' HO_5.out).1; omega))
                                            obtain ⟨ve174_1, rfl, ge174_1⟩ := k31_openM hMe174
                                            have hv174_1 := hcc174 1 _ rfl
                                            rw [add_field _ _ 1 (by omega)] at hv174_1
                                            replace hv174_1 := Option.some.inj (hv174_1.symm.trans hx174_1)
                                            rw [hv174_1] at ge174_1
                                            have HL174_1 := Aside0.mk (show Kd.R k33 33 _ _ _ _ ((rd_T31 t164 x26_1).f1) from ge174_1)
                                            clear hv174_1 ge174_1
                                            clear hcc174 hce174
                                            have HR174_1 := Aside0.mk hi174_1
                                            have HC174_1 := Aside0.mk hl174_1
                                            clear hi174_1 hl174_1
                                            replace p174 := eq_true p174
                                            replace q174 := eq_true q174
                                            go_wp2
                                            repeat (go_quiet (fail); try go_wp2)
                                            go_roundg k2
                                            case measure => have := HK1.out; have := HK2.out; omega
                                            case rel => exact ⟨(wrap64 (x57_2 + 1)), (by first | rfl | (simp; done) | (rw [bne_nil_isEmpty]; done) | (simp [*]; done)), H', ⟨by have := HK1.out; have := HK2.out; omega⟩, ⟨by (with_reducible repeat (first | apply Kd.S_alloc | apply Kd.S_drewN | apply Kd.S_drew)); exact HO_5.out⟩, ⟨by repeat (first | (with_reducible exact HR168_1.out) | (with_reducible refine Kd.C_alloc ?_ _) | (with_reducible refine Kd.C_drewN ?_ _) | (with_reducible refine Kd.C_drew ?_) | exact HR168_1.out)⟩, ⟨by repeat (first | (with_reducible first | exact HB.out | apply below_alloc | apply pw_below_drewN | apply below_drew1) | exact HB.out)⟩⟩
                                        · rw [if_neg c48] at H
                                          exact absurd H (by simp)
                                      · rw [if_neg c47] at H
                                        exact absurd H (by simp)
                                    · rw [if_neg c46] at H
                                      have c46b0 : (Op.bytesLess (((rd_T33 ((rd_T31 t164 x26_1).f1) (ji41)).f1).toList) (((rd_T33 ((rd_T31 t164 x26_1).f1) x57_2).f1).toList)) = false := by simpa using c46
                                      clear c46
                                      obtain rfl := Option.some.inj H
                                      have p171 : 0 ≤ ((ji41) : Int) := of_decide_eq_true (by first | (with_reducible assumption) | assumption)
                                      have q171 : (ji41) < (((rd_T31 t164 x26_1).f1).length : Int) := of_decide_eq_true (by first | (with_reducible assumption) | assumption)
                                      obtain ⟨ad171, e171, hx171_0, hx171_1, hx171_2⟩ := at_T33 HR168_1.out (ji41) p171 q171
                                      cases e171
                                      try replace hx171_0 := (HB.out.cell (World.block_lt_of_cell? w _ hx171_0)).trans hx171_0
                                      try replace hx171_1 := (HB.out.cell (World.block_lt_of_cell? w _ hx171_1)).trans hx171_1
                                      try replace hx171_2 := (HB.out.cell (World.block_lt_of_cell? w _ hx171_2)).trans hx171_2
                                      replace p171 := eq_true p171
                                      replace q171 := eq_true q171
                                      have p172 : 0 ≤ (x57_2 : Int) := of_decide_eq_true (by first | (with_reducible assumption) | assumption)
                                      have q172 : x57_2 < (((rd_T31 t164 x26_1).f1).length : Int) := of_decide_eq_true (by first | (with_reducible assumption) | assumption)
                                      obtain ⟨ad172, e172, hx172_0, hx172_1, hx172_2⟩ := at_T33 HR168_1.out x57_2 p172 q172
                                      obtain rfl : ad171 = ad172 := (by injection e172)
                                      try replace hx172_0 := (HB.out.cell (World.block_lt_of_cell? w _ hx172_0)).trans hx172_0
                                      try replace hx172_1 := (HB.out.cell (World.block_lt_of_cell? w _ hx172_1)).trans hx172_1
                                      try replace hx172_2 := (HB.out.cell (World.block_lt_of_cell? w _ hx172_2)).trans hx172_2
                                      replace p172 := eq_true p172
                                      replace q172 := eq_true q172
                                      go_wp2
                                      repeat (go_quiet (fail); try go_wp2)
                                      go_ret
                                      exact ⟨by first | rfl | (simp [errW_none, errW_some] <;> rfl) | (simp only [← hji41]; first | rfl | (simp [errW_none, errW_some] <;> rfl)) | (simp [*, errW_none, errW_some] <;> rfl), by repeat (first | (with_reducible first | exact HB.out | apply below_alloc | apply pw_below_drewN | apply below_drew1) | exact HB.out)⟩
                                  · rw [if_neg c45] at H
                                    exact absurd H (by simp)
                                · rw [if_neg c44] at H
                                  exact absurd H (by simp)
                              · rw [if_neg c43] at H
                                exact absurd H (by simp)
                            · rw [if_neg c42] at H
                              exact absurd H (by simp)
                          · rw [if_neg c40] at H
                            have c40b0 : decide (0 < x57_2) = false := decide_eq_false c40
                            clear c40
                            by_cases c50 : 0 ≤ x57_2
                            · rw [if_pos c50] at H
                              have c50b0 : decide (0 ≤ x57_2) = true := decide_eq_true c50
                              clear c50
                              by_cases c51 : x57_2 < (((rd_T31 t164 x26_1).f1).length : Int)
                              · rw [if_pos c51] at H
                                have c51b0 : decide (x57_2 < (((rd_T31 t164 x26_1).f1).length : Int)) = true := decide_eq_true c51
                                clear c51
                                by_cases c52 : 0 ≤ x26_1
                                · rw [if_pos c52] at H
                                  have c52b0 : decide (0 ≤ x26_1) = true := decide_eq_true c52
                                  clear c52
                                  by_cases c53 : x26_1 < (t164.length : Int)
                                  · rw [if_pos c53] at H
                                    have c53b0 : decide (x26_1 < (t164.length : Int)) = true := decide_eq_true c53
                                    clear c53
                                    by_cases c54 : (wrap64 (((rd_T33 ((rd_T31 t164 x26_1).f1) x57_2).f0) + t163)) > ((rd_T31 t164 x26_1).f0)
                                    · rw [if_pos c54] at H
                                      have c54b0 : decide (((rd_T31 t164 x26_1).f0) < (wrap64 (((rd_T33 ((rd_T31 t164 x26_1).f1) x57_2).f0) + t163))) = true := decide_eq_true c54
                                      clear c54
                                      obtain rfl := Option.some.inj H
                                      have p175 : 0 ≤ (x57_2 : Int) := of_decide_eq_true (by first | (with_reducible assumption) | assumption)
                                      have q175 : x57_2 < (((rd_T31 t164 x26_1).f1).length : Int) := of_decide_eq_true (by first | (with_reducible assumption) | assumption)
                                      obtain ⟨ad175, e175, hx175_0, hx175_1, hx175_2⟩ := at_T33 HR168_1.out x57_2 p175 q175
                                      cases e175
                                      try replace hx175_0 := (HB.out.cell (World.block_lt_of_cell? w _ hx175_0)).trans hx175_0
                                      try replace hx175_1 := (HB.out.cell (World.block_lt_of_cell? w _ hx175_1)).trans hx175_1
                                      try replace hx175_2 := (HB.out.cell (World.block_lt_of_cell? w _ hx175_2)).trans hx175_2
                                      replace p175 := eq_true p175
                                      replace q175 := eq_true q175
                                      have p176 : 0 ≤ (x26_1 : Int) := of_decide_eq_true (by first | (with_reducible assumption) | assumption)
                                      have q176 : x26_1 < (t164.length : Int) := of_decide_eq_true (by first | (with_reducible assumption) | assumption)
                                      obtain ⟨ad176, A176_1, c176_1, e176, hx176_0, hx176_1, hl176_1, hi176_1⟩ := at_T31 (Kd.S_reads' HO_5.out).2.2 x26_1 p176 q176
                                      obtain rfl : ad168 = ad176 := (by injection e176)
                                      obtain ⟨ce176, hce176, hMe176, hcc176⟩ := Kd.S_get HO_5.out z31 x26_1 p176 (by first | exact q176 | exact of_decide_eq_true (by first | (with_reducible assumption) | assumption) | (have e_ := (Kd.S_reads' HO_5.out).1; omega))
                                      obtain ⟨ve176_1, rfl, ge176_1⟩ := k31_openM hMe176
                                      have hv176_1 := hcc176 1 _ rfl
                                      rw [add_field _ _ 1 (by omega)] at hv176_1
                                      replace hv176_1 := Option.some.inj (hv176_1.symm.trans hx176_1)
                                      rw [hv176_1] at ge176_1
                                      have HL176_1 := Aside0.mk (show Kd.R k33 33 _ _ _ _ ((rd_T31 t164 x26_1).f1) from ge176_1)
                                      clear hv176_1 ge176_1
                                      clear hcc176 hce176
                                      have HR176_1 := Aside0.mk hi176_1
                                      have HC176_1 := Aside0.mk hl176_1
                                      clear hi176_1 hl176_1
                                      replace p176 := eq_true p176
                                      replace q176 := eq_true q176
                                      go_wp2
                                      repeat (go_quiet (fail); try go_wp2)
                                      go_ret
                                      exact ⟨by first | rfl | (simp [errW_none, errW_some] <;> rfl) | (simp [*, errW_none, errW_some] <;> rfl), by repeat (first | (with_reducible first | exact HB.out | apply below_alloc | apply pw_below_drewN | apply below_drew1) | exact HB.out)⟩
                                    · rw [if_neg c54] at H
                                      have c54b0 : decide (((rd_T31 t164 x26_1).f0) < (wrap64 (((rd_T33 ((rd_T31 t164 x26_1).f1) x57_2).f0) + t163))) = false := decide_eq_false c54
                                      clear c54
                                      have H' := Aside0.mk H
                                      clear H
                                      have p175 : 0 ≤ (x57_2 : Int) := of_decide_eq_true (by first | (with_reducible assumption) | assumption)
                                      have q175 : x57_2 < (((rd_T31 t164 x26_1).f1).length : Int) := of_decide_eq_true (by first | (with_reducible assumption) | assumption)
                                      obtain ⟨ad175, e175, hx175_0, hx175_1, hx175_2⟩ := at_T33 HR168_1.out x57_2 p175 q175
                                      cases e175
                                      try replace hx175_0 := (HB.out.cell (World.block_lt_of_cell? w _ hx175_0)).trans hx175_0
                                      try replace hx175_1 := (HB.out.cell (World.block_lt_of_cell? w _ hx175_1)).trans hx175_1
                                      try replace hx175_2 := (HB.out.cell (World.block_lt_of_cell? w _ hx175_2)).trans hx175_2
                                      replace p175 := eq_true p175
                                      replace q175 := eq_true q175
                                      have p176 : 0 ≤ (x26_1 : Int) := of_decide_eq_true (by first | (with_reducible assumption) | assumption)
                                      have q176 : x26_1 < (t164.length : Int) := of_decide_eq_true (by first | (with_reducible assumption) | assumption)
                                      obtain ⟨ad176, A176_1, c176_1, e176, hx176_0, hx176_1, hl176_1, hi176_1⟩ := at_T31 (Kd.S_reads' HO_5.out).2.2 x26_1 p176 q176
                                      obtain rfl : ad168 = ad176 := (by injection e176)
                                      obtain ⟨ce176, hce176, hMe176, hcc176⟩ := Kd.S_get HO_5.out z31 x26_1 p176 (by first | exact q176 | exact of_decide_eq_true (by first | (with_reducible assumption) | assumption) | (have e_ := (Kd.S_reads' HO_5.out).1; omega))
                                      obtain ⟨ve176_1, rfl, ge176_1⟩ := k31_openM hMe176
                                      have hv176_1 := hcc176 1 _ rfl
                                      rw [add_field _ _ 1 (by omega)] at hv176_1
                                      replace hv176_1 := Option.some.inj (hv176_1.symm.trans hx176_1)
                                      rw [hv176_1] at ge176_1
                                      have HL176_1 := Aside0.mk (show Kd.R k33 33 _ _ _ _ ((rd_T31 t164 x26_1).f1) from ge176_1)
                                      clear hv176_1 ge176_1
                                      clear hcc176 hce176
                                      have HR176_1 := Aside0.mk hi176_1
                                      have HC176_1 := Aside0.mk hl176_1
                                      clear hi176_1 hl176_1
                                      replace p176 := eq_true p176
                                      replace q176 := eq_true q176
                                      go_wp2
                                      repeat (go_quiet (fail); try go_wp2)
                                      go_roundg k2
                                      case measure => have := HK1.out; have := HK2.out; omega
                                      case rel => exact ⟨(wrap64 (x57_2 + 1)), (by first | rfl | (simp; done) | (rw [bne_nil_isEmpty]; done) | (simp [*]; done)), H', ⟨by have := HK1.out; have := HK2.out; omega⟩, ⟨by (with_reducible repeat (first | apply Kd.S_alloc | apply Kd.S_drewN | apply Kd.S_drew)); exact HO_5.out⟩, ⟨by repeat (first | (with_reducible exact HR168_1.out) | (with_reducible refine Kd.C_alloc ?_ _) | (with_reducible refine Kd.C_drewN ?_ _) | (with_reducible refine Kd.C_drew ?_) | exact HR168_1.out)⟩, ⟨by repeat (first | (with_reducible first | exact HB.out | apply below_alloc | apply pw_below_drewN | apply below_drew1) | exact HB.out)⟩⟩
                                  · rw [if_neg c53] at H
                                    exact absurd H (by simp)
                                · rw [if_neg c52] at H
                                  exact absurd H (by simp)
                              · rw [if_neg c51] at H
                                exact absurd H (by simp)
                            · rw [if_neg c50] at H
                              exact absurd H (by simp)
                        · rw [if_neg c39] at H
                          have c39b0 : decide (x57_2 < (((rd_T31 t164 x26_1).f1).length : Int)) = false := decide_eq_false c39
                          clear c39
                          have H' := Aside0.mk H
                          clear H
                          go_wp2
                          repeat (go_quiet (fail); try go_wp2)
                          go_roundg k2
                          case measure => have := HK1.out; have := HK2.out; omega
                          case rel => exact ⟨(wrap64 (x26_1 + 1)), (by first | rfl | (simp; done) | (rw [bne_nil_isEmpty]; done) | (simp [*]; done)), H', ⟨by have := HK1.out; have := HK2.out; omega⟩, ⟨by (with_reducible repeat (first | apply Kd.S_alloc | apply Kd.S_drewN | apply Kd.S_drew)); exact HO_5.out⟩, ⟨by repeat (first | (with_reducible first | exact HB.out | apply below_alloc | apply pw_below_drewN | apply below_drew1) | exact HB.out)⟩⟩
              · rw [if_neg c16] at H
                exact absurd H (by simp)
            · rw [if_neg c15] at H
              exact absurd H (by simp)
          · rw [if_neg c14] at H
            have c14b0 : decide (x26_1 < (t164.length : Int)) = false := decide_eq_false c14
            clear c14
            replace H := Option.bind_eq_some_iff.mp H
            obtain ⟨t177, A550, H⟩ := H
            replace H : (some t177) = some r := H
            have A55 := Aside0.mk A550
            clear A550
            obtain rfl := Option.some.inj H
            go_wp2_with (first | (go_at_call 6; (with_reducible refine (glossatorkeep3_watchExample.calls k1  t177 _ A55.out).mono ?_); rintro e w56 ⟨rfl, hb⟩; have n0_ := Aside0.mk (Kd.S_below (by (with_reducible repeat (first | apply Kd.S_alloc | apply Kd.S_drewN | apply Kd.S_drew)); exact HO_5.out) hb); have n1_ := Aside0.mk (below_step (by repeat (first | (with_reducible first | exact HB.out | apply below_alloc | apply pw_below_drewN | apply below_drew1) | exact HB.out)) hb); clear HO_5; clear HB; have HO_5 := n0_; have HB := n1_; clear n0_ n1_; (try clear hb); (try clear hb2); (try clear hk); (try clear hi)))
            repeat (go_quiet (first | (go_at_call 6; (with_reducible refine (glossatorkeep3_watchExample.calls k1  t177 _ A55.out).mono ?_); rintro e w56 ⟨rfl, hb⟩; have n0_ := Aside0.mk (Kd.S_below (by (with_reducible repeat (first | apply Kd.S_alloc | apply Kd.S_drewN | apply Kd.S_drew)); exact HO_5.out) hb); have n1_ := Aside0.mk (below_step (by repeat (first | (with_reducible first | exact HB.out | apply below_alloc | apply pw_below_drewN | apply below_drew1) | exact HB.out)) hb); clear HO_5; clear HB; have HO_5 := n0_; have HB := n1_; clear n0_ n1_; (try clear hb); (try clear hb2); (try clear hk); (try clear hi))); try go_wp2_with (first | (go_at_call 6; (with_reducible refine (glossatorkeep3_watchExample.calls k1  t177 _ A55.out).mono ?_); rintro e w56 ⟨rfl, hb⟩; have n0_ := Aside0.mk (Kd.S_below (by (with_reducible repeat (first | apply Kd.S_alloc | apply Kd.S_drewN | apply Kd.S_drew)); exact HO_5.out) hb); have n1_ := Aside0.mk (below_step (by repeat (first | (with_reducible first | exact HB.out | apply below_alloc | apply pw_below_drewN | apply below_drew1) | exact HB.out)) hb); clear HO_5; clear HB; have HO_5 := n0_; have HB := n1_; clear n0_ n1_; (try clear hb); (try clear hb2); (try clear hk); (try clear hi))))
            go_ret
            exact ⟨by first | rfl | (simp [errW_none, errW_some] <;> rfl) | (simp [*, errW_none, errW_some] <;> rfl), by repeat (first | (with_reducible first | exact HB.out | apply below_alloc | apply pw_below_drewN | apply below_drew1) | exact HB.out)⟩
    · rw [if_neg c8] at H
      have c8b0 : (t165 == 0) = false := beq_eq_false_iff_ne.mpr c8
      have c8b1 : (t165 != 0) = true := bne_iff_ne.mpr c8
      obtain rfl := Option.some.inj H
      go_enter Try.func3, Try.ntmps3
      go_wp2_with (first | (go_at_call 6; (with_reducible refine (glossatorkeep3_watchExample.calls k  true _ A3.out).mono ?_); rintro e w57 ⟨rfl, hb⟩; have n0_ := Aside0.mk (below_step (by repeat (first | (with_reducible first | exact HB.out | apply below_alloc | apply pw_below_drewN | apply below_drew1) | exact HB.out)) hb); clear HB; have HB := n0_; clear n0_; (try clear hb); (try clear hb2); (try clear hk); (try clear hi)) | (go_at_call 7; (with_reducible refine (glossatorkeep3_timed.calls k _ _ l0 t160 _ ?side1 ?side2 A5.out).mono ?_); (case side1 => repeat (first | exact (Kd.C_below HR0.out HB.out) | (with_reducible refine Kd.C_alloc ?_ _) | (with_reducible refine Kd.C_drewN ?_ _) | (with_reducible refine Kd.C_drew ?_))); (case side2 => exact HC0.out); rintro e w58 ⟨v161, rfl, ho0, hb⟩; have n0_ := Aside0.mk (Kd.R_lower ho0 (below_size (by repeat (first | (with_reducible first | exact HB.out | apply below_alloc | apply pw_below_drewN | apply below_drew1) | exact HB.out)))); have n1_ := Aside0.mk (below_step (by repeat (first | (with_reducible first | exact HB.out | apply below_alloc | apply pw_below_drewN | apply below_drew1) | exact HB.out)) hb); clear HB; have HO162 := n0_; have HB := n1_; clear n0_ n1_; (try clear hb); (try clear hb2); (try clear hk); (try clear hi); (try clear ho0)) | (go_at_call 8; (with_reducible refine (glossatorref3_Mod.calls a1 60 t163 _ A6.out).mono ?_); rintro e w' ⟨rfl, ⟨nd, rfl⟩⟩; (try first | exact ⟨rfl, _, World.drewN_drewN _ _ _⟩ | exact ⟨rfl, _, Eq.trans (World.drewN_drewN _ _ _) (congrArg (World.drewN _) (Nat.add_assoc _ _ _))⟩); obtain ⟨Ao59, co59, eo59⟩ := Kd.R_slice HO162.out; subst eo59) | (go_at_call 9; (with_reducible refine (filewatch_Batches.calls k _ _ t160 t163 t164 t165 _ ?side1 ?side2 A7.out).mono ?_); (case side1 => repeat (first | exact (Kd.R_reads' HO162.out).2.2 | (with_reducible refine Kd.C_alloc ?_ _) | (with_reducible refine Kd.C_drewN ?_ _) | (with_reducible refine Kd.C_drew ?_))); (case side2 => exact (Kd.R_reads' HO162.out).2.1); rintro e w60 ⟨v166, rfl, ho0, hb⟩; have n0_ := Aside0.mk (Kd.R_below (by (with_reducible repeat (first | apply Kd.R_alloc | apply Kd.R_drewN | apply Kd.R_drew)); exact HO162.out) hb); have n1_ := Aside0.mk (Kd.S_lower (Kd.S_new' ho0 (Kd.R_lt (by (with_reducible repeat (first | apply Kd.R_alloc | apply Kd.R_drewN | apply Kd.R_drew)); exact HO162.out))) (below_size (by repeat (first | (with_reducible first | exact HB.out | apply below_alloc | apply pw_below_drewN | apply below_drew1) | exact HB.out)))); have n2_ := Aside0.mk (below_step (by repeat (first | (with_reducible first | exact HB.out | apply below_alloc | apply pw_below_drewN | apply below_drew1) | exact HB.out)) hb); clear HO162; clear HB; have HO162 := n0_; have HO167 := n1_; have HB := n2_; clear n0_ n1_ n2_; (try clear hb); (try clear hb2); (try clear hk); (try clear hi); (try clear ho0)))
      repeat (go_quiet (first | (go_at_call 6; (with_reducible refine (glossatorkeep3_watchExample.calls k  true _ A3.out).mono ?_); rintro e w57 ⟨rfl, hb⟩; have n0_ := Aside0.mk (below_step (by repeat (first | (with_reducible first | exact HB.out | apply below_alloc | apply pw_below_drewN | apply below_drew1) | exact HB.out)) hb); clear HB; have HB := n0_; clear n0_; (try clear hb); (try clear hb2); (try clear hk); (try clear hi)) | (go_at_call 7; (with_reducible refine (glossatorkeep3_timed.calls k _ _ l0 t160 _ ?side1 ?side2 A5.out).mono ?_); (case side1 => repeat (first | exact (Kd.C_below HR0.out HB.out) | (with_reducible refine Kd.C_alloc ?_ _) | (with_reducible refine Kd.C_drewN ?_ _) | (with_reducible refine Kd.C_drew ?_))); (case side2 => exact HC0.out); rintro e w58 ⟨v161, rfl, ho0, hb⟩; have n0_ := Aside0.mk (Kd.R_lower ho0 (below_size (by repeat (first | (with_reducible first | exact HB.out | apply below_alloc | apply pw_below_drewN | apply below_drew1) | exact HB.out)))); have n1_ := Aside0.mk (below_step (by repeat (first | (with_reducible first | exact HB.out | apply below_alloc | apply pw_below_drewN | apply below_drew1) | exact HB.out)) hb); clear HB; have HO162 := n0_; have HB := n1_; clear n0_ n1_; (try clear hb); (try clear hb2); (try clear hk); (try clear hi); (try clear ho0)) | (go_at_call 8; (with_reducible refine (glossatorref3_Mod.calls a1 60 t163 _ A6.out).mono ?_); rintro e w' ⟨rfl, ⟨nd, rfl⟩⟩; (try first | exact ⟨rfl, _, World.drewN_drewN _ _ _⟩ | exact ⟨rfl, _, Eq.trans (World.drewN_drewN _ _ _) (congrArg (World.drewN _) (Nat.add_assoc _ _ _))⟩); obtain ⟨Ao59, co59, eo59⟩ := Kd.R_slice HO162.out; subst eo59) | (go_at_call 9; (with_reducible refine (filewatch_Batches.calls k _ _ t160 t163 t164 t165 _ ?side1 ?side2 A7.out).mono ?_); (case side1 => repeat (first | exact (Kd.R_reads' HO162.out).2.2 | (with_reducible refine Kd.C_alloc ?_ _) | (with_reducible refine Kd.C_drewN ?_ _) | (with_reducible refine Kd.C_drew ?_))); (case side2 => exact (Kd.R_reads' HO162.out).2.1); rintro e w60 ⟨v166, rfl, ho0, hb⟩; have n0_ := Aside0.mk (Kd.R_below (by (with_reducible repeat (first | apply Kd.R_alloc | apply Kd.R_drewN | apply Kd.R_drew)); exact HO162.out) hb); have n1_ := Aside0.mk (Kd.S_lower (Kd.S_new' ho0 (Kd.R_lt (by (with_reducible repeat (first | apply Kd.R_alloc | apply Kd.R_drewN | apply Kd.R_drew)); exact HO162.out))) (below_size (by repeat (first | (with_reducible first | exact HB.out | apply below_alloc | apply pw_below_drewN | apply below_drew1) | exact HB.out)))); have n2_ := Aside0.mk (below_step (by repeat (first | (with_reducible first | exact HB.out | apply below_alloc | apply pw_below_drewN | apply below_drew1) | exact HB.out)) hb); clear HO162; clear HB; have HO162 := n0_; have HO167 := n1_; have HB := n2_; clear n0_ n1_ n2_; (try clear hb); (try clear hb2); (try clear hk); (try clear hi); (try clear ho0))); try go_wp2_with (first | (go_at_call 6; (with_reducible refine (glossatorkeep3_watchExample.calls k  true _ A3.out).mono ?_); rintro e w57 ⟨rfl, hb⟩; have n0_ := Aside0.mk (below_step (by repeat (first | (with_reducible first | exact HB.out | apply below_alloc | apply pw_below_drewN | apply below_drew1) | exact HB.out)) hb); clear HB; have HB := n0_; clear n0_; (try clear hb); (try clear hb2); (try clear hk); (try clear hi)) | (go_at_call 7; (with_reducible refine (glossatorkeep3_timed.calls k _ _ l0 t160 _ ?side1 ?side2 A5.out).mono ?_); (case side1 => repeat (first | exact (Kd.C_below HR0.out HB.out) | (with_reducible refine Kd.C_alloc ?_ _) | (with_reducible refine Kd.C_drewN ?_ _) | (with_reducible refine Kd.C_drew ?_))); (case side2 => exact HC0.out); rintro e w58 ⟨v161, rfl, ho0, hb⟩; have n0_ := Aside0.mk (Kd.R_lower ho0 (below_size (by repeat (first | (with_reducible first | exact HB.out | apply below_alloc | apply pw_below_drewN | apply below_drew1) | exact HB.out)))); have n1_ := Aside0.mk (below_step (by repeat (first | (with_reducible first | exact HB.out | apply below_alloc | apply pw_below_drewN | apply below_drew1) | exact HB.out)) hb); clear HB; have HO162 := n0_; have HB := n1_; clear n0_ n1_; (try clear hb); (try clear hb2); (try clear hk); (try clear hi); (try clear ho0)) | (go_at_call 8; (with_reducible refine (glossatorref3_Mod.calls a1 60 t163 _ A6.out).mono ?_); rintro e w' ⟨rfl, ⟨nd, rfl⟩⟩; (try first | exact ⟨rfl, _, World.drewN_drewN _ _ _⟩ | exact ⟨rfl, _, Eq.trans (World.drewN_drewN _ _ _) (congrArg (World.drewN _) (Nat.add_assoc _ _ _))⟩); obtain ⟨Ao59, co59, eo59⟩ := Kd.R_slice HO162.out; subst eo59) | (go_at_call 9; (with_reducible refine (filewatch_Batches.calls k _ _ t160 t163 t164 t165 _ ?side1 ?side2 A7.out).mono ?_); (case side1 => repeat (first | exact (Kd.R_reads' HO162.out).2.2 | (with_reducible refine Kd.C_alloc ?_ _) | (with_reducible refine Kd.C_drewN ?_ _) | (with_reducible refine Kd.C_drew ?_))); (case side2 => exact (Kd.R_reads' HO162.out).2.1); rintro e w60 ⟨v166, rfl, ho0, hb⟩; have n0_ := Aside0.mk (Kd.R_below (by (with_reducible repeat (first | apply Kd.R_alloc | apply Kd.R_drewN | apply Kd.R_drew)); exact HO162.out) hb); have n1_ := Aside0.mk (Kd.S_lower (Kd.S_new' ho0 (Kd.R_lt (by (with_reducible repeat (first | apply Kd.R_alloc | apply Kd.R_drewN | apply Kd.R_drew)); exact HO162.out))) (below_size (by repeat (first | (with_reducible first | exact HB.out | apply below_alloc | apply pw_below_drewN | apply below_drew1) | exact HB.out)))); have n2_ := Aside0.mk (below_step (by repeat (first | (with_reducible first | exact HB.out | apply below_alloc | apply pw_below_drewN | apply below_drew1) | exact HB.out)) hb); clear HO162; clear HB; have HO162 := n0_; have HO167 := n1_; have HB := n2_; clear n0_ n1_ n2_; (try clear hb); (try clear hb2); (try clear hk); (try clear hi); (try clear ho0))))
      go_ret
      exact ⟨by first | rfl | (simp [errW_none, errW_some] <;> rfl) | (simp [*, errW_none, errW_some] <;> rfl), by repeat (first | (with_reducible first | exact HB.out | apply below_alloc | apply pw_below_drewN | apply below_drew1) | exact HB.out)⟩
  · replace c4 := Bool.eq_false_iff.mpr c4
    subst c4
    have H1 : (some false) = some r := by rw [if_neg (show ¬ (false = true) by decide)] at H; exact H
    clear H
    have H := H1
    clear H1
    obtain rfl := Option.some.inj H
    go_enter Try.func3, Try.ntmps3
    go_wp2_with (first | (go_at_call 6; (with_reducible refine (glossatorkeep3_watchExample.calls k  false _ A3.out).mono ?_); rintro e w61 ⟨rfl, hb⟩; have n0_ := Aside0.mk (below_step (by repeat (first | (with_reducible first | exact HB.out | apply below_alloc | apply pw_below_drewN | apply below_drew1) | exact HB.out)) hb); clear HB; have HB := n0_; clear n0_; (try clear hb); (try clear hb2); (try clear hk); (try clear hi)))
    repeat (go_quiet (first | (go_at_call 6; (with_reducible refine (glossatorkeep3_watchExample.calls k  false _ A3.out).mono ?_); rintro e w61 ⟨rfl, hb⟩; have n0_ := Aside0.mk (below_step (by repeat (first | (with_reducible first | exact HB.out | apply below_alloc | apply pw_below_drewN | apply below_drew1) | exact HB.out)) hb); clear HB; have HB := n0_; clear n0_; (try clear hb); (try clear hb2); (try clear hk); (try clear hi))); try go_wp2_with (first | (go_at_call 6; (with_reducible refine (glossatorkeep3_watchExample.calls k  false _ A3.out).mono ?_); rintro e w61 ⟨rfl, hb⟩; have n0_ := Aside0.mk (below_step (by repeat (first | (with_reducible first | exact HB.out | apply below_alloc | apply pw_below_drewN | apply below_drew1) | exact HB.out)) hb); clear HB; have HB := n0_; clear n0_; (try clear hb); (try clear hb2); (try clear hk); (try clear hi))))
    go_ret
    exact ⟨by first | rfl | (simp [errW_none, errW_some] <;> rfl) | (simp [*, errW_none, errW_some] <;> rfl), by repeat (first | (with_reducible first | exact HB.out | apply below_alloc | apply pw_below_drewN | apply below_drew1) | exact HB.out)⟩

end Go.Proofs.Ytgigbllohagfmaa.Fb
