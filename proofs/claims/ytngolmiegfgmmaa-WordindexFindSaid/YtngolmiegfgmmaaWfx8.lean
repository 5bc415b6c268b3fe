import Derived.Test.YtngolmiegfgmmaaWfx0
import Derived.Test.YtngolmiegfgmmaaWfx2
import Derived.Test.YtngolmiegfgmmaaWfx3
import Derived.Test.YtngolmiegfgmmaaWfx6
import Derived.Test.YtngolmiegfgmmaaWfx7
import Derived.Test.YtngolmiegfgmmaaWfhBu
import Derived.Test.YtngolmiegfgmmaaWfhUp
import Derived.Test.YtngolmiegfgmmaaWfhWd
namespace Go.Proofs.Ytngolmiegfgmmaa.Wf
open Go.RowKit Go.Proofs.YtngolmiegfgmmaaW.PrintWords Go.Proofs.YtngolmiegfgmmaaW.PrintLast Go.Proofs.YtngolmiegfgmmaaW.PrintMore
attribute [local go_sem] max2_int min2_int max_two min_two max_three min_three max_four min_four   -- for this text's walks alone
set_option linter.unusedVariables false
set_option linter.unusedSimpArgs false

/-! ### glossatorkeep3_WordindexFind: function 4 -/
noncomputable def glossatorkeep3_WordindexFind.l0 : Nat → ByteArray → List (S35) → List (S43) → List (S43) → Int → List ByteArray → Int → Int → Option (Bool)
  | 0, _, _, _, _, _, _, _, _ => none
  | k + 1, x2, x9, x13, x15, x16, x17, x76, x77 => if x77 < x76 then (if 0 ≤ x77 then (if x77 < (x9.length : Int) then ((glossatorref3_Contains_string.f k x17 ((rd_T35 x9 x77).f0)).bind fun t171 => ((wordindex_Words.f ((rd_T35 x9 x77).f2)).bind fun t173 => ((glossatorref3_Contains_string.f k t173 x2).bind fun t176 => (if (t171 != t176) = true then (some false) else (glossatorkeep3_WordindexFind.l0 k x2 x9 x13 x15 x16 x17 x76 (wrap64 (x77 + 1))))))) else (none)) else (none)) else ((glossatorkeep3_indexExample.f k).bind fun t177 => (if t177 = true then (if x16 = 0 then ((glossatorref3_EqualIndexes.f k x13 x15).bind fun t178 => (some t178)) else (some false)) else (some false)))
noncomputable def glossatorkeep3_WordindexFind.f (k : Nat) (l0 : List ByteArray) (a1 : ByteArray) (a2 : ByteArray) (a3 : Int) : Option (Bool) := (glossatorkeep3_indexExample.f k).bind fun t146 => (if t146 = true then ((glossatorkeep3_named.f k l0).bind fun t147 => ((wordindex_Build.f t147).bind fun bt150 => (if bt150.2 = 0 then (if (t147.length : Int) = 0 then ((glossatorkeep3_indexExample.f k).bind fun t154 => (if t154 = true then (some (bt150.2 == 0)) else (some false))) else ((glossatorref3_Mod.f a3 (t147.length : Int)).bind fun t155 => (if 0 ≤ t155 then (if t155 < (t147.length : Int) then (if 0 ≤ (mn (a1.size : Int) 120) then (if (mn (a1.size : Int) 120) ≤ (a1.size : Int) then ((wordindex_Update.f bt150.1 ((rd_T35 t147 t155).f0) 0 (a1.extract 0 ((mn (a1.size : Int) 120) : Int).toNat)).bind fun bt158 => (if bt158.2 = 0 then ((some (t147.set (t155 : Int).toNat (⟨(rd_T35 t147 t155).f0, 0, a1.extract 0 ((mn (a1.size : Int) 120) : Int).toNat⟩ : S35) : List (S35))).bind fun y162 => ((wordindex_Build.f y162).bind fun bt163 => ((wordindex_Find.f k bt158.1 a2).bind fun t167 => (glossatorkeep3_WordindexFind.l0 k a2 y162 bt158.1 bt163.1 bt163.2 t167 (t147.length : Int) 0)))) else (some false))) else (none)) else (none)) else (none)) else (none)))) else ((glossatorkeep3_indexExample.f k).bind fun t179 => (if t179 = true then (some (bt150.2 == 0)) else (some false)))))) else (some false))
theorem glossatorkeep3_WordindexFind.mono_l : ∀ k, (∀ y0 y1 y2 y3 y4 y5 y6 y7, LeO (glossatorkeep3_WordindexFind.l0 k y0 y1 y2 y3 y4 y5 y6 y7) (glossatorkeep3_WordindexFind.l0 (k + 1) y0 y1 y2 y3 y4 y5 y6 y7))
  | 0 => fun _ _ _ _ _ _ _ _ r h => by simp [glossatorkeep3_WordindexFind.l0] at h
  | k + 1 => by
    have ih0 := glossatorkeep3_WordindexFind.mono_l k
    · intro y0 y1 y2 y3 y4 y5 y6 y7
      unfold glossatorkeep3_WordindexFind.l0
      repeat' first
      | (with_reducible exact ih0 _ _ _ _ _ _ _ _)
      | (with_reducible exact glossatorkeep3_indexExample.mono _)
      | (with_reducible exact glossatorkeep3_named.mono _ _)
      | (with_reducible exact glossatorref3_Contains_string.mono _ _ _)
      | (with_reducible exact glossatorref3_EqualIndexes.mono _ _ _)
      | (with_reducible exact wordindex_Find.mono _ _ _)
      | (with_reducible exact LeO.refl _)
      | (with_reducible exact LeO.none _)
      | (with_reducible refine LeO.ite ?_ ?_)
      | (with_reducible refine LeO.bind ?_ (fun _ => ?_))
      | exact ih0 _ _ _ _ _ _ _ _
      | exact glossatorkeep3_indexExample.mono _
      | exact glossatorkeep3_named.mono _ _
      | exact glossatorref3_Contains_string.mono _ _ _
      | exact glossatorref3_EqualIndexes.mono _ _ _
      | exact wordindex_Find.mono _ _ _
      | exact LeO.none _
      | refine LeO.ite ?_ ?_
      | refine LeO.bind ?_ (fun _ => ?_)
theorem glossatorkeep3_WordindexFind.mono : ∀ a0 a1 a2 a3 k, LeO (glossatorkeep3_WordindexFind.f k a0 a1 a2 a3) (glossatorkeep3_WordindexFind.f (k + 1) a0 a1 a2 a3) := by
  intro a0 a1 a2 a3 k
  have ih0 := glossatorkeep3_WordindexFind.mono_l k
  unfold glossatorkeep3_WordindexFind.f
  repeat' first
      | (with_reducible exact ih0 _ _ _ _ _ _ _ _)
      | (with_reducible exact glossatorkeep3_indexExample.mono _)
      | (with_reducible exact glossatorkeep3_named.mono _ _)
      | (with_reducible exact glossatorref3_Contains_string.mono _ _ _)
      | (with_reducible exact glossatorref3_EqualIndexes.mono _ _ _)
      | (with_reducible exact wordindex_Find.mono _ _ _)
      | (with_reducible exact LeO.refl _)
      | (with_reducible exact LeO.none _)
      | (with_reducible refine LeO.ite ?_ ?_)
      | (with_reducible refine LeO.bind ?_ (fun _ => ?_))
      | exact ih0 _ _ _ _ _ _ _ _
      | exact glossatorkeep3_indexExample.mono _
      | exact glossatorkeep3_named.mono _ _
      | exact glossatorref3_Contains_string.mono _ _ _
      | exact glossatorref3_EqualIndexes.mono _ _ _
      | exact wordindex_Find.mono _ _ _
      | exact LeO.none _
      | refine LeO.ite ?_ ?_
      | refine LeO.bind ?_ (fun _ => ?_)
def glossatorkeep3_WordindexFind.T8 : Bool × List (List Nat × List Nat) := (true, [([], []), ([], []), ([0, 1], [0, 1]), ([2], [2]), ([3], [3]), ([], []), ([], []), ([6], [6]), ([7], [7]), ([5, 8], [5, 8]), ([4, 9], [4, 9]), ([], []), ([11, 10, 0, 1, 2, 3, 4, 5, 6, 7, 8, 9, 10, 11], [10, 11])])
def glossatorkeep3_WordindexFind.B8 : List Nat := [0, 0, 3, 7, 15, 0, 0, 64, 192, 480, 1023, 0, 4095]
theorem glossatorkeep3_WordindexFind.tab8 : rtab .any (opsOf Try.f4 8) = glossatorkeep3_WordindexFind.T8 := by kernel_rfl
theorem glossatorkeep3_WordindexFind.bits8 : waitsOk glossatorkeep3_WordindexFind.T8.2 glossatorkeep3_WordindexFind.B8 = true := by kernel_rfl
def glossatorkeep3_WordindexFind.T18 : Bool × List (List Nat × List Nat) := (true, [([], []), ([], []), ([], []), ([1, 2], [1, 2]), ([3], [3]), ([4], [4]), ([0, 5], [0, 5]), ([], []), ([], []), ([7, 8], [7, 8]), ([9], [9]), ([10], [10]), ([11, 6], [11]), ([], []), ([12, 13, 12], [12, 13]), ([6, 14], [6, 14])])
def glossatorkeep3_WordindexFind.B18 : List Nat := [0, 0, 0, 6, 14, 30, 63, 0, 0, 384, 896, 1920, 4095, 0, 16383, 32767]
theorem glossatorkeep3_WordindexFind.tab18 : rtab .any (opsOf Try.f4 18) = glossatorkeep3_WordindexFind.T18 := by kernel_rfl
theorem glossatorkeep3_WordindexFind.bits18 : waitsOk glossatorkeep3_WordindexFind.T18.2 glossatorkeep3_WordindexFind.B18 = true := by kernel_rfl
set_option maxHeartbeats 8000000 in
set_option maxRecDepth 100000 in
theorem glossatorkeep3_WordindexFind.calls (k : Nat) (A0 : Option Addr) (c0 : Nat) (l0 : List ByteArray) (a1 : ByteArray) (a2 : ByteArray) (a3 : Int) (r : Bool) (w : World) (hr0 : Kd.C Kd.string w A0 l0.length l0) (hc0 : l0.length ≤ c0) (h : glossatorkeep3_WordindexFind.f k l0 a1 a2 a3 = some r) :
    Calls Try.prog 4 #[.slice A0 l0.length c0, .string a1, .string a2, .int .i64 a3] w fun e w' => e = .returned (.bool r) ∧ Below w.heap.size w w' := by
  have hu35 := Try.underlying35
  have HR0 := Aside0.mk hr0
  have HC0 := Aside0.mk hc0
  clear hr0 hc0
  have HB := Aside0.mk (Below.refl w.heap.size w)
  have H : ((glossatorkeep3_indexExample.f k).bind fun t146 => (if t146 = true then ((glossatorkeep3_named.f k l0).bind fun t147 => ((wordindex_Build.f t147).bind fun bt150 => (if bt150.2 = 0 then (if (t147.length : Int) = 0 then ((glossatorkeep3_indexExample.f k).bind fun t154 => (if t154 = true then (some (bt150.2 == 0)) else (some false))) else ((glossatorref3_Mod.f a3 (t147.length : Int)).bind fun t155 => (if 0 ≤ t155 then (if t155 < (t147.length : Int) then (if 0 ≤ (mn (a1.size : Int) 120) then (if (mn (a1.size : Int) 120) ≤ (a1.size : Int) then ((wordindex_Update.f bt150.1 ((rd_T35 t147 t155).f0) 0 (a1.extract 0 ((mn (a1.size : Int) 120) : Int).toNat)).bind fun bt158 => (if bt158.2 = 0 then ((some (t147.set (t155 : Int).toNat (⟨(rd_T35 t147 t155).f0, 0, a1.extract 0 ((mn (a1.size : Int) 120) : Int).toNat⟩ : S35) : List (S35))).bind fun y162 => ((wordindex_Build.f y162).bind fun bt163 => ((wordindex_Find.f k bt158.1 a2).bind fun t167 => (glossatorkeep3_WordindexFind.l0 k a2 y162 bt158.1 bt163.1 bt163.2 t167 (t147.length : Int) 0)))) else (some false))) else (none)) else (none)) else (none)) else (none)))) else ((glossatorkeep3_indexExample.f k).bind fun t179 => (if t179 = true then (some (bt150.2 == 0)) else (some false)))))) else (some false))) = some r := h
  clear h
  replace H := Option.bind_eq_some_iff.mp H
  obtain ⟨t146, A50, H⟩ := H
  replace H : (if t146 = true then ((glossatorkeep3_named.f k l0).bind fun t147 => ((wordindex_Build.f t147).bind fun bt150 => (if bt150.2 = 0 then (if (t147.length : Int) = 0 then ((glossatorkeep3_indexExample.f k).bind fun t154 => (if t154 = true then (some (bt150.2 == 0)) else (some false))) else ((glossatorref3_Mod.f a3 (t147.length : Int)).bind fun t155 => (if 0 ≤ t155 then (if t155 < (t147.length : Int) then (if 0 ≤ (mn (a1.size : Int) 120) then (if (mn (a1.size : Int) 120) ≤ (a1.size : Int) then ((wordindex_Update.f bt150.1 ((rd_T35 t147 t155).f0) 0 (a1.extract 0 ((mn (a1.size : Int) 120) : Int).toNat)).bind fun bt158 => (if bt158.2 = 0 then ((some (t147.set (t155 : Int).toNat (⟨(rd_T35 t147 t155).f0, 0, a1.extract 0 ((mn (a1.size : Int) 120) : Int).toNat⟩ : S35) : List (S35))).bind fun y162 => ((wordindex_Build.f y162).bind fun bt163 => ((wordindex_Find.f k bt158.1 a2).bind fun t167 => (glossatorkeep3_WordindexFind.l0 k a2 y162 bt158.1 bt163.1 bt163.2 t167 (t147.length : Int) 0)))) else (some false))) else (none)) else (none)) else (none)) else (none)))) else ((glossatorkeep3_indexExample.f k).bind fun t179 => (if t179 = true then (some (bt150.2 == 0)) else (some false)))))) else (some false)) = some r := H
  have A5 := Aside0.mk A50
  clear A50
  by_cases c6 : t146 = true
  · subst c6
    have H1 : ((glossatorkeep3_named.f k l0).bind fun t147 => ((wordindex_Build.f t147).bind fun bt150 => (if bt150.2 = 0 then (if (t147.length : Int) = 0 then ((glossatorkeep3_indexExample.f k).bind fun t154 => (if t154 = true then (some (bt150.2 == 0)) else (some false))) else ((glossatorref3_Mod.f a3 (t147.length : Int)).bind fun t155 => (if 0 ≤ t155 then (if t155 < (t147.length : Int) then (if 0 ≤ (mn (a1.size : Int) 120) then (if (mn (a1.size : Int) 120) ≤ (a1.size : Int) then ((wordindex_Update.f bt150.1 ((rd_T35 t147 t155).f0) 0 (a1.extract 0 ((mn (a1.size : Int) 120) : Int).toNat)).bind fun bt158 => (if bt158.2 = 0 then ((some (t147.set (t155 : Int).toNat (⟨(rd_T35 t147 t155).f0, 0, a1.extract 0 ((mn (a1.size : Int) 120) : Int).toNat⟩ : S35) : List (S35))).bind fun y162 => ((wordindex_Build.f y162).bind fun bt163 => ((wordindex_Find.f k bt158.1 a2).bind fun t167 => (glossatorkeep3_WordindexFind.l0 k a2 y162 bt158.1 bt163.1 bt163.2 t167 (t147.length : Int) 0)))) else (some false))) else (none)) else (none)) else (none)) else (none)))) else ((glossatorkeep3_indexExample.f k).bind fun t179 => (if t179 = true then (some (bt150.2 == 0)) else (some false)))))) = some r := by rw [if_pos rfl] at H; exact H
    clear H
    have H := H1
    clear H1
    replace H := Option.bind_eq_some_iff.mp H
    obtain ⟨t147, A70, H⟩ := H
    replace H : ((wordindex_Build.f t147).bind fun bt150 => (if bt150.2 = 0 then (if (t147.length : Int) = 0 then ((glossatorkeep3_indexExample.f k).bind fun t154 => (if t154 = true then (some (bt150.2 == 0)) else (some false))) else ((glossatorref3_Mod.f a3 (t147.length : Int)).bind fun t155 => (if 0 ≤ t155 then (if t155 < (t147.length : Int) then (if 0 ≤ (mn (a1.size : Int) 120) then (if (mn (a1.size : Int) 120) ≤ (a1.size : Int) then ((wordindex_Update.f bt150.1 ((rd_T35 t147 t155).f0) 0 (a1.extract 0 ((mn (a1.size : Int) 120) : Int).toNat)).bind fun bt158 => (if bt158.2 = 0 then ((some (t147.set (t155 : Int).toNat (⟨(rd_T35 t147 t155).f0, 0, a1.extract 0 ((mn (a1.size : Int) 120) : Int).toNat⟩ : S35) : List (S35))).bind fun y162 => ((wordindex_Build.f y162).bind fun bt163 => ((wordindex_Find.f k bt158.1 a2).bind fun t167 => (glossatorkeep3_WordindexFind.l0 k a2 y162 bt158.1 bt163.1 bt163.2 t167 (t147.length : Int) 0)))) else (some false))) else (none)) else (none)) else (none)) else (none)))) else ((glossatorkeep3_indexExample.f k).bind fun t179 => (if t179 = true then (some (bt150.2 == 0)) else (some false))))) = some r := H
    have A7 := Aside0.mk A70
    clear A70
    replace H := Option.bind_eq_some_iff.mp H
    obtain ⟨⟨t150, t151⟩, A80, H⟩ := H
    replace H : (if t151 = 0 then (if (t147.length : Int) = 0 then ((glossatorkeep3_indexExample.f k).bind fun t154 => (if t154 = true then (some (t151 == 0)) else (some false))) else ((glossatorref3_Mod.f a3 (t147.length : Int)).bind fun t155 => (if 0 ≤ t155 then (if t155 < (t147.length : Int) then (if 0 ≤ (mn (a1.size : Int) 120) then (if (mn (a1.size : Int) 120) ≤ (a1.size : Int) then ((wordindex_Update.f t150 ((rd_T35 t147 t155).f0) 0 (a1.extract 0 ((mn (a1.size : Int) 120) : Int).toNat)).bind fun bt158 => (if bt158.2 = 0 then ((some (t147.set (t155 : Int).toNat (⟨(rd_T35 t147 t155).f0, 0, a1.extract 0 ((mn (a1.size : Int) 120) : Int).toNat⟩ : S35) : List (S35))).bind fun y162 => ((wordindex_Build.f y162).bind fun bt163 => ((wordindex_Find.f k bt158.1 a2).bind fun t167 => (glossatorkeep3_WordindexFind.l0 k a2 y162 bt158.1 bt163.1 bt163.2 t167 (t147.length : Int) 0)))) else (some false))) else (none)) else (none)) else (none)) else (none)))) else ((glossatorkeep3_indexExample.f k).bind fun t179 => (if t179 = true then (some (t151 == 0)) else (some false)))) = some r := H
    have A8 := Aside0.mk A80
    clear A80
    by_cases c9 : t151 = 0
    · rw [if_pos c9] at H
      have c9b0 : (t151 == 0) = true := beq_iff_eq.mpr c9
      have c9b1 : (t151 != 0) = false := bne_eq_false_iff_eq.mpr c9
      clear c9
      by_cases c10 : (t147.length : Int) = 0
      · rw [if_pos c10] at H
        have c10b0 : ((t147.length : Int) == 0) = true := beq_iff_eq.mpr c10
        have c10b1 : ((t147.length : Int) != 0) = false := bne_eq_false_iff_eq.mpr c10
        clear c10
        replace H := Option.bind_eq_some_iff.mp H
        obtain ⟨t154, A110, H⟩ := H
        replace H : (if t154 = true then (some (t151 == 0)) else (some false)) = some r := H
        have A11 := Aside0.mk A110
        clear A110
        by_cases c12 : t154 = true
        · subst c12
          have H1 : (some (t151 == 0)) = some r := by rw [if_pos rfl] at H; exact H
          clear H
          have H := H1
          clear H1
          obtain rfl := Option.some.inj H
          go_enter Try.func4, Try.ntmps4
          go_wp2_with (first | ((with_reducible refine gate_callee (f := 5) rfl ?_); refine goesL_ (some 19) rfl rfl Try.func5 (by kernel_rfl) rfl #[] rfl (by (try simp only [List.map_toArray, List.map_cons, List.map_nil]); first | done | rfl | (simp only [List.length_drop, List.length_take]; rfl)) ?_; (with_reducible refine (glossatorkeep3_indexExample.calls k  true _ A5.out).mono ?_); rintro e w13 ⟨rfl, hb⟩; refine ⟨_, rfl, ?_⟩; have n0_ := Aside0.mk (below_step (by repeat (first | (with_reducible first | exact HB.out | apply below_alloc | apply pw_below_drewN | apply below_drew1) | exact HB.out)) hb); clear HB; have HB := n0_; clear n0_; (try clear hb); (try clear hb2); (try clear hk); (try clear hi)) | ((with_reducible refine gate_callee (f := 8) rfl ?_); refine goesL_ (some 22) rfl rfl Try.func8 (by kernel_rfl) rfl #[.slice A0 l0.length c0] rfl (by (try simp only [List.map_toArray, List.map_cons, List.map_nil]); first | done | rfl | (simp only [List.length_drop, List.length_take]; rfl)) ?_; (with_reducible refine (glossatorkeep3_named.calls k _ _ l0 t147 _ ?side1 ?side2 A7.out).mono ?_); (case side1 => repeat (first | exact (Kd.C_below HR0.out HB.out) | (with_reducible refine Kd.C_alloc ?_ _) | (with_reducible refine Kd.C_drewN ?_ _) | (with_reducible refine Kd.C_drew ?_))); (case side2 => exact HC0.out); rintro e w14 ⟨v148, rfl, ho0, hb⟩; refine ⟨_, rfl, ?_⟩; have n0_ := Aside0.mk (Kd.R_lower ho0 (below_size (by repeat (first | (with_reducible first | exact HB.out | apply below_alloc | apply pw_below_drewN | apply below_drew1) | exact HB.out)))); have n1_ := Aside0.mk (below_step (by repeat (first | (with_reducible first | exact HB.out | apply below_alloc | apply pw_below_drewN | apply below_drew1) | exact HB.out)) hb); clear HB; have HO149 := n0_; have HB := n1_; clear n0_ n1_; (try clear hb); (try clear hb2); (try clear hk); (try clear hi); (try clear ho0); obtain ⟨Ao15, co15, eo15⟩ := Kd.R_slice HO149.out; subst eo15) | ((with_reducible refine gate_callee (f := 9) rfl ?_); refine goesL_ (some 25) rfl rfl Try.func9 (by kernel_rfl) rfl #[.slice Ao15 t147.length co15] rfl (by (try simp only [List.map_toArray, List.map_cons, List.map_nil]); first | done | rfl | (simp only [List.length_drop, List.length_take]; rfl)) ?_; (with_reducible refine (wordindex_Build.calls _ _ t147 t150 t151 _ ?side1 ?side2 A8.out).mono ?_); (case side1 => repeat (first | exact (Kd.R_reads' HO149.out).2.2 | (with_reducible refine Kd.C_alloc ?_ _) | (with_reducible refine Kd.C_drewN ?_ _) | (with_reducible refine Kd.C_drew ?_))); (case side2 => exact (Kd.R_reads' HO149.out).2.1); rintro e w16 ⟨v152, rfl, ho0, hb⟩; refine ⟨_, rfl, ?_⟩; have n0_ := Aside0.mk (Kd.R_below (by (with_reducible repeat (first | apply Kd.R_alloc | apply Kd.R_drewN | apply Kd.R_drew)); exact HO149.out) hb); have n1_ := Aside0.mk (Kd.S_lower ho0 (below_size (by repeat (first | (with_reducible first | exact HB.out | apply below_alloc | apply pw_below_drewN | apply below_drew1) | exact HB.out)))); have n2_ := Aside0.mk (below_step (by repeat (first | (with_reducible first | exact HB.out | apply below_alloc | apply pw_below_drewN | apply below_drew1) | exact HB.out)) hb); clear HO149; clear HB; have HO149 := n0_; have HO153 := n1_; have HB := n2_; clear n0_ n1_ n2_; (try clear hb); (try clear hb2); (try clear hk); (try clear hi); (try clear ho0)) | ((with_reducible refine gate_callee (f := 5) rfl ?_); refine goesL_ (some 35) rfl rfl Try.func5 (by kernel_rfl) rfl #[] rfl (by (try simp only [List.map_toArray, List.map_cons, List.map_nil]); first | done | rfl | (simp only [List.length_drop, List.length_take]; rfl)) ?_; (with_reducible refine (glossatorkeep3_indexExample.calls k  true _ A11.out).mono ?_); rintro e w17 ⟨rfl, hb⟩; refine ⟨_, rfl, ?_⟩; have n0_ := Aside0.mk (Kd.R_below (by (with_reducible repeat (first | apply Kd.R_alloc | apply Kd.R_drewN | apply Kd.R_drew)); exact HO149.out) hb); have n1_ := Aside0.mk (Kd.S_below (by (with_reducible repeat (first | apply Kd.S_alloc | apply Kd.S_drewN | apply Kd.S_drew)); exact HO153.out) hb); have n2_ := Aside0.mk (below_step (by repeat (first | (with_reducible first | exact HB.out | apply below_alloc | apply pw_below_drewN | apply below_drew1) | exact HB.out)) hb); clear HO149; clear HO153; clear HB; have HO149 := n0_; have HO153 := n1_; have HB := n2_; clear n0_ n1_ n2_; (try clear hb); (try clear hb2); (try clear hk); (try clear hi)))
          go_ret
          exact ⟨by first | rfl | (simp [errW_none, errW_some] <;> rfl) | (simp [*, errW_none, errW_some] <;> rfl), by repeat (first | (with_reducible first | exact HB.out | apply below_alloc | apply pw_below_drewN | apply below_drew1) | exact HB.out)⟩
        · replace c12 := Bool.eq_false_iff.mpr c12
          subst c12
          have H1 : (some false) = some r := by rw [if_neg (show ¬ (false = true) by decide)] at H; exact H
          clear H
          have H := H1
          clear H1
          obtain rfl := Option.some.inj H
          go_enter Try.func4, Try.ntmps4
          go_wp2_with (first | ((with_reducible refine gate_callee (f := 5) rfl ?_); refine goesL_ (some 19) rfl rfl Try.func5 (by kernel_rfl) rfl #[] rfl (by (try simp only [List.map_toArray, List.map_cons, List.map_nil]); first | done | rfl | (simp only [List.length_drop, List.length_take]; rfl)) ?_; (with_reducible refine (glossatorkeep3_indexExample.calls k  true _ A5.out).mono ?_); rintro e w18 ⟨rfl, hb⟩; refine ⟨_, rfl, ?_⟩; have n0_ := Aside0.mk (below_step (by repeat (first | (with_reducible first | exact HB.out | apply below_alloc | apply pw_below_drewN | apply below_drew1) | exact HB.out)) hb); clear HB; have HB := n0_; clear n0_; (try clear hb); (try clear hb2); (try clear hk); (try clear hi)) | ((with_reducible refine gate_callee (f := 8) rfl ?_); refine goesL_ (some 22) rfl rfl Try.func8 (by kernel_rfl) rfl #[.slice A0 l0.length c0] rfl (by (try simp only [List.map_toArray, List.map_cons, List.map_nil]); first | done | rfl | (simp only [List.length_drop, List.length_take]; rfl)) ?_; (with_reducible refine (glossatorkeep3_named.calls k _ _ l0 t147 _ ?side1 ?side2 A7.out).mono ?_); (case side1 => repeat (first | exact (Kd.C_below HR0.out HB.out) | (with_reducible refine Kd.C_alloc ?_ _) | (with_reducible refine Kd.C_drewN ?_ _) | (with_reducible refine Kd.C_drew ?_))); (case side2 => exact HC0.out); rintro e w19 ⟨v148, rfl, ho0, hb⟩; refine ⟨_, rfl, ?_⟩; have n0_ := Aside0.mk (Kd.R_lower ho0 (below_size (by repeat (first | (with_reducible first | exact HB.out | apply below_alloc | apply pw_below_drewN | apply below_drew1) | exact HB.out)))); have n1_ := Aside0.mk (below_step (by repeat (first | (with_reducible first | exact HB.out | apply below_alloc | apply pw_below_drewN | apply below_drew1) | exact HB.out)) hb); clear HB; have HO149 := n0_; have HB := n1_; clear n0_ n1_; (try clear hb); (try clear hb2); (try clear hk); (try clear hi); (try clear ho0); obtain ⟨Ao20, co20, eo20⟩ := Kd.R_slice HO149.out; subst eo20) | ((with_reducible refine gate_callee (f := 9) rfl ?_); refine goesL_ (some 25) rfl rfl Try.func9 (by kernel_rfl) rfl #[.slice Ao20 t147.length co20] rfl (by (try simp only [List.map_toArray, List.map_cons, List.map_nil]); first | done | rfl | (simp only [List.length_drop, List.length_take]; rfl)) ?_; (with_reducible refine (wordindex_Build.calls _ _ t147 t150 t151 _ ?side1 ?side2 A8.out).mono ?_); (case side1 => repeat (first | exact (Kd.R_reads' HO149.out).2.2 | (with_reducible refine Kd.C_alloc ?_ _) | (with_reducible refine Kd.C_drewN ?_ _) | (with_reducible refine Kd.C_drew ?_))); (case side2 => exact (Kd.R_reads' HO149.out).2.1); rintro e w21 ⟨v152, rfl, ho0, hb⟩; refine ⟨_, rfl, ?_⟩; have n0_ := Aside0.mk (Kd.R_below (by (with_reducible repeat (first | apply Kd.R_alloc | apply Kd.R_drewN | apply Kd.R_drew)); exact HO149.out) hb); have n1_ := Aside0.mk (Kd.S_lower ho0 (below_size (by repeat (first | (with_reducible first | exact HB.out | apply below_alloc | apply pw_below_drewN | apply below_drew1) | exact HB.out)))); have n2_ := Aside0.mk (below_step (by repeat (first | (with_reducible first | exact HB.out | apply below_alloc | apply pw_below_drewN | apply below_drew1) | exact HB.out)) hb); clear HO149; clear HB; have HO149 := n0_; have HO153 := n1_; have HB := n2_; clear n0_ n1_ n2_; (try clear hb); (try clear hb2); (try clear hk); (try clear hi); (try clear ho0)) | ((with_reducible refine gate_callee (f := 5) rfl ?_); refine goesL_ (some 35) rfl rfl Try.func5 (by kernel_rfl) rfl #[] rfl (by (try simp only [List.map_toArray, List.map_cons, List.map_nil]); first | done | rfl | (simp only [List.length_drop, List.length_take]; rfl)) ?_; (with_reducible refine (glossatorkeep3_indexExample.calls k  false _ A11.out).mono ?_); rintro e w22 ⟨rfl, hb⟩; refine ⟨_, rfl, ?_⟩; have n0_ := Aside0.mk (Kd.R_below (by (with_reducible repeat (first | apply Kd.R_alloc | apply Kd.R_drewN | apply Kd.R_drew)); exact HO149.out) hb); have n1_ := Aside0.mk (Kd.S_below (by (with_reducible repeat (first | apply Kd.S_alloc | apply Kd.S_drewN | apply Kd.S_drew)); exact HO153.out) hb); have n2_ := Aside0.mk (below_step (by repeat (first | (with_reducible first | exact HB.out | apply below_alloc | apply pw_below_drewN | apply below_drew1) | exact HB.out)) hb); clear HO149; clear HO153; clear HB; have HO149 := n0_; have HO153 := n1_; have HB := n2_; clear n0_ n1_ n2_; (try clear hb); (try clear hb2); (try clear hk); (try clear hi)))
          go_ret
          exact ⟨by first | rfl | (simp [errW_none, errW_some] <;> rfl) | (simp [*, errW_none, errW_some] <;> rfl), by repeat (first | (with_reducible first | exact HB.out | apply below_alloc | apply pw_below_drewN | apply below_drew1) | exact HB.out)⟩
      · rw [if_neg c10] at H
        have c10b0 : ((t147.length : Int) == 0) = false := beq_eq_false_iff_ne.mpr c10
        have c10b1 : ((t147.length : Int) != 0) = true := bne_iff_ne.mpr c10
        have c10b2 : ¬ (t147 = []) := fun h_ => c10 (by rw [h_]; rfl)
        replace H := Option.bind_eq_some_iff.mp H
        obtain ⟨t155, A230, H⟩ := H
        replace H : (if 0 ≤ t155 then (if t155 < (t147.length : Int) then (if 0 ≤ (mn (a1.size : Int) 120) then (if (mn (a1.size : Int) 120) ≤ (a1.size : Int) then ((wordindex_Update.f t150 ((rd_T35 t147 t155).f0) 0 (a1.extract 0 ((mn (a1.size : Int) 120) : Int).toNat)).bind fun bt158 => (if bt158.2 = 0 then ((some (t147.set (t155 : Int).toNat (⟨(rd_T35 t147 t155).f0, 0, a1.extract 0 ((mn (a1.size : Int) 120) : Int).toNat⟩ : S35) : List (S35))).bind fun y162 => ((wordindex_Build.f y162).bind fun bt163 => ((wordindex_Find.f k bt158.1 a2).bind fun t167 => (glossatorkeep3_WordindexFind.l0 k a2 y162 bt158.1 bt163.1 bt163.2 t167 (t147.length : Int) 0)))) else (some false))) else (none)) else (none)) else (none)) else (none)) = some r := H
        have A23 := Aside0.mk A230
        clear A230
        by_cases c24 : 0 ≤ t155
        · rw [if_pos c24] at H
          have c24b0 : decide (0 ≤ t155) = true := decide_eq_true c24
          clear c24
          by_cases c25 : t155 < (t147.length : Int)
          · rw [if_pos c25] at H
            have c25b0 : decide (t155 < (t147.length : Int)) = true := decide_eq_true c25
            clear c25
            obtain ⟨ji26, hji26⟩ : ∃ j_ : Int, (mn (a1.size : Int) 120) = j_ := ⟨_, rfl⟩
            replace H : (if 0 ≤ (ji26) then (if (ji26) ≤ (a1.size : Int) then ((wordindex_Update.f t150 ((rd_T35 t147 t155).f0) 0 (a1.extract 0 ((ji26) : Int).toNat)).bind fun bt158 => (if bt158.2 = 0 then ((some (t147.set (t155 : Int).toNat (⟨(rd_T35 t147 t155).f0, 0, a1.extract 0 ((ji26) : Int).toNat⟩ : S35) : List (S35))).bind fun y162 => ((wordindex_Build.f y162).bind fun bt163 => ((wordindex_Find.f k bt158.1 a2).bind fun t167 => (glossatorkeep3_WordindexFind.l0 k a2 y162 bt158.1 bt163.1 bt163.2 t167 (t147.length : Int) 0)))) else (some false))) else (none)) else (none)) = some r := by first | (rw [hji26] at H; exact H) | (simp only [hji26] at H ⊢; exact H)
            (try rw [hji26] at A5)
            (try rw [hji26] at A7)
            (try rw [hji26] at A8)
            (try rw [hji26] at A23)
            (try (have hji26h : ji26 ≤ 120 := by (rw [← hji26]; unfold mn; (repeat' split) <;> omega)))
            (try (have hji26g : ji26 ≤ 64 := by omega))
            (try (have hji26l : 0 ≤ ji26 := by (rw [← hji26]; unfold mn; (repeat' split) <;> omega)))
            (try (have hji26m : 0 ≤ ji26 := by omega))
            have hji26_ : (if 120 < (a1.size : Int) then 120 else (a1.size : Int)) = ji26 := hji26
            by_cases c27 : 0 ≤ (ji26)
            · rw [if_pos c27] at H
              have c27b0 := eq_true c27
              have c27b1 : decide (0 ≤ (ji26)) = true := decide_eq_true c27
              clear c27
              by_cases c28 : (ji26) ≤ (a1.size : Int)
              · rw [if_pos c28] at H
                have c28b0 := eq_true c28
                have c28b1 : decide ((ji26) ≤ (a1.size : Int)) = true := decide_eq_true c28
                clear c28
                replace H := Option.bind_eq_some_iff.mp H
                obtain ⟨⟨t158, t161⟩, A290, H⟩ := H
                replace H : (if t161 = 0 then ((some (t147.set (t155 : Int).toNat (⟨(rd_T35 t147 t155).f0, 0, a1.extract 0 ((ji26) : Int).toNat⟩ : S35) : List (S35))).bind fun y162 => ((wordindex_Build.f y162).bind fun bt163 => ((wordindex_Find.f k t158 a2).bind fun t167 => (glossatorkeep3_WordindexFind.l0 k a2 y162 t158 bt163.1 bt163.2 t167 (t147.length : Int) 0)))) else (some false)) = some r := H
                have A29 := Aside0.mk A290
                clear A290
                by_cases c30 : t161 = 0
                · rw [if_pos c30] at H
                  have c30b0 : (t161 == 0) = true := beq_iff_eq.mpr c30
                  have c30b1 : (t161 != 0) = false := bne_eq_false_iff_eq.mpr c30
                  clear c30
                  obtain ⟨y162, hy162⟩ : ∃ y_ : List (S35), y_ = (t147.set (t155 : Int).toNat (⟨(rd_T35 t147 t155).f0, 0, a1.extract 0 ((ji26) : Int).toNat⟩ : S35)) := ⟨_, rfl⟩
                  replace H : ((wordindex_Build.f y162).bind fun bt163 => ((wordindex_Find.f k t158 a2).bind fun t167 => (glossatorkeep3_WordindexFind.l0 k a2 y162 t158 bt163.1 bt163.2 t167 (t147.length : Int) 0))) = some r := by first | (rw [hy162]; with_reducible exact H) | (have H2_ := (Option.bind_some _ _).symm.trans H; rw [hy162]; with_reducible exact H2_) | (have H2_ := (Option.bind_some _ _).symm.trans H; with_reducible exact H2_) | with_reducible exact H | (rw [hy162]; exact H) | exact H
                  have Ny162 := Aside0.mk hy162
                  clear hy162
                  replace H := Option.bind_eq_some_iff.mp H
                  obtain ⟨⟨t163, t164⟩, A320, H⟩ := H
                  replace H : ((wordindex_Find.f k t158 a2).bind fun t167 => (glossatorkeep3_WordindexFind.l0 k a2 y162 t158 t163 t164 t167 (t147.length : Int) 0)) = some r := H
                  have A32 := Aside0.mk A320
                  clear A320
                  replace H := Option.bind_eq_some_iff.mp H
                  obtain ⟨t167, A330, H⟩ := H
                  replace H : (glossatorkeep3_WordindexFind.l0 k a2 y162 t158 t163 t164 t167 (t147.length : Int) 0) = some r := H
                  have A33 := Aside0.mk A330
                  clear A330
                  have H' := Aside0.mk H
                  clear H
                  go_enter Try.func4, Try.ntmps4
                  try go_wp2_with (first | ((with_reducible refine gate_callee (f := 5) rfl ?_); refine goesL_ (some 19) rfl rfl Try.func5 (by kernel_rfl) rfl #[] rfl (by (try simp only [List.map_toArray, List.map_cons, List.map_nil]); first | done | rfl | (simp only [List.length_drop, List.length_take]; rfl)) ?_; (with_reducible refine (glossatorkeep3_indexExample.calls k  true _ A5.out).mono ?_); rintro e w34 ⟨rfl, hb⟩; refine ⟨_, rfl, ?_⟩; have n0_ := Aside0.mk (below_step (by repeat (first | (with_reducible first | exact HB.out | apply below_alloc | apply pw_below_drewN | apply below_drew1) | exact HB.out)) hb); clear HB; have HB := n0_; clear n0_; (try clear hb); (try clear hb2); (try clear hk); (try clear hi)) | ((with_reducible refine gate_callee (f := 8) rfl ?_); refine goesL_ (some 22) rfl rfl Try.func8 (by kernel_rfl) rfl #[.slice A0 l0.length c0] rfl (by (try simp only [List.map_toArray, List.map_cons, List.map_nil]); first | done | rfl | (simp only [List.length_drop, List.length_take]; rfl)) ?_; (with_reducible refine (glossatorkeep3_named.calls k _ _ l0 t147 _ ?side1 ?side2 A7.out).mono ?_); (case side1 => repeat (first | exact (Kd.C_below HR0.out HB.out) | (with_reducible refine Kd.C_alloc ?_ _) | (with_reducible refine Kd.C_drewN ?_ _) | (with_reducible refine Kd.C_drew ?_))); (case side2 => exact HC0.out); rintro e w35 ⟨v148, rfl, ho0, hb⟩; refine ⟨_, rfl, ?_⟩; have n0_ := Aside0.mk (Kd.R_lower ho0 (below_size (by repeat (first | (with_reducible first | exact HB.out | apply below_alloc | apply pw_below_drewN | apply below_drew1) | exact HB.out)))); have n1_ := Aside0.mk (below_step (by repeat (first | (with_reducible first | exact HB.out | apply below_alloc | apply pw_below_drewN | apply below_drew1) | exact HB.out)) hb); clear HB; have HO149 := n0_; have HB := n1_; clear n0_ n1_; (try clear hb); (try clear hb2); (try clear hk); (try clear hi); (try clear ho0); obtain ⟨Ao36, co36, eo36⟩ := Kd.R_slice HO149.out; subst eo36) | ((with_reducible refine gate_callee (f := 9) rfl ?_); refine goesL_ (some 25) rfl rfl Try.func9 (by kernel_rfl) rfl #[.slice Ao36 t147.length co36] rfl (by (try simp only [List.map_toArray, List.map_cons, List.map_nil]); first | done | rfl | (simp only [List.length_drop, List.length_take]; rfl)) ?_; (with_reducible refine (wordindex_Build.calls _ _ t147 t150 t151 _ ?side1 ?side2 A8.out).mono ?_); (case side1 => repeat (first | exact (Kd.R_reads' HO149.out).2.2 | (with_reducible refine Kd.C_alloc ?_ _) | (with_reducible refine Kd.C_drewN ?_ _) | (with_reducible refine Kd.C_drew ?_))); (case side2 => exact (Kd.R_reads' HO149.out).2.1); rintro e w37 ⟨v152, rfl, ho0, hb⟩; refine ⟨_, rfl, ?_⟩; have n0_ := Aside0.mk (Kd.R_below (by (with_reducible repeat (first | apply Kd.R_alloc | apply Kd.R_drewN | apply Kd.R_drew)); exact HO149.out) hb); have n1_ := Aside0.mk (Kd.S_lower ho0 (below_size (by repeat (first | (with_reducible first | exact HB.out | apply below_alloc | apply pw_below_drewN | apply below_drew1) | exact HB.out)))); have n2_ := Aside0.mk (below_step (by repeat (first | (with_reducible first | exact HB.out | apply below_alloc | apply pw_below_drewN | apply below_drew1) | exact HB.out)) hb); clear HO149; clear HB; have HO149 := n0_; have HO153 := n1_; have HB := n2_; clear n0_ n1_ n2_; (try clear hb); (try clear hb2); (try clear hk); (try clear hi); (try clear ho0)) | ((with_reducible refine gate_callee (f := 10) rfl ?_); refine goesL_ (some 43) rfl rfl Try.func10 (by kernel_rfl) rfl #[.int .i64 a3, .int .i64 (t147.length : Int)] rfl (by (try simp only [List.map_toArray, List.map_cons, List.map_nil]); first | done | rfl | (simp only [List.length_drop, List.length_take]; rfl)) ?_; (with_reducible refine (glossatorref3_Mod.calls a3 (t147.length : Int) t155 _ A23.out).mono ?_); rintro e w' ⟨rfl, ⟨nd, rfl⟩⟩; refine ⟨_, rfl, ?_⟩; (try (rw [drewN_self w37]; generalize hq_ : World.drewN w37 _ = w37; have n0_ : Aside0 (Kd.R k35 35 w37 w.heap.size (fun _ => True) (.slice Ao36 t147.length co36) t147) := ⟨by rw [← hq_]; exact (by (with_reducible repeat (first | apply Kd.R_alloc | apply Kd.R_drewN | apply Kd.R_drew)); exact HO149.out)⟩; have n1_ : Aside0 (Kd.S k43 43 w37 w.heap.size (fun _ => True) v152 t150) := ⟨by rw [← hq_]; exact (by (with_reducible repeat (first | apply Kd.S_alloc | apply Kd.S_drewN | apply Kd.S_drew)); exact HO153.out)⟩; have n2_ : Aside0 (Below w.heap.size w w37) := ⟨by rw [← hq_]; exact (by repeat (first | (with_reducible first | exact HB.out | apply below_alloc | apply pw_below_drewN | apply below_drew1) | exact HB.out))⟩; clear HO149 HO153 HB; have HO149 := n0_; have HO153 := n1_; have HB := n2_; clear n0_ n1_ n2_))))
                  have n0_ := Aside0.mk (Kd.R_drew HO149.out)
                  have n1_ := Aside0.mk (Kd.S_drew HO153.out)
                  have n2_ := Aside0.mk (below_drew1 HB.out)
                  clear HO149
                  clear HO153
                  clear HB
                  have HO149 := n0_
                  have HO153 := n1_
                  have HB := n2_
                  clear n0_ n1_ n2_
                  have p156 : 0 ≤ (t155 : Int) := of_decide_eq_true (by first | (with_reducible assumption) | assumption)
                  have q156 : t155 < (t147.length : Int) := of_decide_eq_true (by first | (with_reducible assumption) | assumption)
                  obtain ⟨ad156, e156, hx156_0, hx156_1, hx156_2⟩ := at_T35 (Kd.R_reads' HO149.out).2.2 t155 p156 q156
                  cases e156
                  replace p156 := eq_true p156
                  replace q156 := eq_true q156
                  refine start_ (n := 13) (S := fun w' => w'.cell? (ad156.add ((t155).toNat * 3)) = some (.string ((rd_T35 t147 t155).f0)) ∧ w'.cell? ⟨(ad156.add ((t155).toNat * 3)).block, (ad156.add ((t155).toNat * 3)).off + 1, none⟩ = some (.int .i64 ((rd_T35 t147 t155).f1)) ∧ w'.cell? ⟨(ad156.add ((t155).toNat * 3)).block, (ad156.add ((t155).toNat * 3)).off + 2, none⟩ = some (.string ((rd_T35 t147 t155).f2))) (ds := []) #[false, false, false, false, false, false, false, false, false, false, false, false, false] (by kernel_rfl) rfl rfl ⟨hx156_0, hx156_1, hx156_2⟩ (fun hHeld => ?_); refine with_tabW glossatorkeep3_WordindexFind.tab8 glossatorkeep3_WordindexFind.bits8 (fun HT_ HW_ => ?_)
                  generalize w37.drew = w38 at HO149 HO153 HB hx156_0 hx156_1 hx156_2 hHeld ⊢
                  refine pure_ (i := 0) (N := some 44) (v := ?_) (a' := ?_) #[true, false, false, false, false, false, false, false, false, false, false, false, false] rfl rfl (any_of HT_.out (by kernel_rfl)) (fun _ _ _ h => h) (Or.inl ⟨by rfl, ?_⟩) ?_ ?_
                  rotate_left
                  · intro w'
                    go_simp
                    with_reducible rfl
                  rotate_left
                  · simp only [Act.put, List.setIfInBounds_toArray, List.set_cons_zero, List.set_cons_succ, i64_w, i32_w]
                    rfl
                  refine pure_ (i := 1) (N := some 45) (v := ?_) (a' := ?_) #[true, true, false, false, false, false, false, false, false, false, false, false, false] rfl rfl (any_of HT_.out (by kernel_rfl)) (fun _ _ _ h => h) (Or.inl ⟨by rfl, ?_⟩) ?_ ?_
                  rotate_left
                  · intro w'
                    go_simp
                    with_reducible rfl
                  rotate_left
                  · simp only [Act.put, List.setIfInBounds_toArray, List.set_cons_zero, List.set_cons_succ, i64_w, i32_w]
                    rfl
                  refine pure_ (i := 2) (N := some 46) (v := ?_) (a' := ?_) #[true, true, true, false, false, false, false, false, false, false, false, false, false] rfl rfl (any_of HT_.out (by kernel_rfl)) (fun _ _ _ h => h) (Or.inl ⟨by rfl, ?_⟩) ?_ ?_
                  rotate_left
                  · intro w'
                    go_simp
                    with_reducible rfl
                  rotate_left
                  · simp only [Act.put, List.setIfInBounds_toArray, List.set_cons_zero, List.set_cons_succ, i64_w, i32_w]
                    rfl
                  refine pure_ (i := 3) (N := some 47) (v := ?_) (a' := ?_) #[true, true, true, true, false, false, false, false, false, false, false, false, false] rfl rfl (any_of HT_.out (by kernel_rfl)) (fun _ _ _ h => h) (Or.inl ⟨by rfl, ?_⟩) ?_ ?_
                  rotate_left
                  · intro w'
                    go_simp
                    with_reducible rfl
                  rotate_left
                  · simp only [Act.put, List.setIfInBounds_toArray, List.set_cons_zero, List.set_cons_succ, i64_w, i32_w]
                    rfl
                  refine pure_ (i := 5) (N := some 49) (v := ?_) (a' := ?_) #[true, true, true, true, false, true, false, false, false, false, false, false, false] rfl rfl (any_of HT_.out (by kernel_rfl)) (fun _ _ _ h => h) (Or.inl ⟨by rfl, ?_⟩) ?_ ?_
                  rotate_left
                  · intro w'
                    go_simp
                    with_reducible rfl
                  rotate_left
                  · simp only [Act.put, List.setIfInBounds_toArray, List.set_cons_zero, List.set_cons_succ, i64_w, i32_w]
                    rfl
                  refine pure_ (i := 6) (N := some 50) (v := ?_) (a' := ?_) #[true, true, true, true, false, true, true, false, false, false, false, false, false] rfl rfl (any_of HT_.out (by kernel_rfl)) (fun _ _ _ h => h) (Or.inl ⟨by rfl, ?_⟩) ?_ ?_
                  rotate_left
                  · intro w'
                    go_simp
                    with_reducible rfl
                  rotate_left
                  · simp only [Act.put, List.setIfInBounds_toArray, List.set_cons_zero, List.set_cons_succ, i64_w, i32_w]
                    rfl
                  refine pure_ (i := 7) (N := some 51) (v := ?_) (a' := ?_) #[true, true, true, true, false, true, true, true, false, false, false, false, false] rfl rfl (any_of HT_.out (by kernel_rfl)) (fun _ _ _ h => h) (Or.inl ⟨by rfl, ?_⟩) ?_ ?_
                  rotate_left
                  · intro w'
                    go_simp
                    with_reducible rfl
                  rotate_left
                  · simp only [Act.put, List.setIfInBounds_toArray, List.set_cons_zero, List.set_cons_succ, i64_w, i32_w]
                    rfl
                  refine pure_ (i := 8) (N := some 52) (v := ?_) (a' := ?_) #[true, true, true, true, false, true, true, true, true, false, false, false, false] rfl rfl (any_of HT_.out (by kernel_rfl)) (fun _ _ _ h => h) (Or.inl ⟨by rfl, ?_⟩) ?_ ?_
                  rotate_left
                  · intro w'
                    go_simp
                    with_reducible rfl
                  rotate_left
                  · simp only [Act.put, List.setIfInBounds_toArray, List.set_cons_zero, List.set_cons_succ, i64_w, i32_w]
                    rfl
                  refine pure_ (i := 9) (N := some 53) (v := ?_) (a' := ?_) #[true, true, true, true, false, true, true, true, true, true, false, false, false] rfl rfl (any_of HT_.out (by kernel_rfl)) (fun _ _ _ h => h) (Or.inl ⟨by rfl, ?_⟩) ?_ ?_
                  rotate_left
                  · intro w'
                    go_simp
                    with_reducible rfl
                  rotate_left
                  · simp only [Act.put, List.setIfInBounds_toArray, List.set_cons_zero, List.set_cons_succ, i64_w, i32_w]
                    rfl
                  refine take_ (i := 4) (N := some 48) (v := ?_) (a' := ?_) #[true, true, true, true, true, true, true, true, true, true, false, false, false] rfl rfl (take_ofW HT_.out HW_.out (by kernel_rfl)) (fun _ _ _ h => h) (Or.inl ⟨by rfl, ?_⟩) hHeld ?_ ?_
                  rotate_left
                  · rintro w' ⟨s0, s1, s2⟩
                    go_simp
                    with_reducible rfl
                  rotate_left
                  · simp only [Act.put, List.setIfInBounds_toArray, List.set_cons_zero, List.set_cons_succ, i64_w, i32_w]
                    rfl
                  refine pure_ (i := 10) (N := some 54) (v := ?_) (a' := ?_) #[true, true, true, true, true, true, true, true, true, true, true, false, false] rfl rfl (any_of HT_.out (by kernel_rfl)) (fun _ _ _ h => h) (Or.inl ⟨by rfl, ?_⟩) ?_ ?_
                  rotate_left
                  · intro w'
                    go_simp
                    with_reducible rfl
                  rotate_left
                  · simp only [Act.put, List.setIfInBounds_toArray, List.set_cons_zero, List.set_cons_succ, i64_w, i32_w]
                    rfl
                  refine one_ (i := 11) (N := some 12) #[true, true, true, true, true, true, true, true, true, true, true, true, false] rfl rfl (one_of HT_.out (by kernel_rfl)) (by decide) (fun K hK => ?_)
                  refine box_step ?hg (N := 12) ?hd (cs := #[.string (⟨#[]⟩ : ByteArray), .int .i64 0, .string (⟨#[]⟩ : ByteArray)]) (t := 35) ?hr ?_; (case hd => rfl); (case hg => rfl); (case hr => first | (go_simp; done) | (go_simp; rfl))
                  intro gb157 hg w39 hbox hb
                  have HS0_ := (hb.cell (World.block_lt_of_cell? _ _ (hHeld.1))).trans (hHeld.1)
                  have HS1_ := (hb.cell (World.block_lt_of_cell? _ _ (hHeld.2.1))).trans (hHeld.2.1)
                  have HS2_ := (hb.cell (World.block_lt_of_cell? _ _ (hHeld.2.2))).trans (hHeld.2.2)
                  have n0_ := Aside0.mk (Kd.R_below (Kd.R_elderB (by (with_reducible repeat (first | apply Kd.R_alloc | apply Kd.R_drewN | apply Kd.R_drew)); exact HO149.out) gb157 (Nat.le_of_eq hg.symm)) hb)
                  have n1_ := Aside0.mk (Kd.S_below (by (with_reducible repeat (first | apply Kd.S_alloc | apply Kd.S_drewN | apply Kd.S_drew)); exact HO153.out) hb)
                  have n2_ := Aside0.mk (below_step (by repeat (first | (with_reducible first | exact HB.out | apply below_alloc | apply pw_below_drewN | apply below_drew1) | exact HB.out)) hb)
                  have n3_ := Aside0.mk (hbox)
                  have n4_ := Aside0.mk ((by rw [hg]; exact (below_size (by repeat (first | (with_reducible first | exact HB.out | apply below_alloc | apply pw_below_drewN | apply below_drew1) | exact HB.out))) : w.heap.size ≤ gb157))
                  have n5_ := Aside0.mk ((by rw [hg]; exact (below_size (by repeat (first | (with_reducible first | exact HB.out | apply below_alloc | apply pw_below_drewN | apply below_drew1) | exact HB.out))) : w.heap.size ≤ gb157))
                  clear HO149
                  clear HO153
                  clear HB
                  have HO149 := n0_
                  have HO153 := n1_
                  have HB := n2_
                  have BK157 := n3_
                  have GW157 := n4_
                  have GE157 := n5_
                  clear n0_ n1_ n2_ n3_ n4_ n5_
                  clear hb hbox hg
                  refine hK.out _ _ ⟨HS0_, HS1_, HS2_⟩ (fun hHeld => ?_)
                  clear hK K
                  refine norm_ (a' := ?_) ?_ ?_
                  rotate_left
                  · show Act.put _ (some 12) _ = _
                    simp only [Act.put, List.setIfInBounds_toArray, List.set_cons_zero, List.set_cons_succ, i64_w, i32_w]
                    rfl
                  refine one_ (i := 12) (N := none) #[true, true, true, true, true, true, true, true, true, true, true, true, true] rfl rfl (one_of HT_.out (by kernel_rfl)) (by decide) (fun K hK => ?_)
                  have hs40 : w39.cell? ⟨gb157, 0, none⟩ = some (.string (⟨#[]⟩ : ByteArray)) := (blk_cell BK157.out 0).trans rfl
                  have hfs40 := blk_frozen BK157.out 0
                  have hs41 : w39.cell? ⟨gb157, 1, none⟩ = some (.int .i64 0) := (blk_cell BK157.out 1).trans rfl
                  have hfs41 := blk_frozen BK157.out 1
                  have hs42 : w39.cell? ⟨gb157, 2, none⟩ = some (.string (⟨#[]⟩ : ByteArray)) := (blk_cell BK157.out 2).trans rfl
                  have hfs42 := blk_frozen BK157.out 2
                  refine skip_ (w1 := ?_) (by rfl) rfl ?_ ?_
                  rotate_left
                  · go_simp
                    rfl
                  refine hK.out _ _ ⟨((cell_far (p := ⟨gb157, _, none⟩) (by first | exact Kd.own_blk (Kd.R_away HO149.out (fun _ hk => hk.2)) | (rw [add_block]; exact Kd.own_blk (Kd.R_away HO149.out (fun _ hk => hk.2))) | (show (Addr.add _ _).block ≠ _; rw [add_block]; exact Kd.own_blk (Kd.R_away HO149.out (fun _ hk => hk.2))) | (dsimp only; exact Kd.own_blk (Kd.R_away HO149.out (fun _ hk => hk.2)))) _).trans (((cell_far (p := ⟨gb157, _, none⟩) (by first | exact Kd.own_blk (Kd.R_away HO149.out (fun _ hk => hk.2)) | (rw [add_block]; exact Kd.own_blk (Kd.R_away HO149.out (fun _ hk => hk.2))) | (show (Addr.add _ _).block ≠ _; rw [add_block]; exact Kd.own_blk (Kd.R_away HO149.out (fun _ hk => hk.2))) | (dsimp only; exact Kd.own_blk (Kd.R_away HO149.out (fun _ hk => hk.2)))) _).trans (((cell_far (p := ⟨gb157, _, none⟩) (by first | exact Kd.own_blk (Kd.R_away HO149.out (fun _ hk => hk.2)) | (rw [add_block]; exact Kd.own_blk (Kd.R_away HO149.out (fun _ hk => hk.2))) | (show (Addr.add _ _).block ≠ _; rw [add_block]; exact Kd.own_blk (Kd.R_away HO149.out (fun _ hk => hk.2))) | (dsimp only; exact Kd.own_blk (Kd.R_away HO149.out (fun _ hk => hk.2)))) _).trans (hHeld.1)))))), ((cell_far (p := ⟨gb157, _, none⟩) (by first | exact Kd.own_blk (Kd.R_away HO149.out (fun _ hk => hk.2)) | (rw [add_block]; exact Kd.own_blk (Kd.R_away HO149.out (fun _ hk => hk.2))) | (show (Addr.add _ _).block ≠ _; rw [add_block]; exact Kd.own_blk (Kd.R_away HO149.out (fun _ hk => hk.2))) | (dsimp only; exact Kd.own_blk (Kd.R_away HO149.out (fun _ hk => hk.2)))) _).trans (((cell_far (p := ⟨gb157, _, none⟩) (by first | exact Kd.own_blk (Kd.R_away HO149.out (fun _ hk => hk.2)) | (rw [add_block]; exact Kd.own_blk (Kd.R_away HO149.out (fun _ hk => hk.2))) | (show (Addr.add _ _).block ≠ _; rw [add_block]; exact Kd.own_blk (Kd.R_away HO149.out (fun _ hk => hk.2))) | (dsimp only; exact Kd.own_blk (Kd.R_away HO149.out (fun _ hk => hk.2)))) _).trans (((cell_far (p := ⟨gb157, _, none⟩) (by first | exact Kd.own_blk (Kd.R_away HO149.out (fun _ hk => hk.2)) | (rw [add_block]; exact Kd.own_blk (Kd.R_away HO149.out (fun _ hk => hk.2))) | (show (Addr.add _ _).block ≠ _; rw [add_block]; exact Kd.own_blk (Kd.R_away HO149.out (fun _ hk => hk.2))) | (dsimp only; exact Kd.own_blk (Kd.R_away HO149.out (fun _ hk => hk.2)))) _).trans (hHeld.2.1)))))), ((cell_far (p := ⟨gb157, _, none⟩) (by first | exact Kd.own_blk (Kd.R_away HO149.out (fun _ hk => hk.2)) | (rw [add_block]; exact Kd.own_blk (Kd.R_away HO149.out (fun _ hk => hk.2))) | (show (Addr.add _ _).block ≠ _; rw [add_block]; exact Kd.own_blk (Kd.R_away HO149.out (fun _ hk => hk.2))) | (dsimp only; exact Kd.own_blk (Kd.R_away HO149.out (fun _ hk => hk.2)))) _).trans (((cell_far (p := ⟨gb157, _, none⟩) (by first | exact Kd.own_blk (Kd.R_away HO149.out (fun _ hk => hk.2)) | (rw [add_block]; exact Kd.own_blk (Kd.R_away HO149.out (fun _ hk => hk.2))) | (show (Addr.add _ _).block ≠ _; rw [add_block]; exact Kd.own_blk (Kd.R_away HO149.out (fun _ hk => hk.2))) | (dsimp only; exact Kd.own_blk (Kd.R_away HO149.out (fun _ hk => hk.2)))) _).trans (((cell_far (p := ⟨gb157, _, none⟩) (by first | exact Kd.own_blk (Kd.R_away HO149.out (fun _ hk => hk.2)) | (rw [add_block]; exact Kd.own_blk (Kd.R_away HO149.out (fun _ hk => hk.2))) | (show (Addr.add _ _).block ≠ _; rw [add_block]; exact Kd.own_blk (Kd.R_away HO149.out (fun _ hk => hk.2))) | (dsimp only; exact Kd.own_blk (Kd.R_away HO149.out (fun _ hk => hk.2)))) _).trans (hHeld.2.2))))))⟩ (fun hHeld => ?_)
                  clear hK K
                  refine done_ (done_of HT_.out (by kernel_rfl)) ?_
                  have hcz43_0 : w39.cell? ⟨gb157, 0, none⟩ = some (.string (⟨#[]⟩ : ByteArray)) := (blk_cell BK157.out 0).trans rfl
                  have hcz43_1 : w39.cell? ⟨gb157, 1, none⟩ = some (.int .i64 0) := (blk_cell BK157.out 1).trans rfl
                  have hcz43_2 : w39.cell? ⟨gb157, 2, none⟩ = some (.string (⟨#[]⟩ : ByteArray)) := (blk_cell BK157.out 2).trans rfl
                  have hfz43_0 := blk_frozen BK157.out 0
                  have hfz43_1 := blk_frozen BK157.out 1
                  have hfz43_2 := blk_frozen BK157.out 2
                  obtain ⟨Ao44, co44, eo44⟩ := Kd.S_slice HO153.out
                  subst eo44
                  try go_wp2_with (first | ((with_reducible refine gate_callee (f := 11) rfl ?_); refine goesL_ (some 58) rfl rfl Try.func11 (by kernel_rfl) rfl #[.slice Ao44 t150.length co44, .agg #[.string ((rd_T35 t147 t155).f0), .int .i64 0, .string (a1.extract 0 ((ji26) : Int).toNat)]] rfl (by (try simp only [List.map_toArray, List.map_cons, List.map_nil]); first | done | (simp only [hji26]; rfl) | rfl | (simp only [List.length_drop, List.length_take]; rfl)) ?_; (with_reducible refine (wordindex_Update.calls _ _ t150 ((rd_T35 t147 t155).f0) 0 (a1.extract 0 ((ji26) : Int).toNat) t158 t161 _ ?side1 ?side2 A29.out).mono ?_); (case side1 => refine (Kd.S_reads' (e := 43) (base := w.heap.size) (ok := fun k_ => True) (n := t150.length) (c := co44) ?_).2.2; exact (by (with_reducible repeat (first | apply Kd.S_alloc | apply Kd.S_drewN | apply Kd.S_drew)); exact (Kd.S_mono (Kd.S_far (p := ⟨gb157, 2, none⟩) (Kd.S_far (p := ⟨gb157, 1, none⟩) (Kd.S_far (p := ⟨gb157, 0, none⟩) (Kd.S_types HO153.out BK157.out (by decide)) (fun _ hk => hk.2) (.string ((rd_T35 t147 t155).f0))) (fun _ hk => hk.2) (.int .i64 0)) (fun _ hk => hk.2) (.string (a1.extract 0 ((ji26) : Int).toNat))) (fun _ h_ => h_.1)))); (case side2 => exact (Kd.S_reads' HO153.out).2.1); rintro e w45 ⟨v159, rfl, ho0, hb⟩; refine ⟨_, rfl, ?_⟩; have n0_ := Aside0.mk (Kd.R_below (by (with_reducible repeat (first | apply Kd.R_alloc | apply Kd.R_drewN | apply Kd.R_drew)); exact (Kd.R_mono (Kd.R_far (p := ⟨gb157, 2, none⟩) (Kd.R_far (p := ⟨gb157, 1, none⟩) (Kd.R_far (p := ⟨gb157, 0, none⟩) (Kd.R_mono HO149.out (fun k_ hk => (⟨hk, hk.2⟩ : _ ∧ k_ ≠ gb157))) (fun _ hk => hk.2) (.string ((rd_T35 t147 t155).f0))) (fun _ hk => hk.2) (.int .i64 0)) (fun _ hk => hk.2) (.string (a1.extract 0 ((ji26) : Int).toNat))) (fun _ h_ => h_.1))) hb); have n1_ := Aside0.mk (Kd.S_elder' (by (with_reducible repeat (first | apply Kd.S_alloc | apply Kd.S_drewN | apply Kd.S_drew)); exact (Kd.S_mono (Kd.S_far (p := ⟨gb157, 2, none⟩) (Kd.S_far (p := ⟨gb157, 1, none⟩) (Kd.S_far (p := ⟨gb157, 0, none⟩) (Kd.S_types HO153.out BK157.out (by decide)) (fun _ hk => hk.2) (.string ((rd_T35 t147 t155).f0))) (fun _ hk => hk.2) (.int .i64 0)) (fun _ hk => hk.2) (.string (a1.extract 0 ((ji26) : Int).toNat))) (fun _ h_ => h_.1))) (Kd.S_base ho0) hb); have n2_ := Aside0.mk (Kd.S_lower (Kd.S_new' ho0 (Kd.S_lt (by (with_reducible repeat (first | apply Kd.S_alloc | apply Kd.S_drewN | apply Kd.S_drew)); exact (Kd.S_mono (Kd.S_far (p := ⟨gb157, 2, none⟩) (Kd.S_far (p := ⟨gb157, 1, none⟩) (Kd.S_far (p := ⟨gb157, 0, none⟩) (Kd.S_types HO153.out BK157.out (by decide)) (fun _ hk => hk.2) (.string ((rd_T35 t147 t155).f0))) (fun _ hk => hk.2) (.int .i64 0)) (fun _ hk => hk.2) (.string (a1.extract 0 ((ji26) : Int).toNat))) (fun _ h_ => h_.1))))) (below_size (by repeat (first | (with_reducible first | exact HB.out | apply below_alloc | apply pw_below_drewN | apply below_drew1 | refine below_set ?_ GE157.out) | exact HB.out)))); have n3_ := Aside0.mk (blk_below (g := gb157) (o := .cells #[.string ((rd_T35 t147 t155).f0), .int .i64 0, .string (a1.extract 0 ((ji26) : Int).toNat)] 35 (0, 0)) (by (with_reducible repeat (first | refine blk_drewN ?_ _ | refine blk_drew ?_ | refine blk_alloc ?_ _)); refine blk_put (cs := #[.string ((rd_T35 t147 t155).f0), .int .i64 0, .string (⟨#[]⟩ : ByteArray)]) ?_ 2 _ rfl; (with_reducible repeat (first | refine blk_drewN ?_ _ | refine blk_drew ?_ | refine blk_alloc ?_ _)); refine blk_put (cs := #[.string ((rd_T35 t147 t155).f0), .int .i64 0, .string (⟨#[]⟩ : ByteArray)]) ?_ 1 _ rfl; (with_reducible repeat (first | refine blk_drewN ?_ _ | refine blk_drew ?_ | refine blk_alloc ?_ _)); refine blk_put (cs := #[.string (⟨#[]⟩ : ByteArray), .int .i64 0, .string (⟨#[]⟩ : ByteArray)]) ?_ 0 _ rfl; (with_reducible repeat (first | refine blk_drewN ?_ _ | refine blk_drew ?_ | refine blk_alloc ?_ _)); exact BK157.out) hb); have n4_ := Aside0.mk (below_step (by repeat (first | (with_reducible first | exact HB.out | apply below_alloc | apply pw_below_drewN | apply below_drew1 | refine below_set ?_ GE157.out) | exact HB.out)) hb); clear HO149; clear HO153; clear BK157; clear HB; have HO149 := n0_; have HO153 := n1_; have HO160 := n2_; have BK157 := n3_; have HB := n4_; clear n0_ n1_ n2_ n3_ n4_; (try clear hb); (try clear hb2); (try clear hk); (try clear hi); (try clear ho0); have hcz46_0 : w45.cell? ⟨gb157, 0, none⟩ = some (.string ((rd_T35 t147 t155).f0)) := (blk_cell BK157.out 0).trans rfl; have hcz46_1 : w45.cell? ⟨gb157, 1, none⟩ = some (.int .i64 0) := (blk_cell BK157.out 1).trans rfl; have hcz46_2 : w45.cell? ⟨gb157, 2, none⟩ = some (.string (a1.extract 0 ((ji26) : Int).toNat)) := (blk_cell BK157.out 2).trans rfl; have hfz46_0 := blk_frozen BK157.out 0; have hfz46_1 := blk_frozen BK157.out 1; have hfz46_2 := blk_frozen BK157.out 2; have p31 : 0 ≤ (t155 : Int) := of_decide_eq_true (by first | (with_reducible assumption) | assumption); have q31 : (t155 : Int) < ((t147.length : Int) : Int) := of_decide_eq_true (by first | (with_reducible assumption) | assumption); obtain ⟨go31, co31, eo31, gb31, gl31, cl31, HG31⟩ := Kd.R_form HO149.out (by omega); (first | cases eo31 | (injection eo31 with ea_ en_ ec_; (first | subst ea_ | (injection ea_ with ea_; subst ea_)); subst ec_; clear en_)); have GB31 := Aside0.mk gb31; have GG31 := Aside0.mk HG31; clear gb31 gl31 HG31; (first | simp only [add_plain] at hx156_0 | skip); (first | simp only [add_plain] at hx156_1 | skip); (first | simp only [add_plain] at hx156_2 | skip); obtain ⟨ce31, hcl31, hM31, hcc31, hfr31⟩ := Kd.R_elem HO149.out z35 (t155 : Int) p31 q31; obtain rfl := k35_openM hM31; have hx31_0 : w45.cell? ⟨go31, (t155 : Int).toNat * 3, none⟩ = some (.string ((rd_T35 t147 t155).f0)) := hcc31 0 _ rfl; have hx31_1 : w45.cell? ⟨go31, (t155 : Int).toNat * 3 + 1, none⟩ = some (.int .i64 ((rd_T35 t147 t155).f1)) := hcc31 1 _ rfl; have hx31_2 : w45.cell? ⟨go31, (t155 : Int).toNat * 3 + 2, none⟩ = some (.string ((rd_T35 t147 t155).f2)) := hcc31 2 _ rfl; have hf31_0 : w45.frozen? ⟨go31, (t155 : Int).toNat * 3, none⟩ = false := hfr31 0; have hf31_1 : w45.frozen? ⟨go31, (t155 : Int).toNat * 3 + 1, none⟩ = false := hfr31 1; have hf31_2 : w45.frozen? ⟨go31, (t155 : Int).toNat * 3 + 2, none⟩ = false := hfr31 2; clear hcl31 hcc31 hfr31 hM31; replace p31 := eq_true p31; replace q31 := eq_true q31; have n_ := Aside0.mk (Kd.R_mono (ok' := (fun k_ => k_ ≠ gb157)) HO149.out (fun k_ hk => hk.2)); clear HO149; have HO149 := n_; clear n_; have HX47 := Aside0.mk (show Kd.R k35 35 w45 w.heap.size (fun k_ => k_ ≠ gb157) (.slice (some ⟨go31, 0, none⟩) t147.length co36) t147 from (by (with_reducible repeat (first | apply Kd.R_alloc | apply Kd.R_drewN | apply Kd.R_drew)); exact HO149.out)); obtain ⟨ce47, hcl47, hM47, hcc47, hfr47⟩ := Kd.R_elem HX47.out z35 (t155 : Int) (of_decide_eq_true (by first | (with_reducible assumption) | assumption)) (by have h_ : (t155 : Int) < ((t147.length : Int) : Int) := of_decide_eq_true (by first | (with_reducible assumption) | assumption); first | exact h_ | (have e_ := (Kd.R_reads' HO149.out).1; omega) | simpa using h_); obtain rfl := k35_openM hM47; have HP47 := Kd.R_seg HX47.out (t155 : Int) (of_decide_eq_true (by first | (with_reducible assumption) | assumption)) (by have h_ : (t155 : Int) < ((t147.length : Int) : Int) := of_decide_eq_true (by first | (with_reducible assumption) | assumption); first | exact h_ | (have e_ := (Kd.R_reads' HO149.out).1; omega) | simpa using h_) (seg := [.string ((rd_T35 t147 t155).f0), .int .i64 0, .string (a1.extract 0 ((ji26) : Int).toNat)]) (j := 0) hcl47 hcc47 (show 3 ≤ 3 from by decide) (x' := (⟨(rd_T35 t147 t155).f0, 0, a1.extract 0 ((ji26) : Int).toNat⟩ : S35)) (k35_mkM _ _ _ (⟨(rd_T35 t147 t155).f0, 0, a1.extract 0 ((ji26) : Int).toNat⟩ : S35) ) (fun _ hk => hk); have hx47_0 := hcc47 0 _ rfl; (try simp only [show (k35).sz = 3 from rfl, Nat.mul_one, Nat.add_zero] at hx47_0); have hf47_0 := hfr47 0; (try simp only [show (k35).sz = 3 from rfl, Nat.mul_one, Nat.add_zero] at hf47_0); have hx47_1 := hcc47 1 _ rfl; (try simp only [show (k35).sz = 3 from rfl, Nat.mul_one, Nat.add_zero] at hx47_1); have hf47_1 := hfr47 1; (try simp only [show (k35).sz = 3 from rfl, Nat.mul_one, Nat.add_zero] at hf47_1); have hx47_2 := hcc47 2 _ rfl; (try simp only [show (k35).sz = 3 from rfl, Nat.mul_one, Nat.add_zero] at hx47_2); have hf47_2 := hfr47 2; (try simp only [show (k35).sz = 3 from rfl, Nat.mul_one, Nat.add_zero] at hf47_2); clear hcl47 hcc47 hfr47 hM47) | ((with_reducible refine gate_store (t := 35) (p := 66) rfl ?_); refine store_event (t := 35) (p := 66) (v := ?vo_w48) (w1 := (((w45.setCell ⟨go31, (t155 : Int).toNat * 3, none⟩ (.string ((rd_T35 t147 t155).f0))).setCell ⟨go31, (t155 : Int).toNat * 3 + 1, none⟩ (.int .i64 0)).setCell ⟨go31, (t155 : Int).toNat * 3 + 2, none⟩ (.string (a1.extract 0 ((ji26) : Int).toNat)))) ?hg ?ho ?hn ?hr ?_; (case ho => rfl); (case hg => rfl); (case hn => rfl); (case hr => first | (go_simp; done) | (go_simp; rfl)); intro w48 hw; have hg : w45.grownBy w48 (some go31) := (by rw [hw]; exact HP47.2); have hp_ : Kd.R k35 35 w48 w.heap.size (fun k_ => k_ ≠ gb157) (.slice (some ⟨go31, 0, none⟩) t147.length co36) y162 := (by rw [hw, Ny162.out]; exact HP47.1); clear HP47; have n0_ := Aside0.mk (hp_); have n1_ := Aside0.mk (Kd.S_over' (v := (.slice (some ⟨go31, 0, none⟩) t147.length co36)) (by (with_reducible repeat (first | apply Kd.S_alloc | apply Kd.S_drewN | apply Kd.S_drew)); exact HO153.out) (Kd.R_typed HO149.out) (by decide) hg); have n2_ := Aside0.mk (blk_grown (g := gb157) (o := .cells #[.string ((rd_T35 t147 t155).f0), .int .i64 0, .string (a1.extract 0 ((ji26) : Int).toNat)] 35 (0, 0)) (by (with_reducible repeat (first | refine blk_drewN ?_ _ | refine blk_drew ?_ | refine blk_alloc ?_ _)); exact BK157.out) hg (Kd.R_away HO149.out (fun _ hk => hk))); have n3_ := Aside0.mk (Kd.S_over' (v := (.slice (some ⟨go31, 0, none⟩) t147.length co36)) (by (with_reducible repeat (first | apply Kd.S_alloc | apply Kd.S_drewN | apply Kd.S_drew)); exact HO160.out) (Kd.R_typed HO149.out) (by decide) hg); have n4_ := Aside0.mk ((by rw [hw]; exact below_set (below_set (below_set (HB.out) GB31.out) GB31.out) GB31.out : Below w.heap.size w w48)); clear HO149; clear HO153; clear BK157; clear HO160; clear HB; have HO149 := n0_; have HO153 := n1_; have BK157 := n2_; have HO160 := n3_; have HB := n4_; clear n0_ n1_ n2_ n3_ n4_; clear hg hw hp_) | ((with_reducible refine gate_callee (f := 9) rfl ?_); refine goesL_ (some 69) rfl rfl Try.func9 (by kernel_rfl) rfl #[.slice (some ⟨go31, 0, none⟩) y162.length co36] rfl (by (try simp only [List.map_toArray, List.map_cons, List.map_nil]); first | done | (rw [show y162.length = t147.length from (Kd.R_reads' HO149.out).1.symm] <;> rfl) | rfl | (simp only [List.length_drop, List.length_take]; rfl)) ?_; (with_reducible refine (wordindex_Build.calls _ _ y162 t163 t164 _ ?side1 ?side2 A32.out).mono ?_); (case side1 => repeat (first | exact (Kd.R_reads' HO149.out).2.2 | (with_reducible refine Kd.C_alloc ?_ _) | (with_reducible refine Kd.C_drewN ?_ _) | (with_reducible refine Kd.C_drew ?_))); (case side2 => rw [show y162.length = t147.length from (Kd.R_reads' HO149.out).1.symm]; exact (Kd.R_reads' HO149.out).2.1); rintro e w49 ⟨v165, rfl, ho0, hb⟩; refine ⟨_, rfl, ?_⟩; have n0_ := Aside0.mk (Kd.R_below (by (with_reducible repeat (first | apply Kd.R_alloc | apply Kd.R_drewN | apply Kd.R_drew)); exact HO149.out) hb); have n1_ := Aside0.mk (Kd.S_elder' (by (with_reducible repeat (first | apply Kd.S_alloc | apply Kd.S_drewN | apply Kd.S_drew)); exact HO153.out) (Kd.S_base ho0) hb); have n2_ := Aside0.mk (Kd.S_elder' (by (with_reducible repeat (first | apply Kd.S_alloc | apply Kd.S_drewN | apply Kd.S_drew)); exact HO160.out) (Kd.S_base ho0) hb); have n3_ := Aside0.mk (Kd.S_lower (Kd.S_new' (Kd.S_new' ho0 (Kd.S_lt (by (with_reducible repeat (first | apply Kd.S_alloc | apply Kd.S_drewN | apply Kd.S_drew)); exact HO153.out))) (Kd.S_lt (by (with_reducible repeat (first | apply Kd.S_alloc | apply Kd.S_drewN | apply Kd.S_drew)); exact HO160.out))) (below_size (by repeat (first | (with_reducible first | exact HB.out | apply below_alloc | apply pw_below_drewN | apply below_drew1 | refine below_set ?_ GE157.out) | exact HB.out)))); have n4_ := Aside0.mk (blk_below (g := gb157) (o := .cells #[.string ((rd_T35 t147 t155).f0), .int .i64 0, .string (a1.extract 0 ((ji26) : Int).toNat)] 35 (0, 0)) (by (with_reducible repeat (first | refine blk_drewN ?_ _ | refine blk_drew ?_ | refine blk_alloc ?_ _)); exact BK157.out) hb); have n5_ := Aside0.mk (below_step (by repeat (first | (with_reducible first | exact HB.out | apply below_alloc | apply pw_below_drewN | apply below_drew1 | refine below_set ?_ GE157.out) | exact HB.out)) hb); clear HO149; clear HO153; clear HO160; clear BK157; clear HB; have HO149 := n0_; have HO153 := n1_; have HO160 := n2_; have HO166 := n3_; have BK157 := n4_; have HB := n5_; clear n0_ n1_ n2_ n3_ n4_ n5_; (try clear hb); (try clear hb2); (try clear hk); (try clear hi); (try clear ho0); obtain ⟨Ao50, co50, eo50⟩ := Kd.S_slice HO160.out; subst eo50) | ((with_reducible refine gate_callee (f := 12) rfl ?_); refine goesL_ (some 74) rfl rfl Try.func12 (by kernel_rfl) rfl #[.slice Ao50 t158.length co50, .string a2] rfl (by (try simp only [List.map_toArray, List.map_cons, List.map_nil]); first | done | rfl | (simp only [List.length_drop, List.length_take]; rfl)) ?_; (with_reducible refine (wordindex_Find.calls k _ _ t158 a2 t167 _ ?side1 ?side2 A33.out).mono ?_); (case side1 => repeat (first | exact (Kd.S_reads' HO160.out).2.2 | (with_reducible refine Kd.C_alloc ?_ _) | (with_reducible refine Kd.C_drewN ?_ _) | (with_reducible refine Kd.C_drew ?_))); (case side2 => exact (Kd.S_reads' HO160.out).2.1); rintro e w51 ⟨v168, rfl, ho0, hb⟩; refine ⟨_, rfl, ?_⟩; have n0_ := Aside0.mk (Kd.R_below (by (with_reducible repeat (first | apply Kd.R_alloc | apply Kd.R_drewN | apply Kd.R_drew)); exact HO149.out) hb); have n1_ := Aside0.mk (Kd.S_elder' (by (with_reducible repeat (first | apply Kd.S_alloc | apply Kd.S_drewN | apply Kd.S_drew)); exact HO153.out) (Kd.R_base ho0) hb); have n2_ := Aside0.mk (Kd.S_elder' (by (with_reducible repeat (first | apply Kd.S_alloc | apply Kd.S_drewN | apply Kd.S_drew)); exact HO160.out) (Kd.R_base ho0) hb); have n3_ := Aside0.mk (Kd.S_elder' (by (with_reducible repeat (first | apply Kd.S_alloc | apply Kd.S_drewN | apply Kd.S_drew)); exact HO166.out) (Kd.R_base ho0) hb); have n4_ := Aside0.mk (Kd.R_lower ho0 (below_size (by repeat (first | (with_reducible first | exact HB.out | apply below_alloc | apply pw_below_drewN | apply below_drew1 | refine below_set ?_ GE157.out) | exact HB.out)))); have n5_ := Aside0.mk (blk_below (g := gb157) (o := .cells #[.string ((rd_T35 t147 t155).f0), .int .i64 0, .string (a1.extract 0 ((ji26) : Int).toNat)] 35 (0, 0)) (by (with_reducible repeat (first | refine blk_drewN ?_ _ | refine blk_drew ?_ | refine blk_alloc ?_ _)); exact BK157.out) hb); have n6_ := Aside0.mk (below_step (by repeat (first | (with_reducible first | exact HB.out | apply below_alloc | apply pw_below_drewN | apply below_drew1 | refine below_set ?_ GE157.out) | exact HB.out)) hb); clear HO149; clear HO153; clear HO160; clear HO166; clear BK157; clear HB; have HO149 := n0_; have HO153 := n1_; have HO160 := n2_; have HO166 := n3_; have HO169 := n4_; have BK157 := n5_; have HB := n6_; clear n0_ n1_ n2_ n3_ n4_ n5_ n6_; (try clear hb); (try clear hb2); (try clear hk); (try clear hi); (try clear ho0)))
                  go_loopg [77] k (fun kq v77 w' => ∃ (x77_1 : Int), v77 = .int .i64 x77_1 ∧ Aside0 (glossatorkeep3_WordindexFind.l0 kq a2 y162 t158 t163 t164 t167 (t147.length : Int) x77_1 = some r) ∧ Aside0 (kq ≤ k) ∧ Aside0 (Kd.R k35 35 w' w.heap.size (fun k_ => k_ ≠ gb157) (.slice (some ⟨go31, 0, none⟩) t147.length co36) y162) ∧ Aside0 (Kd.S k43 43 w' w.heap.size (fun k_ => some k_ ≠ (v165 : Value).ownBlock ∧ some k_ ≠ (v168 : Value).ownBlock) (.slice Ao50 t158.length co50) t158) ∧ Aside0 (Kd.S k43 43 w' w.heap.size (fun k_ => some k_ ≠ ((.slice Ao50 t158.length co50) : Value).ownBlock ∧ some k_ ≠ (v168 : Value).ownBlock) v165 t163) ∧ Aside0 (Kd.R Kd.string 9 w' w.heap.size (fun _ => True) v168 t167) ∧ Aside0 (w'.heap[gb157]? = some (.cells #[.string ((rd_T35 t147 t155).f0), .int .i64 0, .string (a1.extract 0 ((ji26) : Int).toNat)] 35 (0, 0))) ∧ Aside0 (Below w.heap.size w w'))
                  case atStart => exact ⟨(0), (by first | rfl | (simp; done) | (rw [bne_nil_isEmpty]; done) | (simp [*]; done)), H', ⟨Nat.le_refl _⟩, ⟨by (with_reducible repeat (first | apply Kd.R_alloc | apply Kd.R_drewN | apply Kd.R_drew)); exact HO149.out⟩, ⟨by (with_reducible repeat (first | apply Kd.S_alloc | apply Kd.S_drewN | apply Kd.S_drew)); exact Kd.S_mono HO160.out (fun _ hk => ⟨hk.1.2, hk.2⟩)⟩, ⟨by (with_reducible repeat (first | apply Kd.S_alloc | apply Kd.S_drewN | apply Kd.S_drew)); exact Kd.S_mono HO166.out (fun _ hk => ⟨hk.1.2, hk.2⟩)⟩, ⟨by (with_reducible repeat (first | apply Kd.R_alloc | apply Kd.R_drewN | apply Kd.R_drew)); exact HO169.out⟩, ⟨by (with_reducible repeat (first | refine blk_drewN ?_ _ | refine blk_drew ?_ | refine blk_alloc ?_ _)); exact BK157.out⟩, ⟨by repeat (first | (with_reducible first | exact HB.out | apply below_alloc | apply pw_below_drewN | apply below_drew1 | refine below_set ?_ GE157.out) | exact HB.out)⟩⟩
                  case round =>
                    clear H'
                    try clear c1
                    try clear p1
                    try clear q1
                    try clear hx1
                    try clear c2
                    try clear p2
                    try clear c3
                    try clear p3
                    try clear q3
                    try clear hx3
                    try clear c4
                    try clear hx4
                    try clear hf4
                    try clear c5
                    try clear c6
                    try clear c8
                    try clear c9
                    try clear c9b0
                    try clear c9b1
                    try clear c10
                    try clear c10b0
                    try clear c10b1
                    try clear c10b2
                    try clear c11
                    try clear c12
                    try clear p15
                    try clear q15
                    try clear hx15
                    try clear c24
                    try clear c24b0
                    try clear c25
                    try clear c25b0
                    try clear c27
                    try clear c27b0
                    try clear c27b1
                    try clear c28
                    try clear c28b0
                    try clear c28b1
                    try clear c30
                    try clear c30b0
                    try clear c30b1
                    try clear c31
                    try clear p31
                    try clear q31
                    try clear hx31
                    try clear hf31
                    try clear c47
                    try clear hx47
                    try clear hf47
                    try clear hcz43_0
                    try clear hcz43_1
                    try clear hcz43_2
                    try clear hcz46_0
                    try clear hcz46_1
                    try clear hcz46_2
                    try clear hfz43_0
                    try clear hfz43_1
                    try clear hfz43_2
                    try clear hfz46_0
                    try clear hfz46_1
                    try clear hfz46_2
                    try clear hx156_0
                    try clear hx156_1
                    try clear hx156_2
                    try clear hx31_0
                    try clear hx31_1
                    try clear hx31_2
                    try clear hx47_0
                    try clear hx47_1
                    try clear hx47_2
                    try clear p156
                    try clear p31
                    try clear q156
                    try clear q31
                    obtain ⟨x77_1, rfl, HA, HK1, HO_9, HO_13, HO_15, HO_17, BK157, HB⟩ := hrel
                    have hl9_1 := (Kd.R_reads' HO_9.out).1
                    rw [hl9_1] at HO_9
                    (try simp only [hl9_1])
                    (try simp only [hl9_1] at BK157)
                    (try simp only [hl9_1] at HO_13)
                    (try simp only [hl9_1] at HO_15)
                    (try simp only [hl9_1] at HO_17)
                    cases gk with
                    | zero => exact absurd HA.out (by simp [glossatorkeep3_WordindexFind.l0])
                    | succ k1 =>
                      have H := HA.out
                      clear HA
                      simp only [glossatorkeep3_WordindexFind.l0] at H
                      by_cases c52 : x77_1 < (t147.length : Int)
                      · rw [if_pos c52] at H
                        have c52b0 : decide (x77_1 < (t147.length : Int)) = true := decide_eq_true c52
                        clear c52
                        by_cases c53 : 0 ≤ x77_1
                        · rw [if_pos c53] at H
                          have c53b0 : decide (0 ≤ x77_1) = true := decide_eq_true c53
                          clear c53
                          by_cases c54 : x77_1 < (y162.length : Int)
                          · rw [if_pos c54] at H
                            have c54b0 : decide (x77_1 < (y162.length : Int)) = true := decide_eq_true c54
                            clear c54
                            replace H := Option.bind_eq_some_iff.mp H
                            obtain ⟨t171, A550, H⟩ := H
                            replace H : ((wordindex_Words.f ((rd_T35 y162 x77_1).f2)).bind fun t173 => ((glossatorref3_Contains_string.f k1 t173 a2).bind fun t176 => (if (t171 != t176) = true then (some false) else (glossatorkeep3_WordindexFind.l0 k1 a2 y162 t158 t163 t164 t167 (t147.length : Int) (wrap64 (x77_1 + 1)))))) = some r := H
                            have A55 := Aside0.mk A550
                            clear A550
                            replace H := Option.bind_eq_some_iff.mp H
                            obtain ⟨t173, A560, H⟩ := H
                            replace H : ((glossatorref3_Contains_string.f k1 t173 a2).bind fun t176 => (if (t171 != t176) = true then (some false) else (glossatorkeep3_WordindexFind.l0 k1 a2 y162 t158 t163 t164 t167 (t147.length : Int) (wrap64 (x77_1 + 1))))) = some r := H
                            have A56 := Aside0.mk A560
                            clear A560
                            replace H := Option.bind_eq_some_iff.mp H
                            obtain ⟨t176, A570, H⟩ := H
                            replace H : (if (t171 != t176) = true then (some false) else (glossatorkeep3_WordindexFind.l0 k1 a2 y162 t158 t163 t164 t167 (t147.length : Int) (wrap64 (x77_1 + 1)))) = some r := H
                            have A57 := Aside0.mk A570
                            clear A570
                            by_cases c58 : (t171 != t176) = true
                            · rw [if_pos c58] at H
                              have c58b0 : (t171 != t176) = true := c58
                              (try (have c58b1 : decide (t171 = t176) = false := by simpa using c58))
                              (try (have c58b2 : (t171 == t176) = false := by simpa using c58))
                              (try (have c58b3 : ¬ (t171 = t176) := by simpa using c58))
                              clear c58
                              obtain rfl := Option.some.inj H
                              try go_wp2
                              have n0_ := Aside0.mk (Kd.R_drew HO_9.out)
                              have n1_ := Aside0.mk (Kd.S_drew HO_13.out)
                              have n2_ := Aside0.mk (Kd.S_drew HO_15.out)
                              have n3_ := Aside0.mk (Kd.R_drew HO_17.out)
                              have n4_ := Aside0.mk (blk_drew BK157.out)
                              have n5_ := Aside0.mk (below_drew1 HB.out)
                              clear HO_9
                              clear HO_13
                              clear HO_15
                              clear HO_17
                              clear BK157
                              clear HB
                              have HO_9 := n0_
                              have HO_13 := n1_
                              have HO_15 := n2_
                              have HO_17 := n3_
                              have BK157 := n4_
                              have HB := n5_
                              clear n0_ n1_ n2_ n3_ n4_ n5_
                              have p170 : 0 ≤ (x77_1 : Int) := of_decide_eq_true (by first | (with_reducible assumption) | assumption)
                              have q170 : x77_1 < (y162.length : Int) := of_decide_eq_true (by first | (with_reducible assumption) | assumption)
                              obtain ⟨ad170, e170, hx170_0, hx170_1, hx170_2⟩ := at_T35 (Kd.R_reads' HO_9.out).2.2 x77_1 p170 q170
                              obtain rfl : (⟨go31, 0, none⟩ : Addr) = ad170 := (by injection e170)
                              (first | simp only [add_plain] at hx170_0 | simp only [add_at] at hx170_0 | simp only [Addr.add, Nat.zero_add] at hx170_0 | skip)
                              (first | simp only [add_plain] at hx170_1 | simp only [add_at] at hx170_1 | simp only [Addr.add, Nat.zero_add] at hx170_1 | skip)
                              (first | simp only [add_plain] at hx170_2 | simp only [add_at] at hx170_2 | simp only [Addr.add, Nat.zero_add] at hx170_2 | skip)
                              replace p170 := eq_true p170
                              replace q170 := eq_true q170
                              have p172 : 0 ≤ (x77_1 : Int) := of_decide_eq_true (by first | (with_reducible assumption) | assumption)
                              have q172 : x77_1 < (y162.length : Int) := of_decide_eq_true (by first | (with_reducible assumption) | assumption)
                              obtain ⟨ad172, e172, hx172_0, hx172_1, hx172_2⟩ := at_T35 (Kd.R_reads' HO_9.out).2.2 x77_1 p172 q172
                              obtain rfl : (⟨go31, 0, none⟩ : Addr) = ad172 := (by injection e172)
                              (first | simp only [add_plain] at hx172_0 | simp only [add_at] at hx172_0 | simp only [Addr.add, Nat.zero_add] at hx172_0 | skip)
                              (first | simp only [add_plain] at hx172_1 | simp only [add_at] at hx172_1 | simp only [Addr.add, Nat.zero_add] at hx172_1 | skip)
                              (first | simp only [add_plain] at hx172_2 | simp only [add_at] at hx172_2 | simp only [Addr.add, Nat.zero_add] at hx172_2 | skip)
                              replace p172 := eq_true p172
                              replace q172 := eq_true q172
                              obtain ⟨Ao60, co60, eo60⟩ := Kd.R_slice HO_17.out
                              (first | subst eo60 | (injection eo60 with f1_ f2_ f3_; have f4_ := f1_.symm; have f5_ := f3_.symm; clear f1_ f2_ f3_; subst f4_; subst f5_))
                              refine start_ (n := 16) (S := fun w' => w'.cell? ⟨go31, (x77_1).toNat * 3, none⟩ = some (.string ((rd_T35 y162 x77_1).f0)) ∧ w'.cell? ⟨go31, (x77_1).toNat * 3 + 1, none⟩ = some (.int .i64 ((rd_T35 y162 x77_1).f1)) ∧ w'.cell? ⟨go31, (x77_1).toNat * 3 + 2, none⟩ = some (.string ((rd_T35 y162 x77_1).f2)) ∧ w'.cell? ⟨go31, (x77_1).toNat * 3, none⟩ = some (.string ((rd_T35 y162 x77_1).f0)) ∧ w'.cell? ⟨go31, (x77_1).toNat * 3 + 1, none⟩ = some (.int .i64 ((rd_T35 y162 x77_1).f1)) ∧ w'.cell? ⟨go31, (x77_1).toNat * 3 + 2, none⟩ = some (.string ((rd_T35 y162 x77_1).f2))) (ds := []) #[false, false, false, false, false, false, false, false, false, false, false, false, false, false, false, false] (by kernel_rfl) rfl rfl ⟨hx170_0, hx170_1, hx170_2, hx172_0, hx172_1, hx172_2⟩ (fun hHeld => ?_); refine with_tabW glossatorkeep3_WordindexFind.tab18 glossatorkeep3_WordindexFind.bits18 (fun HT_ HW_ => ?_)
                              generalize wr.drew = w59 at HO_9 HO_13 HO_15 HO_17 BK157 HB hx170_0 hx170_1 hx170_2 hx172_0 hx172_1 hx172_2 hHeld ⊢
                              refine pure_ (i := 0) (N := some 80) (v := ?_) (a' := ?_) #[true, false, false, false, false, false, false, false, false, false, false, false, false, false, false, false] rfl rfl (any_of HT_.out (by kernel_rfl)) (fun _ _ _ h => h) (Or.inl ⟨by rfl, ?_⟩) ?_ ?_
                              rotate_left
                              · intro w'
                                go_simp
                                with_reducible rfl
                              rotate_left
                              · simp only [Act.put, List.setIfInBounds_toArray, List.set_cons_zero, List.set_cons_succ, i64_w, i32_w]
                                rfl
                              refine pure_ (i := 1) (N := some 81) (v := ?_) (a' := ?_) #[true, true, false, false, false, false, false, false, false, false, false, false, false, false, false, false] rfl rfl (any_of HT_.out (by kernel_rfl)) (fun _ _ _ h => h) (Or.inl ⟨by rfl, ?_⟩) ?_ ?_
                              rotate_left
                              · intro w'
                                go_simp
                                with_reducible rfl
                              rotate_left
                              · simp only [Act.put, List.setIfInBounds_toArray, List.set_cons_zero, List.set_cons_succ, i64_w, i32_w]
                                rfl
                              refine pure_ (i := 2) (N := some 82) (v := ?_) (a' := ?_) #[true, true, true, false, false, false, false, false, false, false, false, false, false, false, false, false] rfl rfl (any_of HT_.out (by kernel_rfl)) (fun _ _ _ h => h) (Or.inl ⟨by rfl, ?_⟩) ?_ ?_
                              rotate_left
                              · intro w'
                                go_simp
                                with_reducible rfl
                              rotate_left
                              · simp only [Act.put, List.setIfInBounds_toArray, List.set_cons_zero, List.set_cons_succ, i64_w, i32_w]
                                rfl
                              refine pure_ (i := 3) (N := some 83) (v := ?_) (a' := ?_) #[true, true, true, true, false, false, false, false, false, false, false, false, false, false, false, false] rfl rfl (any_of HT_.out (by kernel_rfl)) (fun _ _ _ h => h) (Or.inl ⟨by rfl, ?_⟩) ?_ ?_
                              rotate_left
                              · intro w'
                                go_simp
                                with_reducible rfl
                              rotate_left
                              · simp only [Act.put, List.setIfInBounds_toArray, List.set_cons_zero, List.set_cons_succ, i64_w, i32_w]
                                rfl
                              refine pure_ (i := 4) (N := some 84) (v := ?_) (a' := ?_) #[true, true, true, true, true, false, false, false, false, false, false, false, false, false, false, false] rfl rfl (any_of HT_.out (by kernel_rfl)) (fun _ _ _ h => h) (Or.inl ⟨by rfl, ?_⟩) ?_ ?_
                              rotate_left
                              · intro w'
                                go_simp
                                with_reducible rfl
                              rotate_left
                              · simp only [Act.put, List.setIfInBounds_toArray, List.set_cons_zero, List.set_cons_succ, i64_w, i32_w]
                                rfl
                              refine pure_ (i := 7) (N := some 87) (v := ?_) (a' := ?_) #[true, true, true, true, true, false, false, true, false, false, false, false, false, false, false, false] rfl rfl (any_of HT_.out (by kernel_rfl)) (fun _ _ _ h => h) (Or.inl ⟨by rfl, ?_⟩) ?_ ?_
                              rotate_left
                              · intro w'
                                go_simp
                                with_reducible rfl
                              rotate_left
                              · simp only [Act.put, List.setIfInBounds_toArray, List.set_cons_zero, List.set_cons_succ, i64_w, i32_w]
                                rfl
                              refine pure_ (i := 8) (N := some 88) (v := ?_) (a' := ?_) #[true, true, true, true, true, false, false, true, true, false, false, false, false, false, false, false] rfl rfl (any_of HT_.out (by kernel_rfl)) (fun _ _ _ h => h) (Or.inl ⟨by rfl, ?_⟩) ?_ ?_
                              rotate_left
                              · intro w'
                                go_simp
                                with_reducible rfl
                              rotate_left
                              · simp only [Act.put, List.setIfInBounds_toArray, List.set_cons_zero, List.set_cons_succ, i64_w, i32_w]
                                rfl
                              refine pure_ (i := 9) (N := some 89) (v := ?_) (a' := ?_) #[true, true, true, true, true, false, false, true, true, true, false, false, false, false, false, false] rfl rfl (any_of HT_.out (by kernel_rfl)) (fun _ _ _ h => h) (Or.inl ⟨by rfl, ?_⟩) ?_ ?_
                              rotate_left
                              · intro w'
                                go_simp
                                with_reducible rfl
                              rotate_left
                              · simp only [Act.put, List.setIfInBounds_toArray, List.set_cons_zero, List.set_cons_succ, i64_w, i32_w]
                                rfl
                              refine pure_ (i := 10) (N := some 90) (v := ?_) (a' := ?_) #[true, true, true, true, true, false, false, true, true, true, true, false, false, false, false, false] rfl rfl (any_of HT_.out (by kernel_rfl)) (fun _ _ _ h => h) (Or.inl ⟨by rfl, ?_⟩) ?_ ?_
                              rotate_left
                              · intro w'
                                go_simp
                                with_reducible rfl
                              rotate_left
                              · simp only [Act.put, List.setIfInBounds_toArray, List.set_cons_zero, List.set_cons_succ, i64_w, i32_w]
                                rfl
                              refine pure_ (i := 13) (N := some 93) (v := ?_) (a' := ?_) #[true, true, true, true, true, false, false, true, true, true, true, false, false, true, false, false] rfl rfl (any_of HT_.out (by kernel_rfl)) (fun _ _ _ h => h) (Or.inl ⟨by rfl, ?_⟩) ?_ ?_
                              rotate_left
                              · intro w'
                                go_simp
                                with_reducible rfl
                              rotate_left
                              · simp only [Act.put, List.setIfInBounds_toArray, List.set_cons_zero, List.set_cons_succ, i64_w, i32_w]
                                rfl
                              refine take_ (i := 5) (N := some 85) (v := ?_) (a' := ?_) #[true, true, true, true, true, true, false, true, true, true, true, false, false, true, false, false] rfl rfl (take_ofW HT_.out HW_.out (by kernel_rfl)) (fun _ _ _ h => h) (Or.inl ⟨by rfl, ?_⟩) hHeld ?_ ?_
                              rotate_left
                              · rintro w' ⟨s0, s1, s2, s3, s4, s5⟩
                                go_simp
                                with_reducible rfl
                              rotate_left
                              · simp only [Act.put, List.setIfInBounds_toArray, List.set_cons_zero, List.set_cons_succ, i64_w, i32_w]
                                rfl
                              refine take_ (i := 11) (N := some 91) (v := ?_) (a' := ?_) #[true, true, true, true, true, true, false, true, true, true, true, true, false, true, false, false] rfl rfl (take_ofW HT_.out HW_.out (by kernel_rfl)) (fun _ _ _ h => h) (Or.inl ⟨by rfl, ?_⟩) hHeld ?_ ?_
                              rotate_left
                              · rintro w' ⟨s0, s1, s2, s3, s4, s5⟩
                                go_simp
                                with_reducible rfl
                              rotate_left
                              · simp only [Act.put, List.setIfInBounds_toArray, List.set_cons_zero, List.set_cons_succ, i64_w, i32_w]
                                rfl
                              refine one_ (i := 6) (N := some 86) #[true, true, true, true, true, true, true, true, true, true, true, true, false, true, false, false] rfl rfl (one_of HT_.out (by kernel_rfl)) (by decide) (fun K hK => ?_)
                              refine goes_ Try.func7 (by kernel_rfl) rfl #[.slice Ao60 t167.length co60, .string ((rd_T35 y162 x77_1).f0)] (by rfl) rfl rfl (by (try simp only [List.map_toArray, List.map_cons, List.map_nil]); first | done | rfl | (simp only [List.length_drop, List.length_take]; rfl)) ?_
                              with_reducible refine (glossatorref3_Contains_string.calls k1 _ _ t167 ((rd_T35 y162 x77_1).f0) t171 _ ?side1 ?side2 A55.out).mono ?_
                              (case side1 => repeat (first | exact (Kd.R_reads' HO_17.out).2.2 | (with_reducible refine Kd.C_alloc ?_ _) | (with_reducible refine Kd.C_drewN ?_ _) | (with_reducible refine Kd.C_drew ?_)))
                              (case side2 => exact (Kd.R_reads' HO_17.out).2.1)
                              rintro e w' ⟨rfl, ⟨nd, rfl⟩⟩
                              refine ⟨_, rfl, ?_⟩
                              refine hK.out _ _ ⟨hHeld.1, hHeld.2.1, hHeld.2.2.1, hHeld.2.2.2.1, hHeld.2.2.2.2.1, hHeld.2.2.2.2.2⟩ (fun hHeld => ?_)
                              clear hK K
                              refine norm_ (a' := ?_) ?_ ?_
                              rotate_left
                              · show Act.put _ (some 86) _ = _
                                simp only [Act.put, List.setIfInBounds_toArray, List.set_cons_zero, List.set_cons_succ, i64_w, i32_w]
                                rfl
                              refine one_ (i := 12) (N := some 92) #[true, true, true, true, true, true, true, true, true, true, true, true, true, true, false, false] rfl rfl (one_of HT_.out (by kernel_rfl)) (by decide) (fun K hK => ?_)
                              refine goes_ Try.func6 (by kernel_rfl) rfl #[.string ((rd_T35 y162 x77_1).f2)] (by rfl) rfl rfl (by (try simp only [List.map_toArray, List.map_cons, List.map_nil]); first | done | rfl | (simp only [List.length_drop, List.length_take]; rfl)) ?_
                              with_reducible refine (wordindex_Words.calls ((rd_T35 y162 x77_1).f2) t173 _ A56.out).mono ?_
                              rintro e w61 ⟨v174, rfl, ho0, hb⟩
                              have HS0_ := (hb.cell (World.block_lt_of_cell? _ _ (hHeld.1))).trans (hHeld.1)
                              have HS1_ := (hb.cell (World.block_lt_of_cell? _ _ (hHeld.2.1))).trans (hHeld.2.1)
                              have HS2_ := (hb.cell (World.block_lt_of_cell? _ _ (hHeld.2.2.1))).trans (hHeld.2.2.1)
                              have HS3_ := (hb.cell (World.block_lt_of_cell? _ _ (hHeld.2.2.2.1))).trans (hHeld.2.2.2.1)
                              have HS4_ := (hb.cell (World.block_lt_of_cell? _ _ (hHeld.2.2.2.2.1))).trans (hHeld.2.2.2.2.1)
                              have HS5_ := (hb.cell (World.block_lt_of_cell? _ _ (hHeld.2.2.2.2.2))).trans (hHeld.2.2.2.2.2)
                              refine ⟨_, rfl, ?_⟩
                              have n0_ := Aside0.mk (Kd.R_below (by (with_reducible repeat (first | apply Kd.R_alloc | apply Kd.R_drewN | apply Kd.R_drew)); exact HO_9.out) hb)
                              have n1_ := Aside0.mk (Kd.S_elder' (by (with_reducible repeat (first | apply Kd.S_alloc | apply Kd.S_drewN | apply Kd.S_drew)); exact HO_13.out) (Kd.R_base ho0) hb)
                              have n2_ := Aside0.mk (Kd.S_elder' (by (with_reducible repeat (first | apply Kd.S_alloc | apply Kd.S_drewN | apply Kd.S_drew)); exact HO_15.out) (Kd.R_base ho0) hb)
                              have n3_ := Aside0.mk (Kd.R_elder' (by (with_reducible repeat (first | apply Kd.R_alloc | apply Kd.R_drewN | apply Kd.R_drew)); exact HO_17.out) (Kd.R_base ho0) hb)
                              have n4_ := Aside0.mk (Kd.R_lower (Kd.R_new' ho0 (Kd.R_lt (by (with_reducible repeat (first | apply Kd.R_alloc | apply Kd.R_drewN | apply Kd.R_drew)); exact HO_17.out))) (below_size (by repeat (first | (with_reducible first | exact HB.out | apply below_alloc | apply pw_below_drewN | apply below_drew1 | refine below_set ?_ GE157.out) | exact HB.out))))
                              have n5_ := Aside0.mk (blk_below (g := gb157) (o := .cells #[.string ((rd_T35 t147 t155).f0), .int .i64 0, .string (a1.extract 0 ((ji26) : Int).toNat)] 35 (0, 0)) (by (with_reducible repeat (first | refine blk_drewN ?_ _ | refine blk_drew ?_ | refine blk_alloc ?_ _)); exact BK157.out) hb)
                              have n6_ := Aside0.mk (below_step (by repeat (first | (with_reducible first | exact HB.out | apply below_alloc | apply pw_below_drewN | apply below_drew1 | refine below_set ?_ GE157.out) | exact HB.out)) hb)
                              clear HO_9
                              clear HO_13
                              clear HO_15
                              clear HO_17
                              clear BK157
                              clear HB
                              have HO_9 := n0_
                              have HO_13 := n1_
                              have HO_15 := n2_
                              have HO_17 := n3_
                              have HO175 := n4_
                              have BK157 := n5_
                              have HB := n6_
                              clear n0_ n1_ n2_ n3_ n4_ n5_ n6_
                              (try clear hb)
                              (try clear hb2)
                              (try clear hk)
                              (try clear hi)
                              (try clear ho0)
                              obtain ⟨Ao62, co62, eo62⟩ := Kd.R_slice HO175.out
                              (first | subst eo62 | (injection eo62 with f1_ f2_ f3_; have f4_ := f1_.symm; have f5_ := f3_.symm; clear f1_ f2_ f3_; subst f4_; subst f5_))
                              refine hK.out _ _ ⟨HS0_, HS1_, HS2_, HS3_, HS4_, HS5_⟩ (fun hHeld => ?_)
                              clear hK K
                              refine norm_ (a' := ?_) ?_ ?_
                              rotate_left
                              · show Act.put _ (some 92) _ = _
                                simp only [Act.put, List.setIfInBounds_toArray, List.set_cons_zero, List.set_cons_succ, i64_w, i32_w]
                                rfl
                              refine one_ (i := 14) (N := some 94) #[true, true, true, true, true, true, true, true, true, true, true, true, true, true, true, false] rfl rfl (one_of HT_.out (by kernel_rfl)) (by decide) (fun K hK => ?_)
                              refine goes_ Try.func7 (by kernel_rfl) rfl #[.slice Ao62 t173.length co62, .string a2] (by rfl) rfl rfl (by (try simp only [List.map_toArray, List.map_cons, List.map_nil]); first | done | rfl | (simp only [List.length_drop, List.length_take]; rfl)) ?_
                              with_reducible refine (glossatorref3_Contains_string.calls k1 _ _ t173 a2 t176 _ ?side1 ?side2 A57.out).mono ?_
                              (case side1 => repeat (first | exact (Kd.R_reads' HO175.out).2.2 | (with_reducible refine Kd.C_alloc ?_ _) | (with_reducible refine Kd.C_drewN ?_ _) | (with_reducible refine Kd.C_drew ?_)))
                              (case side2 => exact (Kd.R_reads' HO175.out).2.1)
                              rintro e w' ⟨rfl, ⟨nd, rfl⟩⟩
                              refine ⟨_, rfl, ?_⟩
                              refine hK.out _ _ ⟨hHeld.1, hHeld.2.1, hHeld.2.2.1, hHeld.2.2.2.1, hHeld.2.2.2.2.1, hHeld.2.2.2.2.2⟩ (fun hHeld => ?_)
                              clear hK K
                              refine norm_ (a' := ?_) ?_ ?_
                              rotate_left
                              · show Act.put _ (some 94) _ = _
                                simp only [Act.put, List.setIfInBounds_toArray, List.set_cons_zero, List.set_cons_succ, i64_w, i32_w]
                                rfl
                              refine pure_ (i := 15) (N := some 95) (v := ?_) (a' := ?_) #[true, true, true, true, true, true, true, true, true, true, true, true, true, true, true, true] rfl rfl (any_of HT_.out (by kernel_rfl)) (fun _ _ _ h => h) (Or.inl ⟨by rfl, ?_⟩) ?_ ?_
                              rotate_left
                              · intro w'
                                go_simp
                                with_reducible rfl
                              rotate_left
                              · simp only [Act.put, List.setIfInBounds_toArray, List.set_cons_zero, List.set_cons_succ, i64_w, i32_w]
                                rfl
                              refine done_ (done_of HT_.out (by kernel_rfl)) ?_
                              try go_wp2
                              go_ret
                              exact ⟨by first | rfl | (simp [errW_none, errW_some] <;> rfl) | (simp only [← hji26]; first | rfl | (simp [errW_none, errW_some] <;> rfl)) | (simp [*, errW_none, errW_some] <;> rfl), by repeat (first | (with_reducible first | exact HB.out | apply below_alloc | apply pw_below_drewN | apply below_drew1 | refine below_set ?_ GE157.out) | exact HB.out)⟩
                            · rw [if_neg c58] at H
                              have c58b0 : (t171 != t176) = false := by simpa using c58
                              (try (have c58b1 : decide (t171 = t176) = true := by simpa using c58))
                              (try (have c58b2 : (t171 == t176) = true := by simpa using c58))
                              clear c58
                              have H' := Aside0.mk H
                              clear H
                              try go_wp2
                              have n0_ := Aside0.mk (Kd.R_drew HO_9.out)
                              have n1_ := Aside0.mk (Kd.S_drew HO_13.out)
                              have n2_ := Aside0.mk (Kd.S_drew HO_15.out)
                              have n3_ := Aside0.mk (Kd.R_drew HO_17.out)
                              have n4_ := Aside0.mk (blk_drew BK157.out)
                              have n5_ := Aside0.mk (below_drew1 HB.out)
                              clear HO_9
                              clear HO_13
                              clear HO_15
                              clear HO_17
                              clear BK157
                              clear HB
                              have HO_9 := n0_
                              have HO_13 := n1_
                              have HO_15 := n2_
                              have HO_17 := n3_
                              have BK157 := n4_
                              have HB := n5_
                              clear n0_ n1_ n2_ n3_ n4_ n5_
                              have p170 : 0 ≤ (x77_1 : Int) := of_decide_eq_true (by first | (with_reducible assumption) | assumption)
                              have q170 : x77_1 < (y162.length : Int) := of_decide_eq_true (by first | (with_reducible assumption) | assumption)
                              obtain ⟨ad170, e170, hx170_0, hx170_1, hx170_2⟩ := at_T35 (Kd.R_reads' HO_9.out).2.2 x77_1 p170 q170
                              obtain rfl : (⟨go31, 0, none⟩ : Addr) = ad170 := (by injection e170)
                              (first | simp only [add_plain] at hx170_0 | simp only [add_at] at hx170_0 | simp only [Addr.add, Nat.zero_add] at hx170_0 | skip)
                              (first | simp only [add_plain] at hx170_1 | simp only [add_at] at hx170_1 | simp only [Addr.add, Nat.zero_add] at hx170_1 | skip)
                              (first | simp only [add_plain] at hx170_2 | simp only [add_at] at hx170_2 | simp only [Addr.add, Nat.zero_add] at hx170_2 | skip)
                              replace p170 := eq_true p170
                              replace q170 := eq_true q170
                              have p172 : 0 ≤ (x77_1 : Int) := of_decide_eq_true (by first | (with_reducible assumption) | assumption)
                              have q172 : x77_1 < (y162.length : Int) := of_decide_eq_true (by first | (with_reducible assumption) | assumption)
                              obtain ⟨ad172, e172, hx172_0, hx172_1, hx172_2⟩ := at_T35 (Kd.R_reads' HO_9.out).2.2 x77_1 p172 q172
                              obtain rfl : (⟨go31, 0, none⟩ : Addr) = ad172 := (by injection e172)
                              (first | simp only [add_plain] at hx172_0 | simp only [add_at] at hx172_0 | simp only [Addr.add, Nat.zero_add] at hx172_0 | skip)
                              (first | simp only [add_plain] at hx172_1 | simp only [add_at] at hx172_1 | simp only [Addr.add, Nat.zero_add] at hx172_1 | skip)
                              (first | simp only [add_plain] at hx172_2 | simp only [add_at] at hx172_2 | simp only [Addr.add, Nat.zero_add] at hx172_2 | skip)
                              replace p172 := eq_true p172
                              replace q172 := eq_true q172
                              obtain ⟨Ao64, co64, eo64⟩ := Kd.R_slice HO_17.out
                              (first | subst eo64 | (injection eo64 with f1_ f2_ f3_; have f4_ := f1_.symm; have f5_ := f3_.symm; clear f1_ f2_ f3_; subst f4_; subst f5_))
                              refine start_ (n := 16) (S := fun w' => w'.cell? ⟨go31, (x77_1).toNat * 3, none⟩ = some (.string ((rd_T35 y162 x77_1).f0)) ∧ w'.cell? ⟨go31, (x77_1).toNat * 3 + 1, none⟩ = some (.int .i64 ((rd_T35 y162 x77_1).f1)) ∧ w'.cell? ⟨go31, (x77_1).toNat * 3 + 2, none⟩ = some (.string ((rd_T35 y162 x77_1).f2)) ∧ w'.cell? ⟨go31, (x77_1).toNat * 3, none⟩ = some (.string ((rd_T35 y162 x77_1).f0)) ∧ w'.cell? ⟨go31, (x77_1).toNat * 3 + 1, none⟩ = some (.int .i64 ((rd_T35 y162 x77_1).f1)) ∧ w'.cell? ⟨go31, (x77_1).toNat * 3 + 2, none⟩ = some (.string ((rd_T35 y162 x77_1).f2))) (ds := []) #[false, false, false, false, false, false, false, false, false, false, false, false, false, false, false, false] (by kernel_rfl) rfl rfl ⟨hx170_0, hx170_1, hx170_2, hx172_0, hx172_1, hx172_2⟩ (fun hHeld => ?_); refine with_tabW glossatorkeep3_WordindexFind.tab18 glossatorkeep3_WordindexFind.bits18 (fun HT_ HW_ => ?_)
                              generalize wr.drew = w63 at HO_9 HO_13 HO_15 HO_17 BK157 HB hx170_0 hx170_1 hx170_2 hx172_0 hx172_1 hx172_2 hHeld ⊢
                              refine pure_ (i := 0) (N := some 80) (v := ?_) (a' := ?_) #[true, false, false, false, false, false, false, false, false, false, false, false, false, false, false, false] rfl rfl (any_of HT_.out (by kernel_rfl)) (fun _ _ _ h => h) (Or.inl ⟨by rfl, ?_⟩) ?_ ?_
                              rotate_left
                              · intro w'
                                go_simp
                                with_reducible rfl
                              rotate_left
                              · simp only [Act.put, List.setIfInBounds_toArray, List.set_cons_zero, List.set_cons_succ, i64_w, i32_w]
                                rfl
                              refine pure_ (i := 1) (N := some 81) (v := ?_) (a' := ?_) #[true, true, false, false, false, false, false, false, false, false, false, false, false, false, false, false] rfl rfl (any_of HT_.out (by kernel_rfl)) (fun _ _ _ h => h) (Or.inl ⟨by rfl, ?_⟩) ?_ ?_
                              rotate_left
                              · intro w'
                                go_simp
                                with_reducible rfl
                              rotate_left
                              · simp only [Act.put, List.setIfInBounds_toArray, List.set_cons_zero, List.set_cons_succ, i64_w, i32_w]
                                rfl
                              refine pure_ (i := 2) (N := some 82) (v := ?_) (a' := ?_) #[true, true, true, false, false, false, false, false, false, false, false, false, false, false, false, false] rfl rfl (any_of HT_.out (by kernel_rfl)) (fun _ _ _ h => h) (Or.inl ⟨by rfl, ?_⟩) ?_ ?_
                              rotate_left
                              · intro w'
                                go_simp
                                with_reducible rfl
                              rotate_left
                              · simp only [Act.put, List.setIfInBounds_toArray, List.set_cons_zero, List.set_cons_succ, i64_w, i32_w]
                                rfl
                              refine pure_ (i := 3) (N := some 83) (v := ?_) (a' := ?_) #[true, true, true, true, false, false, false, false, false, false, false, false, false, false, false, false] rfl rfl (any_of HT_.out (by kernel_rfl)) (fun _ _ _ h => h) (Or.inl ⟨by rfl, ?_⟩) ?_ ?_
                              rotate_left
                              · intro w'
                                go_simp
                                with_reducible rfl
                              rotate_left
                              · simp only [Act.put, List.setIfInBounds_toArray, List.set_cons_zero, List.set_cons_succ, i64_w, i32_w]
                                rfl
                              refine pure_ (i := 4) (N := some 84) (v := ?_) (a' := ?_) #[true, true, true, true, true, false, false, false, false, false, false, false, false, false, false, false] rfl rfl (any_of HT_.out (by kernel_rfl)) (fun _ _ _ h => h) (Or.inl ⟨by rfl, ?_⟩) ?_ ?_
                              rotate_left
                              · intro w'
                                go_simp
                                with_reducible rfl
                              rotate_left
                              · simp only [Act.put, List.setIfInBounds_toArray, List.set_cons_zero, List.set_cons_succ, i64_w, i32_w]
                                rfl
                              refine pure_ (i := 7) (N := some 87) (v := ?_) (a' := ?_) #[true, true, true, true, true, false, false, true, false, false, false, false, false, false, false, false] rfl rfl (any_of HT_.out (by kernel_rfl)) (fun _ _ _ h => h) (Or.inl ⟨by rfl, ?_⟩) ?_ ?_
                              rotate_left
                              · intro w'
                                go_simp
                                with_reducible rfl
                              rotate_left
                              · simp only [Act.put, List.setIfInBounds_toArray, List.set_cons_zero, List.set_cons_succ, i64_w, i32_w]
                                rfl
                              refine pure_ (i := 8) (N := some 88) (v := ?_) (a' := ?_) #[true, true, true, true, true, false, false, true, true, false, false, false, false, false, false, false] rfl rfl (any_of HT_.out (by kernel_rfl)) (fun _ _ _ h => h) (Or.inl ⟨by rfl, ?_⟩) ?_ ?_
                              rotate_left
                              · intro w'
                                go_simp
                                with_reducible rfl
                              rotate_left
                              · simp only [Act.put, List.setIfInBounds_toArray, List.set_cons_zero, List.set_cons_succ, i64_w, i32_w]
                                rfl
                              refine pure_ (i := 9) (N := some 89) (v := ?_) (a' := ?_) #[true, true, true, true, true, false, false, true, true, true, false, false, false, false, false, false] rfl rfl (any_of HT_.out (by kernel_rfl)) (fun _ _ _ h => h) (Or.inl ⟨by rfl, ?_⟩) ?_ ?_
                              rotate_left
                              · intro w'
                                go_simp
                                with_reducible rfl
                              rotate_left
                              · simp only [Act.put, List.setIfInBounds_toArray, List.set_cons_zero, List.set_cons_succ, i64_w, i32_w]
                                rfl
                              refine pure_ (i := 10) (N := some 90) (v := ?_) (a' := ?_) #[true, true, true, true, true, false, false, true, true, true, true, false, false, false, false, false] rfl rfl (any_of HT_.out (by kernel_rfl)) (fun _ _ _ h => h) (Or.inl ⟨by rfl, ?_⟩) ?_ ?_
                              rotate_left
                              · intro w'
                                go_simp
                                with_reducible rfl
                              rotate_left
                              · simp only [Act.put, List.setIfInBounds_toArray, List.set_cons_zero, List.set_cons_succ, i64_w, i32_w]
                                rfl
                              refine pure_ (i := 13) (N := some 93) (v := ?_) (a' := ?_) #[true, true, true, true, true, false, false, true, true, true, true, false, false, true, false, false] rfl rfl (any_of HT_.out (by kernel_rfl)) (fun _ _ _ h => h) (Or.inl ⟨by rfl, ?_⟩) ?_ ?_
                              rotate_left
                              · intro w'
                                go_simp
                                with_reducible rfl
                              rotate_left
                              · simp only [Act.put, List.setIfInBounds_toArray, List.set_cons_zero, List.set_cons_succ, i64_w, i32_w]
                                rfl
                              refine take_ (i := 5) (N := some 85) (v := ?_) (a' := ?_) #[true, true, true, true, true, true, false, true, true, true, true, false, false, true, false, false] rfl rfl (take_ofW HT_.out HW_.out (by kernel_rfl)) (fun _ _ _ h => h) (Or.inl ⟨by rfl, ?_⟩) hHeld ?_ ?_
                              rotate_left
                              · rintro w' ⟨s0, s1, s2, s3, s4, s5⟩
                                go_simp
                                with_reducible rfl
                              rotate_left
                              · simp only [Act.put, List.setIfInBounds_toArray, List.set_cons_zero, List.set_cons_succ, i64_w, i32_w]
                                rfl
                              refine take_ (i := 11) (N := some 91) (v := ?_) (a' := ?_) #[true, true, true, true, true, true, false, true, true, true, true, true, false, true, false, false] rfl rfl (take_ofW HT_.out HW_.out (by kernel_rfl)) (fun _ _ _ h => h) (Or.inl ⟨by rfl, ?_⟩) hHeld ?_ ?_
                              rotate_left
                              · rintro w' ⟨s0, s1, s2, s3, s4, s5⟩
                                go_simp
                                with_reducible rfl
                              rotate_left
                              · simp only [Act.put, List.setIfInBounds_toArray, List.set_cons_zero, List.set_cons_succ, i64_w, i32_w]
                                rfl
                              refine one_ (i := 6) (N := some 86) #[true, true, true, true, true, true, true, true, true, true, true, true, false, true, false, false] rfl rfl (one_of HT_.out (by kernel_rfl)) (by decide) (fun K hK => ?_)
                              refine goes_ Try.func7 (by kernel_rfl) rfl #[.slice Ao64 t167.length co64, .string ((rd_T35 y162 x77_1).f0)] (by rfl) rfl rfl (by (try simp only [List.map_toArray, List.map_cons, List.map_nil]); first | done | rfl | (simp only [List.length_drop, List.length_take]; rfl)) ?_
                              with_reducible refine (glossatorref3_Contains_string.calls k1 _ _ t167 ((rd_T35 y162 x77_1).f0) t171 _ ?side1 ?side2 A55.out).mono ?_
                              (case side1 => repeat (first | exact (Kd.R_reads' HO_17.out).2.2 | (with_reducible refine Kd.C_alloc ?_ _) | (with_reducible refine Kd.C_drewN ?_ _) | (with_reducible refine Kd.C_drew ?_)))
                              (case side2 => exact (Kd.R_reads' HO_17.out).2.1)
                              rintro e w' ⟨rfl, ⟨nd, rfl⟩⟩
                              refine ⟨_, rfl, ?_⟩
                              refine hK.out _ _ ⟨hHeld.1, hHeld.2.1, hHeld.2.2.1, hHeld.2.2.2.1, hHeld.2.2.2.2.1, hHeld.2.2.2.2.2⟩ (fun hHeld => ?_)
                              clear hK K
                              refine norm_ (a' := ?_) ?_ ?_
                              rotate_left
                              · show Act.put _ (some 86) _ = _
                                simp only [Act.put, List.setIfInBounds_toArray, List.set_cons_zero, List.set_cons_succ, i64_w, i32_w]
                                rfl
                              refine one_ (i := 12) (N := some 92) #[true, true, true, true, true, true, true, true, true, true, true, true, true, true, false, false] rfl rfl (one_of HT_.out (by kernel_rfl)) (by decide) (fun K hK => ?_)
                              refine goes_ Try.func6 (by kernel_rfl) rfl #[.string ((rd_T35 y162 x77_1).f2)] (by rfl) rfl rfl (by (try simp only [List.map_toArray, List.map_cons, List.map_nil]); first | done | rfl | (simp only [List.length_drop, List.length_take]; rfl)) ?_
                              with_reducible refine (wordindex_Words.calls ((rd_T35 y162 x77_1).f2) t173 _ A56.out).mono ?_
                              rintro e w65 ⟨v174, rfl, ho0, hb⟩
                              have HS0_ := (hb.cell (World.block_lt_of_cell? _ _ (hHeld.1))).trans (hHeld.1)
                              have HS1_ := (hb.cell (World.block_lt_of_cell? _ _ (hHeld.2.1))).trans (hHeld.2.1)
                              have HS2_ := (hb.cell (World.block_lt_of_cell? _ _ (hHeld.2.2.1))).trans (hHeld.2.2.1)
                              have HS3_ := (hb.cell (World.block_lt_of_cell? _ _ (hHeld.2.2.2.1))).trans (hHeld.2.2.2.1)
                              have HS4_ := (hb.cell (World.block_lt_of_cell? _ _ (hHeld.2.2.2.2.1))).trans (hHeld.2.2.2.2.1)
                              have HS5_ := (hb.cell (World.block_lt_of_cell? _ _ (hHeld.2.2.2.2.2))).trans (hHeld.2.2.2.2.2)
                              refine ⟨_, rfl, ?_⟩
                              have n0_ := Aside0.mk (Kd.R_below (by (with_reducible repeat (first | apply Kd.R_alloc | apply Kd.R_drewN | apply Kd.R_drew)); exact HO_9.out) hb)
                              have n1_ := Aside0.mk (Kd.S_elder' (by (with_reducible repeat (first | apply Kd.S_alloc | apply Kd.S_drewN | apply Kd.S_drew)); exact HO_13.out) (Kd.R_base ho0) hb)
                              have n2_ := Aside0.mk (Kd.S_elder' (by (with_reducible repeat (first | apply Kd.S_alloc | apply Kd.S_drewN | apply Kd.S_drew)); exact HO_15.out) (Kd.R_base ho0) hb)
                              have n3_ := Aside0.mk (Kd.R_elder' (by (with_reducible repeat (first | apply Kd.R_alloc | apply Kd.R_drewN | apply Kd.R_drew)); exact HO_17.out) (Kd.R_base ho0) hb)
                              have n4_ := Aside0.mk (Kd.R_lower (Kd.R_new' ho0 (Kd.R_lt (by (with_reducible repeat (first | apply Kd.R_alloc | apply Kd.R_drewN | apply Kd.R_drew)); exact HO_17.out))) (below_size (by repeat (first | (with_reducible first | exact HB.out | apply below_alloc | apply pw_below_drewN | apply below_drew1 | refine below_set ?_ GE157.out) | exact HB.out))))
                              have n5_ := Aside0.mk (blk_below (g := gb157) (o := .cells #[.string ((rd_T35 t147 t155).f0), .int .i64 0, .string (a1.extract 0 ((ji26) : Int).toNat)] 35 (0, 0)) (by (with_reducible repeat (first | refine blk_drewN ?_ _ | refine blk_drew ?_ | refine blk_alloc ?_ _)); exact BK157.out) hb)
                              have n6_ := Aside0.mk (below_step (by repeat (first | (with_reducible first | exact HB.out | apply below_alloc | apply pw_below_drewN | apply below_drew1 | refine below_set ?_ GE157.out) | exact HB.out)) hb)
                              clear HO_9
                              clear HO_13
                              clear HO_15
                              clear HO_17
                              clear BK157
                              clear HB
                              have HO_9 := n0_
                              have HO_13 := n1_
                              have HO_15 := n2_
                              have HO_17 := n3_
                              have HO175 := n4_
                              have BK157 := n5_
                              have HB := n6_
                              clear n0_ n1_ n2_ n3_ n4_ n5_ n6_
                              (try clear hb)
                              (try clear hb2)
                              (try clear hk)
                              (try clear hi)
                              (try clear ho0)
                              obtain ⟨Ao66, co66, eo66⟩ := Kd.R_slice HO175.out
                              (first | subst eo66 | (injection eo66 with f1_ f2_ f3_; have f4_ := f1_.symm; have f5_ := f3_.symm; clear f1_ f2_ f3_; subst f4_; subst f5_))
                              refine hK.out _ _ ⟨HS0_, HS1_, HS2_, HS3_, HS4_, HS5_⟩ (fun hHeld => ?_)
                              clear hK K
                              refine norm_ (a' := ?_) ?_ ?_
                              rotate_left
                              · show Act.put _ (some 92) _ = _
                                simp only [Act.put, List.setIfInBounds_toArray, List.set_cons_zero, List.set_cons_succ, i64_w, i32_w]
                                rfl
                              refine one_ (i := 14) (N := some 94) #[true, true, true, true, true, true, true, true, true, true, true, true, true, true, true, false] rfl rfl (one_of HT_.out (by kernel_rfl)) (by decide) (fun K hK => ?_)
                              refine goes_ Try.func7 (by kernel_rfl) rfl #[.slice Ao66 t173.length co66, .string a2] (by rfl) rfl rfl (by (try simp only [List.map_toArray, List.map_cons, List.map_nil]); first | done | rfl | (simp only [List.length_drop, List.length_take]; rfl)) ?_
                              with_reducible refine (glossatorref3_Contains_string.calls k1 _ _ t173 a2 t176 _ ?side1 ?side2 A57.out).mono ?_
                              (case side1 => repeat (first | exact (Kd.R_reads' HO175.out).2.2 | (with_reducible refine Kd.C_alloc ?_ _) | (with_reducible refine Kd.C_drewN ?_ _) | (with_reducible refine Kd.C_drew ?_)))
                              (case side2 => exact (Kd.R_reads' HO175.out).2.1)
                              rintro e w' ⟨rfl, ⟨nd, rfl⟩⟩
                              refine ⟨_, rfl, ?_⟩
                              refine hK.out _ _ ⟨hHeld.1, hHeld.2.1, hHeld.2.2.1, hHeld.2.2.2.1, hHeld.2.2.2.2.1, hHeld.2.2.2.2.2⟩ (fun hHeld => ?_)
                              clear hK K
                              refine norm_ (a' := ?_) ?_ ?_
                              rotate_left
                              · show Act.put _ (some 94) _ = _
                                simp only [Act.put, List.setIfInBounds_toArray, List.set_cons_zero, List.set_cons_succ, i64_w, i32_w]
                                rfl
                              refine pure_ (i := 15) (N := some 95) (v := ?_) (a' := ?_) #[true, true, true, true, true, true, true, true, true, true, true, true, true, true, true, true] rfl rfl (any_of HT_.out (by kernel_rfl)) (fun _ _ _ h => h) (Or.inl ⟨by rfl, ?_⟩) ?_ ?_
                              rotate_left
                              · intro w'
                                go_simp
                                with_reducible rfl
                              rotate_left
                              · simp only [Act.put, List.setIfInBounds_toArray, List.set_cons_zero, List.set_cons_succ, i64_w, i32_w]
                                rfl
                              refine done_ (done_of HT_.out (by kernel_rfl)) ?_
                              try go_wp2
                              (try simp only [← hl9_1])
                              go_roundg k1
                              case measure => have := HK1.out; omega
                              case rel => exact ⟨(wrap64 (x77_1 + 1)), (by first | rfl | (simp; done) | (rw [bne_nil_isEmpty]; done) | (simp [*]; done)), H', ⟨by have := HK1.out; omega⟩, ⟨by (try simp only [hl9_1]); (with_reducible repeat (first | apply Kd.R_alloc | apply Kd.R_drewN | apply Kd.R_drew)); exact HO_9.out⟩, ⟨by (try simp only [hl9_1]); (with_reducible repeat (first | apply Kd.S_alloc | apply Kd.S_drewN | apply Kd.S_drew)); exact Kd.S_mono HO_13.out (fun _ hk => ⟨hk.1.1, hk.1.2⟩)⟩, ⟨by (try simp only [hl9_1]); (with_reducible repeat (first | apply Kd.S_alloc | apply Kd.S_drewN | apply Kd.S_drew)); exact Kd.S_mono HO_15.out (fun _ hk => ⟨hk.1.1, hk.1.2⟩)⟩, ⟨by (try simp only [hl9_1]); (with_reducible repeat (first | apply Kd.R_alloc | apply Kd.R_drewN | apply Kd.R_drew)); exact Kd.R_mono HO_17.out (fun _ hk => trivial)⟩, ⟨by (try simp only [hl9_1]); (with_reducible repeat (first | refine blk_drewN ?_ _ | refine blk_drew ?_ | refine blk_alloc ?_ _)); exact BK157.out⟩, ⟨by repeat (first | (with_reducible first | exact HB.out | apply below_alloc | apply pw_below_drewN | apply below_drew1 | refine below_set ?_ GE157.out) | exact HB.out)⟩⟩
                          · rw [if_neg c54] at H
                            exact absurd H (by simp)
                        · rw [if_neg c53] at H
                          exact absurd H (by simp)
                      · rw [if_neg c52] at H
                        have c52b0 : decide (x77_1 < (t147.length : Int)) = false := decide_eq_false c52
                        (try simp only [hl9_1] at c52b0)
                        clear c52
                        replace H := Option.bind_eq_some_iff.mp H
                        obtain ⟨t177, A670, H⟩ := H
                        replace H : (if t177 = true then (if t164 = 0 then ((glossatorref3_EqualIndexes.f k1 t158 t163).bind fun t178 => (some t178)) else (some false)) else (some false)) = some r := H
                        have A67 := Aside0.mk A670
                        clear A670
                        by_cases c68 : t177 = true
                        · subst c68
                          have H1 : (if t164 = 0 then ((glossatorref3_EqualIndexes.f k1 t158 t163).bind fun t178 => (some t178)) else (some false)) = some r := by rw [if_pos rfl] at H; exact H
                          clear H
                          have H := H1
                          clear H1
                          by_cases c69 : t164 = 0
                          · rw [if_pos c69] at H
                            have c69b0 : (t164 == 0) = true := beq_iff_eq.mpr c69
                            have c69b1 : (t164 != 0) = false := bne_eq_false_iff_eq.mpr c69
                            clear c69
                            replace H := Option.bind_eq_some_iff.mp H
                            obtain ⟨t178, A700, H⟩ := H
                            replace H : (some t178) = some r := H
                            have A70 := Aside0.mk A700
                            clear A700
                            obtain rfl := Option.some.inj H
                            go_wp2_with (first | ((with_reducible refine gate_callee (f := 5) rfl ?_); refine goesL_ (some 97) rfl rfl Try.func5 (by kernel_rfl) rfl #[] rfl (by (try simp only [List.map_toArray, List.map_cons, List.map_nil]); first | done | rfl | (simp only [List.length_drop, List.length_take]; rfl)) ?_; (with_reducible refine (glossatorkeep3_indexExample.calls k1  true _ A67.out).mono ?_); rintro e w71 ⟨rfl, hb⟩; refine ⟨_, rfl, ?_⟩; have n0_ := Aside0.mk (Kd.R_below (by (with_reducible repeat (first | apply Kd.R_alloc | apply Kd.R_drewN | apply Kd.R_drew)); exact HO_9.out) hb); have n1_ := Aside0.mk (Kd.S_below (by (with_reducible repeat (first | apply Kd.S_alloc | apply Kd.S_drewN | apply Kd.S_drew)); exact HO_13.out) hb); have n2_ := Aside0.mk (Kd.S_below (by (with_reducible repeat (first | apply Kd.S_alloc | apply Kd.S_drewN | apply Kd.S_drew)); exact HO_15.out) hb); have n3_ := Aside0.mk (Kd.R_below (by (with_reducible repeat (first | apply Kd.R_alloc | apply Kd.R_drewN | apply Kd.R_drew)); exact HO_17.out) hb); have n4_ := Aside0.mk (blk_below (g := gb157) (o := .cells #[.string ((rd_T35 t147 t155).f0), .int .i64 0, .string (a1.extract 0 ((ji26) : Int).toNat)] 35 (0, 0)) (by (with_reducible repeat (first | refine blk_drewN ?_ _ | refine blk_drew ?_ | refine blk_alloc ?_ _)); exact BK157.out) hb); have n5_ := Aside0.mk (below_step (by repeat (first | (with_reducible first | exact HB.out | apply below_alloc | apply pw_below_drewN | apply below_drew1 | refine below_set ?_ GE157.out) | exact HB.out)) hb); clear HO_9; clear HO_13; clear HO_15; clear HO_17; clear BK157; clear HB; have HO_9 := n0_; have HO_13 := n1_; have HO_15 := n2_; have HO_17 := n3_; have BK157 := n4_; have HB := n5_; clear n0_ n1_ n2_ n3_ n4_ n5_; (try clear hb); (try clear hb2); (try clear hk); (try clear hi); obtain ⟨Ao72, co72, eo72⟩ := Kd.S_slice HO_15.out; subst eo72) | (go_at_call 13; (with_reducible refine (glossatorref3_EqualIndexes.calls k1 _ _ t158 _ _ t163 t178 _ ?side1 ?side2 ?side3 ?side4 A70.out).mono ?_); (case side1 => repeat (first | exact (Kd.S_reads' HO_13.out).2.2 | (with_reducible refine Kd.C_alloc ?_ _) | (with_reducible refine Kd.C_drewN ?_ _) | (with_reducible refine Kd.C_drew ?_))); (case side2 => exact (Kd.S_reads' HO_13.out).2.1); (case side3 => repeat (first | exact (Kd.S_reads' HO_15.out).2.2 | (with_reducible refine Kd.C_alloc ?_ _) | (with_reducible refine Kd.C_drewN ?_ _) | (with_reducible refine Kd.C_drew ?_))); (case side4 => exact (Kd.S_reads' HO_15.out).2.1); rintro e w73 ⟨rfl, hb⟩; have n0_ := Aside0.mk (Kd.R_below (by (with_reducible repeat (first | apply Kd.R_alloc | apply Kd.R_drewN | apply Kd.R_drew)); exact HO_9.out) hb); have n1_ := Aside0.mk (Kd.S_below (by (with_reducible repeat (first | apply Kd.S_alloc | apply Kd.S_drewN | apply Kd.S_drew)); exact HO_13.out) hb); have n2_ := Aside0.mk (Kd.S_below (by (with_reducible repeat (first | apply Kd.S_alloc | apply Kd.S_drewN | apply Kd.S_drew)); exact HO_15.out) hb); have n3_ := Aside0.mk (Kd.R_below (by (with_reducible repeat (first | apply Kd.R_alloc | apply Kd.R_drewN | apply Kd.R_drew)); exact HO_17.out) hb); have n4_ := Aside0.mk (blk_below (g := gb157) (o := .cells #[.string ((rd_T35 t147 t155).f0), .int .i64 0, .string (a1.extract 0 ((ji26) : Int).toNat)] 35 (0, 0)) (by (with_reducible repeat (first | refine blk_drewN ?_ _ | refine blk_drew ?_ | refine blk_alloc ?_ _)); exact BK157.out) hb); have n5_ := Aside0.mk (below_step (by repeat (first | (with_reducible first | exact HB.out | apply below_alloc | apply pw_below_drewN | apply below_drew1 | refine below_set ?_ GE157.out) | exact HB.out)) hb); clear HO_9; clear HO_13; clear HO_15; clear HO_17; clear BK157; clear HB; have HO_9 := n0_; have HO_13 := n1_; have HO_15 := n2_; have HO_17 := n3_; have BK157 := n4_; have HB := n5_; clear n0_ n1_ n2_ n3_ n4_ n5_; (try clear hb); (try clear hb2); (try clear hk); (try clear hi)))
                            go_ret
                            exact ⟨by first | rfl | (simp [errW_none, errW_some] <;> rfl) | (simp only [← hji26]; first | rfl | (simp [errW_none, errW_some] <;> rfl)) | (simp [*, errW_none, errW_some] <;> rfl), by repeat (first | (with_reducible first | exact HB.out | apply below_alloc | apply pw_below_drewN | apply below_drew1 | refine below_set ?_ GE157.out) | exact HB.out)⟩
                          · rw [if_neg c69] at H
                            have c69b0 : (t164 == 0) = false := beq_eq_false_iff_ne.mpr c69
                            have c69b1 : (t164 != 0) = true := bne_iff_ne.mpr c69
                            obtain rfl := Option.some.inj H
                            go_wp2_with (first | ((with_reducible refine gate_callee (f := 5) rfl ?_); refine goesL_ (some 97) rfl rfl Try.func5 (by kernel_rfl) rfl #[] rfl (by (try simp only [List.map_toArray, List.map_cons, List.map_nil]); first | done | rfl | (simp only [List.length_drop, List.length_take]; rfl)) ?_; (with_reducible refine (glossatorkeep3_indexExample.calls k1  true _ A67.out).mono ?_); rintro e w74 ⟨rfl, hb⟩; refine ⟨_, rfl, ?_⟩; have n0_ := Aside0.mk (Kd.R_below (by (with_reducible repeat (first | apply Kd.R_alloc | apply Kd.R_drewN | apply Kd.R_drew)); exact HO_9.out) hb); have n1_ := Aside0.mk (Kd.S_below (by (with_reducible repeat (first | apply Kd.S_alloc | apply Kd.S_drewN | apply Kd.S_drew)); exact HO_13.out) hb); have n2_ := Aside0.mk (Kd.S_below (by (with_reducible repeat (first | apply Kd.S_alloc | apply Kd.S_drewN | apply Kd.S_drew)); exact HO_15.out) hb); have n3_ := Aside0.mk (Kd.R_below (by (with_reducible repeat (first | apply Kd.R_alloc | apply Kd.R_drewN | apply Kd.R_drew)); exact HO_17.out) hb); have n4_ := Aside0.mk (blk_below (g := gb157) (o := .cells #[.string ((rd_T35 t147 t155).f0), .int .i64 0, .string (a1.extract 0 ((ji26) : Int).toNat)] 35 (0, 0)) (by (with_reducible repeat (first | refine blk_drewN ?_ _ | refine blk_drew ?_ | refine blk_alloc ?_ _)); exact BK157.out) hb); have n5_ := Aside0.mk (below_step (by repeat (first | (with_reducible first | exact HB.out | apply below_alloc | apply pw_below_drewN | apply below_drew1 | refine below_set ?_ GE157.out) | exact HB.out)) hb); clear HO_9; clear HO_13; clear HO_15; clear HO_17; clear BK157; clear HB; have HO_9 := n0_; have HO_13 := n1_; have HO_15 := n2_; have HO_17 := n3_; have BK157 := n4_; have HB := n5_; clear n0_ n1_ n2_ n3_ n4_ n5_; (try clear hb); (try clear hb2); (try clear hk); (try clear hi)))
                            go_ret
                            exact ⟨by first | rfl | (simp [errW_none, errW_some] <;> rfl) | (simp only [← hji26]; first | rfl | (simp [errW_none, errW_some] <;> rfl)) | (simp [*, errW_none, errW_some] <;> rfl), by repeat (first | (with_reducible first | exact HB.out | apply below_alloc | apply pw_below_drewN | apply below_drew1 | refine below_set ?_ GE157.out) | exact HB.out)⟩
                        · replace c68 := Bool.eq_false_iff.mpr c68
                          subst c68
                          have H1 : (some false) = some r := by rw [if_neg (show ¬ (false = true) by decide)] at H; exact H
                          clear H
                          have H := H1
                          clear H1
                          obtain rfl := Option.some.inj H
                          go_wp2_with (first | ((with_reducible refine gate_callee (f := 5) rfl ?_); refine goesL_ (some 97) rfl rfl Try.func5 (by kernel_rfl) rfl #[] rfl (by (try simp only [List.map_toArray, List.map_cons, List.map_nil]); first | done | rfl | (simp only [List.length_drop, List.length_take]; rfl)) ?_; (with_reducible refine (glossatorkeep3_indexExample.calls k1  false _ A67.out).mono ?_); rintro e w75 ⟨rfl, hb⟩; refine ⟨_, rfl, ?_⟩; have n0_ := Aside0.mk (Kd.R_below (by (with_reducible repeat (first | apply Kd.R_alloc | apply Kd.R_drewN | apply Kd.R_drew)); exact HO_9.out) hb); have n1_ := Aside0.mk (Kd.S_below (by (with_reducible repeat (first | apply Kd.S_alloc | apply Kd.S_drewN | apply Kd.S_drew)); exact HO_13.out) hb); have n2_ := Aside0.mk (Kd.S_below (by (with_reducible repeat (first | apply Kd.S_alloc | apply Kd.S_drewN | apply Kd.S_drew)); exact HO_15.out) hb); have n3_ := Aside0.mk (Kd.R_below (by (with_reducible repeat (first | apply Kd.R_alloc | apply Kd.R_drewN | apply Kd.R_drew)); exact HO_17.out) hb); have n4_ := Aside0.mk (blk_below (g := gb157) (o := .cells #[.string ((rd_T35 t147 t155).f0), .int .i64 0, .string (a1.extract 0 ((ji26) : Int).toNat)] 35 (0, 0)) (by (with_reducible repeat (first | refine blk_drewN ?_ _ | refine blk_drew ?_ | refine blk_alloc ?_ _)); exact BK157.out) hb); have n5_ := Aside0.mk (below_step (by repeat (first | (with_reducible first | exact HB.out | apply below_alloc | apply pw_below_drewN | apply below_drew1 | refine below_set ?_ GE157.out) | exact HB.out)) hb); clear HO_9; clear HO_13; clear HO_15; clear HO_17; clear BK157; clear HB; have HO_9 := n0_; have HO_13 := n1_; have HO_15 := n2_; have HO_17 := n3_; have BK157 := n4_; have HB := n5_; clear n0_ n1_ n2_ n3_ n4_ n5_; (try clear hb); (try clear hb2); (try clear hk); (try clear hi)))
                          go_ret
                          exact ⟨by first | rfl | (simp [errW_none, errW_some] <;> rfl) | (simp only [← hji26]; first | rfl | (simp [errW_none, errW_some] <;> rfl)) | (simp [*, errW_none, errW_some] <;> rfl), by repeat (first | (with_reducible first | exact HB.out | apply below_alloc | apply pw_below_drewN | apply below_drew1 | refine below_set ?_ GE157.out) | exact HB.out)⟩
                · rw [if_neg c30] at H
                  have c30b0 : (t161 == 0) = false := beq_eq_false_iff_ne.mpr c30
                  have c30b1 : (t161 != 0) = true := bne_iff_ne.mpr c30
                  obtain rfl := Option.some.inj H
                  go_enter Try.func4, Try.ntmps4
                  try go_wp2_with (first | ((with_reducible refine gate_callee (f := 5) rfl ?_); refine goesL_ (some 19) rfl rfl Try.func5 (by kernel_rfl) rfl #[] rfl (by (try simp only [List.map_toArray, List.map_cons, List.map_nil]); first | done | rfl | (simp only [List.length_drop, List.length_take]; rfl)) ?_; (with_reducible refine (glossatorkeep3_indexExample.calls k  true _ A5.out).mono ?_); rintro e w76 ⟨rfl, hb⟩; refine ⟨_, rfl, ?_⟩; have n0_ := Aside0.mk (below_step (by repeat (first | (with_reducible first | exact HB.out | apply below_alloc | apply pw_below_drewN | apply below_drew1) | exact HB.out)) hb); clear HB; have HB := n0_; clear n0_; (try clear hb); (try clear hb2); (try clear hk); (try clear hi)) | ((with_reducible refine gate_callee (f := 8) rfl ?_); refine goesL_ (some 22) rfl rfl Try.func8 (by kernel_rfl) rfl #[.slice A0 l0.length c0] rfl (by (try simp only [List.map_toArray, List.map_cons, List.map_nil]); first | done | rfl | (simp only [List.length_drop, List.length_take]; rfl)) ?_; (with_reducible refine (glossatorkeep3_named.calls k _ _ l0 t147 _ ?side1 ?side2 A7.out).mono ?_); (case side1 => repeat (first | exact (Kd.C_below HR0.out HB.out) | (with_reducible refine Kd.C_alloc ?_ _) | (with_reducible refine Kd.C_drewN ?_ _) | (with_reducible refine Kd.C_drew ?_))); (case side2 => exact HC0.out); rintro e w77 ⟨v148, rfl, ho0, hb⟩; refine ⟨_, rfl, ?_⟩; have n0_ := Aside0.mk (Kd.R_lower ho0 (below_size (by repeat (first | (with_reducible first | exact HB.out | apply below_alloc | apply pw_below_drewN | apply below_drew1) | exact HB.out)))); have n1_ := Aside0.mk (below_step (by repeat (first | (with_reducible first | exact HB.out | apply below_alloc | apply pw_below_drewN | apply below_drew1) | exact HB.out)) hb); clear HB; have HO149 := n0_; have HB := n1_; clear n0_ n1_; (try clear hb); (try clear hb2); (try clear hk); (try clear hi); (try clear ho0); obtain ⟨Ao78, co78, eo78⟩ := Kd.R_slice HO149.out; subst eo78) | ((with_reducible refine gate_callee (f := 9) rfl ?_); refine goesL_ (some 25) rfl rfl Try.func9 (by kernel_rfl) rfl #[.slice Ao78 t147.length co78] rfl (by (try simp only [List.map_toArray, List.map_cons, List.map_nil]); first | done | rfl | (simp only [List.length_drop, List.length_take]; rfl)) ?_; (with_reducible refine (wordindex_Build.calls _ _ t147 t150 t151 _ ?side1 ?side2 A8.out).mono ?_); (case side1 => repeat (first | exact (Kd.R_reads' HO149.out).2.2 | (with_reducible refine Kd.C_alloc ?_ _) | (with_reducible refine Kd.C_drewN ?_ _) | (with_reducible refine Kd.C_drew ?_))); (case side2 => exact (Kd.R_reads' HO149.out).2.1); rintro e w79 ⟨v152, rfl, ho0, hb⟩; refine ⟨_, rfl, ?_⟩; have n0_ := Aside0.mk (Kd.R_below (by (with_reducible repeat (first | apply Kd.R_alloc | apply Kd.R_drewN | apply Kd.R_drew)); exact HO149.out) hb); have n1_ := Aside0.mk (Kd.S_lower ho0 (below_size (by repeat (first | (with_reducible first | exact HB.out | apply below_alloc | apply pw_below_drewN | apply below_drew1) | exact HB.out)))); have n2_ := Aside0.mk (below_step (by repeat (first | (with_reducible first | exact HB.out | apply below_alloc | apply pw_below_drewN | apply below_drew1) | exact HB.out)) hb); clear HO149; clear HB; have HO149 := n0_; have HO153 := n1_; have HB := n2_; clear n0_ n1_ n2_; (try clear hb); (try clear hb2); (try clear hk); (try clear hi); (try clear ho0)) | ((with_reducible refine gate_callee (f := 10) rfl ?_); refine goesL_ (some 43) rfl rfl Try.func10 (by kernel_rfl) rfl #[.int .i64 a3, .int .i64 (t147.length : Int)] rfl (by (try simp only [List.map_toArray, List.map_cons, List.map_nil]); first | done | rfl | (simp only [List.length_drop, List.length_take]; rfl)) ?_; (with_reducible refine (glossatorref3_Mod.calls a3 (t147.length : Int) t155 _ A23.out).mono ?_); rintro e w' ⟨rfl, ⟨nd, rfl⟩⟩; refine ⟨_, rfl, ?_⟩; (try (rw [drewN_self w79]; generalize hq_ : World.drewN w79 _ = w79; have n0_ : Aside0 (Kd.R k35 35 w79 w.heap.size (fun _ => True) (.slice Ao78 t147.length co78) t147) := ⟨by rw [← hq_]; exact (by (with_reducible repeat (first | apply Kd.R_alloc | apply Kd.R_drewN | apply Kd.R_drew)); exact HO149.out)⟩; have n1_ : Aside0 (Kd.S k43 43 w79 w.heap.size (fun _ => True) v152 t150) := ⟨by rw [← hq_]; exact (by (with_reducible repeat (first | apply Kd.S_alloc | apply Kd.S_drewN | apply Kd.S_drew)); exact HO153.out)⟩; have n2_ : Aside0 (Below w.heap.size w w79) := ⟨by rw [← hq_]; exact (by repeat (first | (with_reducible first | exact HB.out | apply below_alloc | apply pw_below_drewN | apply below_drew1) | exact HB.out))⟩; clear HO149 HO153 HB; have HO149 := n0_; have HO153 := n1_; have HB := n2_; clear n0_ n1_ n2_))))
                  have n0_ := Aside0.mk (Kd.R_drew HO149.out)
                  have n1_ := Aside0.mk (Kd.S_drew HO153.out)
                  have n2_ := Aside0.mk (below_drew1 HB.out)
                  clear HO149
                  clear HO153
                  clear HB
                  have HO149 := n0_
                  have HO153 := n1_
                  have HB := n2_
                  clear n0_ n1_ n2_
                  have p156 : 0 ≤ (t155 : Int) := of_decide_eq_true (by first | (with_reducible assumption) | assumption)
                  have q156 : t155 < (t147.length : Int) := of_decide_eq_true (by first | (with_reducible assumption) | assumption)
                  obtain ⟨ad156, e156, hx156_0, hx156_1, hx156_2⟩ := at_T35 (Kd.R_reads' HO149.out).2.2 t155 p156 q156
                  cases e156
                  replace p156 := eq_true p156
                  replace q156 := eq_true q156
                  refine start_ (n := 13) (S := fun w' => w'.cell? (ad156.add ((t155).toNat * 3)) = some (.string ((rd_T35 t147 t155).f0)) ∧ w'.cell? ⟨(ad156.add ((t155).toNat * 3)).block, (ad156.add ((t155).toNat * 3)).off + 1, none⟩ = some (.int .i64 ((rd_T35 t147 t155).f1)) ∧ w'.cell? ⟨(ad156.add ((t155).toNat * 3)).block, (ad156.add ((t155).toNat * 3)).off + 2, none⟩ = some (.string ((rd_T35 t147 t155).f2))) (ds := []) #[false, false, false, false, false, false, false, false, false, false, false, false, false] (by kernel_rfl) rfl rfl ⟨hx156_0, hx156_1, hx156_2⟩ (fun hHeld => ?_); refine with_tabW glossatorkeep3_WordindexFind.tab8 glossatorkeep3_WordindexFind.bits8 (fun HT_ HW_ => ?_)
                  generalize w79.drew = w80 at HO149 HO153 HB hx156_0 hx156_1 hx156_2 hHeld ⊢
                  refine pure_ (i := 0) (N := some 44) (v := ?_) (a' := ?_) #[true, false, false, false, false, false, false, false, false, false, false, false, false] rfl rfl (any_of HT_.out (by kernel_rfl)) (fun _ _ _ h => h) (Or.inl ⟨by rfl, ?_⟩) ?_ ?_
                  rotate_left
                  · intro w'
                    go_simp
                    with_reducible rfl
                  rotate_left
                  · simp only [Act.put, List.setIfInBounds_toArray, List.set_cons_zero, List.set_cons_succ, i64_w, i32_w]
                    rfl
                  refine pure_ (i := 1) (N := some 45) (v := ?_) (a' := ?_) #[true, true, false, false, false, false, false, false, false, false, false, false, false] rfl rfl (any_of HT_.out (by kernel_rfl)) (fun _ _ _ h => h) (Or.inl ⟨by rfl, ?_⟩) ?_ ?_
                  rotate_left
                  · intro w'
                    go_simp
                    with_reducible rfl
                  rotate_left
                  · simp only [Act.put, List.setIfInBounds_toArray, List.set_cons_zero, List.set_cons_succ, i64_w, i32_w]
                    rfl
                  refine pure_ (i := 2) (N := some 46) (v := ?_) (a' := ?_) #[true, true, true, false, false, false, false, false, false, false, false, false, false] rfl rfl (any_of HT_.out (by kernel_rfl)) (fun _ _ _ h => h) (Or.inl ⟨by rfl, ?_⟩) ?_ ?_
                  rotate_left
                  · intro w'
                    go_simp
                    with_reducible rfl
                  rotate_left
                  · simp only [Act.put, List.setIfInBounds_toArray, List.set_cons_zero, List.set_cons_succ, i64_w, i32_w]
                    rfl
                  refine pure_ (i := 3) (N := some 47) (v := ?_) (a' := ?_) #[true, true, true, true, false, false, false, false, false, false, false, false, false] rfl rfl (any_of HT_.out (by kernel_rfl)) (fun _ _ _ h => h) (Or.inl ⟨by rfl, ?_⟩) ?_ ?_
                  rotate_left
                  · intro w'
                    go_simp
                    with_reducible rfl
                  rotate_left
                  · simp only [Act.put, List.setIfInBounds_toArray, List.set_cons_zero, List.set_cons_succ, i64_w, i32_w]
                    rfl
                  refine pure_ (i := 5) (N := some 49) (v := ?_) (a' := ?_) #[true, true, true, true, false, true, false, false, false, false, false, false, false] rfl rfl (any_of HT_.out (by kernel_rfl)) (fun _ _ _ h => h) (Or.inl ⟨by rfl, ?_⟩) ?_ ?_
                  rotate_left
                  · intro w'
                    go_simp
                    with_reducible rfl
                  rotate_left
                  · simp only [Act.put, List.setIfInBounds_toArray, List.set_cons_zero, List.set_cons_succ, i64_w, i32_w]
                    rfl
                  refine pure_ (i := 6) (N := some 50) (v := ?_) (a' := ?_) #[true, true, true, true, false, true, true, false, false, false, false, false, false] rfl rfl (any_of HT_.out (by kernel_rfl)) (fun _ _ _ h => h) (Or.inl ⟨by rfl, ?_⟩) ?_ ?_
                  rotate_left
                  · intro w'
                    go_simp
                    with_reducible rfl
                  rotate_left
                  · simp only [Act.put, List.setIfInBounds_toArray, List.set_cons_zero, List.set_cons_succ, i64_w, i32_w]
                    rfl
                  refine pure_ (i := 7) (N := some 51) (v := ?_) (a' := ?_) #[true, true, true, true, false, true, true, true, false, false, false, false, false] rfl rfl (any_of HT_.out (by kernel_rfl)) (fun _ _ _ h => h) (Or.inl ⟨by rfl, ?_⟩) ?_ ?_
                  rotate_left
                  · intro w'
                    go_simp
                    with_reducible rfl
                  rotate_left
                  · simp only [Act.put, List.setIfInBounds_toArray, List.set_cons_zero, List.set_cons_succ, i64_w, i32_w]
                    rfl
                  refine pure_ (i := 8) (N := some 52) (v := ?_) (a' := ?_) #[true, true, true, true, false, true, true, true, true, false, false, false, false] rfl rfl (any_of HT_.out (by kernel_rfl)) (fun _ _ _ h => h) (Or.inl ⟨by rfl, ?_⟩) ?_ ?_
                  rotate_left
                  · intro w'
                    go_simp
                    with_reducible rfl
                  rotate_left
                  · simp only [Act.put, List.setIfInBounds_toArray, List.set_cons_zero, List.set_cons_succ, i64_w, i32_w]
                    rfl
                  refine pure_ (i := 9) (N := some 53) (v := ?_) (a' := ?_) #[true, true, true, true, false, true, true, true, true, true, false, false, false] rfl rfl (any_of HT_.out (by kernel_rfl)) (fun _ _ _ h => h) (Or.inl ⟨by rfl, ?_⟩) ?_ ?_
                  rotate_left
                  · intro w'
                    go_simp
                    with_reducible rfl
                  rotate_left
                  · simp only [Act.put, List.setIfInBounds_toArray, List.set_cons_zero, List.set_cons_succ, i64_w, i32_w]
                    rfl
                  refine take_ (i := 4) (N := some 48) (v := ?_) (a' := ?_) #[true, true, true, true, true, true, true, true, true, true, false, false, false] rfl rfl (take_ofW HT_.out HW_.out (by kernel_rfl)) (fun _ _ _ h => h) (Or.inl ⟨by rfl, ?_⟩) hHeld ?_ ?_
                  rotate_left
                  · rintro w' ⟨s0, s1, s2⟩
                    go_simp
                    with_reducible rfl
                  rotate_left
                  · simp only [Act.put, List.setIfInBounds_toArray, List.set_cons_zero, List.set_cons_succ, i64_w, i32_w]
                    rfl
                  refine pure_ (i := 10) (N := some 54) (v := ?_) (a' := ?_) #[true, true, true, true, true, true, true, true, true, true, true, false, false] rfl rfl (any_of HT_.out (by kernel_rfl)) (fun _ _ _ h => h) (Or.inl ⟨by rfl, ?_⟩) ?_ ?_
                  rotate_left
                  · intro w'
                    go_simp
                    with_reducible rfl
                  rotate_left
                  · simp only [Act.put, List.setIfInBounds_toArray, List.set_cons_zero, List.set_cons_succ, i64_w, i32_w]
                    rfl
                  refine one_ (i := 11) (N := some 12) #[true, true, true, true, true, true, true, true, true, true, true, true, false] rfl rfl (one_of HT_.out (by kernel_rfl)) (by decide) (fun K hK => ?_)
                  refine box_step ?hg (N := 12) ?hd (cs := #[.string (⟨#[]⟩ : ByteArray), .int .i64 0, .string (⟨#[]⟩ : ByteArray)]) (t := 35) ?hr ?_; (case hd => rfl); (case hg => rfl); (case hr => first | (go_simp; done) | (go_simp; rfl))
                  intro gb157 hg w81 hbox hb
                  have HS0_ := (hb.cell (World.block_lt_of_cell? _ _ (hHeld.1))).trans (hHeld.1)
                  have HS1_ := (hb.cell (World.block_lt_of_cell? _ _ (hHeld.2.1))).trans (hHeld.2.1)
                  have HS2_ := (hb.cell (World.block_lt_of_cell? _ _ (hHeld.2.2))).trans (hHeld.2.2)
                  have n0_ := Aside0.mk (Kd.R_below (Kd.R_elderB (by (with_reducible repeat (first | apply Kd.R_alloc | apply Kd.R_drewN | apply Kd.R_drew)); exact HO149.out) gb157 (Nat.le_of_eq hg.symm)) hb)
                  have n1_ := Aside0.mk (Kd.S_below (by (with_reducible repeat (first | apply Kd.S_alloc | apply Kd.S_drewN | apply Kd.S_drew)); exact HO153.out) hb)
                  have n2_ := Aside0.mk (below_step (by repeat (first | (with_reducible first | exact HB.out | apply below_alloc | apply pw_below_drewN | apply below_drew1) | exact HB.out)) hb)
                  have n3_ := Aside0.mk (hbox)
                  have n4_ := Aside0.mk ((by rw [hg]; exact (below_size (by repeat (first | (with_reducible first | exact HB.out | apply below_alloc | apply pw_below_drewN | apply below_drew1) | exact HB.out))) : w.heap.size ≤ gb157))
                  have n5_ := Aside0.mk ((by rw [hg]; exact (below_size (by repeat (first | (with_reducible first | exact HB.out | apply below_alloc | apply pw_below_drewN | apply below_drew1) | exact HB.out))) : w.heap.size ≤ gb157))
                  clear HO149
                  clear HO153
                  clear HB
                  have HO149 := n0_
                  have HO153 := n1_
                  have HB := n2_
                  have BK157 := n3_
                  have GW157 := n4_
                  have GE157 := n5_
                  clear n0_ n1_ n2_ n3_ n4_ n5_
                  clear hb hbox hg
                  refine hK.out _ _ ⟨HS0_, HS1_, HS2_⟩ (fun hHeld => ?_)
                  clear hK K
                  refine norm_ (a' := ?_) ?_ ?_
                  rotate_left
                  · show Act.put _ (some 12) _ = _
                    simp only [Act.put, List.setIfInBounds_toArray, List.set_cons_zero, List.set_cons_succ, i64_w, i32_w]
                    rfl
                  refine one_ (i := 12) (N := none) #[true, true, true, true, true, true, true, true, true, true, true, true, true] rfl rfl (one_of HT_.out (by kernel_rfl)) (by decide) (fun K hK => ?_)
                  have hs82 : w81.cell? ⟨gb157, 0, none⟩ = some (.string (⟨#[]⟩ : ByteArray)) := (blk_cell BK157.out 0).trans rfl
                  have hfs82 := blk_frozen BK157.out 0
                  have hs83 : w81.cell? ⟨gb157, 1, none⟩ = some (.int .i64 0) := (blk_cell BK157.out 1).trans rfl
                  have hfs83 := blk_frozen BK157.out 1
                  have hs84 : w81.cell? ⟨gb157, 2, none⟩ = some (.string (⟨#[]⟩ : ByteArray)) := (blk_cell BK157.out 2).trans rfl
                  have hfs84 := blk_frozen BK157.out 2
                  refine skip_ (w1 := ?_) (by rfl) rfl ?_ ?_
                  rotate_left
                  · go_simp
                    rfl
                  refine hK.out _ _ ⟨((cell_far (p := ⟨gb157, _, none⟩) (by first | exact Kd.own_blk (Kd.R_away HO149.out (fun _ hk => hk.2)) | (rw [add_block]; exact Kd.own_blk (Kd.R_away HO149.out (fun _ hk => hk.2))) | (show (Addr.add _ _).block ≠ _; rw [add_block]; exact Kd.own_blk (Kd.R_away HO149.out (fun _ hk => hk.2))) | (dsimp only; exact Kd.own_blk (Kd.R_away HO149.out (fun _ hk => hk.2)))) _).trans (((cell_far (p := ⟨gb157, _, none⟩) (by first | exact Kd.own_blk (Kd.R_away HO149.out (fun _ hk => hk.2)) | (rw [add_block]; exact Kd.own_blk (Kd.R_away HO149.out (fun _ hk => hk.2))) | (show (Addr.add _ _).block ≠ _; rw [add_block]; exact Kd.own_blk (Kd.R_away HO149.out (fun _ hk => hk.2))) | (dsimp only; exact Kd.own_blk (Kd.R_away HO149.out (fun _ hk => hk.2)))) _).trans (((cell_far (p := ⟨gb157, _, none⟩) (by first | exact Kd.own_blk (Kd.R_away HO149.out (fun _ hk => hk.2)) | (rw [add_block]; exact Kd.own_blk (Kd.R_away HO149.out (fun _ hk => hk.2))) | (show (Addr.add _ _).block ≠ _; rw [add_block]; exact Kd.own_blk (Kd.R_away HO149.out (fun _ hk => hk.2))) | (dsimp only; exact Kd.own_blk (Kd.R_away HO149.out (fun _ hk => hk.2)))) _).trans (hHeld.1)))))), ((cell_far (p := ⟨gb157, _, none⟩) (by first | exact Kd.own_blk (Kd.R_away HO149.out (fun _ hk => hk.2)) | (rw [add_block]; exact Kd.own_blk (Kd.R_away HO149.out (fun _ hk => hk.2))) | (show (Addr.add _ _).block ≠ _; rw [add_block]; exact Kd.own_blk (Kd.R_away HO149.out (fun _ hk => hk.2))) | (dsimp only; exact Kd.own_blk (Kd.R_away HO149.out (fun _ hk => hk.2)))) _).trans (((cell_far (p := ⟨gb157, _, none⟩) (by first | exact Kd.own_blk (Kd.R_away HO149.out (fun _ hk => hk.2)) | (rw [add_block]; exact Kd.own_blk (Kd.R_away HO149.out (fun _ hk => hk.2))) | (show (Addr.add _ _).block ≠ _; rw [add_block]; exact Kd.own_blk (Kd.R_away HO149.out (fun _ hk => hk.2))) | (dsimp only; exact Kd.own_blk (Kd.R_away HO149.out (fun _ hk => hk.2)))) _).trans (((cell_far (p := ⟨gb157, _, none⟩) (by first | exact Kd.own_blk (Kd.R_away HO149.out (fun _ hk => hk.2)) | (rw [add_block]; exact Kd.own_blk (Kd.R_away HO149.out (fun _ hk => hk.2))) | (show (Addr.add _ _).block ≠ _; rw [add_block]; exact Kd.own_blk (Kd.R_away HO149.out (fun _ hk => hk.2))) | (dsimp only; exact Kd.own_blk (Kd.R_away HO149.out (fun _ hk => hk.2)))) _).trans (hHeld.2.1)))))), ((cell_far (p := ⟨gb157, _, none⟩) (by first | exact Kd.own_blk (Kd.R_away HO149.out (fun _ hk => hk.2)) | (rw [add_block]; exact Kd.own_blk (Kd.R_away HO149.out (fun _ hk => hk.2))) | (show (Addr.add _ _).block ≠ _; rw [add_block]; exact Kd.own_blk (Kd.R_away HO149.out (fun _ hk => hk.2))) | (dsimp only; exact Kd.own_blk (Kd.R_away HO149.out (fun _ hk => hk.2)))) _).trans (((cell_far (p := ⟨gb157, _, none⟩) (by first | exact Kd.own_blk (Kd.R_away HO149.out (fun _ hk => hk.2)) | (rw [add_block]; exact Kd.own_blk (Kd.R_away HO149.out (fun _ hk => hk.2))) | (show (Addr.add _ _).block ≠ _; rw [add_block]; exact Kd.own_blk (Kd.R_away HO149.out (fun _ hk => hk.2))) | (dsimp only; exact Kd.own_blk (Kd.R_away HO149.out (fun _ hk => hk.2)))) _).trans (((cell_far (p := ⟨gb157, _, none⟩) (by first | exact Kd.own_blk (Kd.R_away HO149.out (fun _ hk => hk.2)) | (rw [add_block]; exact Kd.own_blk (Kd.R_away HO149.out (fun _ hk => hk.2))) | (show (Addr.add _ _).block ≠ _; rw [add_block]; exact Kd.own_blk (Kd.R_away HO149.out (fun _ hk => hk.2))) | (dsimp only; exact Kd.own_blk (Kd.R_away HO149.out (fun _ hk => hk.2)))) _).trans (hHeld.2.2))))))⟩ (fun hHeld => ?_)
                  clear hK K
                  refine done_ (done_of HT_.out (by kernel_rfl)) ?_
                  have hcz85_0 : w81.cell? ⟨gb157, 0, none⟩ = some (.string (⟨#[]⟩ : ByteArray)) := (blk_cell BK157.out 0).trans rfl
                  have hcz85_1 : w81.cell? ⟨gb157, 1, none⟩ = some (.int .i64 0) := (blk_cell BK157.out 1).trans rfl
                  have hcz85_2 : w81.cell? ⟨gb157, 2, none⟩ = some (.string (⟨#[]⟩ : ByteArray)) := (blk_cell BK157.out 2).trans rfl
                  have hfz85_0 := blk_frozen BK157.out 0
                  have hfz85_1 := blk_frozen BK157.out 1
                  have hfz85_2 := blk_frozen BK157.out 2
                  obtain ⟨Ao86, co86, eo86⟩ := Kd.S_slice HO153.out
                  subst eo86
                  try go_wp2_with (first | ((with_reducible refine gate_callee (f := 11) rfl ?_); refine goesL_ (some 58) rfl rfl Try.func11 (by kernel_rfl) rfl #[.slice Ao86 t150.length co86, .agg #[.string ((rd_T35 t147 t155).f0), .int .i64 0, .string (a1.extract 0 ((ji26) : Int).toNat)]] rfl (by (try simp only [List.map_toArray, List.map_cons, List.map_nil]); first | done | (simp only [hji26]; rfl) | rfl | (simp only [List.length_drop, List.length_take]; rfl)) ?_; (with_reducible refine (wordindex_Update.calls _ _ t150 ((rd_T35 t147 t155).f0) 0 (a1.extract 0 ((ji26) : Int).toNat) t158 t161 _ ?side1 ?side2 A29.out).mono ?_); (case side1 => refine (Kd.S_reads' (e := 43) (base := w.heap.size) (ok := fun k_ => True) (n := t150.length) (c := co86) ?_).2.2; exact (by (with_reducible repeat (first | apply Kd.S_alloc | apply Kd.S_drewN | apply Kd.S_drew)); exact (Kd.S_mono (Kd.S_far (p := ⟨gb157, 2, none⟩) (Kd.S_far (p := ⟨gb157, 1, none⟩) (Kd.S_far (p := ⟨gb157, 0, none⟩) (Kd.S_types HO153.out BK157.out (by decide)) (fun _ hk => hk.2) (.string ((rd_T35 t147 t155).f0))) (fun _ hk => hk.2) (.int .i64 0)) (fun _ hk => hk.2) (.string (a1.extract 0 ((ji26) : Int).toNat))) (fun _ h_ => h_.1)))); (case side2 => exact (Kd.S_reads' HO153.out).2.1); rintro e w87 ⟨v159, rfl, ho0, hb⟩; refine ⟨_, rfl, ?_⟩; have n0_ := Aside0.mk (Kd.R_below (by (with_reducible repeat (first | apply Kd.R_alloc | apply Kd.R_drewN | apply Kd.R_drew)); exact (Kd.R_mono (Kd.R_far (p := ⟨gb157, 2, none⟩) (Kd.R_far (p := ⟨gb157, 1, none⟩) (Kd.R_far (p := ⟨gb157, 0, none⟩) (Kd.R_mono HO149.out (fun k_ hk => (⟨hk, hk.2⟩ : _ ∧ k_ ≠ gb157))) (fun _ hk => hk.2) (.string ((rd_T35 t147 t155).f0))) (fun _ hk => hk.2) (.int .i64 0)) (fun _ hk => hk.2) (.string (a1.extract 0 ((ji26) : Int).toNat))) (fun _ h_ => h_.1))) hb); have n1_ := Aside0.mk (Kd.S_elder' (by (with_reducible repeat (first | apply Kd.S_alloc | apply Kd.S_drewN | apply Kd.S_drew)); exact (Kd.S_mono (Kd.S_far (p := ⟨gb157, 2, none⟩) (Kd.S_far (p := ⟨gb157, 1, none⟩) (Kd.S_far (p := ⟨gb157, 0, none⟩) (Kd.S_types HO153.out BK157.out (by decide)) (fun _ hk => hk.2) (.string ((rd_T35 t147 t155).f0))) (fun _ hk => hk.2) (.int .i64 0)) (fun _ hk => hk.2) (.string (a1.extract 0 ((ji26) : Int).toNat))) (fun _ h_ => h_.1))) (Kd.S_base ho0) hb); have n2_ := Aside0.mk (Kd.S_lower (Kd.S_new' ho0 (Kd.S_lt (by (with_reducible repeat (first | apply Kd.S_alloc | apply Kd.S_drewN | apply Kd.S_drew)); exact (Kd.S_mono (Kd.S_far (p := ⟨gb157, 2, none⟩) (Kd.S_far (p := ⟨gb157, 1, none⟩) (Kd.S_far (p := ⟨gb157, 0, none⟩) (Kd.S_types HO153.out BK157.out (by decide)) (fun _ hk => hk.2) (.string ((rd_T35 t147 t155).f0))) (fun _ hk => hk.2) (.int .i64 0)) (fun _ hk => hk.2) (.string (a1.extract 0 ((ji26) : Int).toNat))) (fun _ h_ => h_.1))))) (below_size (by repeat (first | (with_reducible first | exact HB.out | apply below_alloc | apply pw_below_drewN | apply below_drew1 | refine below_set ?_ GE157.out) | exact HB.out)))); have n3_ := Aside0.mk (blk_below (g := gb157) (o := .cells #[.string ((rd_T35 t147 t155).f0), .int .i64 0, .string (a1.extract 0 ((ji26) : Int).toNat)] 35 (0, 0)) (by (with_reducible repeat (first | refine blk_drewN ?_ _ | refine blk_drew ?_ | refine blk_alloc ?_ _)); refine blk_put (cs := #[.string ((rd_T35 t147 t155).f0), .int .i64 0, .string (⟨#[]⟩ : ByteArray)]) ?_ 2 _ rfl; (with_reducible repeat (first | refine blk_drewN ?_ _ | refine blk_drew ?_ | refine blk_alloc ?_ _)); refine blk_put (cs := #[.string ((rd_T35 t147 t155).f0), .int .i64 0, .string (⟨#[]⟩ : ByteArray)]) ?_ 1 _ rfl; (with_reducible repeat (first | refine blk_drewN ?_ _ | refine blk_drew ?_ | refine blk_alloc ?_ _)); refine blk_put (cs := #[.string (⟨#[]⟩ : ByteArray), .int .i64 0, .string (⟨#[]⟩ : ByteArray)]) ?_ 0 _ rfl; (with_reducible repeat (first | refine blk_drewN ?_ _ | refine blk_drew ?_ | refine blk_alloc ?_ _)); exact BK157.out) hb); have n4_ := Aside0.mk (below_step (by repeat (first | (with_reducible first | exact HB.out | apply below_alloc | apply pw_below_drewN | apply below_drew1 | refine below_set ?_ GE157.out) | exact HB.out)) hb); clear HO149; clear HO153; clear BK157; clear HB; have HO149 := n0_; have HO153 := n1_; have HO160 := n2_; have BK157 := n3_; have HB := n4_; clear n0_ n1_ n2_ n3_ n4_; (try clear hb); (try clear hb2); (try clear hk); (try clear hi); (try clear ho0)))
                  go_ret
                  exact ⟨by first | rfl | (simp [errW_none, errW_some] <;> rfl) | (simp only [← hji26]; first | rfl | (simp [errW_none, errW_some] <;> rfl)) | (simp [*, errW_none, errW_some] <;> rfl), by repeat (first | (with_reducible first | exact HB.out | apply below_alloc | apply pw_below_drewN | apply below_drew1 | refine below_set ?_ GE157.out) | exact HB.out)⟩
              · rw [if_neg c28] at H
                exact absurd H (by simp)
            · rw [if_neg c27] at H
              exact absurd H (by simp)
          · rw [if_neg c25] at H
            exact absurd H (by simp)
        · rw [if_neg c24] at H
          exact absurd H (by simp)
    · rw [if_neg c9] at H
      have c9b0 : (t151 == 0) = false := beq_eq_false_iff_ne.mpr c9
      have c9b1 : (t151 != 0) = true := bne_iff_ne.mpr c9
      replace H := Option.bind_eq_some_iff.mp H
      obtain ⟨t179, A880, H⟩ := H
      replace H : (if t179 = true then (some (t151 == 0)) else (some false)) = some r := H
      have A88 := Aside0.mk A880
      clear A880
      by_cases c89 : t179 = true
      · subst c89
        have H1 : (some (t151 == 0)) = some r := by rw [if_pos rfl] at H; exact H
        clear H
        have H := H1
        clear H1
        obtain rfl := Option.some.inj H
        go_enter Try.func4, Try.ntmps4
        go_wp2_with (first | ((with_reducible refine gate_callee (f := 5) rfl ?_); refine goesL_ (some 19) rfl rfl Try.func5 (by kernel_rfl) rfl #[] rfl (by (try simp only [List.map_toArray, List.map_cons, List.map_nil]); first | done | rfl | (simp only [List.length_drop, List.length_take]; rfl)) ?_; (with_reducible refine (glossatorkeep3_indexExample.calls k  true _ A5.out).mono ?_); rintro e w90 ⟨rfl, hb⟩; refine ⟨_, rfl, ?_⟩; have n0_ := Aside0.mk (below_step (by repeat (first | (with_reducible first | exact HB.out | apply below_alloc | apply pw_below_drewN | apply below_drew1) | exact HB.out)) hb); clear HB; have HB := n0_; clear n0_; (try clear hb); (try clear hb2); (try clear hk); (try clear hi)) | ((with_reducible refine gate_callee (f := 8) rfl ?_); refine goesL_ (some 22) rfl rfl Try.func8 (by kernel_rfl) rfl #[.slice A0 l0.length c0] rfl (by (try simp only [List.map_toArray, List.map_cons, List.map_nil]); first | done | rfl | (simp only [List.length_drop, List.length_take]; rfl)) ?_; (with_reducible refine (glossatorkeep3_named.calls k _ _ l0 t147 _ ?side1 ?side2 A7.out).mono ?_); (case side1 => repeat (first | exact (Kd.C_below HR0.out HB.out) | (with_reducible refine Kd.C_alloc ?_ _) | (with_reducible refine Kd.C_drewN ?_ _) | (with_reducible refine Kd.C_drew ?_))); (case side2 => exact HC0.out); rintro e w91 ⟨v148, rfl, ho0, hb⟩; refine ⟨_, rfl, ?_⟩; have n0_ := Aside0.mk (Kd.R_lower ho0 (below_size (by repeat (first | (with_reducible first | exact HB.out | apply below_alloc | apply pw_below_drewN | apply below_drew1) | exact HB.out)))); have n1_ := Aside0.mk (below_step (by repeat (first | (with_reducible first | exact HB.out | apply below_alloc | apply pw_below_drewN | apply below_drew1) | exact HB.out)) hb); clear HB; have HO149 := n0_; have HB := n1_; clear n0_ n1_; (try clear hb); (try clear hb2); (try clear hk); (try clear hi); (try clear ho0); obtain ⟨Ao92, co92, eo92⟩ := Kd.R_slice HO149.out; subst eo92) | ((with_reducible refine gate_callee (f := 9) rfl ?_); refine goesL_ (some 25) rfl rfl Try.func9 (by kernel_rfl) rfl #[.slice Ao92 t147.length co92] rfl (by (try simp only [List.map_toArray, List.map_cons, List.map_nil]); first | done | rfl | (simp only [List.length_drop, List.length_take]; rfl)) ?_; (with_reducible refine (wordindex_Build.calls _ _ t147 t150 t151 _ ?side1 ?side2 A8.out).mono ?_); (case side1 => repeat (first | exact (Kd.R_reads' HO149.out).2.2 | (with_reducible refine Kd.C_alloc ?_ _) | (with_reducible refine Kd.C_drewN ?_ _) | (with_reducible refine Kd.C_drew ?_))); (case side2 => exact (Kd.R_reads' HO149.out).2.1); rintro e w93 ⟨v152, rfl, ho0, hb⟩; refine ⟨_, rfl, ?_⟩; have n0_ := Aside0.mk (Kd.R_below (by (with_reducible repeat (first | apply Kd.R_alloc | apply Kd.R_drewN | apply Kd.R_drew)); exact HO149.out) hb); have n1_ := Aside0.mk (Kd.S_lower ho0 (below_size (by repeat (first | (with_reducible first | exact HB.out | apply below_alloc | apply pw_below_drewN | apply below_drew1) | exact HB.out)))); have n2_ := Aside0.mk (below_step (by repeat (first | (with_reducible first | exact HB.out | apply below_alloc | apply pw_below_drewN | apply below_drew1) | exact HB.out)) hb); clear HO149; clear HB; have HO149 := n0_; have HO153 := n1_; have HB := n2_; clear n0_ n1_ n2_; (try clear hb); (try clear hb2); (try clear hk); (try clear hi); (try clear ho0)) | ((with_reducible refine gate_callee (f := 5) rfl ?_); refine goesL_ (some 35) rfl rfl Try.func5 (by kernel_rfl) rfl #[] rfl (by (try simp only [List.map_toArray, List.map_cons, List.map_nil]); first | done | rfl | (simp only [List.length_drop, List.length_take]; rfl)) ?_; (with_reducible refine (glossatorkeep3_indexExample.calls k  true _ A88.out).mono ?_); rintro e w94 ⟨rfl, hb⟩; refine ⟨_, rfl, ?_⟩; have n0_ := Aside0.mk (Kd.R_below (by (with_reducible repeat (first | apply Kd.R_alloc | apply Kd.R_drewN | apply Kd.R_drew)); exact HO149.out) hb); have n1_ := Aside0.mk (Kd.S_below (by (with_reducible repeat (first | apply Kd.S_alloc | apply Kd.S_drewN | apply Kd.S_drew)); exact HO153.out) hb); have n2_ := Aside0.mk (below_step (by repeat (first | (with_reducible first | exact HB.out | apply below_alloc | apply pw_below_drewN | apply below_drew1) | exact HB.out)) hb); clear HO149; clear HO153; clear HB; have HO149 := n0_; have HO153 := n1_; have HB := n2_; clear n0_ n1_ n2_; (try clear hb); (try clear hb2); (try clear hk); (try clear hi)))
        go_ret
        exact ⟨by first | rfl | (simp [errW_none, errW_some] <;> rfl) | (simp [*, errW_none, errW_some] <;> rfl), by repeat (first | (with_reducible first | exact HB.out | apply below_alloc | apply pw_below_drewN | apply below_drew1) | exact HB.out)⟩
      · replace c89 := Bool.eq_false_iff.mpr c89
        subst c89
        have H1 : (some false) = some r := by rw [if_neg (show ¬ (false = true) by decide)] at H; exact H
        clear H
        have H := H1
        clear H1
        obtain rfl := Option.some.inj H
        go_enter Try.func4, Try.ntmps4
        go_wp2_with (first | ((with_reducible refine gate_callee (f := 5) rfl ?_); refine goesL_ (some 19) rfl rfl Try.func5 (by kernel_rfl) rfl #[] rfl (by (try simp only [List.map_toArray, List.map_cons, List.map_nil]); first | done | rfl | (simp only [List.length_drop, List.length_take]; rfl)) ?_; (with_reducible refine (glossatorkeep3_indexExample.calls k  true _ A5.out).mono ?_); rintro e w95 ⟨rfl, hb⟩; refine ⟨_, rfl, ?_⟩; have n0_ := Aside0.mk (below_step (by repeat (first | (with_reducible first | exact HB.out | apply below_alloc | apply pw_below_drewN | apply below_drew1) | exact HB.out)) hb); clear HB; have HB := n0_; clear n0_; (try clear hb); (try clear hb2); (try clear hk); (try clear hi)) | ((with_reducible refine gate_callee (f := 8) rfl ?_); refine goesL_ (some 22) rfl rfl Try.func8 (by kernel_rfl) rfl #[.slice A0 l0.length c0] rfl (by (try simp only [List.map_toArray, List.map_cons, List.map_nil]); first | done | rfl | (simp only [List.length_drop, List.length_take]; rfl)) ?_; (with_reducible refine (glossatorkeep3_named.calls k _ _ l0 t147 _ ?side1 ?side2 A7.out).mono ?_); (case side1 => repeat (first | exact (Kd.C_below HR0.out HB.out) | (with_reducible refine Kd.C_alloc ?_ _) | (with_reducible refine Kd.C_drewN ?_ _) | (with_reducible refine Kd.C_drew ?_))); (case side2 => exact HC0.out); rintro e w96 ⟨v148, rfl, ho0, hb⟩; refine ⟨_, rfl, ?_⟩; have n0_ := Aside0.mk (Kd.R_lower ho0 (below_size (by repeat (first | (with_reducible first | exact HB.out | apply below_alloc | apply pw_below_drewN | apply below_drew1) | exact HB.out)))); have n1_ := Aside0.mk (below_step (by repeat (first | (with_reducible first | exact HB.out | apply below_alloc | apply pw_below_drewN | apply below_drew1) | exact HB.out)) hb); clear HB; have HO149 := n0_; have HB := n1_; clear n0_ n1_; (try clear hb); (try clear hb2); (try clear hk); (try clear hi); (try clear ho0); obtain ⟨Ao97, co97, eo97⟩ := Kd.R_slice HO149.out; subst eo97) | ((with_reducible refine gate_callee (f := 9) rfl ?_); refine goesL_ (some 25) rfl rfl Try.func9 (by kernel_rfl) rfl #[.slice Ao97 t147.length co97] rfl (by (try simp only [List.map_toArray, List.map_cons, List.map_nil]); first | done | rfl | (simp only [List.length_drop, List.length_take]; rfl)) ?_; (with_reducible refine (wordindex_Build.calls _ _ t147 t150 t151 _ ?side1 ?side2 A8.out).mono ?_); (case side1 => repeat (first | exact (Kd.R_reads' HO149.out).2.2 | (with_reducible refine Kd.C_alloc ?_ _) | (with_reducible refine Kd.C_drewN ?_ _) | (with_reducible refine Kd.C_drew ?_))); (case side2 => exact (Kd.R_reads' HO149.out).2.1); rintro e w98 ⟨v152, rfl, ho0, hb⟩; refine ⟨_, rfl, ?_⟩; have n0_ := Aside0.mk (Kd.R_below (by (with_reducible repeat (first | apply Kd.R_alloc | apply Kd.R_drewN | apply Kd.R_drew)); exact HO149.out) hb); have n1_ := Aside0.mk (Kd.S_lower ho0 (below_size (by repeat (first | (with_reducible first | exact HB.out | apply below_alloc | apply pw_below_drewN | apply below_drew1) | exact HB.out)))); have n2_ := Aside0.mk (below_step (by repeat (first | (with_reducible first | exact HB.out | apply below_alloc | apply pw_below_drewN | apply below_drew1) | exact HB.out)) hb); clear HO149; clear HB; have HO149 := n0_; have HO153 := n1_; have HB := n2_; clear n0_ n1_ n2_; (try clear hb); (try clear hb2); (try clear hk); (try clear hi); (try clear ho0)) | ((with_reducible refine gate_callee (f := 5) rfl ?_); refine goesL_ (some 35) rfl rfl Try.func5 (by kernel_rfl) rfl #[] rfl (by (try simp only [List.map_toArray, List.map_cons, List.map_nil]); first | done | rfl | (simp only [List.length_drop, List.length_take]; rfl)) ?_; (with_reducible refine (glossatorkeep3_indexExample.calls k  false _ A88.out).mono ?_); rintro e w99 ⟨rfl, hb⟩; refine ⟨_, rfl, ?_⟩; have n0_ := Aside0.mk (Kd.R_below (by (with_reducible repeat (first | apply Kd.R_alloc | apply Kd.R_drewN | apply Kd.R_drew)); exact HO149.out) hb); have n1_ := Aside0.mk (Kd.S_below (by (with_reducible repeat (first | apply Kd.S_alloc | apply Kd.S_drewN | apply Kd.S_drew)); exact HO153.out) hb); have n2_ := Aside0.mk (below_step (by repeat (first | (with_reducible first | exact HB.out | apply below_alloc | apply pw_below_drewN | apply below_drew1) | exact HB.out)) hb); clear HO149; clear HO153; clear HB; have HO149 := n0_; have HO153 := n1_; have HB := n2_; clear n0_ n1_ n2_; (try clear hb); (try clear hb2); (try clear hk); (try clear hi)))
        go_ret
        exact ⟨by first | rfl | (simp [errW_none, errW_some] <;> rfl) | (simp [*, errW_none, errW_some] <;> rfl), by repeat (first | (with_reducible first | exact HB.out | apply below_alloc | apply pw_below_drewN | apply below_drew1) | exact HB.out)⟩
  · replace c6 := Bool.eq_false_iff.mpr c6
    subst c6
    have H1 : (some false) = some r := by rw [if_neg (show ¬ (false = true) by decide)] at H; exact H
    clear H
    have H := H1
    clear H1
    obtain rfl := Option.some.inj H
    go_enter Try.func4, Try.ntmps4
    go_wp2_with (first | ((with_reducible refine gate_callee (f := 5) rfl ?_); refine goesL_ (some 19) rfl rfl Try.func5 (by kernel_rfl) rfl #[] rfl (by (try simp only [List.map_toArray, List.map_cons, List.map_nil]); first | done | rfl | (simp only [List.length_drop, List.length_take]; rfl)) ?_; (with_reducible refine (glossatorkeep3_indexExample.calls k  false _ A5.out).mono ?_); rintro e w100 ⟨rfl, hb⟩; refine ⟨_, rfl, ?_⟩; have n0_ := Aside0.mk (below_step (by repeat (first | (with_reducible first | exact HB.out | apply below_alloc | apply pw_below_drewN | apply below_drew1) | exact HB.out)) hb); clear HB; have HB := n0_; clear n0_; (try clear hb); (try clear hb2); (try clear hk); (try clear hi)))
    go_ret
    exact ⟨by first | rfl | (simp [errW_none, errW_some] <;> rfl) | (simp [*, errW_none, errW_some] <;> rfl), by repeat (first | (with_reducible first | exact HB.out | apply below_alloc | apply pw_below_drewN | apply below_drew1) | exact HB.out)⟩

end Go.Proofs.Ytngolmiegfgmmaa.Wf
