import Derived.Test.YtflemfibjjognaaJrx0
import Derived.Test.YtflemfibjjognaaJrx2
import Derived.Test.YtflemfibjjognaaJrx5
namespace Go.Proofs.Ytflemfibjjognaa.Jr
open Go.RowKit Go.Proofs.YtflemfibjjognaaW.PrintWords Go.Proofs.YtflemfibjjognaaW.PrintLast Go.Proofs.YtflemfibjjognaaW.PrintMore
attribute [local go_sem] max2_int min2_int max_two min_two max_three min_three max_four min_four   -- for this text's walks alone
set_option linter.unusedVariables false
set_option linter.unusedSimpArgs false

/-! ### glossatorkeep3_JournalTornWrite: function 4 -/
def glossatorkeep3_JournalTornWrite.j0 : Nat → Int → ByteArray → List (S31) → List (S31) → Int → Bool → Option (Bool)
  | 0, _, _, _, _, _, _ => none
  | k + 1, x1, x5, x6, x7, x8, x77 => if x77 = true then (some false) else (if 0 ≤ x8 then (if x8 ≤ (x5.size : Int) then (if (x7.length : Int) < (x6.length : Int) then (if 0 ≤ (x7.length : Int) then ((journal_Append.f k (x5.extract 0 (x8 : Int).toNat) ((rd_T31 x6 (x7.length : Int)).f0) ((rd_T31 x6 (x7.length : Int)).f1) ((rd_T31 x6 (x7.length : Int)).f2)).bind fun bt199 => ((glossatorkeep3_journalExample.f k).bind fun t201 => (if t201 = true then (if bt199.2 = 0 then (if (bt199.1.size : Int) > x1 then (if 0 ≤ (bt199.1.size : Int) then (if (bt199.1.size : Int) ≤ (x5.size : Int) then (some (bt199.1.toList == (x5.extract 0 ((bt199.1.size : Int) : Int).toNat).toList)) else (none)) else (none)) else (some false)) else (some false)) else (some false)))) else (none)) else ((glossatorkeep3_journalExample.f k).bind fun t202 => (if t202 = true then (some (x1 == (x5.size : Int))) else (some false)))) else (none)) else (none))
def glossatorkeep3_JournalTornWrite.f (k : Nat) (l0 : List (S31)) (a1 : Int) : Option (Bool) := (glossatorkeep3_journalExample.f k).bind fun t177 => (if t177 = true then ((glossatorkeep3_written.f k l0).bind fun bt178 => ((glossatorref3_Mod.f a1 (wrap64 ((bt178.1.size : Int) + 1))).bind fun t182 => (if 0 ≤ t182 then (if t182 ≤ (bt178.1.size : Int) then ((journal_Read.f k (bt178.1.extract 0 (t182 : Int).toNat)).bind fun bt183 => ((journal_Recover.f k (bt178.1.extract 0 (t182 : Int).toNat)).bind fun bt188 => (if bt183.2.2 = 0 then (if bt183.2.1 > t182 then (glossatorkeep3_JournalTornWrite.j0 k t182 bt178.1 bt178.2 bt183.1 bt183.2.1 true) else (if 0 ≤ bt183.2.1 then (if bt183.2.1 ≤ (bt178.1.size : Int) then (if bt188.1.toList = (bt178.1.extract 0 (bt183.2.1 : Int).toNat).toList then ((api_QRecord.f k bt183.1 bt188.2).bind fun t192 => (if t192 = true then (if (bt183.1.length : Int) > (bt178.2.length : Int) then (glossatorkeep3_JournalTornWrite.j0 k t182 bt178.1 bt178.2 bt183.1 bt183.2.1 true) else (if 0 ≤ (bt183.1.length : Int) then (if (bt183.1.length : Int) ≤ (bt178.2.length : Int) then ((api_QRecord.f k bt183.1 (bt178.2.take ((bt183.1.length : Int) : Int).toNat)).bind fun t197 => (glossatorkeep3_JournalTornWrite.j0 k t182 bt178.1 bt178.2 bt183.1 bt183.2.1 (!t197))) else (none)) else (none))) else (glossatorkeep3_JournalTornWrite.j0 k t182 bt178.1 bt178.2 bt183.1 bt183.2.1 true))) else (glossatorkeep3_JournalTornWrite.j0 k t182 bt178.1 bt178.2 bt183.1 bt183.2.1 true)) else (none)) else (none))) else (glossatorkeep3_JournalTornWrite.j0 k t182 bt178.1 bt178.2 bt183.1 bt183.2.1 true)))) else (none)) else (none)))) else (some false))
theorem glossatorkeep3_JournalTornWrite.mono_l : ∀ k, (∀ y0 y1 y2 y3 y4 y5, LeO (glossatorkeep3_JournalTornWrite.j0 k y0 y1 y2 y3 y4 y5) (glossatorkeep3_JournalTornWrite.j0 (k + 1) y0 y1 y2 y3 y4 y5))
  | 0 => fun _ _ _ _ _ _ r h => by simp [glossatorkeep3_JournalTornWrite.j0] at h
  | k + 1 => by
    have ih0 := glossatorkeep3_JournalTornWrite.mono_l k
    · intro y0 y1 y2 y3 y4 y5
      unfold glossatorkeep3_JournalTornWrite.j0
      repeat' first
      | (with_reducible exact ih0 _ _ _ _ _ _)
      | (with_reducible exact api_QRecord.mono _ _ _)
      | (with_reducible exact glossatorkeep3_journalExample.mono _)
      | (with_reducible exact glossatorkeep3_written.mono _ _)
      | (with_reducible exact journal_Append.mono _ _ _ _ _)
      | (with_reducible exact journal_Read.mono _ _)
      | (with_reducible exact journal_Recover.mono _ _)
      | (with_reducible exact LeO.refl _)
      | (with_reducible exact LeO.none _)
      | (with_reducible refine LeO.ite ?_ ?_)
      | (with_reducible refine LeO.bind ?_ (fun _ => ?_))
      | exact ih0 _ _ _ _ _ _
      | exact api_QRecord.mono _ _ _
      | exact glossatorkeep3_journalExample.mono _
      | exact glossatorkeep3_written.mono _ _
      | exact journal_Append.mono _ _ _ _ _
      | exact journal_Read.mono _ _
      | exact journal_Recover.mono _ _
      | exact LeO.none _
      | refine LeO.ite ?_ ?_
      | refine LeO.bind ?_ (fun _ => ?_)
theorem glossatorkeep3_JournalTornWrite.mono : ∀ a0 a1 k, LeO (glossatorkeep3_JournalTornWrite.f k a0 a1) (glossatorkeep3_JournalTornWrite.f (k + 1) a0 a1) := by
  intro a0 a1 k
  have ih0 := glossatorkeep3_JournalTornWrite.mono_l k
  unfold glossatorkeep3_JournalTornWrite.f
  repeat' first
      | (with_reducible exact ih0 _ _ _ _ _ _)
      | (with_reducible exact api_QRecord.mono _ _ _)
      | (with_reducible exact glossatorkeep3_journalExample.mono _)
      | (with_reducible exact glossatorkeep3_written.mono _ _)
      | (with_reducible exact journal_Append.mono _ _ _ _ _)
      | (with_reducible exact journal_Read.mono _ _)
      | (with_reducible exact journal_Recover.mono _ _)
      | (with_reducible exact LeO.refl _)
      | (with_reducible exact LeO.none _)
      | (with_reducible refine LeO.ite ?_ ?_)
      | (with_reducible refine LeO.bind ?_ (fun _ => ?_))
      | exact ih0 _ _ _ _ _ _
      | exact api_QRecord.mono _ _ _
      | exact glossatorkeep3_journalExample.mono _
      | exact glossatorkeep3_written.mono _ _
      | exact journal_Append.mono _ _ _ _ _
      | exact journal_Read.mono _ _
      | exact journal_Recover.mono _ _
      | exact LeO.none _
      | refine LeO.ite ?_ ?_
      | refine LeO.bind ?_ (fun _ => ?_)
set_option maxHeartbeats 8000000 in
set_option maxRecDepth 100000 in
theorem glossatorkeep3_JournalTornWrite.calls (k : Nat) (A0 : Option Addr) (c0 : Nat) (l0 : List (S31)) (a1 : Int) (r : Bool) (w : World) (hr0 : Kd.C k31 w A0 l0.length l0) (hc0 : l0.length ≤ c0) (h : glossatorkeep3_JournalTornWrite.f k l0 a1 = some r) :
    Calls Try.prog 4 #[.slice A0 l0.length c0, .int .i64 a1] w fun e w' => e = .returned (.bool r) ∧ Below w.heap.size w w' := by
  have hu31 := Try.underlying31
  have HR0 := Aside0.mk hr0
  have HC0 := Aside0.mk hc0
  clear hr0 hc0
  have HB := Aside0.mk (Below.refl w.heap.size w)
  have H : ((glossatorkeep3_journalExample.f k).bind fun t177 => (if t177 = true then ((glossatorkeep3_written.f k l0).bind fun bt178 => ((glossatorref3_Mod.f a1 (wrap64 ((bt178.1.size : Int) + 1))).bind fun t182 => (if 0 ≤ t182 then (if t182 ≤ (bt178.1.size : Int) then ((journal_Read.f k (bt178.1.extract 0 (t182 : Int).toNat)).bind fun bt183 => ((journal_Recover.f k (bt178.1.extract 0 (t182 : Int).toNat)).bind fun bt188 => (if bt183.2.2 = 0 then (if bt183.2.1 > t182 then (glossatorkeep3_JournalTornWrite.j0 k t182 bt178.1 bt178.2 bt183.1 bt183.2.1 true) else (if 0 ≤ bt183.2.1 then (if bt183.2.1 ≤ (bt178.1.size : Int) then (if bt188.1.toList = (bt178.1.extract 0 (bt183.2.1 : Int).toNat).toList then ((api_QRecord.f k bt183.1 bt188.2).bind fun t192 => (if t192 = true then (if (bt183.1.length : Int) > (bt178.2.length : Int) then (glossatorkeep3_JournalTornWrite.j0 k t182 bt178.1 bt178.2 bt183.1 bt183.2.1 true) else (if 0 ≤ (bt183.1.length : Int) then (if (bt183.1.length : Int) ≤ (bt178.2.length : Int) then ((api_QRecord.f k bt183.1 (bt178.2.take ((bt183.1.length : Int) : Int).toNat)).bind fun t197 => (glossatorkeep3_JournalTornWrite.j0 k t182 bt178.1 bt178.2 bt183.1 bt183.2.1 (!t197))) else (none)) else (none))) else (glossatorkeep3_JournalTornWrite.j0 k t182 bt178.1 bt178.2 bt183.1 bt183.2.1 true))) else (glossatorkeep3_JournalTornWrite.j0 k t182 bt178.1 bt178.2 bt183.1 bt183.2.1 true)) else (none)) else (none))) else (glossatorkeep3_JournalTornWrite.j0 k t182 bt178.1 bt178.2 bt183.1 bt183.2.1 true)))) else (none)) else (none)))) else (some false))) = some r := h
  clear h
  replace H := Option.bind_eq_some_iff.mp H
  obtain ⟨t177, A30, H⟩ := H
  replace H : (if t177 = true then ((glossatorkeep3_written.f k l0).bind fun bt178 => ((glossatorref3_Mod.f a1 (wrap64 ((bt178.1.size : Int) + 1))).bind fun t182 => (if 0 ≤ t182 then (if t182 ≤ (bt178.1.size : Int) then ((journal_Read.f k (bt178.1.extract 0 (t182 : Int).toNat)).bind fun bt183 => ((journal_Recover.f k (bt178.1.extract 0 (t182 : Int).toNat)).bind fun bt188 => (if bt183.2.2 = 0 then (if bt183.2.1 > t182 then (glossatorkeep3_JournalTornWrite.j0 k t182 bt178.1 bt178.2 bt183.1 bt183.2.1 true) else (if 0 ≤ bt183.2.1 then (if bt183.2.1 ≤ (bt178.1.size : Int) then (if bt188.1.toList = (bt178.1.extract 0 (bt183.2.1 : Int).toNat).toList then ((api_QRecord.f k bt183.1 bt188.2).bind fun t192 => (if t192 = true then (if (bt183.1.length : Int) > (bt178.2.length : Int) then (glossatorkeep3_JournalTornWrite.j0 k t182 bt178.1 bt178.2 bt183.1 bt183.2.1 true) else (if 0 ≤ (bt183.1.length : Int) then (if (bt183.1.length : Int) ≤ (bt178.2.length : Int) then ((api_QRecord.f k bt183.1 (bt178.2.take ((bt183.1.length : Int) : Int).toNat)).bind fun t197 => (glossatorkeep3_JournalTornWrite.j0 k t182 bt178.1 bt178.2 bt183.1 bt183.2.1 (!t197))) else (none)) else (none))) else (glossatorkeep3_JournalTornWrite.j0 k t182 bt178.1 bt178.2 bt183.1 bt183.2.1 true))) else (glossatorkeep3_JournalTornWrite.j0 k t182 bt178.1 bt178.2 bt183.1 bt183.2.1 true)) else (none)) else (none))) else (glossatorkeep3_JournalTornWrite.j0 k t182 bt178.1 bt178.2 bt183.1 bt183.2.1 true)))) else (none)) else (none)))) else (some false)) = some r := H
  have A3 := Aside0.mk A30
  clear A30
  by_cases c4 : t177 = true
  · subst c4
    have H1 : ((glossatorkeep3_written.f k l0).bind fun bt178 => ((glossatorref3_Mod.f a1 (wrap64 ((bt178.1.size : Int) + 1))).bind fun t182 => (if 0 ≤ t182 then (if t182 ≤ (bt178.1.size : Int) then ((journal_Read.f k (bt178.1.extract 0 (t182 : Int).toNat)).bind fun bt183 => ((journal_Recover.f k (bt178.1.extract 0 (t182 : Int).toNat)).bind fun bt188 => (if bt183.2.2 = 0 then (if bt183.2.1 > t182 then (glossatorkeep3_JournalTornWrite.j0 k t182 bt178.1 bt178.2 bt183.1 bt183.2.1 true) else (if 0 ≤ bt183.2.1 then (if bt183.2.1 ≤ (bt178.1.size : Int) then (if bt188.1.toList = (bt178.1.extract 0 (bt183.2.1 : Int).toNat).toList then ((api_QRecord.f k bt183.1 bt188.2).bind fun t192 => (if t192 = true then (if (bt183.1.length : Int) > (bt178.2.length : Int) then (glossatorkeep3_JournalTornWrite.j0 k t182 bt178.1 bt178.2 bt183.1 bt183.2.1 true) else (if 0 ≤ (bt183.1.length : Int) then (if (bt183.1.length : Int) ≤ (bt178.2.length : Int) then ((api_QRecord.f k bt183.1 (bt178.2.take ((bt183.1.length : Int) : Int).toNat)).bind fun t197 => (glossatorkeep3_JournalTornWrite.j0 k t182 bt178.1 bt178.2 bt183.1 bt183.2.1 (!t197))) else (none)) else (none))) else (glossatorkeep3_JournalTornWrite.j0 k t182 bt178.1 bt178.2 bt183.1 bt183.2.1 true))) else (glossatorkeep3_JournalTornWrite.j0 k t182 bt178.1 bt178.2 bt183.1 bt183.2.1 true)) else (none)) else (none))) else (glossatorkeep3_JournalTornWrite.j0 k t182 bt178.1 bt178.2 bt183.1 bt183.2.1 true)))) else (none)) else (none)))) = some r := by rw [if_pos rfl] at H; exact H
    clear H
    have H := H1
    clear H1
    replace H := Option.bind_eq_some_iff.mp H
    obtain ⟨⟨t178, t179⟩, A50, H⟩ := H
    replace H : ((glossatorref3_Mod.f a1 (wrap64 ((t178.size : Int) + 1))).bind fun t182 => (if 0 ≤ t182 then (if t182 ≤ (t178.size : Int) then ((journal_Read.f k (t178.extract 0 (t182 : Int).toNat)).bind fun bt183 => ((journal_Recover.f k (t178.extract 0 (t182 : Int).toNat)).bind fun bt188 => (if bt183.2.2 = 0 then (if bt183.2.1 > t182 then (glossatorkeep3_JournalTornWrite.j0 k t182 t178 t179 bt183.1 bt183.2.1 true) else (if 0 ≤ bt183.2.1 then (if bt183.2.1 ≤ (t178.size : Int) then (if bt188.1.toList = (t178.extract 0 (bt183.2.1 : Int).toNat).toList then ((api_QRecord.f k bt183.1 bt188.2).bind fun t192 => (if t192 = true then (if (bt183.1.length : Int) > (t179.length : Int) then (glossatorkeep3_JournalTornWrite.j0 k t182 t178 t179 bt183.1 bt183.2.1 true) else (if 0 ≤ (bt183.1.length : Int) then (if (bt183.1.length : Int) ≤ (t179.length : Int) then ((api_QRecord.f k bt183.1 (t179.take ((bt183.1.length : Int) : Int).toNat)).bind fun t197 => (glossatorkeep3_JournalTornWrite.j0 k t182 t178 t179 bt183.1 bt183.2.1 (!t197))) else (none)) else (none))) else (glossatorkeep3_JournalTornWrite.j0 k t182 t178 t179 bt183.1 bt183.2.1 true))) else (glossatorkeep3_JournalTornWrite.j0 k t182 t178 t179 bt183.1 bt183.2.1 true)) else (none)) else (none))) else (glossatorkeep3_JournalTornWrite.j0 k t182 t178 t179 bt183.1 bt183.2.1 true)))) else (none)) else (none))) = some r := H
    have A5 := Aside0.mk A50
    clear A50
    replace H := Option.bind_eq_some_iff.mp H
    obtain ⟨t182, A60, H⟩ := H
    replace H : (if 0 ≤ t182 then (if t182 ≤ (t178.size : Int) then ((journal_Read.f k (t178.extract 0 (t182 : Int).toNat)).bind fun bt183 => ((journal_Recover.f k (t178.extract 0 (t182 : Int).toNat)).bind fun bt188 => (if bt183.2.2 = 0 then (if bt183.2.1 > t182 then (glossatorkeep3_JournalTornWrite.j0 k t182 t178 t179 bt183.1 bt183.2.1 true) else (if 0 ≤ bt183.2.1 then (if bt183.2.1 ≤ (t178.size : Int) then (if bt188.1.toList = (t178.extract 0 (bt183.2.1 : Int).toNat).toList then ((api_QRecord.f k bt183.1 bt188.2).bind fun t192 => (if t192 = true then (if (bt183.1.length : Int) > (t179.length : Int) then (glossatorkeep3_JournalTornWrite.j0 k t182 t178 t179 bt183.1 bt183.2.1 true) else (if 0 ≤ (bt183.1.length : Int) then (if (bt183.1.length : Int) ≤ (t179.length : Int) then ((api_QRecord.f k bt183.1 (t179.take ((bt183.1.length : Int) : Int).toNat)).bind fun t197 => (glossatorkeep3_JournalTornWrite.j0 k t182 t178 t179 bt183.1 bt183.2.1 (!t197))) else (none)) else (none))) else (glossatorkeep3_JournalTornWrite.j0 k t182 t178 t179 bt183.1 bt183.2.1 true))) else (glossatorkeep3_JournalTornWrite.j0 k t182 t178 t179 bt183.1 bt183.2.1 true)) else (none)) else (none))) else (glossatorkeep3_JournalTornWrite.j0 k t182 t178 t179 bt183.1 bt183.2.1 true)))) else (none)) else (none)) = some r := H
    have A6 := Aside0.mk A60
    clear A60
    by_cases c7 : 0 ≤ t182
    · rw [if_pos c7] at H
      have c7b0 := eq_true c7
      have c7b1 : decide (0 ≤ t182) = true := decide_eq_true c7
      clear c7
      by_cases c8 : t182 ≤ (t178.size : Int)
      · rw [if_pos c8] at H
        have c8b0 := eq_true c8
        have c8b1 : decide (t182 ≤ (t178.size : Int)) = true := decide_eq_true c8
        clear c8
        replace H := Option.bind_eq_some_iff.mp H
        obtain ⟨⟨t183, t184, t185⟩, A90, H⟩ := H
        replace H : ((journal_Recover.f k (t178.extract 0 (t182 : Int).toNat)).bind fun bt188 => (if t185 = 0 then (if t184 > t182 then (glossatorkeep3_JournalTornWrite.j0 k t182 t178 t179 t183 t184 true) else (if 0 ≤ t184 then (if t184 ≤ (t178.size : Int) then (if bt188.1.toList = (t178.extract 0 (t184 : Int).toNat).toList then ((api_QRecord.f k t183 bt188.2).bind fun t192 => (if t192 = true then (if (t183.length : Int) > (t179.length : Int) then (glossatorkeep3_JournalTornWrite.j0 k t182 t178 t179 t183 t184 true) else (if 0 ≤ (t183.length : Int) then (if (t183.length : Int) ≤ (t179.length : Int) then ((api_QRecord.f k t183 (t179.take ((t183.length : Int) : Int).toNat)).bind fun t197 => (glossatorkeep3_JournalTornWrite.j0 k t182 t178 t179 t183 t184 (!t197))) else (none)) else (none))) else (glossatorkeep3_JournalTornWrite.j0 k t182 t178 t179 t183 t184 true))) else (glossatorkeep3_JournalTornWrite.j0 k t182 t178 t179 t183 t184 true)) else (none)) else (none))) else (glossatorkeep3_JournalTornWrite.j0 k t182 t178 t179 t183 t184 true))) = some r := H
        have A9 := Aside0.mk A90
        clear A90
        have c10b0 := eq_true (of_decide_eq_true (by first | (with_reducible assumption) | assumption) : 0 ≤ t182)
        have c11b0 := eq_true (of_decide_eq_true (by first | (with_reducible assumption) | assumption) : t182 ≤ (t178.size : Int))
        replace H := Option.bind_eq_some_iff.mp H
        obtain ⟨⟨t188, t189⟩, A120, H⟩ := H
        replace H : (if t185 = 0 then (if t184 > t182 then (glossatorkeep3_JournalTornWrite.j0 k t182 t178 t179 t183 t184 true) else (if 0 ≤ t184 then (if t184 ≤ (t178.size : Int) then (if t188.toList = (t178.extract 0 (t184 : Int).toNat).toList then ((api_QRecord.f k t183 t189).bind fun t192 => (if t192 = true then (if (t183.length : Int) > (t179.length : Int) then (glossatorkeep3_JournalTornWrite.j0 k t182 t178 t179 t183 t184 true) else (if 0 ≤ (t183.length : Int) then (if (t183.length : Int) ≤ (t179.length : Int) then ((api_QRecord.f k t183 (t179.take ((t183.length : Int) : Int).toNat)).bind fun t197 => (glossatorkeep3_JournalTornWrite.j0 k t182 t178 t179 t183 t184 (!t197))) else (none)) else (none))) else (glossatorkeep3_JournalTornWrite.j0 k t182 t178 t179 t183 t184 true))) else (glossatorkeep3_JournalTornWrite.j0 k t182 t178 t179 t183 t184 true)) else (none)) else (none))) else (glossatorkeep3_JournalTornWrite.j0 k t182 t178 t179 t183 t184 true)) = some r := H
        have A12 := Aside0.mk A120
        clear A120
        have HC13 := Aside0.mk H
        clear H
        go_enter Try.func4, Try.ntmps4
        go_upto_region 7 with (first | ((with_reducible refine gate_callee (f := 8) rfl ?_); refine goesL_ (some 15) rfl rfl Try.func8 (by kernel_rfl) rfl #[] rfl (by (try simp only [List.map_toArray, List.map_cons, List.map_nil]); first | done | rfl | (simp only [List.length_drop, List.length_take]; rfl)) ?_; (with_reducible refine (glossatorkeep3_journalExample.calls k  true _ A3.out).mono ?_); rintro e w14 ⟨rfl, hb⟩; refine ⟨_, rfl, ?_⟩; have n0_ := Aside0.mk (below_step (by repeat (first | (with_reducible first | exact HB.out | apply below_alloc | apply pw_below_drewN | apply below_drew1) | exact HB.out)) hb); clear HB; have HB := n0_; clear n0_; (try clear hb); (try clear hb2); (try clear hk); (try clear hi)) | ((with_reducible refine gate_callee (f := 9) rfl ?_); refine goesL_ (some 19) rfl rfl Try.func9 (by kernel_rfl) rfl #[.slice A0 l0.length c0] rfl (by (try simp only [List.map_toArray, List.map_cons, List.map_nil]); first | done | rfl | (simp only [List.length_drop, List.length_take]; rfl)) ?_; (with_reducible refine (glossatorkeep3_written.calls k _ _ l0 t178 t179 _ ?side1 ?side2 A5.out).mono ?_); (case side1 => repeat (first | exact (Kd.C_below HR0.out HB.out) | (with_reducible refine Kd.C_alloc ?_ _) | (with_reducible refine Kd.C_drewN ?_ _) | (with_reducible refine Kd.C_drew ?_))); (case side2 => exact HC0.out); rintro e w15 ⟨v180, rfl, ho0, hb⟩; refine ⟨_, rfl, ?_⟩; have n0_ := Aside0.mk (Kd.R_lower ho0 (below_size (by repeat (first | (with_reducible first | exact HB.out | apply below_alloc | apply pw_below_drewN | apply below_drew1) | exact HB.out)))); have n1_ := Aside0.mk (below_step (by repeat (first | (with_reducible first | exact HB.out | apply below_alloc | apply pw_below_drewN | apply below_drew1) | exact HB.out)) hb); clear HB; have HO181 := n0_; have HB := n1_; clear n0_ n1_; (try clear hb); (try clear hb2); (try clear hk); (try clear hi); (try clear ho0)) | ((with_reducible refine gate_callee (f := 12) rfl ?_); refine goesL_ (some 26) rfl rfl Try.func12 (by kernel_rfl) rfl #[.int .i64 a1, .int .i64 (wrap64 ((t178.size : Int) + 1))] rfl (by (try simp only [List.map_toArray, List.map_cons, List.map_nil]); first | done | rfl | (simp only [List.length_drop, List.length_take]; rfl)) ?_; (with_reducible refine (glossatorref3_Mod.calls a1 (wrap64 ((t178.size : Int) + 1)) t182 _ A6.out).mono ?_); rintro e w' ⟨rfl, ⟨nd, rfl⟩⟩; refine ⟨_, rfl, ?_⟩) | ((with_reducible refine gate_callee (f := 10) rfl ?_); refine goesL_ (some 31) rfl rfl Try.func10 (by kernel_rfl) rfl #[.string (t178.extract 0 (t182 : Int).toNat)] rfl (by (try simp only [List.map_toArray, List.map_cons, List.map_nil]); first | done | rfl | (simp only [List.length_drop, List.length_take]; rfl)) ?_; (with_reducible refine (journal_Read.calls k (t178.extract 0 (t182 : Int).toNat) t183 t184 t185 _ A9.out).mono ?_); rintro e w16 ⟨v186, rfl, ho0, hb⟩; refine ⟨_, rfl, ?_⟩; have n0_ := Aside0.mk (Kd.R_elder' (by (with_reducible repeat (first | apply Kd.R_alloc | apply Kd.R_drewN | apply Kd.R_drew)); exact HO181.out) (Kd.R_base ho0) hb); have n1_ := Aside0.mk (Kd.R_lower (Kd.R_new' ho0 (Kd.R_lt (by (with_reducible repeat (first | apply Kd.R_alloc | apply Kd.R_drewN | apply Kd.R_drew)); exact HO181.out))) (below_size (by repeat (first | (with_reducible first | exact HB.out | apply below_alloc | apply pw_below_drewN | apply below_drew1) | exact HB.out)))); have n2_ := Aside0.mk (below_step (by repeat (first | (with_reducible first | exact HB.out | apply below_alloc | apply pw_below_drewN | apply below_drew1) | exact HB.out)) hb); clear HO181; clear HB; have HO181 := n0_; have HO187 := n1_; have HB := n2_; clear n0_ n1_ n2_; (try clear hb); (try clear hb2); (try clear hk); (try clear hi); (try clear ho0)) | ((with_reducible refine gate_callee (f := 13) rfl ?_); refine goesL_ (some 39) rfl rfl Try.func13 (by kernel_rfl) rfl #[.string (t178.extract 0 (t182 : Int).toNat)] rfl (by (try simp only [List.map_toArray, List.map_cons, List.map_nil]); first | done | rfl | (simp only [List.length_drop, List.length_take]; rfl)) ?_; (with_reducible refine (journal_Recover.calls k (t178.extract 0 (t182 : Int).toNat) t188 t189 _ A12.out).mono ?_); rintro e w17 ⟨v190, rfl, ho0, hb⟩; refine ⟨_, rfl, ?_⟩; have n0_ := Aside0.mk (Kd.R_elder' (by (with_reducible repeat (first | apply Kd.R_alloc | apply Kd.R_drewN | apply Kd.R_drew)); exact HO181.out) (Kd.R_base ho0) hb); have n1_ := Aside0.mk (Kd.R_elder' (by (with_reducible repeat (first | apply Kd.R_alloc | apply Kd.R_drewN | apply Kd.R_drew)); exact HO187.out) (Kd.R_base ho0) hb); have n2_ := Aside0.mk (Kd.R_lower (Kd.R_new' (Kd.R_new' ho0 (Kd.R_lt (by (with_reducible repeat (first | apply Kd.R_alloc | apply Kd.R_drewN | apply Kd.R_drew)); exact HO181.out))) (Kd.R_lt (by (with_reducible repeat (first | apply Kd.R_alloc | apply Kd.R_drewN | apply Kd.R_drew)); exact HO187.out))) (below_size (by repeat (first | (with_reducible first | exact HB.out | apply below_alloc | apply pw_below_drewN | apply below_drew1) | exact HB.out)))); have n3_ := Aside0.mk (below_step (by repeat (first | (with_reducible first | exact HB.out | apply below_alloc | apply pw_below_drewN | apply below_drew1) | exact HB.out)) hb); clear HO181; clear HO187; clear HB; have HO181 := n0_; have HO187 := n1_; have HO191 := n2_; have HB := n3_; clear n0_ n1_ n2_ n3_; (try clear hb); (try clear hb2); (try clear hk); (try clear hi); (try clear ho0)))
        (try simp only [Act.put, List.setIfInBounds_toArray, List.set_cons_zero, List.set_cons_succ])
        go_cut [77] (fun v77 wc => ∃ (kq : Nat) (x77_12 : Bool), v77 = .bool x77_12 ∧ Aside0 (glossatorkeep3_JournalTornWrite.j0 kq t182 t178 t179 t183 t184 x77_12 = some r) ∧ Aside0 (kq ≤ k) ∧ Aside0 (Kd.R k31 31 wc w.heap.size (fun k_ => some k_ ≠ (v186 : Value).ownBlock) v180 t179) ∧ Aside0 (Kd.R k31 31 wc w.heap.size (fun k_ => some k_ ≠ (v180 : Value).ownBlock) v186 t183) ∧ Aside0 (Below w.heap.size w wc))
        case first =>
          have H := HC13.out
          clear HC13
          by_cases c18 : t185 = 0
          · rw [if_pos c18] at H
            have c18b0 : (t185 == 0) = true := beq_iff_eq.mpr c18
            have c18b1 : (t185 != 0) = false := bne_eq_false_iff_eq.mpr c18
            clear c18
            (first | rw [c18b0] | (simp only [i64_w, i32_w]; rw [c18b0]) | skip)
            by_cases c19 : t184 > t182
            · rw [if_pos c19] at H
              have c19b0 : decide (t182 < t184) = true := decide_eq_true c19
              clear c19
              have H' := Aside0.mk H
              clear H
              go_wp2
              go_meet
              case rel => exact ⟨_, (true), (by first | rfl | (simp; done) | (rw [bne_nil_isEmpty]; done) | (simp [*]; done)), H', ⟨by first | omega | exact Nat.le_refl _⟩, ⟨by (with_reducible repeat (first | apply Kd.R_alloc | apply Kd.R_drewN | apply Kd.R_drew)); exact Kd.R_mono HO181.out (fun _ hk => hk.1.2)⟩, ⟨by (with_reducible repeat (first | apply Kd.R_alloc | apply Kd.R_drewN | apply Kd.R_drew)); exact Kd.R_mono HO187.out (fun _ hk => hk.1.2)⟩, ⟨by repeat (first | (with_reducible first | exact HB.out | apply below_alloc | apply pw_below_drewN | apply below_drew1) | exact HB.out)⟩⟩
            · rw [if_neg c19] at H
              have c19b0 : decide (t182 < t184) = false := decide_eq_false c19
              clear c19
              by_cases c20 : 0 ≤ t184
              · rw [if_pos c20] at H
                have c20b0 := eq_true c20
                have c20b1 : decide (0 ≤ t184) = true := decide_eq_true c20
                clear c20
                by_cases c21 : t184 ≤ (t178.size : Int)
                · rw [if_pos c21] at H
                  have c21b0 := eq_true c21
                  have c21b1 : decide (t184 ≤ (t178.size : Int)) = true := decide_eq_true c21
                  clear c21
                  by_cases c22 : t188.toList = (t178.extract 0 (t184 : Int).toNat).toList
                  · rw [if_pos c22] at H
                    have c22b0 : (t188.toList == (t178.extract 0 (t184 : Int).toNat).toList) = true := beq_iff_eq.mpr c22
                    have c22b1 : (t188.toList != (t178.extract 0 (t184 : Int).toNat).toList) = false := bne_eq_false_iff_eq.mpr c22
                    clear c22
                    replace H := Option.bind_eq_some_iff.mp H
                    obtain ⟨t192, A230, H⟩ := H
                    replace H : (if t192 = true then (if (t183.length : Int) > (t179.length : Int) then (glossatorkeep3_JournalTornWrite.j0 k t182 t178 t179 t183 t184 true) else (if 0 ≤ (t183.length : Int) then (if (t183.length : Int) ≤ (t179.length : Int) then ((api_QRecord.f k t183 (t179.take ((t183.length : Int) : Int).toNat)).bind fun t197 => (glossatorkeep3_JournalTornWrite.j0 k t182 t178 t179 t183 t184 (!t197))) else (none)) else (none))) else (glossatorkeep3_JournalTornWrite.j0 k t182 t178 t179 t183 t184 true)) = some r := H
                    have A23 := Aside0.mk A230
                    clear A230
                    by_cases c24 : t192 = true
                    · subst c24
                      have H1 : (if (t183.length : Int) > (t179.length : Int) then (glossatorkeep3_JournalTornWrite.j0 k t182 t178 t179 t183 t184 true) else (if 0 ≤ (t183.length : Int) then (if (t183.length : Int) ≤ (t179.length : Int) then ((api_QRecord.f k t183 (t179.take ((t183.length : Int) : Int).toNat)).bind fun t197 => (glossatorkeep3_JournalTornWrite.j0 k t182 t178 t179 t183 t184 (!t197))) else (none)) else (none))) = some r := by rw [if_pos rfl] at H; exact H
                      clear H
                      have H := H1
                      clear H1
                      by_cases c25 : (t183.length : Int) > (t179.length : Int)
                      · rw [if_pos c25] at H
                        have c25b0 : decide ((t179.length : Int) < (t183.length : Int)) = true := decide_eq_true c25
                        have c25b1 : decide (t179.length < t183.length) = true := decide_eq_true (Int.ofNat_lt.mp c25)
                        clear c25
                        have H' := Aside0.mk H
                        clear H
                        obtain ⟨Ao26, co26, eo26⟩ := Kd.R_slice HO187.out
                        subst eo26
                        obtain ⟨Ao27, co27, eo27⟩ := Kd.R_slice HO191.out
                        subst eo27
                        go_wp2_with (first | (go_at_call 11; (with_reducible refine (api_QRecord.calls k _ _ t183 _ _ t189 true _ ?side1 ?side2 ?side3 ?side4 A23.out).mono ?_); (case side1 => repeat (first | exact (Kd.R_reads' HO187.out).2.2 | (with_reducible refine Kd.C_alloc ?_ _) | (with_reducible refine Kd.C_drewN ?_ _) | (with_reducible refine Kd.C_drew ?_))); (case side2 => exact (Kd.R_reads' HO187.out).2.1); (case side3 => repeat (first | exact (Kd.R_reads' HO191.out).2.2 | (with_reducible refine Kd.C_alloc ?_ _) | (with_reducible refine Kd.C_drewN ?_ _) | (with_reducible refine Kd.C_drew ?_))); (case side4 => exact (Kd.R_reads' HO191.out).2.1); rintro e w28 ⟨rfl, hb⟩; have n0_ := Aside0.mk (Kd.R_below (by (with_reducible repeat (first | apply Kd.R_alloc | apply Kd.R_drewN | apply Kd.R_drew)); exact HO181.out) hb); have n1_ := Aside0.mk (Kd.R_below (by (with_reducible repeat (first | apply Kd.R_alloc | apply Kd.R_drewN | apply Kd.R_drew)); exact HO187.out) hb); have n2_ := Aside0.mk (Kd.R_below (by (with_reducible repeat (first | apply Kd.R_alloc | apply Kd.R_drewN | apply Kd.R_drew)); exact HO191.out) hb); have n3_ := Aside0.mk (below_step (by repeat (first | (with_reducible first | exact HB.out | apply below_alloc | apply pw_below_drewN | apply below_drew1) | exact HB.out)) hb); clear HO181; clear HO187; clear HO191; clear HB; have HO181 := n0_; have HO187 := n1_; have HO191 := n2_; have HB := n3_; clear n0_ n1_ n2_ n3_; (try clear hb); (try clear hb2); (try clear hk); (try clear hi); obtain ⟨Ao29, co29, eo29⟩ := Kd.R_slice HO181.out; subst eo29))
                        go_meet
                        case rel => exact ⟨_, (true), (by first | rfl | (simp; done) | (rw [bne_nil_isEmpty]; done) | (simp [*]; done)), H', ⟨by first | omega | exact Nat.le_refl _⟩, ⟨by (with_reducible repeat (first | apply Kd.R_alloc | apply Kd.R_drewN | apply Kd.R_drew)); exact Kd.R_mono HO181.out (fun _ hk => hk.1.2)⟩, ⟨by (with_reducible repeat (first | apply Kd.R_alloc | apply Kd.R_drewN | apply Kd.R_drew)); exact Kd.R_mono HO187.out (fun _ hk => hk.1.2)⟩, ⟨by repeat (first | (with_reducible first | exact HB.out | apply below_alloc | apply pw_below_drewN | apply below_drew1) | exact HB.out)⟩⟩
                      · rw [if_neg c25] at H
                        have c25b0 : decide ((t179.length : Int) < (t183.length : Int)) = false := decide_eq_false c25
                        have c25b1 : decide (t179.length < t183.length) = false := decide_eq_false (fun h => c25 (Int.ofNat_lt.mpr h))
                        clear c25
                        by_cases c30 : 0 ≤ (t183.length : Int)
                        · rw [if_pos c30] at H
                          have c30b0 := eq_true c30
                          have c30b1 : decide (0 ≤ (t183.length : Int)) = true := decide_eq_true c30
                          clear c30
                          by_cases c31 : (t183.length : Int) ≤ (t179.length : Int)
                          · rw [if_pos c31] at H
                            have c31b0 := eq_true c31
                            have c31b1 : decide ((t183.length : Int) ≤ (t179.length : Int)) = true := decide_eq_true c31
                            clear c31
                            obtain ⟨y193, hy193⟩ : ∃ y_ : List (S31), y_ = (t179.take ((t183.length : Int) : Int).toNat) := ⟨_, rfl⟩
                            replace H : ((api_QRecord.f k t183 y193).bind fun t197 => (glossatorkeep3_JournalTornWrite.j0 k t182 t178 t179 t183 t184 (!t197))) = some r := by first | (rw [hy193]; with_reducible exact H) | (have H2_ := (Option.bind_some _ _).symm.trans H; rw [hy193]; with_reducible exact H2_) | (have H2_ := (Option.bind_some _ _).symm.trans H; with_reducible exact H2_) | with_reducible exact H | (rw [hy193]; exact H) | exact H
                            have Ny193 := Aside0.mk hy193
                            clear hy193
                            replace H := Option.bind_eq_some_iff.mp H
                            obtain ⟨t197, A320, H⟩ := H
                            replace H : (glossatorkeep3_JournalTornWrite.j0 k t182 t178 t179 t183 t184 (!t197)) = some r := H
                            have A32 := Aside0.mk A320
                            clear A320
                            have H' := Aside0.mk H
                            clear H
                            obtain ⟨Ao33, co33, eo33⟩ := Kd.R_slice HO187.out
                            subst eo33
                            obtain ⟨Ao34, co34, eo34⟩ := Kd.R_slice HO191.out
                            subst eo34
                            go_wp2_with (first | (go_at_call 11; (with_reducible refine (api_QRecord.calls k _ _ t183 _ _ t189 true _ ?side1 ?side2 ?side3 ?side4 A23.out).mono ?_); (case side1 => repeat (first | exact (Kd.R_reads' HO187.out).2.2 | (with_reducible refine Kd.C_alloc ?_ _) | (with_reducible refine Kd.C_drewN ?_ _) | (with_reducible refine Kd.C_drew ?_))); (case side2 => exact (Kd.R_reads' HO187.out).2.1); (case side3 => repeat (first | exact (Kd.R_reads' HO191.out).2.2 | (with_reducible refine Kd.C_alloc ?_ _) | (with_reducible refine Kd.C_drewN ?_ _) | (with_reducible refine Kd.C_drew ?_))); (case side4 => exact (Kd.R_reads' HO191.out).2.1); rintro e w35 ⟨rfl, hb⟩; have n0_ := Aside0.mk (Kd.R_below (by (with_reducible repeat (first | apply Kd.R_alloc | apply Kd.R_drewN | apply Kd.R_drew)); exact HO181.out) hb); have n1_ := Aside0.mk (Kd.R_below (by (with_reducible repeat (first | apply Kd.R_alloc | apply Kd.R_drewN | apply Kd.R_drew)); exact HO187.out) hb); have n2_ := Aside0.mk (Kd.R_below (by (with_reducible repeat (first | apply Kd.R_alloc | apply Kd.R_drewN | apply Kd.R_drew)); exact HO191.out) hb); have n3_ := Aside0.mk (below_step (by repeat (first | (with_reducible first | exact HB.out | apply below_alloc | apply pw_below_drewN | apply below_drew1) | exact HB.out)) hb); clear HO181; clear HO187; clear HO191; clear HB; have HO181 := n0_; have HO187 := n1_; have HO191 := n2_; have HB := n3_; clear n0_ n1_ n2_ n3_; (try clear hb); (try clear hb2); (try clear hk); (try clear hi); obtain ⟨Ao36, co36, eo36⟩ := Kd.R_slice HO181.out; subst eo36; have q37 : ((t183.length : Int) : Int) ≤ ((t179.length : Int) : Int) := of_decide_eq_true (by first | (with_reducible assumption) | assumption); obtain ⟨i037, hi037, _, hsz37, _⟩ := info_parts info31; have hroom37 : t179.length ≤ co36 := (Kd.R_reads' HO181.out).2.1; have hC37 : Kd.C k31 _ Ao36 t179.length t179 := (Kd.R_reads' HO181.out).2.2; have hcut37 := cut_to (P := Try.prog) 22 31 .i64 Try.underlying22 hi037 Ao36 t179.length co36 (t183.length : Int) (of_decide_eq_true (by first | (with_reducible assumption) | assumption)) q37 hroom37; have hr37 := Kd.C_take (m := ((t183.length : Int) : Int).toNat) hC37 (by omega); have hy37 : y193.length = ((t183.length : Int) : Int).toNat := (by rw [Ny193.out, List.length_take]; omega); rw [← Ny193.out] at hr37; rw [← hy37] at hcut37; have HR196 := Aside0.mk hr37; have HC196 := Aside0.mk (show y193.length ≤ co36 from by omega); clear hr37 hC37 hroom37 hi037 hsz37; have KY37 := Aside0.mk hy37; clear hy37; have KL37 := Aside0.mk (show ((t183.length : Int) : Int).toNat ≤ t179.length from by omega); replace q37 := eq_true q37) | (go_at_call 11; (with_reducible refine (api_QRecord.calls k _ _ t183 _ _ y193 t197 _ ?side1 ?side2 ?side3 ?side4 A32.out).mono ?_); (case side1 => repeat (first | exact (Kd.R_reads' HO187.out).2.2 | (with_reducible refine Kd.C_alloc ?_ _) | (with_reducible refine Kd.C_drewN ?_ _) | (with_reducible refine Kd.C_drew ?_))); (case side2 => exact (Kd.R_reads' HO187.out).2.1); (case side3 => repeat (first | exact (by repeat (first | (with_reducible exact HR196.out) | (with_reducible refine Kd.C_alloc ?_ _) | (with_reducible refine Kd.C_drewN ?_ _) | (with_reducible refine Kd.C_drew ?_) | exact HR196.out)) | (with_reducible refine Kd.C_alloc ?_ _) | (with_reducible refine Kd.C_drewN ?_ _) | (with_reducible refine Kd.C_drew ?_))); (case side4 => exact HC196.out); rintro e w38 ⟨rfl, hb⟩; have n0_ := Aside0.mk (Kd.R_below (by (with_reducible repeat (first | apply Kd.R_alloc | apply Kd.R_drewN | apply Kd.R_drew)); exact HO181.out) hb); have n1_ := Aside0.mk (Kd.R_below (by (with_reducible repeat (first | apply Kd.R_alloc | apply Kd.R_drewN | apply Kd.R_drew)); exact HO187.out) hb); have n2_ := Aside0.mk (Kd.R_below (by (with_reducible repeat (first | apply Kd.R_alloc | apply Kd.R_drewN | apply Kd.R_drew)); exact HO191.out) hb); have n3_ := Aside0.mk (Kd.C_below (by repeat (first | (with_reducible exact HR196.out) | (with_reducible refine Kd.C_alloc ?_ _) | (with_reducible refine Kd.C_drewN ?_ _) | (with_reducible refine Kd.C_drew ?_) | exact HR196.out)) hb); have n4_ := Aside0.mk (below_step (by repeat (first | (with_reducible first | exact HB.out | apply below_alloc | apply pw_below_drewN | apply below_drew1) | exact HB.out)) hb); clear HO181; clear HO187; clear HO191; clear HR196; clear HB; have HO181 := n0_; have HO187 := n1_; have HO191 := n2_; have HR196 := n3_; have HB := n4_; clear n0_ n1_ n2_ n3_ n4_; (try clear hb); (try clear hb2); (try clear hk); (try clear hi)))
                            go_meet
                            case rel => exact ⟨_, (!t197), (by first | rfl | (simp; done) | (rw [bne_nil_isEmpty]; done) | (simp [*]; done)), H', ⟨by first | omega | exact Nat.le_refl _⟩, ⟨by (with_reducible repeat (first | apply Kd.R_alloc | apply Kd.R_drewN | apply Kd.R_drew)); exact Kd.R_mono HO181.out (fun _ hk => hk.1.2)⟩, ⟨by (with_reducible repeat (first | apply Kd.R_alloc | apply Kd.R_drewN | apply Kd.R_drew)); exact Kd.R_mono HO187.out (fun _ hk => hk.1.2)⟩, ⟨by repeat (first | (with_reducible first | exact HB.out | apply below_alloc | apply pw_below_drewN | apply below_drew1) | exact HB.out)⟩⟩
                          · rw [if_neg c31] at H
                            exact absurd H (by simp)
                        · rw [if_neg c30] at H
                          exact absurd H (by simp)
                    · replace c24 := Bool.eq_false_iff.mpr c24
                      subst c24
                      have H1 : (glossatorkeep3_JournalTornWrite.j0 k t182 t178 t179 t183 t184 true) = some r := by rw [if_neg (show ¬ (false = true) by decide)] at H; exact H
                      clear H
                      have H := H1
                      clear H1
                      have H' := Aside0.mk H
                      clear H
                      obtain ⟨Ao39, co39, eo39⟩ := Kd.R_slice HO187.out
                      subst eo39
                      obtain ⟨Ao40, co40, eo40⟩ := Kd.R_slice HO191.out
                      subst eo40
                      go_wp2_with (first | (go_at_call 11; (with_reducible refine (api_QRecord.calls k _ _ t183 _ _ t189 false _ ?side1 ?side2 ?side3 ?side4 A23.out).mono ?_); (case side1 => repeat (first | exact (Kd.R_reads' HO187.out).2.2 | (with_reducible refine Kd.C_alloc ?_ _) | (with_reducible refine Kd.C_drewN ?_ _) | (with_reducible refine Kd.C_drew ?_))); (case side2 => exact (Kd.R_reads' HO187.out).2.1); (case side3 => repeat (first | exact (Kd.R_reads' HO191.out).2.2 | (with_reducible refine Kd.C_alloc ?_ _) | (with_reducible refine Kd.C_drewN ?_ _) | (with_reducible refine Kd.C_drew ?_))); (case side4 => exact (Kd.R_reads' HO191.out).2.1); rintro e w41 ⟨rfl, hb⟩; have n0_ := Aside0.mk (Kd.R_below (by (with_reducible repeat (first | apply Kd.R_alloc | apply Kd.R_drewN | apply Kd.R_drew)); exact HO181.out) hb); have n1_ := Aside0.mk (Kd.R_below (by (with_reducible repeat (first | apply Kd.R_alloc | apply Kd.R_drewN | apply Kd.R_drew)); exact HO187.out) hb); have n2_ := Aside0.mk (Kd.R_below (by (with_reducible repeat (first | apply Kd.R_alloc | apply Kd.R_drewN | apply Kd.R_drew)); exact HO191.out) hb); have n3_ := Aside0.mk (below_step (by repeat (first | (with_reducible first | exact HB.out | apply below_alloc | apply pw_below_drewN | apply below_drew1) | exact HB.out)) hb); clear HO181; clear HO187; clear HO191; clear HB; have HO181 := n0_; have HO187 := n1_; have HO191 := n2_; have HB := n3_; clear n0_ n1_ n2_ n3_; (try clear hb); (try clear hb2); (try clear hk); (try clear hi)))
                      go_meet
                      case rel => exact ⟨_, (true), (by first | rfl | (simp; done) | (rw [bne_nil_isEmpty]; done) | (simp [*]; done)), H', ⟨by first | omega | exact Nat.le_refl _⟩, ⟨by (with_reducible repeat (first | apply Kd.R_alloc | apply Kd.R_drewN | apply Kd.R_drew)); exact Kd.R_mono HO181.out (fun _ hk => hk.1.2)⟩, ⟨by (with_reducible repeat (first | apply Kd.R_alloc | apply Kd.R_drewN | apply Kd.R_drew)); exact Kd.R_mono HO187.out (fun _ hk => hk.1.2)⟩, ⟨by repeat (first | (with_reducible first | exact HB.out | apply below_alloc | apply pw_below_drewN | apply below_drew1) | exact HB.out)⟩⟩
                  · rw [if_neg c22] at H
                    have c22b0 : (t188.toList == (t178.extract 0 (t184 : Int).toNat).toList) = false := beq_eq_false_iff_ne.mpr c22
                    have c22b1 : (t188.toList != (t178.extract 0 (t184 : Int).toNat).toList) = true := bne_iff_ne.mpr c22
                    have H' := Aside0.mk H
                    clear H
                    go_wp2
                    go_meet
                    case rel => exact ⟨_, (true), (by first | rfl | (simp; done) | (rw [bne_nil_isEmpty]; done) | (simp [*]; done)), H', ⟨by first | omega | exact Nat.le_refl _⟩, ⟨by (with_reducible repeat (first | apply Kd.R_alloc | apply Kd.R_drewN | apply Kd.R_drew)); exact Kd.R_mono HO181.out (fun _ hk => hk.1.2)⟩, ⟨by (with_reducible repeat (first | apply Kd.R_alloc | apply Kd.R_drewN | apply Kd.R_drew)); exact Kd.R_mono HO187.out (fun _ hk => hk.1.2)⟩, ⟨by repeat (first | (with_reducible first | exact HB.out | apply below_alloc | apply pw_below_drewN | apply below_drew1) | exact HB.out)⟩⟩
                · rw [if_neg c21] at H
                  exact absurd H (by simp)
              · rw [if_neg c20] at H
                exact absurd H (by simp)
          · rw [if_neg c18] at H
            have c18b0 : (t185 == 0) = false := beq_eq_false_iff_ne.mpr c18
            have c18b1 : (t185 != 0) = true := bne_iff_ne.mpr c18
            (first | rw [c18b0] | (simp only [i64_w, i32_w]; rw [c18b0]) | skip)
            have H' := Aside0.mk H
            clear H
            go_wp2
            go_meet
            case rel => exact ⟨_, (true), (by first | rfl | (simp; done) | (rw [bne_nil_isEmpty]; done) | (simp [*]; done)), H', ⟨by first | omega | exact Nat.le_refl _⟩, ⟨by (with_reducible repeat (first | apply Kd.R_alloc | apply Kd.R_drewN | apply Kd.R_drew)); exact Kd.R_mono HO181.out (fun _ hk => hk.1.2)⟩, ⟨by (with_reducible repeat (first | apply Kd.R_alloc | apply Kd.R_drewN | apply Kd.R_drew)); exact Kd.R_mono HO187.out (fun _ hk => hk.1.2)⟩, ⟨by repeat (first | (with_reducible first | exact HB.out | apply below_alloc | apply pw_below_drewN | apply below_drew1) | exact HB.out)⟩⟩
        case rest =>
          clear HC13
          try clear c1
          try clear c2
          try clear p2
          try clear c3
          try clear p3
          try clear q3
          try clear c4
          try clear p6
          try clear c7
          try clear c7b0
          try clear c7b1
          try clear c8
          try clear c8b0
          try clear c8b1
          try clear c9
          try clear c10
          try clear c10b0
          try clear c11
          try clear c11b0
          try clear c12
          try clear c13
          try clear c18
          try clear c18b0
          try clear c18b1
          try clear c19
          try clear c19b0
          try clear c20
          try clear c20b0
          try clear c20b1
          try clear c21
          try clear c21b0
          try clear c21b1
          try clear c22
          try clear c22b0
          try clear c22b1
          try clear c24
          try clear c25
          try clear c25b0
          try clear c25b1
          try clear c30
          try clear c30b0
          try clear c30b1
          try clear c31
          try clear c31b0
          try clear c31b1
          try clear q37
          try clear q37
          obtain ⟨kq, x77_12, rfl, HA, HJ12, HO_6, HO_7, HB⟩ := hcut
          cases kq with
          | zero => exact absurd HA.out (by simp [glossatorkeep3_JournalTornWrite.j0])
          | succ kj12 =>
            have H := HA.out
            clear HA
            simp only [glossatorkeep3_JournalTornWrite.j0] at H
            by_cases c42 : x77_12 = true
            · subst c42
              have H1 : (some false) = some r := by rw [if_pos rfl] at H; exact H
              clear H
              have H := H1
              clear H1
              obtain rfl := Option.some.inj H
              go_wp2
              go_ret
              exact ⟨by first | rfl | (simp [errW_none, errW_some] <;> rfl) | (simp [*, errW_none, errW_some] <;> rfl), by repeat (first | (with_reducible first | exact HB.out | apply below_alloc | apply pw_below_drewN | apply below_drew1) | exact HB.out)⟩
            · replace c42 := Bool.eq_false_iff.mpr c42
              subst c42
              have H1 : (if 0 ≤ t184 then (if t184 ≤ (t178.size : Int) then (if (t183.length : Int) < (t179.length : Int) then (if 0 ≤ (t183.length : Int) then ((journal_Append.f kj12 (t178.extract 0 (t184 : Int).toNat) ((rd_T31 t179 (t183.length : Int)).f0) ((rd_T31 t179 (t183.length : Int)).f1) ((rd_T31 t179 (t183.length : Int)).f2)).bind fun bt199 => ((glossatorkeep3_journalExample.f kj12).bind fun t201 => (if t201 = true then (if bt199.2 = 0 then (if (bt199.1.size : Int) > t182 then (if 0 ≤ (bt199.1.size : Int) then (if (bt199.1.size : Int) ≤ (t178.size : Int) then (some (bt199.1.toList == (t178.extract 0 ((bt199.1.size : Int) : Int).toNat).toList)) else (none)) else (none)) else (some false)) else (some false)) else (some false)))) else (none)) else ((glossatorkeep3_journalExample.f kj12).bind fun t202 => (if t202 = true then (some (t182 == (t178.size : Int))) else (some false)))) else (none)) else (none)) = some r := by rw [if_neg (show ¬ (false = true) by decide)] at H; exact H
              clear H
              have H := H1
              clear H1
              by_cases c43 : 0 ≤ t184
              · rw [if_pos c43] at H
                have c43b0 := eq_true c43
                have c43b1 : decide (0 ≤ t184) = true := decide_eq_true c43
                clear c43
                by_cases c44 : t184 ≤ (t178.size : Int)
                · rw [if_pos c44] at H
                  have c44b0 := eq_true c44
                  have c44b1 : decide (t184 ≤ (t178.size : Int)) = true := decide_eq_true c44
                  clear c44
                  by_cases c45 : (t183.length : Int) < (t179.length : Int)
                  · rw [if_pos c45] at H
                    have c45b0 : decide ((t183.length : Int) < (t179.length : Int)) = true := decide_eq_true c45
                    have c45b1 : decide (t183.length < t179.length) = true := decide_eq_true (Int.ofNat_lt.mp c45)
                    clear c45
                    by_cases c46 : 0 ≤ (t183.length : Int)
                    · rw [if_pos c46] at H
                      have c46b0 : decide (0 ≤ (t183.length : Int)) = true := decide_eq_true c46
                      have c46b1 : decide (0 ≤ t183.length) = true := decide_eq_true (by omega)
                      clear c46
                      replace H := Option.bind_eq_some_iff.mp H
                      obtain ⟨⟨t199, t200⟩, A470, H⟩ := H
                      replace H : ((glossatorkeep3_journalExample.f kj12).bind fun t201 => (if t201 = true then (if t200 = 0 then (if (t199.size : Int) > t182 then (if 0 ≤ (t199.size : Int) then (if (t199.size : Int) ≤ (t178.size : Int) then (some (t199.toList == (t178.extract 0 ((t199.size : Int) : Int).toNat).toList)) else (none)) else (none)) else (some false)) else (some false)) else (some false))) = some r := H
                      have A47 := Aside0.mk A470
                      clear A470
                      replace H := Option.bind_eq_some_iff.mp H
                      obtain ⟨t201, A480, H⟩ := H
                      replace H : (if t201 = true then (if t200 = 0 then (if (t199.size : Int) > t182 then (if 0 ≤ (t199.size : Int) then (if (t199.size : Int) ≤ (t178.size : Int) then (some (t199.toList == (t178.extract 0 ((t199.size : Int) : Int).toNat).toList)) else (none)) else (none)) else (some false)) else (some false)) else (some false)) = some r := H
                      have A48 := Aside0.mk A480
                      clear A480
                      by_cases c49 : t201 = true
                      · subst c49
                        have H1 : (if t200 = 0 then (if (t199.size : Int) > t182 then (if 0 ≤ (t199.size : Int) then (if (t199.size : Int) ≤ (t178.size : Int) then (some (t199.toList == (t178.extract 0 ((t199.size : Int) : Int).toNat).toList)) else (none)) else (none)) else (some false)) else (some false)) = some r := by rw [if_pos rfl] at H; exact H
                        clear H
                        have H := H1
                        clear H1
                        by_cases c50 : t200 = 0
                        · rw [if_pos c50] at H
                          have c50b0 : (t200 == 0) = true := beq_iff_eq.mpr c50
                          have c50b1 : (t200 != 0) = false := bne_eq_false_iff_eq.mpr c50
                          clear c50
                          by_cases c51 : (t199.size : Int) > t182
                          · rw [if_pos c51] at H
                            have c51b0 : decide (t182 < (t199.size : Int)) = true := decide_eq_true c51
                            clear c51
                            by_cases c52 : 0 ≤ (t199.size : Int)
                            · rw [if_pos c52] at H
                              have c52b0 := eq_true c52
                              have c52b1 : decide (0 ≤ (t199.size : Int)) = true := decide_eq_true c52
                              clear c52
                              by_cases c53 : (t199.size : Int) ≤ (t178.size : Int)
                              · rw [if_pos c53] at H
                                have c53b0 := eq_true c53
                                have c53b1 : decide ((t199.size : Int) ≤ (t178.size : Int)) = true := decide_eq_true c53
                                clear c53
                                obtain rfl := Option.some.inj H
                                obtain ⟨Ao54, co54, eo54⟩ := Kd.R_slice HO_7.out
                                subst eo54
                                obtain ⟨Ao55, co55, eo55⟩ := Kd.R_slice HO_6.out
                                subst eo55
                                have p198 : 0 ≤ ((t183.length : Int) : Int) := of_decide_eq_true (by first | (with_reducible assumption) | assumption)
                                have q198 : (t183.length : Int) < (t179.length : Int) := of_decide_eq_true (by first | (with_reducible assumption) | assumption)
                                obtain ⟨ad198, e198, hx198_0, hx198_1, hx198_2⟩ := at_T31 (Kd.R_reads' HO_6.out).2.2 (t183.length : Int) p198 q198
                                cases e198
                                (try simp only [Go.IntWalk.toNatUp] at hx198_0)
                                (try simp only [Go.IntWalk.toNatUp] at hx198_1)
                                (try simp only [Go.IntWalk.toNatUp] at hx198_2)
                                replace p198 := eq_true p198
                                replace q198 := eq_true q198
                                go_wp2_with (first | ((with_reducible refine gate_callee (f := 14) rfl ?_); refine goesL_ (some 93) rfl rfl Try.func14 (by kernel_rfl) rfl #[.string (t178.extract 0 (t184 : Int).toNat), .agg #[.string ((rd_T31 t179 (t183.length : Int)).f0), .string ((rd_T31 t179 (t183.length : Int)).f1), .bool ((rd_T31 t179 (t183.length : Int)).f2)]] rfl (by (try simp only [List.map_toArray, List.map_cons, List.map_nil]); first | done | rfl | (simp only [List.length_drop, List.length_take]; rfl)) ?_; (with_reducible refine (journal_Append.calls kj12 (t178.extract 0 (t184 : Int).toNat) ((rd_T31 t179 (t183.length : Int)).f0) ((rd_T31 t179 (t183.length : Int)).f1) ((rd_T31 t179 (t183.length : Int)).f2) t199 t200 _ A47.out).mono ?_); rintro e w56 ⟨rfl, hb⟩; refine ⟨_, rfl, ?_⟩; have n0_ := Aside0.mk (Kd.R_below (by (with_reducible repeat (first | apply Kd.R_alloc | apply Kd.R_drewN | apply Kd.R_drew)); exact HO_6.out) hb); have n1_ := Aside0.mk (Kd.R_below (by (with_reducible repeat (first | apply Kd.R_alloc | apply Kd.R_drewN | apply Kd.R_drew)); exact HO_7.out) hb); have n2_ := Aside0.mk (below_step (by repeat (first | (with_reducible first | exact HB.out | apply below_alloc | apply pw_below_drewN | apply below_drew1) | exact HB.out)) hb); clear HO_6; clear HO_7; clear HB; have HO_6 := n0_; have HO_7 := n1_; have HB := n2_; clear n0_ n1_ n2_; (try clear hb); (try clear hb2); (try clear hk); (try clear hi)) | ((with_reducible refine gate_callee (f := 8) rfl ?_); refine goesL_ (some 96) rfl rfl Try.func8 (by kernel_rfl) rfl #[] rfl (by (try simp only [List.map_toArray, List.map_cons, List.map_nil]); first | done | rfl | (simp only [List.length_drop, List.length_take]; rfl)) ?_; (with_reducible refine (glossatorkeep3_journalExample.calls kj12  true _ A48.out).mono ?_); rintro e w57 ⟨rfl, hb⟩; refine ⟨_, rfl, ?_⟩; have n0_ := Aside0.mk (Kd.R_below (by (with_reducible repeat (first | apply Kd.R_alloc | apply Kd.R_drewN | apply Kd.R_drew)); exact HO_6.out) hb); have n1_ := Aside0.mk (Kd.R_below (by (with_reducible repeat (first | apply Kd.R_alloc | apply Kd.R_drewN | apply Kd.R_drew)); exact HO_7.out) hb); have n2_ := Aside0.mk (below_step (by repeat (first | (with_reducible first | exact HB.out | apply below_alloc | apply pw_below_drewN | apply below_drew1) | exact HB.out)) hb); clear HO_6; clear HO_7; clear HB; have HO_6 := n0_; have HO_7 := n1_; have HB := n2_; clear n0_ n1_ n2_; (try clear hb); (try clear hb2); (try clear hk); (try clear hi)))
                                go_ret
                                exact ⟨by first | rfl | (simp [errW_none, errW_some] <;> rfl) | (simp [*, errW_none, errW_some] <;> rfl), by repeat (first | (with_reducible first | exact HB.out | apply below_alloc | apply pw_below_drewN | apply below_drew1) | exact HB.out)⟩
                              · rw [if_neg c53] at H
                                exact absurd H (by simp)
                            · rw [if_neg c52] at H
                              exact absurd H (by simp)
                          · rw [if_neg c51] at H
                            have c51b0 : decide (t182 < (t199.size : Int)) = false := decide_eq_false c51
                            clear c51
                            obtain rfl := Option.some.inj H
                            obtain ⟨Ao58, co58, eo58⟩ := Kd.R_slice HO_7.out
                            subst eo58
                            obtain ⟨Ao59, co59, eo59⟩ := Kd.R_slice HO_6.out
                            subst eo59
                            have p198 : 0 ≤ ((t183.length : Int) : Int) := of_decide_eq_true (by first | (with_reducible assumption) | assumption)
                            have q198 : (t183.length : Int) < (t179.length : Int) := of_decide_eq_true (by first | (with_reducible assumption) | assumption)
                            obtain ⟨ad198, e198, hx198_0, hx198_1, hx198_2⟩ := at_T31 (Kd.R_reads' HO_6.out).2.2 (t183.length : Int) p198 q198
                            cases e198
                            (try simp only [Go.IntWalk.toNatUp] at hx198_0)
                            (try simp only [Go.IntWalk.toNatUp] at hx198_1)
                            (try simp only [Go.IntWalk.toNatUp] at hx198_2)
                            replace p198 := eq_true p198
                            replace q198 := eq_true q198
                            go_wp2_with (first | ((with_reducible refine gate_callee (f := 14) rfl ?_); refine goesL_ (some 93) rfl rfl Try.func14 (by kernel_rfl) rfl #[.string (t178.extract 0 (t184 : Int).toNat), .agg #[.string ((rd_T31 t179 (t183.length : Int)).f0), .string ((rd_T31 t179 (t183.length : Int)).f1), .bool ((rd_T31 t179 (t183.length : Int)).f2)]] rfl (by (try simp only [List.map_toArray, List.map_cons, List.map_nil]); first | done | rfl | (simp only [List.length_drop, List.length_take]; rfl)) ?_; (with_reducible refine (journal_Append.calls kj12 (t178.extract 0 (t184 : Int).toNat) ((rd_T31 t179 (t183.length : Int)).f0) ((rd_T31 t179 (t183.length : Int)).f1) ((rd_T31 t179 (t183.length : Int)).f2) t199 t200 _ A47.out).mono ?_); rintro e w60 ⟨rfl, hb⟩; refine ⟨_, rfl, ?_⟩; have n0_ := Aside0.mk (Kd.R_below (by (with_reducible repeat (first | apply Kd.R_alloc | apply Kd.R_drewN | apply Kd.R_drew)); exact HO_6.out) hb); have n1_ := Aside0.mk (Kd.R_below (by (with_reducible repeat (first | apply Kd.R_alloc | apply Kd.R_drewN | apply Kd.R_drew)); exact HO_7.out) hb); have n2_ := Aside0.mk (below_step (by repeat (first | (with_reducible first | exact HB.out | apply below_alloc | apply pw_below_drewN | apply below_drew1) | exact HB.out)) hb); clear HO_6; clear HO_7; clear HB; have HO_6 := n0_; have HO_7 := n1_; have HB := n2_; clear n0_ n1_ n2_; (try clear hb); (try clear hb2); (try clear hk); (try clear hi)) | ((with_reducible refine gate_callee (f := 8) rfl ?_); refine goesL_ (some 96) rfl rfl Try.func8 (by kernel_rfl) rfl #[] rfl (by (try simp only [List.map_toArray, List.map_cons, List.map_nil]); first | done | rfl | (simp only [List.length_drop, List.length_take]; rfl)) ?_; (with_reducible refine (glossatorkeep3_journalExample.calls kj12  true _ A48.out).mono ?_); rintro e w61 ⟨rfl, hb⟩; refine ⟨_, rfl, ?_⟩; have n0_ := Aside0.mk (Kd.R_below (by (with_reducible repeat (first | apply Kd.R_alloc | apply Kd.R_drewN | apply Kd.R_drew)); exact HO_6.out) hb); have n1_ := Aside0.mk (Kd.R_below (by (with_reducible repeat (first | apply Kd.R_alloc | apply Kd.R_drewN | apply Kd.R_drew)); exact HO_7.out) hb); have n2_ := Aside0.mk (below_step (by repeat (first | (with_reducible first | exact HB.out | apply below_alloc | apply pw_below_drewN | apply below_drew1) | exact HB.out)) hb); clear HO_6; clear HO_7; clear HB; have HO_6 := n0_; have HO_7 := n1_; have HB := n2_; clear n0_ n1_ n2_; (try clear hb); (try clear hb2); (try clear hk); (try clear hi)))
                            go_ret
                            exact ⟨by first | rfl | (simp [errW_none, errW_some] <;> rfl) | (simp [*, errW_none, errW_some] <;> rfl), by repeat (first | (with_reducible first | exact HB.out | apply below_alloc | apply pw_below_drewN | apply below_drew1) | exact HB.out)⟩
                        · rw [if_neg c50] at H
                          have c50b0 : (t200 == 0) = false := beq_eq_false_iff_ne.mpr c50
                          have c50b1 : (t200 != 0) = true := bne_iff_ne.mpr c50
                          obtain rfl := Option.some.inj H
                          obtain ⟨Ao62, co62, eo62⟩ := Kd.R_slice HO_7.out
                          subst eo62
                          obtain ⟨Ao63, co63, eo63⟩ := Kd.R_slice HO_6.out
                          subst eo63
                          have p198 : 0 ≤ ((t183.length : Int) : Int) := of_decide_eq_true (by first | (with_reducible assumption) | assumption)
                          have q198 : (t183.length : Int) < (t179.length : Int) := of_decide_eq_true (by first | (with_reducible assumption) | assumption)
                          obtain ⟨ad198, e198, hx198_0, hx198_1, hx198_2⟩ := at_T31 (Kd.R_reads' HO_6.out).2.2 (t183.length : Int) p198 q198
                          cases e198
                          (try simp only [Go.IntWalk.toNatUp] at hx198_0)
                          (try simp only [Go.IntWalk.toNatUp] at hx198_1)
                          (try simp only [Go.IntWalk.toNatUp] at hx198_2)
                          replace p198 := eq_true p198
                          replace q198 := eq_true q198
                          go_wp2_with (first | ((with_reducible refine gate_callee (f := 14) rfl ?_); refine goesL_ (some 93) rfl rfl Try.func14 (by kernel_rfl) rfl #[.string (t178.extract 0 (t184 : Int).toNat), .agg #[.string ((rd_T31 t179 (t183.length : Int)).f0), .string ((rd_T31 t179 (t183.length : Int)).f1), .bool ((rd_T31 t179 (t183.length : Int)).f2)]] rfl (by (try simp only [List.map_toArray, List.map_cons, List.map_nil]); first | done | rfl | (simp only [List.length_drop, List.length_take]; rfl)) ?_; (with_reducible refine (journal_Append.calls kj12 (t178.extract 0 (t184 : Int).toNat) ((rd_T31 t179 (t183.length : Int)).f0) ((rd_T31 t179 (t183.length : Int)).f1) ((rd_T31 t179 (t183.length : Int)).f2) t199 t200 _ A47.out).mono ?_); rintro e w64 ⟨rfl, hb⟩; refine ⟨_, rfl, ?_⟩; have n0_ := Aside0.mk (Kd.R_below (by (with_reducible repeat (first | apply Kd.R_alloc | apply Kd.R_drewN | apply Kd.R_drew)); exact HO_6.out) hb); have n1_ := Aside0.mk (Kd.R_below (by (with_reducible repeat (first | apply Kd.R_alloc | apply Kd.R_drewN | apply Kd.R_drew)); exact HO_7.out) hb); have n2_ := Aside0.mk (below_step (by repeat (first | (with_reducible first | exact HB.out | apply below_alloc | apply pw_below_drewN | apply below_drew1) | exact HB.out)) hb); clear HO_6; clear HO_7; clear HB; have HO_6 := n0_; have HO_7 := n1_; have HB := n2_; clear n0_ n1_ n2_; (try clear hb); (try clear hb2); (try clear hk); (try clear hi)) | ((with_reducible refine gate_callee (f := 8) rfl ?_); refine goesL_ (some 96) rfl rfl Try.func8 (by kernel_rfl) rfl #[] rfl (by (try simp only [List.map_toArray, List.map_cons, List.map_nil]); first | done | rfl | (simp only [List.length_drop, List.length_take]; rfl)) ?_; (with_reducible refine (glossatorkeep3_journalExample.calls kj12  true _ A48.out).mono ?_); rintro e w65 ⟨rfl, hb⟩; refine ⟨_, rfl, ?_⟩; have n0_ := Aside0.mk (Kd.R_below (by (with_reducible repeat (first | apply Kd.R_alloc | apply Kd.R_drewN | apply Kd.R_drew)); exact HO_6.out) hb); have n1_ := Aside0.mk (Kd.R_below (by (with_reducible repeat (first | apply Kd.R_alloc | apply Kd.R_drewN | apply Kd.R_drew)); exact HO_7.out) hb); have n2_ := Aside0.mk (below_step (by repeat (first | (with_reducible first | exact HB.out | apply below_alloc | apply pw_below_drewN | apply below_drew1) | exact HB.out)) hb); clear HO_6; clear HO_7; clear HB; have HO_6 := n0_; have HO_7 := n1_; have HB := n2_; clear n0_ n1_ n2_; (try clear hb); (try clear hb2); (try clear hk); (try clear hi)))
                          go_ret
                          exact ⟨by first | rfl | (simp [errW_none, errW_some] <;> rfl) | (simp [*, errW_none, errW_some] <;> rfl), by repeat (first | (with_reducible first | exact HB.out | apply below_alloc | apply pw_below_drewN | apply below_drew1) | exact HB.out)⟩
                      · replace c49 := Bool.eq_false_iff.mpr c49
                        subst c49
                        have H1 : (some false) = some r := by rw [if_neg (show ¬ (false = true) by decide)] at H; exact H
                        clear H
                        have H := H1
                        clear H1
                        obtain rfl := Option.some.inj H
                        obtain ⟨Ao66, co66, eo66⟩ := Kd.R_slice HO_7.out
                        subst eo66
                        obtain ⟨Ao67, co67, eo67⟩ := Kd.R_slice HO_6.out
                        subst eo67
                        have p198 : 0 ≤ ((t183.length : Int) : Int) := of_decide_eq_true (by first | (with_reducible assumption) | assumption)
                        have q198 : (t183.length : Int) < (t179.length : Int) := of_decide_eq_true (by first | (with_reducible assumption) | assumption)
                        obtain ⟨ad198, e198, hx198_0, hx198_1, hx198_2⟩ := at_T31 (Kd.R_reads' HO_6.out).2.2 (t183.length : Int) p198 q198
                        cases e198
                        (try simp only [Go.IntWalk.toNatUp] at hx198_0)
                        (try simp only [Go.IntWalk.toNatUp] at hx198_1)
                        (try simp only [Go.IntWalk.toNatUp] at hx198_2)
                        replace p198 := eq_true p198
                        replace q198 := eq_true q198
                        go_wp2_with (first | ((with_reducible refine gate_callee (f := 14) rfl ?_); refine goesL_ (some 93) rfl rfl Try.func14 (by kernel_rfl) rfl #[.string (t178.extract 0 (t184 : Int).toNat), .agg #[.string ((rd_T31 t179 (t183.length : Int)).f0), .string ((rd_T31 t179 (t183.length : Int)).f1), .bool ((rd_T31 t179 (t183.length : Int)).f2)]] rfl (by (try simp only [List.map_toArray, List.map_cons, List.map_nil]); first | done | rfl | (simp only [List.length_drop, List.length_take]; rfl)) ?_; (with_reducible refine (journal_Append.calls kj12 (t178.extract 0 (t184 : Int).toNat) ((rd_T31 t179 (t183.length : Int)).f0) ((rd_T31 t179 (t183.length : Int)).f1) ((rd_T31 t179 (t183.length : Int)).f2) t199 t200 _ A47.out).mono ?_); rintro e w68 ⟨rfl, hb⟩; refine ⟨_, rfl, ?_⟩; have n0_ := Aside0.mk (Kd.R_below (by (with_reducible repeat (first | apply Kd.R_alloc | apply Kd.R_drewN | apply Kd.R_drew)); exact HO_6.out) hb); have n1_ := Aside0.mk (Kd.R_below (by (with_reducible repeat (first | apply Kd.R_alloc | apply Kd.R_drewN | apply Kd.R_drew)); exact HO_7.out) hb); have n2_ := Aside0.mk (below_step (by repeat (first | (with_reducible first | exact HB.out | apply below_alloc | apply pw_below_drewN | apply below_drew1) | exact HB.out)) hb); clear HO_6; clear HO_7; clear HB; have HO_6 := n0_; have HO_7 := n1_; have HB := n2_; clear n0_ n1_ n2_; (try clear hb); (try clear hb2); (try clear hk); (try clear hi)) | ((with_reducible refine gate_callee (f := 8) rfl ?_); refine goesL_ (some 96) rfl rfl Try.func8 (by kernel_rfl) rfl #[] rfl (by (try simp only [List.map_toArray, List.map_cons, List.map_nil]); first | done | rfl | (simp only [List.length_drop, List.length_take]; rfl)) ?_; (with_reducible refine (glossatorkeep3_journalExample.calls kj12  false _ A48.out).mono ?_); rintro e w69 ⟨rfl, hb⟩; refine ⟨_, rfl, ?_⟩; have n0_ := Aside0.mk (Kd.R_below (by (with_reducible repeat (first | apply Kd.R_alloc | apply Kd.R_drewN | apply Kd.R_drew)); exact HO_6.out) hb); have n1_ := Aside0.mk (Kd.R_below (by (with_reducible repeat (first | apply Kd.R_alloc | apply Kd.R_drewN | apply Kd.R_drew)); exact HO_7.out) hb); have n2_ := Aside0.mk (below_step (by repeat (first | (with_reducible first | exact HB.out | apply below_alloc | apply pw_below_drewN | apply below_drew1) | exact HB.out)) hb); clear HO_6; clear HO_7; clear HB; have HO_6 := n0_; have HO_7 := n1_; have HB := n2_; clear n0_ n1_ n2_; (try clear hb); (try clear hb2); (try clear hk); (try clear hi)))
                        go_ret
                        exact ⟨by first | rfl | (simp [errW_none, errW_some] <;> rfl) | (simp [*, errW_none, errW_some] <;> rfl), by repeat (first | (with_reducible first | exact HB.out | apply below_alloc | apply pw_below_drewN | apply below_drew1) | exact HB.out)⟩
                    · rw [if_neg c46] at H
                      exact absurd H (by simp)
                  · rw [if_neg c45] at H
                    have c45b0 : decide ((t183.length : Int) < (t179.length : Int)) = false := decide_eq_false c45
                    have c45b1 : decide (t183.length < t179.length) = false := decide_eq_false (fun h => c45 (Int.ofNat_lt.mpr h))
                    clear c45
                    replace H := Option.bind_eq_some_iff.mp H
                    obtain ⟨t202, A700, H⟩ := H
                    replace H : (if t202 = true then (some (t182 == (t178.size : Int))) else (some false)) = some r := H
                    have A70 := Aside0.mk A700
                    clear A700
                    by_cases c71 : t202 = true
                    · subst c71
                      have H1 : (some (t182 == (t178.size : Int))) = some r := by rw [if_pos rfl] at H; exact H
                      clear H
                      have H := H1
                      clear H1
                      obtain rfl := Option.some.inj H
                      obtain ⟨Ao72, co72, eo72⟩ := Kd.R_slice HO_7.out
                      subst eo72
                      obtain ⟨Ao73, co73, eo73⟩ := Kd.R_slice HO_6.out
                      subst eo73
                      go_wp2_with (first | ((with_reducible refine gate_callee (f := 8) rfl ?_); refine goesL_ (some 115) rfl rfl Try.func8 (by kernel_rfl) rfl #[] rfl (by (try simp only [List.map_toArray, List.map_cons, List.map_nil]); first | done | rfl | (simp only [List.length_drop, List.length_take]; rfl)) ?_; (with_reducible refine (glossatorkeep3_journalExample.calls kj12  true _ A70.out).mono ?_); rintro e w74 ⟨rfl, hb⟩; refine ⟨_, rfl, ?_⟩; have n0_ := Aside0.mk (Kd.R_below (by (with_reducible repeat (first | apply Kd.R_alloc | apply Kd.R_drewN | apply Kd.R_drew)); exact HO_6.out) hb); have n1_ := Aside0.mk (Kd.R_below (by (with_reducible repeat (first | apply Kd.R_alloc | apply Kd.R_drewN | apply Kd.R_drew)); exact HO_7.out) hb); have n2_ := Aside0.mk (below_step (by repeat (first | (with_reducible first | exact HB.out | apply below_alloc | apply pw_below_drewN | apply below_drew1) | exact HB.out)) hb); clear HO_6; clear HO_7; clear HB; have HO_6 := n0_; have HO_7 := n1_; have HB := n2_; clear n0_ n1_ n2_; (try clear hb); (try clear hb2); (try clear hk); (try clear hi)))
                      go_ret
                      exact ⟨by first | rfl | (simp [errW_none, errW_some] <;> rfl) | (simp [*, errW_none, errW_some] <;> rfl), by repeat (first | (with_reducible first | exact HB.out | apply below_alloc | apply pw_below_drewN | apply below_drew1) | exact HB.out)⟩
                    · replace c71 := Bool.eq_false_iff.mpr c71
                      subst c71
                      have H1 : (some false) = some r := by rw [if_neg (show ¬ (false = true) by decide)] at H; exact H
                      clear H
                      have H := H1
                      clear H1
                      obtain rfl := Option.some.inj H
                      obtain ⟨Ao75, co75, eo75⟩ := Kd.R_slice HO_7.out
                      subst eo75
                      obtain ⟨Ao76, co76, eo76⟩ := Kd.R_slice HO_6.out
                      subst eo76
                      go_wp2_with (first | ((with_reducible refine gate_callee (f := 8) rfl ?_); refine goesL_ (some 115) rfl rfl Try.func8 (by kernel_rfl) rfl #[] rfl (by (try simp only [List.map_toArray, List.map_cons, List.map_nil]); first | done | rfl | (simp only [List.length_drop, List.length_take]; rfl)) ?_; (with_reducible refine (glossatorkeep3_journalExample.calls kj12  false _ A70.out).mono ?_); rintro e w77 ⟨rfl, hb⟩; refine ⟨_, rfl, ?_⟩; have n0_ := Aside0.mk (Kd.R_below (by (with_reducible repeat (first | apply Kd.R_alloc | apply Kd.R_drewN | apply Kd.R_drew)); exact HO_6.out) hb); have n1_ := Aside0.mk (Kd.R_below (by (with_reducible repeat (first | apply Kd.R_alloc | apply Kd.R_drewN | apply Kd.R_drew)); exact HO_7.out) hb); have n2_ := Aside0.mk (below_step (by repeat (first | (with_reducible first | exact HB.out | apply below_alloc | apply pw_below_drewN | apply below_drew1) | exact HB.out)) hb); clear HO_6; clear HO_7; clear HB; have HO_6 := n0_; have HO_7 := n1_; have HB := n2_; clear n0_ n1_ n2_; (try clear hb); (try clear hb2); (try clear hk); (try clear hi)))
                      go_ret
                      exact ⟨by first | rfl | (simp [errW_none, errW_some] <;> rfl) | (simp [*, errW_none, errW_some] <;> rfl), by repeat (first | (with_reducible first | exact HB.out | apply below_alloc | apply pw_below_drewN | apply below_drew1) | exact HB.out)⟩
                · rw [if_neg c44] at H
                  exact absurd H (by simp)
              · rw [if_neg c43] at H
                exact absurd H (by simp)
      · rw [if_neg c8] at H
        exact absurd H (by simp)
    · rw [if_neg c7] at H
      exact absurd H (by simp)
  · replace c4 := Bool.eq_false_iff.mpr c4
    subst c4
    have H1 : (some false) = some r := by rw [if_neg (show ¬ (false = true) by decide)] at H; exact H
    clear H
    have H := H1
    clear H1
    obtain rfl := Option.some.inj H
    go_enter Try.func4, Try.ntmps4
    go_wp2_with (first | ((with_reducible refine gate_callee (f := 8) rfl ?_); refine goesL_ (some 15) rfl rfl Try.func8 (by kernel_rfl) rfl #[] rfl (by (try simp only [List.map_toArray, List.map_cons, List.map_nil]); first | done | rfl | (simp only [List.length_drop, List.length_take]; rfl)) ?_; (with_reducible refine (glossatorkeep3_journalExample.calls k  false _ A3.out).mono ?_); rintro e w78 ⟨rfl, hb⟩; refine ⟨_, rfl, ?_⟩; have n0_ := Aside0.mk (below_step (by repeat (first | (with_reducible first | exact HB.out | apply below_alloc | apply pw_below_drewN | apply below_drew1) | exact HB.out)) hb); clear HB; have HB := n0_; clear n0_; (try clear hb); (try clear hb2); (try clear hk); (try clear hi)))
    go_ret
    exact ⟨by first | rfl | (simp [errW_none, errW_some] <;> rfl) | (simp [*, errW_none, errW_some] <;> rfl), by repeat (first | (with_reducible first | exact HB.out | apply below_alloc | apply pw_below_drewN | apply below_drew1) | exact HB.out)⟩

end Go.Proofs.Ytflemfibjjognaa.Jr
