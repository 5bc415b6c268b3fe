/- filewatch.Merge as a plain function. No condition. -/
import Derived.Test.YtgigbllohagfmaaFmx1
import Derived.Test.YtgigbllohagfmaaFihTb
set_option linter.unusedVariables false
set_option linter.unusedSimpArgs false
namespace Go.Proofs.Ytgigbllohagfmaa.Fi
open Go.RowKit Go.Proofs.YtgigbllohagfmaaW.PrintWords Go.Proofs.YtgigbllohagfmaaW.PrintLast Go.Proofs.YtgigbllohagfmaaW.PrintMore
def mg (a b : Int) : Int := if vk a = true then (if vk b = true then (if a = 1 ∧ b = 3 then 0 else if a = 1 then 1 else if b = 3 then 3 else 2) else a) else if vk b = true then b else 0
theorem vk_is (a : Int) : Fm.filewatch_validKind.f a = some (vk a) := by
  unfold Fm.filewatch_validKind.f vk
  by_cases h : a ≥ 1
  · have : (1 : Int) ≤ a := h
    rw [if_pos h]; simp [this]
  · have : ¬ (1 : Int) ≤ a := h
    rw [if_neg h]; simp [this]
theorem mg_is (a b : Int) : Fm.filewatch_Merge.f 3 a b = some (mg a b) := by
  unfold Fm.filewatch_Merge.f mg
  simp only [Fm.filewatch_Merge.j0, Fm.filewatch_Merge.j1, vk_is, Option.bind_some]
  by_cases ha : vk a = true
  · rw [if_pos ha, if_neg (by simp), if_pos ha]
    by_cases hb : vk b = true
    · by_cases h1 : a = 1 <;> by_cases h3 : b = 3 <;> simp_all
    · simp [ha, hb]
  · rw [if_neg ha, if_neg ha]
    by_cases hb : vk b = true
    · simp [ha, hb]
    · have hb' : vk b = false := by simpa using hb
      simp [ha, hb']
theorem mg_calls (a b : Int) (w : World) : Calls Try.prog 27 #[.int .i64 a, .int .i64 b] w fun e w' => e = .returned (.int .i64 (mg a b)) ∧ Drawn0 w w' := Fm.filewatch_Merge.calls 3 a b _ w (mg_is a b)
end Go.Proofs.Ytgigbllohagfmaa.Fi
