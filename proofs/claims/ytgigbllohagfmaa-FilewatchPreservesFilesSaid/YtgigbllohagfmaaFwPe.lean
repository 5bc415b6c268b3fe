/- The law that batches keep the files, as a statement about the printed function. No condition beside the arguments' size. -/
import Derived.Test.YtgigbllohagfmaaFwPd
import Derived.Test.YtgigbllohagfmaaFwx4
set_option linter.unusedVariables false
set_option linter.unusedSimpArgs false
namespace Go.Proofs.Ytgigbllohagfmaa.Fw
open Go.RowKit Go.Proofs.YtgigbllohagfmaaW.PrintWords Go.Proofs.YtgigbllohagfmaaW.PrintLast Go.Proofs.YtgigbllohagfmaaW.PrintMore
open Go.Proofs.Ytgigbllohagfmaa

theorem one_ex : one [(⟨0, (⟨#[97]⟩ : ByteArray), 1⟩ : S33), (⟨50, (⟨#[97]⟩ : ByteArray), 2⟩ : S33)] = [(⟨50, (⟨#[97]⟩ : ByteArray), 1⟩ : S33)] := by
  have hm : merged [(⟨0, (⟨#[97]⟩ : ByteArray), 1⟩ : S33), (⟨50, (⟨#[97]⟩ : ByteArray), 2⟩ : S33)] = [((⟨#[97]⟩ : ByteArray), (⟨50, (⟨#[97]⟩ : ByteArray), 1⟩ : S33))] := by
    simp [merged, merge1, Mp.aset, Mp.aget, mg, vk, z33]
  unfold one
  rw [hm]
  simp [outK, Sk.sortedKeys, Sk.bytes, Mp.aget]
def ex : List S33 := [(⟨0, (⟨#[97]⟩ : ByteArray), 1⟩ : S33), (⟨50, (⟨#[97]⟩ : ByteArray), 2⟩ : S33)]
theorem nb_ex : filewatch_newBatch.f ex 100 = some (150, [(⟨50, (⟨#[97]⟩ : ByteArray), 1⟩ : S33)]) := by
  unfold filewatch_newBatch.f
  rw [if_pos (by decide)]
  have := one_ex
  unfold one at this
  rw [show ex = [(⟨0, (⟨#[97]⟩ : ByteArray), 1⟩ : S33), (⟨50, (⟨#[97]⟩ : ByteArray), 2⟩ : S33)] from rfl, this]
  congr 2
  decide +kernel
theorem b_ex (k : Nat) (hk : 3000 ≤ k) : filewatch_Batches.f k ex 100 = some ([(⟨150, [(⟨50, (⟨#[97]⟩ : ByteArray), 1⟩ : S33)]⟩ : S31)], 0) := by
  have hT : Tm ex 50 := ⟨by simp [ex], by intro e he; simp [ex] at he; rcases he with rfl | rfl <;> decide, by simp [ex], by simp [ex]⟩
  unfold filewatch_Batches.f
  rw [validate_is ex 50 100 hT (by omega) (by decide) (by omega) (by omega) k hk, Option.bind_some, if_pos rfl]
  obtain ⟨k, rfl⟩ : ∃ m, k = m + 5 := ⟨k - 5, by omega⟩
  have e1 : (ex.take 2).drop 0 = ex := rfl
  have s1 : filewatch_Batches.l0 (k + 1) ex 100 [(⟨150, [(⟨50, (⟨#[97]⟩ : ByteArray), 1⟩ : S33)]⟩ : S31)] 2 2 2 = some ([(⟨150, [(⟨50, (⟨#[97]⟩ : ByteArray), 1⟩ : S33)]⟩ : S31)], 0) := by
    simp only [filewatch_Batches.l0]
    rw [if_neg (by omega)]
  have s2 : filewatch_Batches.j1 (k + 2) ex 100 [] 0 1 2 1 false = some ([(⟨150, [(⟨50, (⟨#[97]⟩ : ByteArray), 1⟩ : S33)]⟩ : S31)], 0) := by
    simp only [filewatch_Batches.j1]
    rw [if_neg (by simp), if_pos (by omega), show wrap64 ((1 : Int) + 1) = 2 from by decide +kernel, if_pos (by omega), if_pos (by decide), show ((2 : Int)).toNat = 2 from rfl, show ((0 : Int)).toNat = 0 from rfl, e1, nb_ex, Option.bind_some]
    simp only
    rw [if_pos (by decide), if_pos (by decide)]
    exact s1
  have s3 : filewatch_Batches.l0 (k + 3) ex 100 [] 0 2 1 = some ([(⟨150, [(⟨50, (⟨#[97]⟩ : ByteArray), 1⟩ : S33)]⟩ : S31)], 0) := by
    simp only [filewatch_Batches.l0]
    rw [if_pos (by omega), show wrap64 ((1 : Int) + 1) = 2 from by decide +kernel, if_neg (by decide)]
    exact s2
  have s4 : filewatch_Batches.j1 (k + 4) ex 100 [] 0 0 2 0 true = some ([(⟨150, [(⟨50, (⟨#[97]⟩ : ByteArray), 1⟩ : S33)]⟩ : S31)], 0) := by
    simp only [filewatch_Batches.j1]
    rw [if_pos trivial, show wrap64 ((0 : Int) + 1) = 1 from by decide +kernel]
    exact s3
  show filewatch_Batches.l0 (k + 5) ex 100 [] 0 2 0 = _
  simp only [filewatch_Batches.l0]
  rw [if_pos (by omega), show wrap64 ((0 : Int) + 1) = 1 from by decide +kernel, if_pos (by decide), if_pos (by omega), if_pos (by omega), if_pos (by decide)]
  have e2 : decide (wrap64 ((rd_T33 ex 1).f0 - (rd_T33 ex 0).f0) < 100) = true := by decide +kernel
  rw [e2]
  exact s4
theorem example_is (k : Nat) (hk : 3000 ≤ k) : glossatorkeep3_watchExample.f k = some true := by
  unfold glossatorkeep3_watchExample.f
  have := b_ex k hk
  unfold ex at this
  rw [this, Option.bind_some]
  simp only
  rw [if_pos trivial, if_pos (by decide), if_pos (by decide), if_pos (by decide)]
  obtain ⟨k, rfl⟩ : ∃ m, k = m + 3 := ⟨k - 3, by omega⟩
  simp [api_QFileEvent_18.f, api_QFileEvent_18.l0, rd_T31, rd_T33, wrap64]
end Go.Proofs.Ytgigbllohagfmaa.Fw
