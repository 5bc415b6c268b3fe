/- slices.Sorted(maps.Keys(m)) at the table of events by path. No condition beside the table's size. -/
import Derived.Test.YtgigbllohagfmaaFihSk
namespace Go.Proofs.Ytgigbllohagfmaa.Fi
open Go.RowKit Go.Maps Go.Sort Go.Shelf Go.Proofs.YtgigbllohagfmaaW.PrintWords Go.Proofs.YtgigbllohagfmaaW.PrintLast Go.Proofs.YtgigbllohagfmaaW.PrintMore
open Go.Proofs.Ytgigbllohagfmaa
set_option linter.unusedVariables false
set_option linter.unusedSimpArgs false
def encE (e : S33) : Value := .agg #[.int .i64 e.f0, .string e.f1, .int .i64 e.f2]

theorem sorted28 {w : World} {b base : Nat} {m : List (ByteArray × S33)} (h : Mp.At Try.prog 9 Value.string w b (Mp.vals encE m)) (hl : m.length ≤ 2000000000) (hbase : base ≤ w.heap.size) :
    Calls Try.prog 22 #[.func (.func 33) #[] #[.pointer (some ⟨w.heap.size, 0, none⟩)]] (w.alloc (.cells #[.map (some b)] 61)) fun e w' => ∃ v, e = .returned v ∧ Kd.R Kd.string 9 w' base (fun _ => True) v (Sk.sortedKeys m) ∧ Below w.heap.size (w.alloc (.cells #[.map (some b)] 61)) w' := by
  have hlv : (Mp.vals encE m).length = m.length := Mp.vals_length _ _
  obtain ⟨D0, ho, hp, hs⟩ := Sk.owns Try.underlying9 h (by rw [hlv]; exact Nat.le_trans hl (by decide))
  rw [hlv] at hs ho
  refine (callsIn_wide.1 (L_slices_Sorted_keys_22_28 b _ D0 Sk.noElem w ho (by rw [hs]; exact Nat.le_trans hl (by decide)) (by omega))).mono ?_
  rintro e w' ⟨v, ss, rfl, hS, hrow, _, hb⟩
  have hsz : (w.alloc (.cells #[.map (some b)] 61)).heap.size = w.heap.size + 1 := by
    show (w.heap.push _).size = _
    rw [Array.size_push]
  have hperm := hS.trans hp
  rw [Sk.sorted_of hperm, Sk.sortedKeys_vals] at hrow
  have hlen : ss.length = (Sk.sortedKeys m).length := by
    have := hperm.length_eq
    unfold Sk.sortedKeys
    simp only [List.length_map, List.length_mergeSort] at this ⊢
    rw [this, hlv]
  rw [hlen] at hrow
  exact ⟨v, rfl, Kd.R_of_own (own_weaken hrow (by omega)) (fun _ _ => trivial), hb.mono (by omega)⟩
theorem keys28 (mb : Option Nat) (W : World) : Calls Try.prog 28 #[.map mb] W fun e w' => e = .returned (.func (.func 33) #[] #[.pointer (some ⟨W.heap.size, 0, none⟩)]) ∧ w' = W.alloc (.cells #[.map mb] 61) := callsIn_wide.1 (L_maps_Keys_28 mb W)
end Go.Proofs.Ytgigbllohagfmaa.Fi
