/- slices.Sorted(maps.Keys(m)) at the program's two tables: the keys, sorted, in a row of the call's own. No condition beside the table's size. -/
import Derived.Test.YtgigbllohagfmaaFihSl
import Derived.Test.YtgigbllohagfmaaFihTb
import Derived.Test.YtgigbllohagfmaaSk
import Derived.Shelf.SlIter.Nil
import Derived.Shelf.SortM.Plain
import Derived.Shelf.SortM.SortNone
namespace Go.Proofs.Ytgigbllohagfmaa.Fi
open Go.RowKit Go.Maps Go.Sort Go.Shelf Go.Proofs.YtgigbllohagfmaaW.PrintWords Go.Proofs.YtgigbllohagfmaaW.PrintLast Go.Proofs.YtgigbllohagfmaaW.PrintMore
open Go.Proofs.Ytgigbllohagfmaa
set_option linter.unusedVariables false
set_option linter.unusedSimpArgs false
theorem L_sorts22 (m : Nat) : AnyZ.SortsIn Try.prog Ytgigbllohagfmaa.sorted22_ren Fence.wide m :=
  ⟨fun blk off cap ss W hH hblk hsz => callsIn_wide.2 (AnyM.slices_Sort_string Ytgigbllohagfmaa.sort30 blk off cap ss W hH hblk hsz),
   fun p cap W => callsIn_wide.2 (AnyM.slices_Sort_string_none Ytgigbllohagfmaa.sort30 p cap W)⟩
theorem L_maps_Keys_23 (mb : Option Nat) (W : World) : CallsIn Fence.wide 5 Try.prog 23 #[.map mb] W fun e w' => e = .returned (.func (.func 31) #[] #[.pointer (some ⟨W.heap.size, 0, none⟩)]) ∧ w' = W.alloc (.cells #[.map mb] 51) :=
  AnyZ.keys_in Ytgigbllohagfmaa.keys23 Fence.wide 5 trivial rfl mb W
set_option maxHeartbeats 1000000 in
theorem L_slices_Sorted_keys_22_23 {H : Type} (b nn : Nat) (D0 : DataW H) (R : Value → Option (DataW H × List MemPlace)) (w : World) (hown : w.ownsMap Try.prog 9 R b nn D0) (hmax : Maps.size D0 ≤ maxLen) (hbytes : Maps.size D0 * 16 ≤ 140737488355328) :
    CallsIn Fence.wide 5 Try.prog 22 #[.func (.func 31) #[] #[.pointer (some ⟨w.heap.size, 0, none⟩)]] (w.alloc (.cells #[.map (some b)] 51)) fun e w' => ∃ (v : Value) (ss : List (List UInt8)), e = .returned v ∧ ss.Perm (strKeys D0) ∧
      w'.ownsRow (w.alloc (.cells #[.map (some b)] 51)).heap.size 9 1 v ss.length ((ss.mergeSort (fun x y => decide (x ≤ y))).map encStr) ∧ (v = .slice none 0 0 ↔ ss = []) ∧ Below (w.alloc (.cells #[.map (some b)] 51)).heap.size (w.alloc (.cells #[.map (some b)] 51)) w' := by
  have hbl := hown.lt
  have hseq : SeqGives Fence.wide 2 Try.prog 31 #[.pointer (some ⟨w.heap.size, 0, none⟩)] encStr (fun ss => ss.Perm (strKeys D0)) (Maps.size D0) (w.alloc (.cells #[.map (some b)] 51)) :=
    AnyZ.keys_gives (ρ := Ytgigbllohagfmaa.keys23_ren) { Ytgigbllohagfmaa.keys23 with } Fence.wide _ trivial rfl (by omega) w.heap.size b nn D0 _ (by simp) (by simp) (by
      obtain ⟨es, clock, hb, Ft, hs, hD⟩ := hown
      exact ⟨es, clock, (Below.heap_alloc _ _ b hbl).trans hb, Ft, hs, hD⟩)
  exact AnyZ.sorted_in Ytgigbllohagfmaa.sorted22 Fence.wide 5 trivial trivial trivial trivial rfl (by omega) (L_sorts22 _) (enters_of Try.func30 (by kernel_rfl) rfl) 31 #[.pointer (some ⟨w.heap.size, 0, none⟩)] trivial (enters_of Try.func31 (by kernel_rfl) rfl) _ _ hmax hbytes _ hseq
theorem L_maps_Keys_28 (mb : Option Nat) (W : World) : CallsIn Fence.wide 5 Try.prog 28 #[.map mb] W fun e w' => e = .returned (.func (.func 33) #[] #[.pointer (some ⟨W.heap.size, 0, none⟩)]) ∧ w' = W.alloc (.cells #[.map mb] 61) :=
  AnyZ.keys_in Ytgigbllohagfmaa.keys28 Fence.wide 5 trivial rfl mb W
set_option maxHeartbeats 1000000 in
theorem L_slices_Sorted_keys_22_28 {H : Type} (b nn : Nat) (D0 : DataW H) (R : Value → Option (DataW H × List MemPlace)) (w : World) (hown : w.ownsMap Try.prog 9 R b nn D0) (hmax : Maps.size D0 ≤ maxLen) (hbytes : Maps.size D0 * 16 ≤ 140737488355328) :
    CallsIn Fence.wide 5 Try.prog 22 #[.func (.func 33) #[] #[.pointer (some ⟨w.heap.size, 0, none⟩)]] (w.alloc (.cells #[.map (some b)] 61)) fun e w' => ∃ (v : Value) (ss : List (List UInt8)), e = .returned v ∧ ss.Perm (strKeys D0) ∧
      w'.ownsRow (w.alloc (.cells #[.map (some b)] 61)).heap.size 9 1 v ss.length ((ss.mergeSort (fun x y => decide (x ≤ y))).map encStr) ∧ (v = .slice none 0 0 ↔ ss = []) ∧ Below (w.alloc (.cells #[.map (some b)] 61)).heap.size (w.alloc (.cells #[.map (some b)] 61)) w' := by
  have hbl := hown.lt
  have hseq : SeqGives Fence.wide 2 Try.prog 33 #[.pointer (some ⟨w.heap.size, 0, none⟩)] encStr (fun ss => ss.Perm (strKeys D0)) (Maps.size D0) (w.alloc (.cells #[.map (some b)] 61)) :=
    AnyZ.keys_gives (ρ := Ytgigbllohagfmaa.keys28_ren) { Ytgigbllohagfmaa.keys28 with } Fence.wide _ trivial rfl (by omega) w.heap.size b nn D0 _ (by simp) (by simp) (by
      obtain ⟨es, clock, hb, Ft, hs, hD⟩ := hown
      exact ⟨es, clock, (Below.heap_alloc _ _ b hbl).trans hb, Ft, hs, hD⟩)
  exact AnyZ.sorted_in Ytgigbllohagfmaa.sorted22 Fence.wide 5 trivial trivial trivial trivial rfl (by omega) (L_sorts22 _) (enters_of Try.func30 (by kernel_rfl) rfl) 33 #[.pointer (some ⟨w.heap.size, 0, none⟩)] trivial (enters_of Try.func33 (by kernel_rfl) rfl) _ _ hmax hbytes _ hseq
theorem sorted23 {w : World} {b base : Nat} {m : List (ByteArray × Int)} (h : Mp.At Try.prog 9 Value.string w b (Mp.vals encI m)) (hl : m.length ≤ 2000000000) (hbase : base ≤ w.heap.size) :
    Calls Try.prog 22 #[.func (.func 31) #[] #[.pointer (some ⟨w.heap.size, 0, none⟩)]] (w.alloc (.cells #[.map (some b)] 51)) fun e w' => ∃ v, e = .returned v ∧ Kd.R Kd.string 9 w' base (fun _ => True) v (Sk.sortedKeys m) ∧ Below w.heap.size (w.alloc (.cells #[.map (some b)] 51)) w' := by
  have hlv : (Mp.vals encI m).length = m.length := Mp.vals_length _ _
  obtain ⟨D0, ho, hp, hs⟩ := Sk.owns Try.underlying9 h (by rw [hlv]; exact Nat.le_trans hl (by decide))
  rw [hlv] at hs ho
  refine (callsIn_wide.1 (L_slices_Sorted_keys_22_23 b _ D0 Sk.noElem w ho (by rw [hs]; exact Nat.le_trans hl (by decide)) (by omega))).mono ?_
  rintro e w' ⟨v, ss, rfl, hS, hrow, _, hb⟩
  have hsz : (w.alloc (.cells #[.map (some b)] 51)).heap.size = w.heap.size + 1 := by
    show (w.heap.push _).size = _
    rw [Array.size_push]
  have hperm := hS.trans hp
  rw [Sk.sorted_of hperm, Sk.sortedKeys_vals] at hrow
  have hlen : ss.length = (Sk.sortedKeys m).length := by
    have := hperm.length_eq
    unfold Sk.sortedKeys
    simp only [List.length_map, List.length_mergeSort] at this ⊢
    rw [this, hlv]
  rw [hlen] at hrow
  exact ⟨v, rfl, Kd.R_of_own (own_weaken hrow (by omega)) (fun _ _ => trivial), hb.mono (by omega)⟩
theorem keys23 (mb : Option Nat) (W : World) : Calls Try.prog 23 #[.map mb] W fun e w' => e = .returned (.func (.func 31) #[] #[.pointer (some ⟨W.heap.size, 0, none⟩)]) ∧ w' = W.alloc (.cells #[.map mb] 51) := callsIn_wide.1 (L_maps_Keys_23 mb W)
end Go.Proofs.Ytgigbllohagfmaa.Fi
