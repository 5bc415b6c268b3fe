/- A map of strings in memory, in the words of the kit's contracts on maps.Keys and slices.Sorted: its keys, sorted. No condition beside the map's size. -/
import Derived.Test.YtgigbllohagfmaaMp
import Derived.Test.YtgigbllohagfmaaWMore
import Derived.Sort.KeysCollected
set_option linter.unusedVariables false
set_option linter.unusedSimpArgs false
namespace Go.Proofs.Ytgigbllohagfmaa.Sk
open Go.RowKit Go.Maps Go.MapKept Go.Proofs.YtgigbllohagfmaaW.PrintWords Go.Proofs.YtgigbllohagfmaaW.PrintLast
def bytes (s : ByteArray) : List UInt8 := s.data.toList
def noElem (_ : Value) : Option (DataW Unit × List MemPlace) := some (.nil, [])
/-- the keys of a table, in order -/
def sortedKeys {β : Type} (m : List (ByteArray × β)) : List ByteArray := ((m.map fun p => bytes p.1).mergeSort fun x y => decide (x ≤ y)).map fun l => (⟨l.toArray⟩ : ByteArray)
section
variable {P : Program} {kt : TypeId} {w : World} {b : Nat} {l : List (ByteArray × Value)}
theorem owns (hk : P.underlying kt = some .string) (h : Mp.At P kt Value.string w b l) (hl : l.length ≤ maxLen) : ∃ D0 : DataW Unit, w.ownsMap P kt noElem b l.length D0 ∧ (strKeys D0).Perm (l.map fun p => bytes p.1) ∧ Maps.size D0 = l.length := by
  obtain ⟨es, clock, h⟩ := h
  have hlen := h.length
  have hrd : ∀ j (hj : j < es.toList.length), ∃ p, l[j]? = some p ∧ Go.WideElems.rd P kt noElem es.toList[j] = some (.string (bytes p.1), .nil) := fun j hj => by
    obtain ⟨p, hp, hkey, _⟩ := h.nth (List.getElem?_eq_getElem hj)
    obtain ⟨lit, hlit⟩ := h.keys p (List.mem_of_getElem? hp)
    obtain ⟨x, hx, hxl, _⟩ := Maps.keyOf_str hk hlit
    refine ⟨p, hp, ?_⟩
    have hb : bytes p.1 = x := by
      injection hx with hx
      rw [hx]
      simp [bytes]
    unfold Go.WideElems.rd
    rw [hkey, hlit, hxl, hb]
    rfl
  have hrg : es.toList.map (Go.WideElems.rg P kt noElem) = l.map fun p => (.string (bytes p.1), .nil) := by
    apply List.ext_getElem?
    intro j
    rw [List.getElem?_map, List.getElem?_map]
    by_cases hj : j < es.toList.length
    · obtain ⟨p, hp, hr⟩ := hrd j hj
      rw [List.getElem?_eq_getElem hj, hp, Option.map_some, Option.map_some, Go.WideElems.rg_of hr]
    · rw [List.getElem?_eq_none (by omega), List.getElem?_eq_none (by omega)]
      rfl
  have hnd : (es.toList.map (·.key)).Nodup := by
    have e : es.toList.map (·.key) = l.map fun p => Value.string p.1 := by
      have := congrArg (List.map Prod.fst) h.reads
      simpa [List.map_map, Function.comp_def] using this
    rw [e]
    exact List.pairwise_map.2 (h.apart.imp fun hne e => hne (by injection e))
  refine ⟨.map ((es.toList.map (Go.WideElems.rg P kt noElem)).foldr DataW.insert []), ⟨es, clock, h.blk, ⟨?_, ⟨h.born, h.nodup, hnd⟩, ?_⟩, ?_, rfl⟩, ?_, ?_⟩
  · rw [← Array.length_toList, hlen]; exact hl
  · intro x hx
    obtain ⟨j, hj, rfl⟩ := List.getElem_of_mem hx
    obtain ⟨p, _, hr⟩ := hrd j hj
    exact ⟨_, hr⟩
  · rw [← Array.length_toList, hlen]; exact Nat.le_refl _
  · show (List.map (fun p : Lit × DataW Unit => strOf p.1) _).Perm _
    refine ((Go.WideShapes.sorted_perm _).map _).trans ?_
    rw [hrg, List.map_map]
    exact List.Perm.refl _
  · show List.length _ = _
    rw [(Go.WideShapes.sorted_perm _).length_eq, List.length_map, hlen]
theorem sorted_of {ss : List (List UInt8)} (h : ss.Perm (l.map fun p => bytes p.1)) : (ss.mergeSort fun x y => decide (x ≤ y)).map encStr = (sortedKeys l).map Value.string := by
  unfold sortedKeys
  have := mergeSort_of_perm h
  unfold leB at this
  rw [this, List.map_map]
  rfl
end
theorem sortedKeys_vals {β γ : Type} (g : β → γ) (m : List (ByteArray × β)) : sortedKeys (Mp.vals g m) = sortedKeys m := by
  unfold sortedKeys Mp.vals
  rw [List.map_map]
  rfl
end Go.Proofs.Ytgigbllohagfmaa.Sk
