/- A row of the call's own, sorted by the library: what the kit's sort contract says of its cells, in the words of rows. No condition. -/
import Derived.Test.YtngolmiegfgmmaaWMore
import Derived.Test.YtngolmiegfgmmaaWLast
import Derived.Shelf.SlSortCmp.WholeK
import Derived.Shelf.SlSortCmp.NoneTotal
set_option linter.unusedVariables false
set_option linter.unusedSimpArgs false
set_option linter.unusedSectionVars false
namespace Go.Proofs.Ytngolmiegfgmmaa.So
open Go.RowKit Go.Sort Go.Proofs.YtngolmiegfgmmaaW.PrintWords Go.Proofs.YtngolmiegfgmmaaW.PrintLast
section
variable {α : Type} [Inhabited α] {enc : α → List Value} {k : Nat}

theorem reps_flat (hk : ∀ x, (enc x).length = k) (ys : List α) : Reps (fun x cs => cs = enc x) k ys (flatK enc k ys.toArray).toList := by
  refine ⟨by simp, fun j p hj => ?_⟩
  obtain ⟨hlt, rfl⟩ := List.getElem?_eq_some_iff.1 hj
  apply List.ext_getElem?
  intro t
  rw [List.getElem?_take]
  split
  · rename_i ht
    rw [List.getElem?_drop]
    have hb : j * k + t < ys.toArray.size * k := by
      have : (j + 1) * k ≤ ys.length * k := Nat.mul_le_mul_right _ hlt
      rw [Nat.add_mul, Nat.one_mul] at this
      simp only [List.size_toArray]
      omega
    have hd : (j * k + t) / k = j := by rw [Nat.mul_comm, Nat.mul_add_div (by omega), Nat.div_eq_of_lt ht, Nat.add_zero]
    have hm : (j * k + t) % k = t := by rw [Nat.mul_comm, Nat.mul_add_mod, Nat.mod_eq_of_lt ht]
    have hs : j * k + t < (flatK enc k ys.toArray).size := by rw [size_flatK]; exact hb
    have h1 := get_flatK enc k ys.toArray (j * k + t) hb
    rw [hd, hm, getElem!_pos (flatK enc k ys.toArray) _ hs] at h1
    rw [Array.getElem?_toList, Array.getElem?_eq_getElem hs, h1]
    have h2 : ys.toArray[j]! = ys[j] := by simp [hlt]
    rw [h2]
    have h3 : t < (enc ys[j]).length := by rw [hk]; exact ht
    rw [List.getElem?_eq_getElem h3, getElem!_pos (enc ys[j]) t h3]
  · rename_i ht
    rw [List.getElem?_eq_none (by rw [hk]; omega)]
theorem reps_unique {xs : List α} {cs cs' : List Value} (hk : ∀ x, (enc x).length = k) (h : Reps (fun x c => c = enc x) k xs cs) (h' : Reps (fun x c => c = enc x) k xs cs') : cs = cs' := by
  have hl : cs.length = cs'.length := h.1.trans h'.1.symm
  rcases Nat.eq_zero_or_pos k with rfl | hk0
  · have e1 := h.1; have e2 := h'.1
    simp at e1 e2
    rw [e1, e2]
  apply List.ext_getElem?
  intro t
  by_cases ht : t < cs.length
  · have hj : t / k < xs.length := by rw [h.1] at ht; exact Nat.div_lt_of_lt_mul (by rw [Nat.mul_comm]; exact ht)
    have a := h.2 (t / k) _ (List.getElem?_eq_getElem hj)
    have b := h'.2 (t / k) _ (List.getElem?_eq_getElem hj)
    have e := congrArg (fun z => z[t % k]?) (a.trans b.symm)
    have hm : t / k * k + t % k = t := by rw [Nat.mul_comm]; exact Nat.div_add_mod t k
    simp only [List.getElem?_take, Nat.mod_lt _ hk0, if_true, List.getElem?_drop, hm] at e
    exact e
  · rw [List.getElem?_eq_none (by omega), List.getElem?_eq_none (by omega)]

variable {d : Kd α} {e base g cap m : Nat} {ok : Nat → Prop} {w : World} {xs ys : List α}
theorem shape {v : Value} (h : d.R e w base ok v xs) (hne : xs ≠ []) : ∃ g cap, v = .slice (some ⟨g, 0, none⟩) xs.length cap ∧ base ≤ g ∧ g < w.heap.size := by
  obtain ⟨_, inner, ho, _⟩ := h
  rcases ho.2 with ⟨_, h0⟩ | ⟨g, cap, cur, rfl, hb, hg, _⟩
  · exact absurd (List.eq_nil_of_length_eq_zero h0) hne
  · exact ⟨g, cap, rfl, hb, (Array.getElem?_eq_some_iff.1 hg).1⟩
theorem holds (hM : ∀ w base ok x cs, d.M w base ok x cs → cs = enc x) (hk : ∀ x, (enc x).length = k) (hs : d.sz = k) (h : d.R e w base ok (.slice (some ⟨g, 0, none⟩) xs.length cap) xs) : HoldsK enc k w g 0 xs.toArray := by
  obtain ⟨_, inner, ho, hr⟩ := h
  rw [hs] at hr ho
  have hr' : Reps (fun x c => c = enc x) k xs inner := ⟨hr.1, fun j p hj => hM _ _ _ _ _ (hr.2 j p hj)⟩
  have hi := reps_unique hk hr' (reps_flat hk xs)
  rcases ho.2 with ⟨h0, _⟩ | ⟨g', cap', cur, he, hb, hg, hnc, hcm, hcs, htk⟩
  · cases h0
  · injection he with he1 he2 he3
    injection he1 with he1
    injection he1 with he1
    subst he1; subst he3
    intro j hj
    rw [size_flatK, List.size_toArray] at hj
    have hcl : xs.length * k ≤ cur.size := by rw [hcs]; exact Nat.mul_le_mul_right _ hnc
    have hc : cur[j]? = some ((flatK enc k xs.toArray)[j]!) := by
      have hF : j < (flatK enc k xs.toArray).size := by rw [size_flatK, List.size_toArray]; exact hj
      rw [getElem!_pos (flatK enc k xs.toArray) _ hF, ← Array.getElem?_toList]
      have e1 : (cur.toList.take (xs.length * k))[j]? = cur.toList[j]? := by rw [List.getElem?_take, if_pos hj]
      rw [← e1, htk, hi, Array.getElem?_toList, Array.getElem?_eq_getElem hF]
    constructor
    · simp [World.cell?, hg, hc]
    · simp [World.frozen?, hg]
theorem sorted (hM : ∀ w base ok x, d.M w base ok x (enc x)) (hk : ∀ x, (enc x).length = k) (hs : d.sz = k) (hk0 : 0 < k) (h : d.R e w base ok (.slice (some ⟨g, 0, none⟩) xs.length cap) xs) (hl : ys.length = xs.length) (os : Array Obj) :
    d.R e (sortWorldK enc k w g 0 m ys.toArray os) base ok (.slice (some ⟨g, 0, none⟩) xs.length cap) ys ∧ w.grownBy (sortWorldK enc k w g 0 m ys.toArray os) (some g) := by
  obtain ⟨h0, inner, ho, hr⟩ := h
  rw [hs] at hr ho
  have hheap : (sortWorldK enc k w g 0 m ys.toArray os).heap = w.heap.modify g (onCells (putCells id 0 (flatK enc k ys.toArray))) ++ os := rfl
  have hF : (flatK enc k ys.toArray).size = ys.length * k := by rw [size_flatK, List.size_toArray]
  rcases ho.2 with ⟨h00, _⟩ | ⟨g', cap', cur, he, hb, hg, hnc, hcm, hcs, htk⟩
  · cases h00
  · injection he with he1 he2 he3
    injection he1 with he1
    injection he1 with he1
    subst he1; subst he3
    have hlt := (Array.getElem?_eq_some_iff.1 hg).1
    have hblk : (sortWorldK enc k w g 0 m ys.toArray os).heap[g]? = some (.cells (putCells id 0 (flatK enc k ys.toArray) cur) e (0, 0)) := by
      rw [hheap, Array.getElem?_append_left (by simpa using hlt), Array.getElem?_modify, if_pos rfl, hg]
      rfl
    constructor
    · refine ⟨h0, (flatK enc k ys.toArray).toList, ?_, ?_⟩
      · rw [hs]
        refine ⟨by rw [Array.length_toList, hF], Or.inr ⟨g, cap, _, by rw [hl], hb, hblk, by rw [hl]; exact hnc, hcm, by rw [show (putCells id 0 (flatK enc k ys.toArray) cur).size = cur.size from by simp [putCells]]; exact hcs, ?_⟩⟩
        have hcl : ys.length * k ≤ cur.size := by rw [hcs, hl]; exact Nat.mul_le_mul_right _ hnc
        apply List.ext_getElem?
        intro j
        rw [List.getElem?_take]
        split
        · rename_i hj
          have hj1 : j < (flatK enc k ys.toArray).size := by rw [hF]; exact hj
          have hj2 : j < cur.size := by omega
          rw [Array.getElem?_toList, Array.getElem?_toList, putCells, Array.getElem?_mapIdx, Array.getElem?_eq_getElem hj2, Array.getElem?_eq_getElem hj1, Option.map_some, if_pos ⟨Nat.zero_le _, by omega⟩, Nat.sub_zero, getElem!_pos (flatK enc k ys.toArray) _ hj1]
          rfl
        · rename_i hj
          rw [List.getElem?_eq_none (by rw [Array.length_toList, hF]; omega)]
      · rw [hs]
        have := reps_flat hk ys
        exact ⟨this.1, fun j p hj => by rw [this.2 j p hj]; exact hM _ _ _ _⟩
    · refine ⟨rfl, rfl, rfl, ?_, fun i hi hne => ?_⟩
      · rw [hheap]; simp
      · have hig : g ≠ i := fun e1 => hne (by rw [e1])
        rw [hheap, Array.getElem?_append_left (by simpa using hi), Array.getElem?_modify, if_neg hig]
end
end Go.Proofs.Ytngolmiegfgmmaa.So
