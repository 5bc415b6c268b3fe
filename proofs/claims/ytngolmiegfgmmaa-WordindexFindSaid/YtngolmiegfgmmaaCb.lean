/- Byte strings in the order of strings.Compare: a total order; a list sorted by distinct keys is one alone. No condition. -/
import Derived.Lib.Bytealg
import Derived.Shelf.SlSortCmp.Insertion
import Derived.Sort.Statements
set_option linter.unusedVariables false
set_option linter.unusedSimpArgs false
namespace Go.Proofs.Ytngolmiegfgmmaa.Cb
open Go.Lib Go.Sort
theorem refl : ∀ a : List UInt8, compareBytes a a = 0
  | [] => rfl
  | a :: as_ => by simp [compareBytes, refl as_]
theorem swap : ∀ a b : List UInt8, compareBytes b a = - compareBytes a b
  | [], [] => rfl
  | [], _ :: _ => rfl
  | _ :: _, [] => rfl
  | a :: as_, b :: bs_ => by
    unfold compareBytes
    by_cases h1 : a < b
    · have h2 : ¬ b < a := fun h => by have := UInt8.lt_iff_toNat_lt.1 h1; have := UInt8.lt_iff_toNat_lt.1 h; omega
      simp [h1, h2]
    · by_cases h2 : b < a
      · simp [h1, h2]
      · simp [h1, h2, swap as_ bs_]
theorem eq : ∀ a b : List UInt8, compareBytes a b = 0 → a = b
  | [], [], _ => rfl
  | [], _ :: _, h => by simp [compareBytes] at h
  | _ :: _, [], h => by simp [compareBytes] at h
  | a :: as_, b :: bs_, h => by
    unfold compareBytes at h
    by_cases h1 : a < b
    · simp [h1] at h
    · by_cases h2 : b < a
      · simp [h1, h2] at h
      · simp only [h1, h2, if_false] at h
        have e : a = b := UInt8.toNat_inj.1 (by
          have a1 : ¬ a.toNat < b.toNat := fun x => h1 (UInt8.lt_iff_toNat_lt.2 x)
          have a2 : ¬ b.toNat < a.toNat := fun x => h2 (UInt8.lt_iff_toNat_lt.2 x)
          omega)
        rw [e, eq as_ bs_ h]
theorem trans : ∀ a b c : List UInt8, compareBytes a b ≤ 0 → compareBytes b c ≤ 0 → compareBytes a c ≤ 0 ∧ (compareBytes a b < 0 ∨ compareBytes b c < 0 → compareBytes a c < 0)
  | [], [], [], _, _ => by simp [compareBytes]
  | [], [], _ :: _, _, _ => by simp [compareBytes]
  | [], _ :: _, [], _, h => by simp [compareBytes] at h
  | [], _ :: _, _ :: _, _, _ => by simp [compareBytes]
  | _ :: _, [], _, h, _ => by simp [compareBytes] at h
  | _ :: _, _ :: _, [], _, h => by simp [compareBytes] at h
  | a :: as_, b :: bs_, c :: cs_, h, h' => by
    unfold compareBytes at h h' ⊢
    have lt := fun x y : UInt8 => @UInt8.lt_iff_toNat_lt x y
    simp only [lt] at h h' ⊢
    by_cases h1 : a.toNat < b.toNat
    · by_cases h2 : b.toNat < c.toNat
      · have h3 : a.toNat < c.toNat := by omega
        simp [h3]
      · by_cases h3 : c.toNat < b.toNat
        · simp [h2, h3] at h'
        · have h4 : a.toNat < c.toNat := by omega
          simp [h4]
    · by_cases h1' : b.toNat < a.toNat
      · simp [h1, h1'] at h
      · by_cases h2 : b.toNat < c.toNat
        · have h3 : a.toNat < c.toNat := by omega
          simp [h3]
        · by_cases h3 : c.toNat < b.toNat
          · simp [h2, h3] at h'
          · have h4 : ¬ a.toNat < c.toNat := by omega
            have h5 : ¬ c.toNat < a.toNat := by omega
            simp only [h1, h1', h2, h3, h4, h5, if_false] at h h' ⊢
            exact trans as_ bs_ cs_ h h'
section
variable {α : Type} (f : α → ByteArray)
def key (x y : α) : Int := compareBytes (f x).data.toList (f y).data.toList
theorem key_eq {x y : α} (h : key f x y = 0) : f x = f y := by
  have := eq _ _ h
  exact ByteArray.ext (Array.toList_inj.1 this)
theorem lt_iff {x y : α} : ltOf (key f) x y = true ↔ key f x y < 0 := by simp [ltOf]
theorem nlt_iff {x y : α} : ltOf (key f) x y = false ↔ key f y x ≤ 0 := by
  have : key f y x = - key f x y := swap _ _
  simp only [ltOf, decide_eq_false_iff_not]
  omega
theorem swo : SWO (ltOf (key f)) where
  irrefl x := by rw [nlt_iff]; exact Int.le_of_eq (refl _)
  trans x y z h1 h2 := by
    rw [lt_iff] at *
    exact (trans _ _ _ (Int.le_of_lt h1) (Int.le_of_lt h2)).2 (.inl h1)
  ntrans x y z h1 h2 := by
    rw [nlt_iff] at *
    exact (trans _ _ _ h2 h1).1
theorem lists [Inhabited α] {xs : List α} {d : Array α} (hp : PermIn 0 xs.length xs.toArray d) (hs : SortedIn (ltOf (key f)) 0 xs.length d) : d.toList.Perm xs ∧ d.toList.Pairwise (fun x y => key f x y ≤ 0) := by
  obtain ⟨h1, _, h3⟩ := hp
  have e : d.size = xs.length := by simpa using h1
  have e1 : d.extract 0 xs.length = d := by rw [← e]; simp
  have e2 : xs.toArray.extract 0 xs.length = xs.toArray := by simp
  rw [e1, e2] at h3
  refine ⟨h3, List.pairwise_iff_getElem.2 fun i j hi hj hij => ?_⟩
  have hi' : i < d.size := by simpa using hi
  have hj' : j < d.size := by simpa using hj
  have := hs i j (Nat.zero_le _) hij (by omega)
  rw [getElem!_pos d i hi', getElem!_pos d j hj', nlt_iff] at this
  simpa using this
/-- sorted, and no two keys the same: the list is told by its members -/
theorem one : ∀ (l r : List α), l.Perm r → l.Pairwise (fun x y => key f x y ≤ 0) → r.Pairwise (fun x y => key f x y ≤ 0) → (l.map f).Nodup → l = r
  | [], r, hp, _, _, _ => (List.Perm.nil_eq hp)
  | x :: l, [], hp, _, _, _ => absurd hp.length_eq (by simp)
  | x :: l, y :: r, hp, hl, hr, hn => by
    obtain ⟨l1, l2⟩ := List.pairwise_cons.1 hl
    obtain ⟨r1, r2⟩ := List.pairwise_cons.1 hr
    have hxy : x = y := by
      have hx : x ∈ y :: r := hp.mem_iff.1 List.mem_cons_self
      have hy : y ∈ x :: l := hp.mem_iff.2 List.mem_cons_self
      rcases List.mem_cons.1 hx with rfl | hx
      · rfl
      · rcases List.mem_cons.1 hy with rfl | hy
        · rfl
        · have a := l1 _ hy
          have b := r1 _ hx
          have c : key f y x = - key f x y := swap _ _
          have e := key_eq f (show key f x y = 0 by omega)
          rw [List.map_cons, List.nodup_cons] at hn
          exact absurd (by rw [e]; exact List.mem_map_of_mem hy) hn.1
    subst hxy
    rw [List.map_cons, List.nodup_cons] at hn
    rw [one l r (List.Perm.cons_inv hp) l2 r2 hn.2]
end
end Go.Proofs.Ytngolmiegfgmmaa.Cb
