/- journal.State as a plain function of the records: who is in it, and that no key stands in it twice. No condition. -/
import Derived.Test.YtflemfibjjognaaJsx0
import Derived.Test.YtflemfibjjognaaMp
import Derived.Test.YtflemfibjjognaaCb
namespace Go.Proofs.Ytflemfibjjognaa.Js
open Go.Proofs.Ytflemfibjjognaa
set_option linter.unusedVariables false
set_option linter.unusedSimpArgs false

def lastOf (l : List S31) : List (ByteArray × S31) := l.foldl (fun m r => Mp.aset m r.f0 r) []
theorem lastOf_snoc (l : List S31) (r : S31) : lastOf (l ++ [r]) = Mp.aset (lastOf l) r.f0 r := by unfold lastOf; rw [List.foldl_append]; rfl
def live (m : List (ByteArray × S31)) : List S31 := (m.map (·.2)).filter (fun r => !r.f2)
def keyR (x : S31) : ByteArray := x.f0
def stateL (l : List S31) : List S31 := (live (lastOf l)).mergeSort (fun x y => decide (Cb.key keyR x y ≤ 0))

theorem state_perm (l : List S31) : (stateL l).Perm (live (lastOf l)) := List.mergeSort_perm _ _
theorem state_sorted (l : List S31) : (stateL l).Pairwise (fun x y => Cb.key keyR x y ≤ 0) := by
  have h := List.pairwise_mergeSort (le := fun x y : S31 => decide (Cb.key keyR x y ≤ 0)) (fun a b c h1 h2 => by
    simp only [decide_eq_true_eq] at *
    exact (Cb.trans _ _ _ h1 h2).1) (fun a b => by
    have : Cb.key keyR b a = - Cb.key keyR a b := Cb.swap _ _
    simp only [Bool.or_eq_true, decide_eq_true_eq]
    omega) (live (lastOf l))
  exact h.imp fun h => by simpa using h

theorem last_inv (l : List S31) : (lastOf l).Pairwise (fun p q => p.1 ≠ q.1) ∧ ∀ p ∈ lastOf l, p.1 = p.2.f0 ∧ p.2 ∈ l := by
  have key : ∀ (l acc : List S31) (m : List (ByteArray × S31)), m.Pairwise (fun p q => p.1 ≠ q.1) → (∀ p ∈ m, p.1 = p.2.f0 ∧ p.2 ∈ acc) →
      (l.foldl (fun m r => Mp.aset m r.f0 r) m).Pairwise (fun p q => p.1 ≠ q.1) ∧ ∀ p ∈ l.foldl (fun m r => Mp.aset m r.f0 r) m, p.1 = p.2.f0 ∧ p.2 ∈ acc ++ l := by
    intro l
    induction l with
    | nil => intro acc m h1 h2; rw [List.append_nil]; exact ⟨h1, h2⟩
    | cons r l ih =>
      intro acc m h1 h2
      have := ih (acc ++ [r]) (Mp.aset m r.f0 r) (Mp.aset_apart h1 r.f0 r) (fun p hp => by
        unfold Mp.aset at hp
        split at hp
        · obtain ⟨q, hq, rfl⟩ := List.mem_map.1 hp
          by_cases e : q.1 = r.f0
          · simp [e]
          · simp only [e, if_false]
            exact ⟨(h2 q hq).1, List.mem_append_left _ (h2 q hq).2⟩
        · rcases List.mem_append.1 hp with hp | hp
          · exact ⟨(h2 p hp).1, List.mem_append_left _ (h2 p hp).2⟩
          · rw [List.mem_singleton] at hp
            subst hp
            simp)
      rw [List.append_assoc] at this
      exact this
  have := key l [] [] List.Pairwise.nil (fun p hp => by cases hp)
  rw [List.nil_append] at this
  exact this
theorem live_mem {m : List (ByteArray × S31)} (h : m.Pairwise (fun p q => p.1 ≠ q.1) ∧ ∀ p ∈ m, p.1 = p.2.f0) (x : S31) : x ∈ live m ↔ Mp.aget m x.f0 = some x ∧ x.f2 = false := by
  unfold live
  simp only [List.mem_filter, List.mem_map, Bool.not_eq_true']
  constructor
  · rintro ⟨⟨p, hp, rfl⟩, hx⟩
    exact ⟨Mp.aget_of_mem h.1 (by rw [← h.2 p hp]; exact hp), hx⟩
  · rintro ⟨h1, h2⟩
    exact ⟨⟨_, Mp.aget_mem h1, rfl⟩, h2⟩
theorem live_keys {m : List (ByteArray × S31)} (h : m.Pairwise (fun p q => p.1 ≠ q.1) ∧ ∀ p ∈ m, p.1 = p.2.f0) : ((live m).map keyR).Nodup := by
  have e : ((m.map (·.2)).map keyR) = m.map (·.1) := by
    rw [List.map_map]
    exact List.map_congr_left fun p hp => (h.2 p hp).symm
  have h1 : ((m.map (·.2)).map keyR).Nodup := by
    rw [e]
    exact List.pairwise_map.2 h.1
  exact h1.sublist (List.Sublist.map _ List.filter_sublist)
theorem state_mem (l : List S31) (x : S31) : x ∈ stateL l ↔ Mp.aget (lastOf l) x.f0 = some x ∧ x.f2 = false :=
  (state_perm l).mem_iff.trans (live_mem ⟨(last_inv l).1, fun p hp => ((last_inv l).2 p hp).1⟩ x)
theorem state_keys (l : List S31) : ((stateL l).map keyR).Nodup :=
  (((state_perm l).map keyR).nodup_iff).2 (live_keys ⟨(last_inv l).1, fun p hp => ((last_inv l).2 p hp).1⟩)
theorem state_sub (l : List S31) : ∀ x ∈ stateL l, x ∈ l := fun x hx => ((last_inv l).2 _ (Mp.aget_mem ((state_mem l x).1 hx).1)).2
/-- told by its members, sorted -/
theorem state_one (l r : List S31) (hp : r.Perm (live (lastOf l))) (hs : r.Pairwise (fun x y => Cb.key keyR x y ≤ 0)) : r = stateL l :=
  (Cb.one keyR _ _ ((state_perm l).trans hp.symm) (state_sorted l) hs (state_keys l)).symm
/-- a list whose keys are distinct is its own last word -/
theorem last_of_nodup (l : List S31) (h : (l.map keyR).Nodup) : lastOf l = l.map (fun r => (r.f0, r)) := by
  have key : ∀ (l acc : List S31), ((acc ++ l).map keyR).Nodup → l.foldl (fun m r => Mp.aset m r.f0 r) (acc.map fun r => (r.f0, r)) = (acc ++ l).map (fun r => (r.f0, r)) := by
    intro l
    induction l with
    | nil => intro acc _; simp
    | cons r l ih =>
      intro acc h
      have h' : ((acc ++ [r] ++ l).map keyR).Nodup := by simpa using h
      rw [List.foldl_cons]
      have e : Mp.aset (acc.map fun r => (r.f0, r)) r.f0 r = (acc ++ [r]).map (fun r => (r.f0, r)) := by
        have hn : ¬ ((acc.map fun r => (r.f0, r)).any (fun p => decide (p.1 = r.f0)) = true) := by
          intro ha
          obtain ⟨p, hp, hq⟩ := List.any_eq_true.1 ha
          obtain ⟨s, hs, rfl⟩ := List.mem_map.1 hp
          simp only [decide_eq_true_eq] at hq
          rw [List.map_append, List.nodup_append] at h
          exact h.2.2 (keyR s) (List.mem_map_of_mem hs) (keyR r) (by simp) hq
        unfold Mp.aset
        rw [if_neg hn]
        simp
      rw [e, ih (acc ++ [r]) h']
      simp
  exact key l [] (by rw [List.nil_append]; exact h)
theorem state_twice (l : List S31) : stateL (stateL l) = stateL l := by
  refine (state_one (stateL l) (stateL l) ?_ (state_sorted l)).symm
  rw [last_of_nodup _ (state_keys l)]
  unfold live
  rw [List.map_map]
  have e : (stateL l).map ((fun p : ByteArray × S31 => p.2) ∘ fun r => (r.f0, r)) = stateL l := List.map_id _
  rw [e, List.filter_eq_self.2]
  intro x hx
  simp [((state_mem l x).1 hx).2]
end Go.Proofs.Ytflemfibjjognaa.Js
