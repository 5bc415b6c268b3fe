/- The search through a graph: what it has found when nothing is pending. No condition. -/
import Derived.Test.YteekdkkfegcoeaaDghGr
namespace Go.Proofs.Yteekdkkfegcoeaa.Dg
set_option linter.unusedVariables false
inductive Reach (nx : S24 → List S24) (k : S24) : S24 → Prop
  | one {x : S24} : x ∈ nx k → Reach nx k x
  | more {y x : S24} : Reach nx k y → x ∈ nx y → Reach nx k x
structure Inv (nx : S24 → List S24) (key : S24) (ks rs pd : List S24) : Prop where
  nd : rs.Nodup
  rr : ∀ x ∈ rs, Reach nx key x
  pr : ∀ x ∈ pd, Reach nx key x
  st : ∀ x ∈ nx key, x ∈ rs ∨ x ∈ pd
  cl : ∀ y ∈ rs, ∀ x ∈ nx y, x ∈ rs ∨ x ∈ pd
  rk : ∀ x ∈ rs, x ∈ ks
  pk : ∀ x ∈ pd, x ∈ ks
section
variable {nx : S24 → List S24} {key : S24} {ks rs pd : List S24}
theorem Inv.start (h : ∀ k, ∀ x ∈ nx k, x ∈ ks) : Inv nx key ks [] (nx key) :=
  ⟨List.nodup_nil, by simp, fun x hx => .one hx, fun x hx => .inr hx, by simp, by simp, h key⟩
theorem Inv.skip {k : S24} (h : Inv nx key ks rs (pd ++ [k])) (hk : k ∈ rs) : Inv nx key ks rs pd := by
  refine ⟨h.nd, h.rr, fun x hx => h.pr x (List.mem_append_left _ hx), fun x hx => ?_, fun y hy x hx => ?_, h.rk, fun x hx => h.pk x (List.mem_append_left _ hx)⟩
  · rcases h.st x hx with h1 | h1
    · exact .inl h1
    · rcases List.mem_append.1 h1 with h2 | h2
      · exact .inr h2
      · rw [List.mem_singleton] at h2; subst h2; exact .inl hk
  · rcases h.cl y hy x hx with h1 | h1
    · exact .inl h1
    · rcases List.mem_append.1 h1 with h2 | h2
      · exact .inr h2
      · rw [List.mem_singleton] at h2; subst h2; exact .inl hk
theorem Inv.push {k : S24} (hn : ∀ k, ∀ x ∈ nx k, x ∈ ks) (h : Inv nx key ks rs (pd ++ [k])) (hk : k ∉ rs) : Inv nx key ks (rs ++ [k]) (pd ++ nx k) := by
  have hmem : k ∈ pd ++ [k] := List.mem_append_right _ (List.mem_singleton_self k)
  have mv : ∀ x, (x ∈ rs ∨ x ∈ pd ++ [k]) → x ∈ rs ++ [k] ∨ x ∈ pd ++ nx k := by
    intro x h1
    rcases h1 with h1 | h1
    · exact .inl (List.mem_append_left _ h1)
    · rcases List.mem_append.1 h1 with h2 | h2
      · exact .inr (List.mem_append_left _ h2)
      · exact .inl (List.mem_append_right _ h2)
  refine ⟨?_, fun x hx => ?_, fun x hx => ?_, fun x hx => mv x (h.st x hx), fun y hy x hx => ?_, fun x hx => ?_, fun x hx => ?_⟩
  · rw [List.nodup_append]
    refine ⟨h.nd, by simp, fun a ha b hb e => ?_⟩
    rw [List.mem_singleton] at hb
    subst hb; subst e
    exact hk ha
  · rcases List.mem_append.1 hx with h1 | h1
    · exact h.rr x h1
    · rw [List.mem_singleton] at h1; subst h1; exact h.pr _ hmem
  · rcases List.mem_append.1 hx with h1 | h1
    · exact h.pr x (List.mem_append_left _ h1)
    · exact .more (h.pr _ hmem) h1
  · rcases List.mem_append.1 hy with h1 | h1
    · exact mv x (h.cl y h1 x hx)
    · rw [List.mem_singleton] at h1; subst h1; exact .inr (List.mem_append_right _ hx)
  · rcases List.mem_append.1 hx with h1 | h1
    · exact h.rk x h1
    · rw [List.mem_singleton] at h1; subst h1; exact h.pk _ hmem
  · rcases List.mem_append.1 hx with h1 | h1
    · exact h.pk x (List.mem_append_left _ h1)
    · exact hn k x h1
theorem Inv.done (h : Inv nx key ks rs []) (x : S24) : x ∈ rs ↔ Reach nx key x := by
  constructor
  · exact h.rr x
  · intro hr
    induction hr with
    | one hx => exact (h.st _ hx).resolve_right (by simp)
    | more _ hx ih => exact (h.cl _ ih _ hx).resolve_right (by simp)
theorem nodup_le : ∀ {xs ys : List S24}, xs.Nodup → (∀ x ∈ xs, x ∈ ys) → xs.length ≤ ys.length
  | [], ys, _, _ => Nat.zero_le _
  | x :: r, ys, hn, hs => by
    rw [List.nodup_cons] at hn
    have hx := hs x (List.mem_cons_self ..)
    have := nodup_le (xs := r) (ys := ys.erase x) hn.2 (fun y hy => by
      refine (List.mem_erase_of_ne ?_).2 (hs y (List.mem_cons_of_mem _ hy))
      rintro rfl
      exact hn.1 hy)
    rw [List.length_erase_of_mem hx] at this
    have hp := List.length_pos_of_mem hx
    simp only [List.length_cons]
    omega
def meas (ks rs pd : List S24) : Nat := (ks.length - rs.length) * 401 + pd.length
theorem Inv.le (h : Inv nx key ks rs pd) : rs.length ≤ ks.length := nodup_le h.nd h.rk
theorem meas_skip (k : S24) : meas ks rs (pd ++ [k]) = meas ks rs pd + 1 := by unfold meas; simp [Nat.add_assoc]
theorem meas_push {k : S24} {ys : List S24} (h : (rs ++ [k]).length ≤ ks.length) (hy : ys.length ≤ 400) : meas ks (rs ++ [k]) (pd ++ ys) + 1 ≤ meas ks rs (pd ++ [k]) := by
  unfold meas
  simp only [List.length_append, List.length_singleton] at *
  obtain ⟨d, hd⟩ : ∃ d, ks.length = rs.length + 1 + d := ⟨ks.length - (rs.length + 1), by omega⟩
  rw [hd]
  have e1 : rs.length + 1 + d - (rs.length + 1) = d := by omega
  have e2 : rs.length + 1 + d - rs.length = d + 1 := by omega
  rw [e1, e2]
  omega
end
end Go.Proofs.Yteekdkkfegcoeaa.Dg
