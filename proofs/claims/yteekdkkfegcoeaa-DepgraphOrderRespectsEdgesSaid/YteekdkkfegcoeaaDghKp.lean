/- Sorted lists of keys: what ins does to them. No condition. -/
import Derived.Test.YteekdkkfegcoeaaDghIt
namespace Go.Proofs.Yteekdkkfegcoeaa.Dg
open Go.RowKit Go.Sort Go.Lib Go.Proofs.YteekdkkfegcoeaaW.PrintWords Go.Proofs.YteekdkkfegcoeaaW.PrintLast Go.Proofs.YteekdkkfegcoeaaW.PrintMore
open Go.Proofs.Yteekdkkfegcoeaa
set_option linter.unusedVariables false
set_option linter.unusedSimpArgs false
def ltK (x y : S24) : Prop := x.f0 < y.f0 ∨ (x.f0 = y.f0 ∧ (x.f1 < y.f1 ∨ (x.f1 = y.f1 ∧ x.f2 < y.f2)))
theorem S24_ext {x y : S24} (h0 : x.f0 = y.f0) (h1 : x.f1 = y.f1) (h2 : x.f2 = y.f2) : x = y := by
  cases x; cases y; simp only [S24.mk.injEq]; exact ⟨h0, h1, h2⟩
instance decK : DecidableEq S24 := fun x y =>
  if h : x.f0 = y.f0 ∧ x.f1 = y.f1 ∧ x.f2 = y.f2 then .isTrue (S24_ext h.1 h.2.1 h.2.2) else .isFalse (fun e => h (by rw [e]; exact ⟨rfl, rfl, rfl⟩))
theorem cmpI_spec (a b : Int) : (cmpI a b < 0 ↔ a < b) ∧ (cmpI a b = 0 ↔ a = b) := by
  unfold cmpI
  split
  · constructor <;> omega
  · split <;> constructor <;> omega
theorem cmpK_lt (x y : S24) : cmpK x y < 0 ↔ ltK x y := by
  unfold cmpK ltK
  have h0 := cmpI_spec x.f0 y.f0
  have h1 := cmpI_spec x.f1 y.f1
  have h2 := cmpI_spec x.f2 y.f2
  split
  · omega
  · split <;> omega
theorem cmpK_eq (x y : S24) : cmpK x y = 0 ↔ x = y := by
  unfold cmpK
  have h0 := cmpI_spec x.f0 y.f0
  have h1 := cmpI_spec x.f1 y.f1
  have h2 := cmpI_spec x.f2 y.f2
  constructor
  · intro h
    refine S24_ext ?_ ?_ ?_
    all_goals
      split at h
      · omega
      · split at h <;> omega
  · rintro rfl
    split
    · omega
    · split <;> omega
theorem ltK_trans {x y z : S24} (h : ltK x y) (k : ltK y z) : ltK x z := by unfold ltK at *; omega
theorem ltK_irr (x : S24) : ¬ ltK x x := by unfold ltK; omega
theorem ltK_tri (x y : S24) : ltK x y ∨ x = y ∨ ltK y x := by
  by_cases h : x = y
  · exact .inr (.inl h)
  · have : ¬ (x.f0 = y.f0 ∧ x.f1 = y.f1 ∧ x.f2 = y.f2) := fun e => h (S24_ext e.1 e.2.1 e.2.2)
    unfold ltK
    omega
def Srt (xs : List S24) : Prop := xs.Pairwise ltK
theorem Srt.mono {xs : List S24} (h : Srt xs) (k : S24) : Mono xs k := by
  intro a b ha hb hab hlt
  rw [cmpK_lt] at hlt ⊢
  rcases Nat.lt_or_eq_of_le hab with h1 | h1
  · exact ltK_trans (List.pairwise_iff_getElem.1 h a b ha hb h1) hlt
  · subst h1; exact hlt
theorem Srt.split {xs : List S24} (h : Srt xs) (k : S24) : ∃ A B, xs = A ++ B ∧ pos xs k = A.length ∧ (∀ a ∈ A, ltK a k) ∧ (∀ b ∈ B, ¬ ltK b k) := by
  induction xs with
  | nil => exact ⟨[], [], rfl, rfl, by simp, by simp⟩
  | cons x r ih =>
    obtain ⟨h1, h2⟩ := List.pairwise_cons.1 h
    by_cases hx : ltK x k
    · obtain ⟨A, B, e, hp, ha, hb⟩ := ih h2
      refine ⟨x :: A, B, by rw [e]; rfl, ?_, ?_, hb⟩
      · unfold pos at hp ⊢
        rw [List.countP_cons_of_pos (by simpa [cmpK_lt] using hx), hp]; rfl
      · intro a ha2
        rcases List.mem_cons.1 ha2 with rfl | h3
        · exact hx
        · exact ha a h3
    · have hall : ∀ y ∈ x :: r, ¬ ltK y k := by
        intro y hy
        rcases List.mem_cons.1 hy with rfl | h3
        · exact hx
        · exact fun h4 => hx (ltK_trans (h1 y h3) h4)
      refine ⟨[], x :: r, rfl, ?_, by simp, hall⟩
      unfold pos
      rw [List.length_nil, List.countP_eq_zero]
      intro y hy
      simpa [cmpK_lt] using hall y hy
theorem Srt.ins {xs : List S24} (h : Srt xs) (k : S24) : Srt (ins xs k) ∧ (∀ x, x ∈ Dg.ins xs k ↔ x = k ∨ x ∈ xs) ∧ (Dg.ins xs k).length ≤ xs.length + 1 ∧ xs.length ≤ (Dg.ins xs k).length := by
  obtain ⟨A, B, e, hp, ha, hb⟩ := h.split k
  unfold Dg.ins
  cases B with
  | nil =>
    rw [List.append_nil] at e
    have hf : fnd xs k = false := by
      unfold fnd
      rw [hp, e]
      simp
    rw [hf, if_neg (by simp), hp, e]
    simp only [List.take_length, List.drop_length]
    refine ⟨?_, fun x => ?_, by simp, by simp⟩
    · rw [Srt, List.pairwise_append]
      exact ⟨e ▸ h, List.pairwise_singleton _ _, fun a h1 b h2 => by rw [List.mem_singleton.1 h2]; exact ha a h1⟩
    · simp [or_comm]
  | cons b B =>
    have hlt : pos xs k < xs.length := by rw [hp, e]; simp
    have hat : rd_T24 xs (pos xs k : Nat) = b := by
      rw [rd_at xs _ hlt]
      have h9 : xs[pos xs k]? = some b := by rw [hp, e, List.getElem?_append_right (Nat.le_refl _)]; simp
      exact Option.some.inj ((List.getElem?_eq_getElem hlt).symm.trans h9)
    by_cases hbk : b = k
    · have hf : fnd xs k = true := by
        unfold fnd
        rw [hat, hbk]
        simp [hlt, (cmpK_eq k k).2 rfl]
      rw [hf, if_pos rfl]
      refine ⟨h, fun x => ⟨.inr, ?_⟩, by omega, Nat.le_refl _⟩
      rintro (rfl | h1)
      · rw [e, ← hbk]; simp
      · exact h1
    · have hf : fnd xs k = false := by
        unfold fnd
        rw [hat]
        have : ¬ cmpK b k = 0 := fun h1 => hbk ((cmpK_eq b k).1 h1)
        simp [this]
      rw [hf, if_neg (by simp), hp]
      have e1 : xs.take A.length = A := by rw [e]; simp
      have e2 : xs.drop A.length = b :: B := by rw [e]; simp
      rw [e1, e2]
      have hkb : ltK k b := by
        rcases ltK_tri k b with h1 | h1 | h1
        · exact h1
        · exact absurd h1.symm hbk
        · exact absurd h1 (hb b (List.mem_cons_self ..))
      have hs := h
      rw [e] at hs
      obtain ⟨s1, s2, s3⟩ := List.pairwise_append.1 hs
      refine ⟨?_, fun x => ?_, ?_, ?_⟩
      · rw [Srt, List.pairwise_append]
        refine ⟨s1, List.pairwise_cons.2 ⟨fun y hy => ?_, s2⟩, fun a h1 y hy => ?_⟩
        · rcases List.mem_cons.1 hy with rfl | h3
          · exact hkb
          · exact ltK_trans hkb ((List.pairwise_cons.1 s2).1 y h3)
        · rcases List.mem_cons.1 hy with rfl | h3
          · exact ha a h1
          · exact s3 a h1 y h3
      · rw [e]; simp only [List.mem_append, List.mem_cons]
        constructor
        · rintro (h1 | rfl | h1) <;> simp_all
        · rintro (rfl | h1 | h1) <;> simp_all
      · rw [e]; simp only [List.length_append, List.length_cons]; omega
      · rw [e]; simp only [List.length_append, List.length_cons]; omega
/-- two sorted lists with the same members are the same -/
theorem Srt.ext {xs ys : List S24} (h : Srt xs) (k : Srt ys) (e : ∀ x, x ∈ xs ↔ x ∈ ys) : xs = ys := by
  induction xs generalizing ys with
  | nil =>
    cases ys with
    | nil => rfl
    | cons y r => exact absurd ((e y).2 (List.mem_cons_self ..)) (by simp)
  | cons x r ih =>
    cases ys with
    | nil => exact absurd ((e x).1 (List.mem_cons_self ..)) (by simp)
    | cons y s =>
      obtain ⟨h1, h2⟩ := List.pairwise_cons.1 h
      obtain ⟨k1, k2⟩ := List.pairwise_cons.1 k
      have hxy : x = y := by
        rcases List.mem_cons.1 ((e x).1 (List.mem_cons_self ..)) with h3 | h3
        · exact h3
        · rcases List.mem_cons.1 ((e y).2 (List.mem_cons_self ..)) with h4 | h4
          · exact h4.symm
          · exact absurd (ltK_trans (h1 y h4) (k1 x h3)) (ltK_irr x)
      subst hxy
      congr 1
      refine ih h2 k2 (fun z => ?_)
      have hz := e z
      simp only [List.mem_cons] at hz
      constructor
      · intro h3
        rcases hz.1 (.inr h3) with rfl | h4
        · exact absurd (h1 z h3) (ltK_irr z)
        · exact h4
      · intro h3
        rcases hz.2 (.inr h3) with rfl | h4
        · exact absurd (k1 z h3) (ltK_irr z)
        · exact h4
end Go.Proofs.Yteekdkkfegcoeaa.Dg
