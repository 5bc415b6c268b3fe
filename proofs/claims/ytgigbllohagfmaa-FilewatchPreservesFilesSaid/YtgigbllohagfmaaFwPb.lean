/- What a batch keeps of its events, path by path. No condition. -/
import Derived.Test.YtgigbllohagfmaaFwPa
set_option linter.unusedVariables false
set_option linter.unusedSimpArgs false
namespace Go.Proofs.Ytgigbllohagfmaa.Fw
open Go.RowKit Go.Proofs.YtgigbllohagfmaaW.PrintWords Go.Proofs.YtgigbllohagfmaaW.PrintLast Go.Proofs.YtgigbllohagfmaaW.PrintMore
open Go.Proofs.Ytgigbllohagfmaa

theorem snoc_ind {α : Type} {P : List α → Prop} (h0 : P []) (h1 : ∀ l e, P l → P (l ++ [e])) (l : List α) : P l := by
  have key : ∀ r : List α, P r.reverse := by
    intro r
    induction r with
    | nil => exact h0
    | cons e r ih => rw [List.reverse_cons]; exact h1 _ _ ih
  have := key l.reverse
  rwa [List.reverse_reverse] at this
theorem merged_get (g : List S33) (p : ByteArray) : (kp g p = [] ∧ Mp.aget (merged g) p = none) ∨ ∃ e, kp g p ≠ [] ∧ Mp.aget (merged g) p = some e ∧ e.f1 = p ∧ e.f2 = (kp g p).foldl mg 0 := by
  induction g using snoc_ind with
  | h0 => exact .inl ⟨rfl, rfl⟩
  | h1 g e ih =>
    rw [merged_snoc, kp_append]
    unfold merge1
    rw [Mp.aget_aset]
    by_cases hp : e.f1 = p
    · have ek : kp [e] p = [e.f2] := by rw [kp_cons, if_pos hp]; rfl
      rw [if_pos hp, ek]
      refine .inr ⟨_, by simp, rfl, hp, ?_⟩
      rw [List.foldl_append, hp]
      rcases ih with ⟨h1, h2⟩ | ⟨e', _, h2, _, h4⟩
      · rw [h1, h2]; rfl
      · rw [h2, ← h4]; rfl
    · have ek : kp [e] p = [] := by rw [kp_cons, if_neg hp]; rfl
      rw [if_neg hp, ek, List.append_nil]
      exact ih
theorem merged_apart (g : List S33) : (merged g).Pairwise (fun p q => p.1 ≠ q.1) := by
  induction g using snoc_ind with
  | h0 => exact List.Pairwise.nil
  | h1 g e ih => rw [merged_snoc]; exact Mp.aset_apart ih _ _
theorem bytes_inj {a b : ByteArray} (h : Sk.bytes a = Sk.bytes b) : a = b := ByteArray.ext (Array.toList_inj.1 h)
theorem keys_mem {β : Type} (m : List (ByteArray × β)) (k : ByteArray) : k ∈ Sk.sortedKeys m ↔ ∃ p ∈ m, p.1 = k := by
  unfold Sk.sortedKeys
  rw [List.mem_map]
  constructor
  · rintro ⟨l, hl, rfl⟩
    obtain ⟨p, hp, rfl⟩ := List.mem_map.1 (List.mem_mergeSort.1 hl)
    exact ⟨p, hp, rfl⟩
  · rintro ⟨p, hp, rfl⟩
    exact ⟨Sk.bytes p.1, List.mem_mergeSort.2 (List.mem_map_of_mem hp), rfl⟩
theorem keys_nodup {β : Type} {m : List (ByteArray × β)} (h : m.Pairwise (fun p q => p.1 ≠ q.1)) : (Sk.sortedKeys m).Nodup := by
  unfold Sk.sortedKeys
  have h1 : (m.map fun p => Sk.bytes p.1).Nodup := List.pairwise_map.2 (h.imp fun hne e => hne (bytes_inj e))
  have h2 := (List.mergeSort_perm (m.map fun p => Sk.bytes p.1) (fun x y => decide (x ≤ y))).nodup_iff.2 h1
  refine List.pairwise_map.2 (h2.imp fun {a b} hne e => hne ?_)
  have := congrArg Sk.bytes e
  simpa [Sk.bytes] using this
/-- a batch has of each path the merged kind, if there is one -/
theorem kp_outK (g : List S33) (p : ByteArray) : kp (outK (merged g) (Sk.sortedKeys (merged g))) p = if (kp g p).foldl mg 0 ≠ 0 then [(kp g p).foldl mg 0] else [] := by
  classical
  have look : ∀ k ∈ Sk.sortedKeys (merged g), ((Mp.aget (merged g) k).getD z33).f1 = k := by
    intro k hk
    rcases merged_get g k with ⟨_, h⟩ | ⟨e, _, h, he, _⟩
    · obtain ⟨q, hq, rfl⟩ := (keys_mem _ _).1 hk
      exact absurd rfl (Mp.aget_none.1 h q hq)
    · rw [h]; exact he
  have key : ∀ ks : List ByteArray, ks.Nodup → (∀ k ∈ ks, ((Mp.aget (merged g) k).getD z33).f1 = k) → kp (outK (merged g) ks) p = if p ∈ ks then (if ((Mp.aget (merged g) p).getD z33).f2 ≠ 0 then [((Mp.aget (merged g) p).getD z33).f2] else []) else [] := by
    intro ks
    induction ks with
    | nil => intro _ _; rw [if_neg (by simp)]; rfl
    | cons k ks ih =>
      intro hn hl
      rw [List.nodup_cons] at hn
      have ih' := ih hn.2 (fun x hx => hl x (List.mem_cons_of_mem _ hx))
      have hk := hl k List.mem_cons_self
      have e1 : outK (merged g) (k :: ks) = (if ((Mp.aget (merged g) k).getD z33).f2 ≠ 0 then [(Mp.aget (merged g) k).getD z33] else []) ++ outK (merged g) ks := by
        unfold outK
        rw [List.map_cons, List.filter_cons]
        by_cases hz : ((Mp.aget (merged g) k).getD z33).f2 = 0 <;> simp [hz]
      rw [e1, kp_append, ih']
      by_cases hp : k = p
      · subst hp
        rw [if_pos List.mem_cons_self, if_neg hn.1, List.append_nil]
        by_cases hz : ((Mp.aget (merged g) k).getD z33).f2 = 0
        · simp [hz, kp]
        · simp [hz, kp, hk]
      · have h1 : kp (if ((Mp.aget (merged g) k).getD z33).f2 ≠ 0 then [(Mp.aget (merged g) k).getD z33] else []) p = [] := by
          split
          · rw [kp_cons, hk, if_neg hp]; rfl
          · rfl
        rw [h1, List.nil_append]
        have h2 : p ∈ k :: ks ↔ p ∈ ks := by
          rw [List.mem_cons]
          exact ⟨fun h => h.resolve_left (fun e => hp e.symm), .inr⟩
        simp only [h2]
  rw [key _ (keys_nodup (merged_apart g)) look]
  rcases merged_get g p with ⟨h0, h⟩ | ⟨e, h0, h, he, hf⟩
  · have hn : ¬ p ∈ Sk.sortedKeys (merged g) := fun hm => by
      obtain ⟨q, hq, hqp⟩ := (keys_mem _ _).1 hm
      exact Mp.aget_none.1 h q hq hqp
    rw [if_neg hn, h0]
    simp
  · have hm : p ∈ Sk.sortedKeys (merged g) := (keys_mem _ _).2 ⟨_, Mp.aget_mem h, rfl⟩
    rw [if_pos hm, h]
    simp only [Option.getD_some, hf]
end Go.Proofs.Ytgigbllohagfmaa.Fw
