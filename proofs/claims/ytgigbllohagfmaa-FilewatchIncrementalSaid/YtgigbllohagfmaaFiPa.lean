/- A batch's events: sorted by path, none twice, and each of the time of one of the events it was made of. No condition. -/
import Derived.Test.YtgigbllohagfmaaFihNb
import Derived.Sort.Walk0
set_option linter.unusedVariables false
set_option linter.unusedSimpArgs false
namespace Go.Proofs.Ytgigbllohagfmaa.Fi
open Go.RowKit Go.Proofs.YtgigbllohagfmaaW.PrintWords Go.Proofs.YtgigbllohagfmaaW.PrintLast Go.Proofs.YtgigbllohagfmaaW.PrintMore
open Go.Proofs.Ytgigbllohagfmaa

theorem snoc_ind {α : Type} {P : List α → Prop} (h0 : P []) (h1 : ∀ l e, P l → P (l ++ [e])) (l : List α) : P l := by
  have key : ∀ r : List α, P r.reverse := by
    intro r
    induction r with
    | nil => exact h0
    | cons e r ih => rw [List.reverse_cons]; exact h1 _ _ ih
  have := key l.reverse
  rwa [List.reverse_reverse] at this
theorem merged_get (g : List S33) (p : ByteArray) : ∀ e, Mp.aget (merged g) p = some e → e.f1 = p ∧ ∃ e' ∈ g, e.f0 = e'.f0 := by
  induction g using snoc_ind with
  | h0 => intro e h; cases h
  | h1 g e ih =>
    intro x hx
    rw [merged_snoc] at hx
    unfold merge1 at hx
    rw [Mp.aget_aset] at hx
    by_cases hp : e.f1 = p
    · rw [if_pos hp] at hx
      rw [← Option.some.inj hx]
      exact ⟨hp, e, by simp, rfl⟩
    · rw [if_neg hp] at hx
      obtain ⟨h1, e', h2, h3⟩ := ih x hx
      exact ⟨h1, e', by simp [h2], h3⟩
theorem merged_apart (g : List S33) : (merged g).Pairwise (fun p q => p.1 ≠ q.1) := by
  induction g using snoc_ind with
  | h0 => exact List.Pairwise.nil
  | h1 g e ih => rw [merged_snoc]; exact Mp.aset_apart ih _ _
theorem bytes_inj {a b : ByteArray} (h : Sk.bytes a = Sk.bytes b) : a = b := ByteArray.ext (Array.toList_inj.1 h)
theorem keys_mem {β : Type} (m : List (ByteArray × β)) (k : ByteArray) : k ∈ Sk.sortedKeys m ↔ ∃ p ∈ m, p.1 = k := by
  unfold Sk.sortedKeys
  rw [List.mem_map]
  constructor
  · rintro ⟨l, hl, rfl⟩
    obtain ⟨p, hp, rfl⟩ := List.mem_map.1 (List.mem_mergeSort.1 hl)
    exact ⟨p, hp, rfl⟩
  · rintro ⟨p, hp, rfl⟩
    exact ⟨Sk.bytes p.1, List.mem_mergeSort.2 (List.mem_map_of_mem hp), rfl⟩
def less (a b : ByteArray) : Prop := Op.bytesLess a.toList b.toList = true
theorem keys_less {β : Type} {m : List (ByteArray × β)} (h : m.Pairwise (fun p q => p.1 ≠ q.1)) : (Sk.sortedKeys m).Pairwise less := by
  unfold Sk.sortedKeys
  have h1 : (m.map fun p => Sk.bytes p.1).Nodup := List.pairwise_map.2 (h.imp fun hne e => hne (bytes_inj e))
  have h2 := (List.mergeSort_perm (m.map fun p => Sk.bytes p.1) (fun x y => decide (x ≤ y))).nodup_iff.2 h1
  have h3 : ((m.map fun p => Sk.bytes p.1).mergeSort fun x y => decide (x ≤ y)).Pairwise (fun a b => decide (a ≤ b) = true) :=
    List.pairwise_mergeSort (fun a b c h1 h2 => by simp only [decide_eq_true_eq] at *; exact List.le_trans h1 h2)
      (fun a b => by simp only [Bool.or_eq_true, decide_eq_true_eq]; exact List.le_total a b) _
  refine List.pairwise_map.2 ((List.Pairwise.and h3 h2).imp fun {a b} hab => ?_)
  show Op.bytesLess _ _ = true
  rw [Go.Proofs.bytesLess_eq, ByteArray.toList_eq, ByteArray.toList_eq]
  refine decide_eq_true ?_
  show a < b
  by_cases hlt : a < b
  · exact hlt
  · exact absurd (List.le_antisymm (of_decide_eq_true hab.1) (List.not_lt.1 hlt)) hab.2
def one (g : List S33) : List S33 := outK (merged g) (Sk.sortedKeys (merged g))
theorem look (g : List S33) : ∀ k ∈ Sk.sortedKeys (merged g), ((Mp.aget (merged g) k).getD z33).f1 = k ∧ ∃ e' ∈ g, ((Mp.aget (merged g) k).getD z33).f0 = e'.f0 := by
  intro k hk
  cases h : Mp.aget (merged g) k with
  | none =>
    obtain ⟨q, hq, rfl⟩ := (keys_mem _ _).1 hk
    exact absurd rfl (Mp.aget_none.1 h q hq)
  | some e => exact merged_get g k e h
theorem one_less (g : List S33) : (one g).Pairwise (fun a b => less a.f1 b.f1) := by
  unfold one outK
  refine List.Pairwise.filter _ (List.pairwise_map.2 ?_)
  refine (List.Pairwise.and_mem.1 (keys_less (merged_apart g))).imp fun {a b} h => ?_
  rw [(look g a h.1).1, (look g b h.2.1).1]
  exact h.2.2
theorem one_time (g : List S33) : ∀ e ∈ one g, ∃ e' ∈ g, e.f0 = e'.f0 := by
  intro e he
  unfold one outK at he
  obtain ⟨k, hk, rfl⟩ := List.mem_map.1 (List.mem_filter.1 he).1
  exact (look g k hk).2
end Go.Proofs.Ytgigbllohagfmaa.Fi
