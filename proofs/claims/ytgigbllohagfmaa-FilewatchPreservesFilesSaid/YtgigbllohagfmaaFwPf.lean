/- The law that batches keep the files, as a statement about the printed function. No condition beside the arguments' size. -/
import Derived.Test.YtgigbllohagfmaaFwPe
set_option linter.unusedVariables false
set_option linter.unusedSimpArgs false
namespace Go.Proofs.Ytgigbllohagfmaa.Fw
open Go.RowKit Go.Proofs.YtgigbllohagfmaaW.PrintWords Go.Proofs.YtgigbllohagfmaaW.PrintLast Go.Proofs.YtgigbllohagfmaaW.PrintMore
open Go.Proofs.Ytgigbllohagfmaa

theorem one_length (g : List S33) : (one g).length ≤ g.length := by
  unfold one
  have h1 := outK_len (merged g) (Sk.sortedKeys (merged g)) (Sk.sortedKeys (merged g)).length
  rw [List.take_length, keys_len] at h1
  exact Nat.le_trans h1 (merged_length g)
theorem deliv_length {es : List S33} {bs : List S31} (h : Deliv es bs) : (bs.flatMap (·.f1)).length ≤ es.length := by
  obtain ⟨⟨gs, rfl, h2⟩, h9⟩ := h
  clear h9
  rw [h2]
  clear h2
  induction gs with
  | nil => exact Nat.le_refl _
  | cons g gs ih =>
    rw [List.flatMap_cons, List.flatten_cons, List.length_append, List.length_append]
    have := one_length g
    omega
theorem deliv_keys {es : List S33} {bs : List S31} (h : Deliv es bs) : ∀ e ∈ bs.flatMap (·.f1), ∃ e' ∈ es, e.f1 = e'.f1 := by
  intro e he
  obtain ⟨⟨gs, rfl, h2⟩, h9⟩ := h
  clear h9
  rw [h2] at he
  obtain ⟨g, hg, heg⟩ := List.mem_flatMap.1 he
  have hk : e.f2 ∈ kp (one g) e.f1 := by
    unfold kp
    exact List.mem_map_of_mem (List.mem_filter.2 ⟨heg, by simp⟩)
  unfold one at hk
  rw [kp_outK] at hk
  have hne : kp g e.f1 ≠ [] := by
    intro h0
    rw [h0] at hk
    simp at hk
  obtain ⟨k, hk'⟩ := List.exists_mem_of_ne_nil _ hne
  unfold kp at hk'
  obtain ⟨e', he', _⟩ := List.mem_map.1 hk'
  obtain ⟨h3, h4⟩ := List.mem_filter.1 he'
  exact ⟨e', List.mem_flatten.2 ⟨g, hg, h3⟩, by simpa using (of_decide_eq_true h4).symm⟩
theorem appl_apart (es : List S33) : ∀ m : List (ByteArray × Int), m.Pairwise (fun p q => p.1 ≠ q.1) → (appl es m).Pairwise (fun p q => p.1 ≠ q.1) := by
  induction es with
  | nil => intro m h; exact h
  | cons e es ih =>
    intro m h
    rw [appl_cons]
    apply ih
    (repeat' split)
    · exact Mp.aset_apart h _ _
    · exact Mp.aset_apart h _ _
    · exact Mp.adel_apart h _
    · exact h
theorem tab_apart (l : List ByteArray) : (tab l).Pairwise (fun p q => p.1 ≠ q.1) := by
  induction l using snoc_ind with
  | h0 => exact List.Pairwise.nil
  | h1 l f ih => rw [tab_snoc]; exact Mp.aset_apart ih _ _
theorem tab_pres (l : List ByteArray) (p : ByteArray) : pres (tab l) p = has (tab l) p := by
  have key : Mp.aget (tab l) p = none ∨ Mp.aget (tab l) p = some 1 := by
    induction l using snoc_ind with
    | h0 => exact .inl rfl
    | h1 l f ih =>
      rw [tab_snoc, Mp.aget_aset]
      split
      · exact .inr rfl
      · exact ih
  unfold pres has
  rcases key with h | h <;> rw [h] <;> rfl
theorem has_keys (m : List (ByteArray × Int)) (p : ByteArray) : has m p = true ↔ ∃ q ∈ m, q.1 = p := by
  unfold has
  constructor
  · intro h
    obtain ⟨v, hv⟩ := Option.isSome_iff_exists.1 h
    exact ⟨_, Mp.aget_mem hv, rfl⟩
  · rintro ⟨q, hq, rfl⟩
    cases h : Mp.aget m q.1 with
    | none => exact absurd rfl (Mp.aget_none.1 h q hq)
    | some v => rfl
theorem keys_eq {m1 m2 : List (ByteArray × Int)} (h1 : m1.Pairwise (fun p q => p.1 ≠ q.1)) (h2 : m2.Pairwise (fun p q => p.1 ≠ q.1)) (h : ∀ p, has m1 p = has m2 p) : Sk.sortedKeys m1 = Sk.sortedKeys m2 := by
  unfold Sk.sortedKeys
  have n1 : (m1.map fun p => Sk.bytes p.1).Nodup := List.pairwise_map.2 (h1.imp fun hne e => hne (bytes_inj e))
  have n2 : (m2.map fun p => Sk.bytes p.1).Nodup := List.pairwise_map.2 (h2.imp fun hne e => hne (bytes_inj e))
  have side : ∀ (a b : List (ByteArray × Int)), (∀ p, has a p = has b p) → ∀ x, x ∈ a.map (fun p => Sk.bytes p.1) → x ∈ b.map (fun p => Sk.bytes p.1) := by
    intro a b hab x hx
    obtain ⟨p, hp, rfl⟩ := List.mem_map.1 hx
    obtain ⟨q, hq, hqp⟩ := (has_keys b p.1).1 (by rw [← hab]; exact (has_keys a p.1).2 ⟨p, hp, rfl⟩)
    exact List.mem_map.2 ⟨q, hq, by rw [hqp]⟩
  have hp : (m1.map fun p => Sk.bytes p.1).Perm (m2.map fun p => Sk.bytes p.1) := (List.perm_ext_iff_of_nodup n1 n2).2 fun x => ⟨side m1 m2 h x, side m2 m1 (fun p => (h p).symm) x⟩
  have := Go.mergeSort_of_perm hp
  unfold Go.leB at this
  rw [this]
theorem eqs_loop (xs : List ByteArray) (hx : xs.length ≤ 100000) : ∀ (d i k : Nat), i + d = xs.length → d < k → glossatorref3_Equal_string.l0 k xs xs (xs.length : Int) (i : Int) = some true := by
  intro d
  induction d with
  | zero =>
    intro i k hi hk
    obtain ⟨k, rfl⟩ : ∃ m, k = m + 1 := ⟨k - 1, by omega⟩
    simp only [glossatorref3_Equal_string.l0]
    rw [if_neg (by omega)]
  | succ d ih =>
    intro i k hi hk
    obtain ⟨k, rfl⟩ : ∃ m, k = m + 1 := ⟨k - 1, by omega⟩
    simp only [glossatorref3_Equal_string.l0]
    rw [if_pos (by omega), if_pos (by omega), if_pos (by omega), if_pos (by omega), if_pos trivial, w64 (by omega) (by omega), show ((i : Int) + 1) = ((i + 1 : Nat) : Int) from by omega]
    exact ih (i + 1) k (by omega) (by omega)
theorem eqs_is (xs : List ByteArray) (hx : xs.length ≤ 100000) (k : Nat) (hk : 100001 < k) : glossatorref3_Equal_string.f k xs xs = some true := by
  unfold glossatorref3_Equal_string.f
  rw [if_pos rfl]
  exact eqs_loop xs hx xs.length 0 k (by omega) (by omega)
theorem cons_f (fs : List ByteArray) (es : List S33) (hf : fs.length ≤ 1000) (he : es.length ≤ 1000) (kf : ∀ f ∈ fs, f.size ≤ 9223372036854775807) (ke : ∀ e ∈ es, e.f1.size ≤ 9223372036854775807) : filewatch_Consistent.f fs es = some (cons es (tab fs)) ∧ filewatch_Apply.f fs es = some (Sk.sortedKeys (appl es (tab fs))) := by
  have hc : fs.length < 1000000000 ∧ es.length < 1000000000 ∧ (fs.all fun f => decide (f.size ≤ 9223372036854775807)) = true ∧ (es.all fun e => decide (e.f1.size ≤ 9223372036854775807)) = true := ⟨by omega, by omega, List.all_eq_true.2 fun f h => decide_eq_true (kf f h), List.all_eq_true.2 fun e h => decide_eq_true (ke e h)⟩
  unfold filewatch_Consistent.f filewatch_Apply.f
  rw [if_pos hc, if_pos hc]
  exact ⟨rfl, rfl⟩
theorem rd31 (xs : List S31) (i : Nat) (h : i < xs.length) : rd_T31 xs (i : Int) = xs[i] := by
  unfold rd_T31
  simp [h]
end Go.Proofs.Ytgigbllohagfmaa.Fw
