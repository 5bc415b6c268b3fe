/- The law WordindexFind: found by its words alone; an update changes the entry of that document alone. No condition. -/
import Derived.Test.YtngolmiegfgmmaaWfPb
import Derived.Test.YtngolmiegfgmmaaWfx7
import Derived.Test.YtngolmiegfgmmaaWfx6
import Derived.Test.YtngolmiegfgmmaaWfx3
import Derived.Test.YtngolmiegfgmmaaWfx2
set_option linter.unusedVariables false
set_option linter.unusedSimpArgs false
namespace Go.Proofs.Ytngolmiegfgmmaa.Wf
open Go.RowKit Go.Sort Go.Proofs.YtngolmiegfgmmaaW.PrintWords Go.Proofs.YtngolmiegfgmmaaW.PrintLast Go.Proofs.YtngolmiegfgmmaaW.PrintMore
open Go.Proofs.Ytngolmiegfgmmaa
open Classical
theorem w64 {n : Int} (h : -9223372036854775808 ≤ n) (h' : n ≤ 9223372036854775807) : wrap64 n = n := by unfold wrap64; omega
theorem lb_inj {a b : ByteArray} (h : a.toList = b.toList) : a = b := by
  rw [toList_lb, toList_lb] at h
  unfold lb at h
  have : a.data = b.data := by
    cases ha : a.data; cases hb : b.data
    rw [ha, hb] at h
    exact congrArg _ h
  cases a; cases b; simp_all
theorem rdL (l : List ByteArray) (i : Nat) (h : i < l.length) : rdOf ByteArray.empty l (i : Int) = l[i] := by simp [rdOf, h]
theorem index_loop (l : List ByteArray) (a : ByteArray) (hl : l.length ≤ 1000) : ∀ (d i k : Nat), i + d = l.length → d < k → ∃ v, glossatorref3_Index_string.l0 k a l (l.length : Int) (i : Int) = some v ∧ (v ≥ 0 ↔ a ∈ l.drop i) := by
  intro d
  induction d with
  | zero =>
    intro i k hi hk
    obtain ⟨k, rfl⟩ : ∃ m, k = m + 1 := ⟨k - 1, by omega⟩
    simp only [glossatorref3_Index_string.l0]
    rw [if_neg (by omega), List.drop_eq_nil_of_le (by omega)]
    exact ⟨_, rfl, by simp⟩
  | succ d ih =>
    intro i k hi hk
    obtain ⟨k, rfl⟩ : ∃ m, k = m + 1 := ⟨k - 1, by omega⟩
    have hi' : i < l.length := by omega
    have hw : wrap64 ((i : Int) + 1) = ((i + 1 : Nat) : Int) := by rw [w64 (by omega) (by omega)]; omega
    obtain ⟨v, h1, h2⟩ := ih (i + 1) k (by omega) (by omega)
    simp only [glossatorref3_Index_string.l0]
    rw [if_pos (by omega), if_pos (Int.natCast_nonneg _), if_pos (by omega), rdL l i hi', hw, List.drop_eq_getElem_cons hi']
    by_cases h : a.toList = l[i].toList
    · rw [if_pos h]
      exact ⟨_, rfl, ⟨fun _ => by rw [lb_inj h]; exact List.mem_cons_self, fun _ => Int.natCast_nonneg _⟩⟩
    · rw [if_neg h]
      exact ⟨v, h1, by
        rw [h2, List.mem_cons]
        constructor
        · exact .inr
        · rintro (h3 | h3)
          · exact absurd (by rw [h3]) h
          · exact h3⟩
theorem contains_is (l : List ByteArray) (a : ByteArray) (hl : l.length ≤ 1000) (k : Nat) (hk : 1001 ≤ k) : glossatorref3_Contains_string.f k l a = some (decide (a ∈ l)) := by
  unfold glossatorref3_Contains_string.f glossatorref3_Index_string.f
  obtain ⟨v, h1, h2⟩ := index_loop l a hl l.length 0 k (by omega) (by omega)
  rw [show ((0 : Nat) : Int) = 0 from rfl] at h1
  rw [h1, Option.bind_some]
  congr 1
  rw [List.drop_zero] at h2
  exact decide_eq_decide.2 h2
theorem sindex_loop (l : List ByteArray) (a : ByteArray) (hl : l.length ≤ 1000) : ∀ (d i k : Nat), i + d = l.length → d < k → ∃ v, slices_Index_string_string.l0 k l a (l.length : Int) (i : Int) = some v ∧ (v ≥ 0 ↔ a ∈ l.drop i) := by
  intro d
  induction d with
  | zero =>
    intro i k hi hk
    obtain ⟨k, rfl⟩ : ∃ m, k = m + 1 := ⟨k - 1, by omega⟩
    simp only [slices_Index_string_string.l0]
    rw [if_neg (by omega), List.drop_eq_nil_of_le (by omega)]
    exact ⟨_, rfl, by simp⟩
  | succ d ih =>
    intro i k hi hk
    obtain ⟨k, rfl⟩ : ∃ m, k = m + 1 := ⟨k - 1, by omega⟩
    have hi' : i < l.length := by omega
    have hw : wrap64 ((i : Int) + 1) = ((i + 1 : Nat) : Int) := by rw [w64 (by omega) (by omega)]; omega
    obtain ⟨v, h1, h2⟩ := ih (i + 1) k (by omega) (by omega)
    simp only [slices_Index_string_string.l0]
    rw [if_pos (by omega), if_pos (Int.natCast_nonneg _), if_pos (by omega), rdL l i hi', hw, List.drop_eq_getElem_cons hi']
    by_cases h : a.toList = l[i].toList
    · rw [if_pos h]
      exact ⟨_, rfl, ⟨fun _ => by rw [lb_inj h]; exact List.mem_cons_self, fun _ => Int.natCast_nonneg _⟩⟩
    · rw [if_neg h]
      exact ⟨v, h1, by
        rw [h2, List.mem_cons]
        constructor
        · exact .inr
        · rintro (h3 | h3)
          · exact absurd (by rw [h3]) h
          · exact h3⟩
theorem scontains_is (l : List ByteArray) (a : ByteArray) (hl : l.length ≤ 1000) (k : Nat) (hk : 1001 ≤ k) : slices_Contains_string_string.f k l a = some (decide (a ∈ l)) := by
  unfold slices_Contains_string_string.f slices_Index_string_string.f
  obtain ⟨v, h1, h2⟩ := sindex_loop l a hl l.length 0 k (by omega) (by omega)
  rw [show ((0 : Nat) : Int) = 0 from rfl] at h1
  rw [h1, Option.bind_some]
  congr 1
  rw [List.drop_zero] at h2
  exact decide_eq_decide.2 h2
theorem equal_loop (l : List ByteArray) (hl : l.length ≤ 1000) : ∀ (d i k : Nat), i + d = l.length → d < k → glossatorref3_Equal_string.l0 k l l (l.length : Int) (i : Int) = some true := by
  intro d
  induction d with
  | zero =>
    intro i k hi hk
    obtain ⟨k, rfl⟩ : ∃ m, k = m + 1 := ⟨k - 1, by omega⟩
    simp only [glossatorref3_Equal_string.l0]
    rw [if_neg (by omega)]
  | succ d ih =>
    intro i k hi hk
    obtain ⟨k, rfl⟩ : ∃ m, k = m + 1 := ⟨k - 1, by omega⟩
    have hw : wrap64 ((i : Int) + 1) = ((i + 1 : Nat) : Int) := by rw [w64 (by omega) (by omega)]; omega
    simp only [glossatorref3_Equal_string.l0]
    rw [if_pos (by omega), if_pos (Int.natCast_nonneg _), if_pos (by omega), if_pos (by omega), hw, ih (i + 1) k (by omega) (by omega)]
    simp
theorem equal_is (l : List ByteArray) (hl : l.length ≤ 1000) (k : Nat) (hk : 1001 ≤ k) : glossatorref3_Equal_string.f k l l = some true := by
  unfold glossatorref3_Equal_string.f
  rw [if_pos rfl]
  exact equal_loop l hl l.length 0 k (by omega) (by omega)
theorem eqix_loop (l : List S43) (hl : l.length ≤ 1000) (hw0 : ∀ x ∈ l, x.f2.length ≤ 1000) : ∀ (d i k : Nat), i + d = l.length → d + 1100 < k → glossatorref3_EqualIndexes.l0 k l l (l.length : Int) (i : Int) = some true := by
  intro d
  induction d with
  | zero =>
    intro i k hi hk
    obtain ⟨k, rfl⟩ : ∃ m, k = m + 1 := ⟨k - 1, by omega⟩
    simp only [glossatorref3_EqualIndexes.l0]
    rw [if_neg (by omega)]
  | succ d ih =>
    intro i k hi hk
    obtain ⟨k, rfl⟩ : ∃ m, k = m + 1 := ⟨k - 1, by omega⟩
    have hi' : i < l.length := by omega
    have hw : wrap64 ((i : Int) + 1) = ((i + 1 : Nat) : Int) := by rw [w64 (by omega) (by omega)]; omega
    simp only [glossatorref3_EqualIndexes.l0]
    rw [if_pos (by omega), if_pos (Int.natCast_nonneg _), if_pos (by omega), if_pos (by omega), rd43_at l i hi', equal_is _ (hw0 _ (List.getElem_mem hi')) k (by omega), hw, ih (i + 1) k (by omega) (by omega)]
    simp
theorem eqix_is (l : List S43) (hl : l.length ≤ 1000) (hw0 : ∀ x ∈ l, x.f2.length ≤ 1000) (k : Nat) (hk : 2200 ≤ k) : glossatorref3_EqualIndexes.f k l l = some true := by
  unfold glossatorref3_EqualIndexes.f
  rw [if_pos rfl]
  exact eqix_loop l hl hw0 l.length 0 k (by omega) (by omega)
theorem find_loop (l : List S43) (a : ByteArray) (hl : l.length ≤ 1000) (hw0 : ∀ x ∈ l, x.f2.length ≤ 1000) : ∀ (d i k : Nat) (acc : List ByteArray), i + d = l.length → d + 1100 < k → acc.length ≤ i → wordindex_Find.l0 k a acc l (l.length : Int) (i : Int) = some (acc ++ ((l.drop i).filter (fun x => decide (a ∈ x.f2))).map S43.f0) := by
  intro d
  induction d with
  | zero =>
    intro i k acc hi hk ha
    obtain ⟨k, rfl⟩ : ∃ m, k = m + 1 := ⟨k - 1, by omega⟩
    simp only [wordindex_Find.l0]
    rw [if_neg (by omega), List.drop_eq_nil_of_le (by omega)]
    simp
  | succ d ih =>
    intro i k acc hi hk ha
    obtain ⟨k, rfl⟩ : ∃ m, k = m + 1 := ⟨k - 1, by omega⟩
    have hi' : i < l.length := by omega
    have hw : wrap64 ((i : Int) + 1) = ((i + 1 : Nat) : Int) := by rw [w64 (by omega) (by omega)]; omega
    simp only [wordindex_Find.l0]
    rw [if_pos (by omega), if_pos (Int.natCast_nonneg _), if_pos (by omega), rd43_at l i hi', scontains_is _ a (hw0 _ (List.getElem_mem hi')) k (by omega), Option.bind_some, hw, List.drop_eq_getElem_cons hi']
    by_cases h : a ∈ l[i].f2
    · rw [if_pos (decide_eq_true h), if_pos (by omega), ih (i + 1) k _ (by omega) (by omega) (by rw [List.length_append, List.length_singleton]; omega), List.filter_cons_of_pos (p := fun x : S43 => decide (a ∈ x.f2)) (decide_eq_true h)]
      simp
    · rw [if_neg (by simp [h]), ih (i + 1) k _ (by omega) (by omega) (by omega), List.filter_cons_of_neg (p := fun x : S43 => decide (a ∈ x.f2)) (by simp [h])]
theorem find_is (l : List S43) (a : ByteArray) (hl : l.length ≤ 1000) (hw0 : ∀ x ∈ l, x.f2.length ≤ 1000) (k : Nat) (hk : 2200 ≤ k) : wordindex_Find.f k l a = some ((l.filter (fun x => decide (a ∈ x.f2))).map S43.f0) := by
  unfold wordindex_Find.f
  have := find_loop l a hl hw0 l.length 0 k [] (by omega) (by omega) (by simp)
  rw [show ((0 : Nat) : Int) = 0 from rfl] at this
  rw [this]
  simp
theorem sum_loop (s : ByteArray) (hs : s.size < 1000000) : ∀ (d i k : Nat) (x : Int), i + d = s.size → d < k → ∃ v, journal_Checksum.l0 k s x (s.size : Int) (i : Int) = some v := by
  intro d
  induction d with
  | zero =>
    intro i k x hi hk
    obtain ⟨k, rfl⟩ : ∃ m, k = m + 1 := ⟨k - 1, by omega⟩
    simp only [journal_Checksum.l0]
    rw [if_neg (by omega)]
    exact ⟨_, rfl⟩
  | succ d ih =>
    intro i k x hi hk
    obtain ⟨k, rfl⟩ : ∃ m, k = m + 1 := ⟨k - 1, by omega⟩
    have hw : wrap64 ((i : Int) + 1) = ((i + 1 : Nat) : Int) := by rw [w64 (by omega) (by omega)]; omega
    simp only [journal_Checksum.l0]
    rw [if_pos (by omega), if_pos (Int.natCast_nonneg _), if_pos (by omega), hw]
    exact ih (i + 1) k _ (by omega) (by omega)
theorem sum_is (s : ByteArray) (hs : s.size < 1000000) : journal_Checksum.f (s.size + 1) s = some (sumF s) := by
  obtain ⟨v, hv⟩ := sum_loop s hs s.size 0 (s.size + 1) 2166136261 (by omega) (by omega)
  have h2 : journal_Checksum.f (s.size + 1) s = some v := hv
  unfold sumF
  rw [h2]
  rfl
/-- documents within the law's limits -/
def okS (d : S35) : Prop := 0 < d.f0.size ∧ d.f0.size ≤ 60 ∧ d.f2.size ≤ 120
theorem okS_D {d : S35} (h : okS d) : okD d := by
  obtain ⟨h0, h1, h2⟩ := h
  refine ⟨?_, ?_, sum_is _ (by omega), ?_⟩
  · unfold longF
    rw [decide_eq_false (by omega), decide_eq_false (by omega)]
    rfl
  · unfold emptyF
    rw [List.isEmpty_eq_false_iff, toList_lb]
    intro he
    have := lb_len d.f0
    rw [he] at this
    simp at this
    omega
  · rw [words_is _ (by omega), wordsF_is _ (by omega)]
def okL (l : List S35) : Prop := l.length ≤ 5 ∧ (∀ d ∈ l, okS d) ∧ l.Pairwise (fun x y => Cb.key S35.f0 x y < 0)
theorem okL_B {l : List S35} (h : okL l) : okB l := ⟨by have := h.1; omega, fun d hd => okS_D (h.2.1 d hd), h.2.2⟩
theorem ent_len {l : List S35} (h : okL l) : ∀ x ∈ l.map entF, x.f2.length ≤ 1000 := by
  intro x hx
  obtain ⟨d, hd, rfl⟩ := List.mem_map.1 hx
  obtain ⟨_, _, h2⟩ := h.2.1 d hd
  show (wordsF d.f2).length ≤ 1000
  rw [wordsF_is _ (by omega), strs_len]
  have := U_len d.f2
  omega
theorem build_is {l : List S35} (h : okL l) : wordindex_Build.f l = some (l.map entF, 0) := by
  unfold wordindex_Build.f
  rw [if_pos (okL_B h)]
theorem cmp_lt : ∀ {a b : List UInt8}, Lib.compareBytes a b < 0 → a < b
  | [], [], h => by simp [Lib.compareBytes] at h
  | [], b :: bs, _ => List.nil_lt_cons _ _
  | a :: as_, [], h => by simp [Lib.compareBytes] at h
  | a :: as_, b :: bs, h => by
    unfold Lib.compareBytes at h
    rw [List.cons_lt_cons_iff]
    by_cases h1 : a < b
    · exact .inl h1
    · by_cases h2 : b < a
      · simp [h1, h2] at h
      · simp [h1, h2] at h
        refine .inr ⟨?_, cmp_lt h⟩
        have h3 : ¬ a.toNat < b.toNat := fun h => h1 (UInt8.lt_iff_toNat_lt.2 h)
        have h4 : ¬ b.toNat < a.toNat := fun h => h2 (UInt8.lt_iff_toNat_lt.2 h)
        exact UInt8.toNat_inj.1 (by omega)
theorem valid_loop {l : List S35} (h : okL l) : ∀ (d i k : Nat), i + d = (l.map entF).length → d < k → wordindex_valid.l0 k (l.map entF) (l.map entF) ((l.map entF).length : Int) (i : Int) = some true := by
  have hl : (l.map entF).length ≤ 5 := by rw [List.length_map]; exact h.1
  intro d
  induction d with
  | zero =>
    intro i k hi hk
    obtain ⟨k, rfl⟩ : ∃ m, k = m + 1 := ⟨k - 1, by omega⟩
    simp only [wordindex_valid.l0]
    rw [if_neg (by omega), decide_eq_true (by omega)]
  | succ d ih =>
    intro i k hi hk
    obtain ⟨k, rfl⟩ : ∃ m, k = m + 1 := ⟨k - 1, by omega⟩
    have hi' : i < (l.map entF).length := by omega
    have hil : i < l.length := by rw [List.length_map] at hi'; exact hi'
    have hw : wrap64 ((i : Int) + 1) = ((i + 1 : Nat) : Int) := by rw [w64 (by omega) (by omega)]; omega
    obtain ⟨s0, s1, s2⟩ := h.2.1 _ (List.getElem_mem hil)
    have e0 : (l.map entF)[i].f0 = l[i].f0 := by rw [List.getElem_map]; rfl
    have e2 : (l.map entF)[i].f2 = wordsF l[i].f2 := by rw [List.getElem_map]; rfl
    have hne : ¬ l[i].f0.toList = [] := by
      intro he
      rw [toList_lb] at he
      have := lb_len l[i].f0
      rw [he] at this
      simp at this
      omega
    simp only [wordindex_valid.l0]
    rw [if_pos (by omega), if_pos (Int.natCast_nonneg _), if_pos (by omega), rd43_at _ i hi', e0, e2, if_neg hne, if_neg (by omega), valid_words _ (by omega), hw, ih (i + 1) k (by omega) (by omega)]
    by_cases h0 : (i : Int) > 0
    · have hw2 : wrap64 ((i : Int) - 1) = ((i - 1 : Nat) : Int) := by rw [w64 (by omega) (by omega)]; omega
      have hlt := cmp_lt (List.pairwise_iff_getElem.1 h.2.2 (i - 1) i (by omega) hil (by omega))
      rw [if_pos h0, hw2, if_pos (Int.natCast_nonneg _), if_pos (by omega), rd43_at _ (i - 1) (by omega), List.getElem_map, show (entF (l[i - 1]'(by omega))).f0 = (l[i - 1]'(by omega)).f0 from rfl, Go.Proofs.bytesLess_eq, toList_lb, toList_lb, if_pos (show decide (lb (l[i - 1]'(by omega)).f0 < lb l[i].f0) = true from decide_eq_true hlt)]
      simp
    · rw [if_neg h0]
      simp
theorem valid_is {l : List S35} (h : okL l) : wordindex_valid.f 10 (l.map entF) = some true := by
  unfold wordindex_valid.f
  have hl : (l.map entF).length ≤ 5 := by rw [List.length_map]; exact h.1
  exact valid_loop h (l.map entF).length 0 10 (by omega) (by omega)
end Go.Proofs.Ytngolmiegfgmmaa.Wf
