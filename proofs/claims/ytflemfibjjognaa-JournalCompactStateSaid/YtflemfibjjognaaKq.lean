/- Two laws of the journal, as statements about the printed functions: what State says behind an append, and that Compact keeps the state. No condition beside the arguments' size. -/
import Derived.Test.YtflemfibjjognaaKo
import Derived.Test.YtflemfibjjognaaJsx
import Derived.Test.YtflemfibjjognaaJshSt
set_option linter.unusedVariables false
set_option linter.unusedSimpArgs false
namespace Go.Proofs.Ytflemfibjjognaa.Js
open Go.RowKit Go.Proofs.YtflemfibjjognaaW.PrintWords Go.Proofs.YtflemfibjjognaaW.PrintLast Go.Proofs.YtflemfibjjognaaW.PrintMore
open Go.Proofs.Ytflemfibjjognaa

/-- the fixed example -/
theorem example_is (k : Nat) (hk : 4000 ≤ k) : glossatorkeep3_journalExample.f k = some true := by
  have h1 := append_is ⟨#[]⟩ ⟨⟨#[107]⟩, ⟨#[118]⟩, false⟩ (by decide) k hk
  have h2 := checksum_is ⟨#[97]⟩ (by decide) k (by show 1 < k; omega)
  have e2 : cs ⟨#[97]⟩ = 3826002220 := by decide +kernel
  have e1 : (app ⟨#[]⟩ ⟨⟨#[107]⟩, ⟨#[118]⟩, false⟩).2 = 0 ∧ ((app ⟨#[]⟩ ⟨⟨#[107]⟩, ⟨#[118]⟩, false⟩).1.size : Int) = 10 := by
    have hv : vcode ⟨⟨#[107]⟩, ⟨#[118]⟩, false⟩ = 0 := by decide
    have hp : (pay ⟨⟨#[107]⟩, ⟨#[118]⟩, false⟩).size = 4 := (pay_size _).trans rfl
    have hf := frm_size (pay ⟨⟨#[107]⟩, ⟨#[118]⟩, false⟩)
    have h := appF_fits (lg := ⟨#[]⟩) (F := frm (pay ⟨⟨#[107]⟩, ⟨#[118]⟩, false⟩)) hv (by show 0 + _ ≤ _; omega)
    unfold app
    rw [h]
    refine ⟨rfl, ?_⟩
    simp only
    rw [empty_append]
    omega
  unfold glossatorkeep3_journalExample.f
  rw [h1, Option.bind_some, h2, Option.bind_some, e2, if_pos rfl, if_pos e1.1, e1.2]
  rfl

/-- equal lists of records are told as equal -/
theorem equal_loop (xs : List S31) (hx : xs.length ≤ 1000) : ∀ (d i k : Nat), i + d = xs.length → d < k → api_QRecord_11.l0 k xs xs (xs.length : Int) (i : Int) = some true := by
  intro d
  induction d with
  | zero =>
    intro i k hi hk
    obtain ⟨k, rfl⟩ : ∃ m, k = m + 1 := ⟨k - 1, by omega⟩
    simp only [api_QRecord_11.l0]
    rw [if_neg (by omega)]
  | succ d ih =>
    intro i k hi hk
    obtain ⟨k, rfl⟩ : ∃ m, k = m + 1 := ⟨k - 1, by omega⟩
    simp only [api_QRecord_11.l0]
    rw [if_pos (by omega), if_pos (by omega), if_pos (by omega), if_pos (by omega), if_neg (by simp), w64_id (by omega) (by omega), show ((i : Int) + 1) = ((i + 1 : Nat) : Int) from by omega]
    exact ih (i + 1) k (by omega) (by omega)
theorem equal_is (xs : List S31) (hx : xs.length ≤ 1000) (k : Nat) (hk : 1000 < k) : api_QRecord_11.f k xs xs = some true := by
  unfold api_QRecord_11.f
  rw [if_pos rfl]
  exact equal_loop xs hx xs.length 0 k (by omega) (by omega)

theorem nothing_left : ∃ x0 x1 x2, ∀ k, 4000 ≤ k → journal_next.f k (⟨#[]⟩ : ByteArray) = some (x0, x1, x2, 0, 0) := ⟨_, _, _, fun k _ => next_short k _ (by decide)⟩


theorem state_is (l : List S31) (hl : l.length ≤ 100000) (hk : ∀ r ∈ l, r.f0.size ≤ 9223372036854775807) : journal_State.f l = some (stateL l) := by
  unfold journal_State.f
  rw [if_pos ⟨by omega, List.all_eq_true.2 fun r hr => decide_eq_true (hk r hr)⟩]

/-! ### CompactState -/
theorem flat_sizes (l : List S31) : (flat l).size = (l.map fun r => 6 + (2 + r.f0.size + r.f1.size)).sum := by
  induction l with
  | nil => rfl
  | cons r l ih => simp only [flat, ByteArray.size_append, frm_size, pay_size, ih, List.map_cons, List.sum_cons]
/-- members of l, each at most once: their sizes together are no more than l's -/
theorem sum_sub (f : S31 → Nat) : ∀ (a l : List S31), a.Nodup → (∀ x ∈ a, x ∈ l) → (a.map f).sum ≤ (l.map f).sum
  | [], l, _, _ => by simp
  | x :: a, l, hn, hs => by
    rw [List.nodup_cons] at hn
    obtain ⟨l1, l2, rfl⟩ := List.append_of_mem (hs x List.mem_cons_self)
    have h1 := sum_sub f a (l1 ++ l2) hn.2 (fun y hy => by
      have := hs y (List.mem_cons_of_mem _ hy)
      simp only [List.mem_append, List.mem_cons] at this ⊢
      rcases this with h | h | h
      · exact .inl h
      · exact absurd (by rw [← h]; exact hy) hn.1
      · exact .inr h)
    simp only [List.map_append, List.map_cons, List.sum_append, List.sum_cons] at h1 ⊢
    omega
theorem state_nodup (l : List S31) : (stateL l).Nodup := by
  have := state_keys l
  exact (List.pairwise_map.1 this).imp (fun h e => h (by rw [e]))
theorem state_small (l : List S31) : (flat (stateL l)).size ≤ (flat l).size := by
  rw [flat_sizes, flat_sizes]
  exact sum_sub _ _ _ (state_nodup l) (state_sub l)
theorem state_few (l : List S31) : (stateL l).length ≤ l.length := by
  have := sum_sub (fun _ => 1) _ _ (state_nodup l) (state_sub l)
  have e : ∀ a : List S31, (a.map fun _ => 1).sum = a.length := fun a => by induction a with
    | nil => rfl
    | cons x a ih => rw [List.map_cons, List.sum_cons, ih, List.length_cons]; omega
  rw [e, e] at this
  exact this
theorem frames_loop (xs : List S31) (hx : xs.length ≤ 1000) (hv : ∀ r ∈ xs, vcode r = 0) (hs : (flat xs).size ≤ 100000) : ∀ (d i k : Nat), i + d = xs.length → 5000 + d < k →
    journal_Compact.l0 k (flat (xs.take i)) xs (xs.length : Int) (i : Int) = some (flat xs, 0) := by
  intro d
  induction d with
  | zero =>
    intro i k hi hk
    obtain ⟨k, rfl⟩ : ∃ m, k = m + 1 := ⟨k - 1, by omega⟩
    simp only [journal_Compact.l0]
    rw [if_neg (by omega), List.take_of_length_le (by omega)]
  | succ d ih =>
    intro i k hi hk
    obtain ⟨k, rfl⟩ : ∃ m, k = m + 1 := ⟨k - 1, by omega⟩
    have hi' : i < xs.length := by omega
    have hvi := hv xs[i] (List.getElem_mem hi')
    obtain ⟨_, _, h60, h3000⟩ := vcode_ok hvi
    have hps := pay_size xs[i]
    have e1 : xs.take (i + 1) = xs.take i ++ [xs[i]] := by rw [List.take_add_one, List.getElem?_eq_getElem hi']; rfl
    have e2 : flat (xs.take (i + 1)) = flat (xs.take i) ++ frm (pay xs[i]) := by rw [e1, flat_snoc]
    have e3 : (flat (xs.take (i + 1))).size ≤ (flat xs).size := by
      have := flat_append (xs.take (i + 1)) (xs.drop (i + 1))
      rw [List.take_append_drop] at this
      rw [this, ByteArray.size_append]
      omega
    simp only [journal_Compact.l0]
    rw [if_pos (by omega), if_pos (by omega), if_pos (by omega), rd_get xs i hi', payload_is xs[i] h60 h3000, Option.bind_some, frame_is _ (by omega) k (by omega), Option.bind_some, if_pos (by rw [← ByteArray.size_append, ← e2]; omega), ← e2, w64_id (by omega) (by omega), show ((i : Int) + 1) = ((i + 1 : Nat) : Int) from by omega]
    exact ih (i + 1) k (by omega) (by omega)
theorem keys_small {vs : List S31} (hv : ∀ r ∈ vs, vcode r = 0) : ∀ r ∈ vs, r.f0.size ≤ 9223372036854775807 := fun r hr => by
  obtain ⟨_, _, h60, _⟩ := vcode_ok (hv r hr)
  omega
theorem compact_is (vs : List S31) (hv : ∀ r ∈ vs, vcode r = 0) (hs : (flat vs).size ≤ 40000) (hf : vs.length ≤ 12) (k : Nat) (hk : 6000 ≤ k) : journal_Compact.f k (flat vs) = some (flat (stateL vs), 0) := by
  have hr := read_is nothing_left vs hv (by rw [append_empty]; exact hs) (by omega) k (by omega)
  rw [append_empty, if_pos rfl] at hr
  have h1 := state_small vs
  have h2 := state_few vs
  unfold journal_Compact.f
  rw [hr, Option.bind_some]
  simp only
  rw [if_pos trivial, state_is vs (by omega) (keys_small hv), Option.bind_some]
  exact frames_loop (stateL vs) (by omega) (fun r h => hv r (state_sub vs r h)) (by omega) (stateL vs).length 0 k (by omega) (by omega)
theorem CompactState (l0 : List S31) (hl : l0.length ≤ 9223372036854775807) : ∃ k, glossatorkeep3_JournalCompactState.f k l0 = some true := by
  refine ⟨7000, ?_⟩
  obtain ⟨lg, vs, hw, hg⟩ := written_is l0 hl 7000 (by omega)
  have hsz := hg.small
  have hfew := hg.few
  rw [hg.eq] at hsz
  have h1 := state_small vs
  have h2 := state_few vs
  have hv2 : ∀ r ∈ stateL vs, vcode r = 0 := fun r h => hg.ok r (state_sub vs r h)
  have c1 := compact_is vs hg.ok hsz hfew 7000 (by omega)
  have c2 := compact_is (stateL vs) hv2 (by omega) (by omega) 7000 (by omega)
  rw [state_twice] at c2
  have hr := read_is nothing_left (stateL vs) hv2 (by rw [append_empty]; omega) (by omega) 7000 (by omega)
  rw [append_empty, if_pos rfl] at hr
  unfold glossatorkeep3_JournalCompactState.f
  rw [example_is 7000 (by omega), Option.bind_some, if_pos rfl, hw, Option.bind_some]
  simp only
  rw [hg.eq, c1, Option.bind_some]
  simp only
  rw [hr, Option.bind_some, c2, Option.bind_some, Option.bind_some, if_pos rfl]
  simp only
  rw [if_pos trivial, if_pos trivial, if_pos trivial, if_pos (by omega), if_pos trivial, state_is vs (by omega) (keys_small hg.ok), Option.bind_some, equal_is (stateL vs) (by omega) 7000 (by omega), Option.bind_some, if_pos rfl, state_is (stateL vs) (by omega) (keys_small hv2), Option.bind_some, state_twice, equal_is (stateL vs) (by omega) 7000 (by omega)]
  rfl

/-! ### StateAppend -/
theorem same_iff (a b : S31) : (a.f0.toList == b.f0.toList && (a.f1.toList == b.f1.toList && (a.f2 == b.f2))) = true ↔ a = b := by
  simp only [Bool.and_eq_true, beq_iff_eq, toList_L]
  constructor
  · rintro ⟨h1, h2, h3⟩
    cases a; cases b
    simp only at h1 h2 h3
    rw [L_inj h1, L_inj h2, h3]
  · rintro rfl
    exact ⟨rfl, rfl, rfl⟩
theorem key_iff (a b : ByteArray) : a.toList = b.toList ↔ a = b := by
  rw [toList_L, toList_L]
  exact ⟨L_inj, fun h => by rw [h]⟩
theorem index_loop (xs : List S31) (hx : xs.length ≤ 1000) (r : S31) : ∀ (d i k : Nat), i + d = xs.length → d < k → r ∈ xs.drop i → ∃ j : Int, 0 ≤ j ∧ api_QRecord_27.l0 k xs (xs.length : Int) (i : Int) r.f0 r.f1 r.f2 = some j := by
  intro d
  induction d with
  | zero =>
    intro i k hi hk hm
    rw [List.drop_eq_nil_of_le (by omega)] at hm
    cases hm
  | succ d ih =>
    intro i k hi hk hm
    obtain ⟨k, rfl⟩ : ∃ m, k = m + 1 := ⟨k - 1, by omega⟩
    have hi' : i < xs.length := by omega
    simp only [api_QRecord_27.l0]
    rw [if_pos (by omega), if_pos (by omega), if_pos (by omega), rd_get xs i hi']
    by_cases h : r = xs[i]
    · rw [if_pos ((same_iff r xs[i]).2 h)]
      exact ⟨i, by omega, rfl⟩
    · rw [if_neg (fun h' => h ((same_iff r xs[i]).1 h')), w64_id (by omega) (by omega), show ((i : Int) + 1) = ((i + 1 : Nat) : Int) from by omega]
      refine ih (i + 1) k (by omega) (by omega) ?_
      rw [List.drop_eq_getElem_cons hi'] at hm
      rcases List.mem_cons.1 hm with hm | hm
      · exact absurd hm h
      · exact hm
theorem contains_is (xs : List S31) (hx : xs.length ≤ 1000) (r : S31) (h : r ∈ xs) (k : Nat) (hk : 1000 < k) : api_QRecord_17.f k xs r.f0 r.f1 r.f2 = some true := by
  obtain ⟨j, h0, hj⟩ := index_loop xs hx r xs.length 0 k (by omega) (by omega) h
  unfold api_QRecord_17.f api_QRecord_27.f
  rw [show ((0 : Int)) = ((0 : Nat) : Int) from rfl, hj, Option.bind_some]
  simp [h0]

theorem loop0 (xs ys : List S31) (hx : xs.length ≤ 1000) (hy : ys.length ≤ 1000) (r : S31) (hsub : ∀ x ∈ xs, x.f0 ≠ r.f0 → x ∈ ys) : ∀ (d i k : Nat), i + d = xs.length → 1000 + d < k →
    ∃ k', k ≤ k' + d + 1 ∧ glossatorkeep3_JournalStateAppend.l0 k xs ys (xs.length : Int) (i : Int) r.f0 r.f1 r.f2 = glossatorkeep3_JournalStateAppend.l1 k' xs ys 0 (ys.length : Int) 0 r.f0 r.f1 r.f2 := by
  intro d
  induction d with
  | zero =>
    intro i k hi hk
    obtain ⟨k, rfl⟩ : ∃ m, k = m + 1 := ⟨k - 1, by omega⟩
    refine ⟨k, by omega, ?_⟩
    simp only [glossatorkeep3_JournalStateAppend.l0]
    rw [if_neg (by omega)]
  | succ d ih =>
    intro i k hi hk
    obtain ⟨k, rfl⟩ : ∃ m, k = m + 1 := ⟨k - 1, by omega⟩
    have hi' : i < xs.length := by omega
    obtain ⟨k', hk', h⟩ := ih (i + 1) k (by omega) (by omega)
    refine ⟨k', by omega, ?_⟩
    simp only [glossatorkeep3_JournalStateAppend.l0]
    rw [if_pos (by omega), if_pos (by omega), if_pos (by omega), rd_get xs i hi', w64_id (by omega) (by omega), show ((i : Int) + 1) = ((i + 1 : Nat) : Int) from by omega, h]
    by_cases he : xs[i].f0 = r.f0
    · rw [if_pos ((key_iff _ _).2 he)]
    · rw [if_neg (fun h' => he ((key_iff _ _).1 h')), contains_is ys hy xs[i] (hsub _ (List.getElem_mem hi') he) k (by omega), Option.bind_some, if_pos rfl]

def cnt (ys : List S31) (r : S31) : Nat := (ys.filter fun y => decide (y.f0 = r.f0)).length
theorem cnt_snoc (ys : List S31) (y r : S31) : cnt (ys ++ [y]) r = cnt ys r + if y.f0 = r.f0 then 1 else 0 := by
  unfold cnt
  rw [List.filter_append, List.length_append]
  by_cases h : y.f0 = r.f0 <;> simp [h]
theorem loop1 (xs ys : List S31) (hx : xs.length ≤ 1000) (hy : ys.length ≤ 1000) (r : S31) (hsub : ∀ y ∈ ys, y.f0 ≠ r.f0 → y ∈ xs) : ∀ (d i k : Nat), i + d = ys.length → 1000 + d < k →
    ∃ k', k ≤ k' + d + 1 ∧ glossatorkeep3_JournalStateAppend.l1 k xs ys (cnt (ys.take i) r : Int) (ys.length : Int) (i : Int) r.f0 r.f1 r.f2 = (if r.f2 = true then ((glossatorkeep3_journalExample.f k').bind fun t155 => (if t155 = true then (some ((cnt ys r : Int) == 0)) else (some false))) else ((glossatorkeep3_journalExample.f k').bind fun t156 => (if t156 = true then (if (cnt ys r : Int) = 1 then ((api_QRecord_17.f k' ys r.f0 r.f1 r.f2).bind fun t157 => (some t157)) else (some false)) else (some false)))) := by
  intro d
  induction d with
  | zero =>
    intro i k hi hk
    obtain ⟨k, rfl⟩ : ∃ m, k = m + 1 := ⟨k - 1, by omega⟩
    refine ⟨k, by omega, ?_⟩
    simp only [glossatorkeep3_JournalStateAppend.l1]
    rw [if_neg (by omega), List.take_of_length_le (by omega)]
  | succ d ih =>
    intro i k hi hk
    obtain ⟨k, rfl⟩ : ∃ m, k = m + 1 := ⟨k - 1, by omega⟩
    have hi' : i < ys.length := by omega
    obtain ⟨k', hk', h⟩ := ih (i + 1) k (by omega) (by omega)
    refine ⟨k', by omega, ?_⟩
    have e1 : ys.take (i + 1) = ys.take i ++ [ys[i]] := by rw [List.take_add_one, List.getElem?_eq_getElem hi']; rfl
    have hc : cnt (ys.take i) r ≤ 1000 := by
      unfold cnt
      have := List.length_filter_le (fun y : S31 => decide (y.f0 = r.f0)) (ys.take i)
      rw [List.length_take] at this
      omega
    rw [e1, cnt_snoc] at h
    simp only [glossatorkeep3_JournalStateAppend.l1]
    rw [if_pos (by omega), if_pos (by omega), if_pos (by omega), rd_get ys i hi', w64_id (n := (i : Int) + 1) (by omega) (by omega), show ((i : Int) + 1) = ((i + 1 : Nat) : Int) from by omega]
    by_cases he : ys[i].f0 = r.f0
    · rw [if_pos ((key_iff _ _).2 he), w64_id (by omega) (by omega)]
      rw [if_pos he] at h
      rw [← h]
      congr 1
    · rw [if_neg (fun h' => he ((key_iff _ _).1 h')), contains_is xs hx ys[i] (hsub _ (List.getElem_mem hi') he) k (by omega), Option.bind_some, if_pos rfl]
      rw [if_neg he, Nat.add_zero] at h
      exact h
theorem clone_is (l : List S31) (hl : l.length ≤ 100000) : api_QRecord_16.f l = some l := by
  unfold api_QRecord_16.f
  rw [if_pos (by omega)]
theorem cnt_one {ys : List S31} (hn : (ys.map keyR).Nodup) {r : S31} (h : r ∈ ys) : cnt ys r = 1 := by
  induction ys with
  | nil => cases h
  | cons y ys ih =>
    rw [List.map_cons, List.nodup_cons] at hn
    have hnone : ∀ z : S31, z ∈ ys → z.f0 ≠ y.f0 := fun z hz e => hn.1 (by rw [show keyR y = keyR z from e.symm]; exact List.mem_map_of_mem hz)
    rcases List.mem_cons.1 h with rfl | h
    · unfold cnt
      have : ys.filter (fun y => decide (y.f0 = r.f0)) = [] := List.filter_eq_nil_iff.2 fun z hz => by simpa using hnone z hz
      simp [this]
    · have hne : ¬ y.f0 = r.f0 := fun e => hnone r h e.symm
      unfold cnt
      rw [List.filter_cons_of_neg (by simpa using hne)]
      exact ih hn.2 h
theorem StateAppend (l0 : List S31) (r : S31) (hl : l0.length ≤ 9223372036854775807) (hk : ∀ x ∈ l0, x.f0.size ≤ 9223372036854775807) (hr : r.f0.size ≤ 9223372036854775807) : ∃ k, glossatorkeep3_JournalStateAppend.f k l0 r.f0 r.f1 r.f2 = some true := by
  refine ⟨9000, ?_⟩
  have hm : 0 ≤ mn (l0.length : Int) 30 ∧ mn (l0.length : Int) 30 ≤ l0.length ∧ mn (l0.length : Int) 30 ≤ 30 := by unfold mn; split <;> omega
  have h30 : (l0.take (mn (l0.length : Int) 30).toNat).length ≤ 30 := by rw [List.length_take]; omega
  have hks : ∀ x ∈ l0.take (mn (l0.length : Int) 30).toNat, x.f0.size ≤ 9223372036854775807 := fun x hx => hk x (List.mem_of_mem_take hx)
  unfold glossatorkeep3_JournalStateAppend.f
  rw [example_is 9000 (by omega), Option.bind_some, if_pos rfl, if_pos hm.1, if_pos hm.2.1, Option.bind_some]
  generalize l0.take (mn (l0.length : Int) 30).toNat = l at h30 hks
  have hs := state_few l
  have hs' := state_few (l ++ [r])
  rw [List.length_append, List.length_singleton] at hs'
  rw [state_is l (by omega) hks, Option.bind_some, clone_is l (by omega), Option.bind_some, Option.bind_some, if_pos (by simp only [List.length_cons, List.length_nil]; omega)]
  rw [show l ++ [(⟨r.f0, r.f1, r.f2⟩ : S31)] = l ++ [r] from rfl, state_is (l ++ [r]) (by rw [List.length_append, List.length_singleton]; omega) (fun x hx => by
    rcases List.mem_append.1 hx with hx | hx
    · exact hks x hx
    · rw [List.mem_singleton] at hx; rw [hx]; exact hr), Option.bind_some]
  have hget : ∀ x : ByteArray, Mp.aget (lastOf (l ++ [r])) x = if r.f0 = x then some r else Mp.aget (lastOf l) x := fun x => by rw [lastOf_snoc, Mp.aget_aset]
  have m1 : ∀ x ∈ stateL l, x.f0 ≠ r.f0 → x ∈ stateL (l ++ [r]) := fun x hx hne => by
    rw [state_mem] at hx ⊢
    rw [hget, if_neg (fun e => hne e.symm)]
    exact hx
  have m2 : ∀ x ∈ stateL (l ++ [r]), x.f0 ≠ r.f0 → x ∈ stateL l := fun x hx hne => by
    rw [state_mem] at hx ⊢
    rw [hget, if_neg (fun e => hne e.symm)] at hx
    exact hx
  obtain ⟨k1, hk1, e1⟩ := loop0 (stateL l) (stateL (l ++ [r])) (by omega) (by omega) r m1 (stateL l).length 0 9000 (by omega) (by omega)
  obtain ⟨k2, hk2, e2⟩ := loop1 (stateL l) (stateL (l ++ [r])) (by omega) (by omega) r m2 (stateL (l ++ [r])).length 0 k1 (by omega) (by omega)
  rw [show ((0 : Int)) = ((0 : Nat) : Int) from rfl] at *
  rw [e1]
  refine e2.trans ?_
  by_cases hd : r.f2 = true
  · rw [if_pos hd, example_is k2 (by omega), Option.bind_some, if_pos rfl]
    have : cnt (stateL (l ++ [r])) r = 0 := by
      unfold cnt
      rw [List.length_eq_zero_iff, List.filter_eq_nil_iff]
      intro y hy
      simp only [decide_eq_true_eq]
      intro e
      have h := (state_mem _ y).1 hy
      rw [hget, if_pos e.symm] at h
      have : r = y := Option.some.inj h.1
      rw [← this, hd] at h
      exact absurd h.2 (by simp)
    rw [this]
    rfl
  · have hmem : r ∈ stateL (l ++ [r]) := (state_mem _ r).2 ⟨by rw [hget, if_pos rfl], by simpa using hd⟩
    rw [if_neg hd, example_is k2 (by omega), Option.bind_some, if_pos rfl, cnt_one (state_keys _) hmem, if_pos (by decide), contains_is _ (by omega) r hmem k2 (by omega)]
    rfl
end Go.Proofs.Ytflemfibjjognaa.Js
