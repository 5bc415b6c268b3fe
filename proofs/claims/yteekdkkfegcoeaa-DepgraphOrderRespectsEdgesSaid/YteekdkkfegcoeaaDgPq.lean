/- What the printed searches answer, and the example of the laws over graphs. No condition. -/
import Derived.Test.YteekdkkfegcoeaaDgx6
import Derived.Test.YteekdkkfegcoeaaDgx7
namespace Go.Proofs.Yteekdkkfegcoeaa.Dg
open Go.RowKit Go.Sort Go.Lib Go.Proofs.YteekdkkfegcoeaaW.PrintWords Go.Proofs.YteekdkkfegcoeaaW.PrintLast Go.Proofs.YteekdkkfegcoeaaW.PrintMore
open Go.Proofs.Yteekdkkfegcoeaa
set_option linter.unusedVariables false
set_option linter.unusedSimpArgs false
theorem w64_id {n : Int} (h : -9223372036854775808 ≤ n) (h' : n ≤ 9223372036854775807) : wrap64 n = n := by unfold wrap64; omega
theorem wf_small (a : Int) (h0 : 0 ≤ a) (h1 : a < 1000000) : (Lit.int .i64 a).wf = true := by
  simp [Lit.wf, IntKind.wrap]
  rw [show IntKind.i64.min = -9223372036854775808 from rfl]
  omega
/-- the index that the printed search finds -/
theorem index_from (l : List S24) (key : S24) (hl : l.length < 1000000) : ∀ (d i k : Nat), l.length - i = d → i ≤ l.length → d < k →
    ∃ r, api_QKey_12.l0 k l (l.length : Int) (i : Int) key.f0 key.f1 key.f2 = some r ∧ ((r = -1 ∧ ∀ t (h : t < l.length), i ≤ t → l[t] ≠ key) ∨ ∃ j : Nat, ∃ h : j < l.length, r = (j : Int) ∧ i ≤ j ∧ l[j] = key ∧ ∀ t (h : t < l.length), i ≤ t → t < j → l[t] ≠ key) := by
  intro d
  induction d with
  | zero =>
    intro i k hd hi hk
    obtain ⟨k, rfl⟩ : ∃ k', k = k' + 1 := ⟨k - 1, by omega⟩
    refine ⟨-1, ?_, .inl ⟨rfl, fun t h ht => by omega⟩⟩
    simp only [api_QKey_12.l0]
    rw [if_neg (by omega)]
  | succ d ih =>
    intro i k hd hi hk
    obtain ⟨k, rfl⟩ : ∃ k', k = k' + 1 := ⟨k - 1, by omega⟩
    have hil : i < l.length := by omega
    simp only [api_QKey_12.l0]
    rw [if_pos (by omega), if_pos (by omega), if_pos (by omega), rd_at l i hil]
    by_cases he : l[i] = key
    · rw [if_pos (by rw [he]; simp)]
      exact ⟨(i : Int), rfl, .inr ⟨i, hil, rfl, Nat.le_refl _, he, fun t h h1 h2 => by omega⟩⟩
    · rw [if_neg (by
        intro h
        simp only [Bool.and_eq_true, beq_iff_eq] at h
        exact he (S24_ext h.1.symm h.2.1.symm h.2.2.symm))]
      rw [w64_id (by omega) (by omega)]
      obtain ⟨r, hr, h⟩ := ih (i + 1) k (by omega) (by omega) (by omega)
      refine ⟨r, by push_cast at hr; exact hr, ?_⟩
      rcases h with ⟨h1, h2⟩ | ⟨j, hj, h1, h2, h3, h4⟩
      · refine .inl ⟨h1, fun t h ht => ?_⟩
        rcases Nat.eq_or_lt_of_le ht with h5 | h5
        · subst h5; exact he
        · exact h2 t h h5
      · refine .inr ⟨j, hj, h1, by omega, h3, fun t h h5 h6 => ?_⟩
        rcases Nat.eq_or_lt_of_le h5 with h7 | h7
        · subst h7; exact he
        · exact h4 t h h7 h6
theorem index_spec (l : List S24) (key : S24) (hl : l.length < 1000000) (k : Nat) (hk : l.length < k) :
    ∃ r, api_QKey_12.f k l key.f0 key.f1 key.f2 = some r ∧ ((r = -1 ∧ key ∉ l) ∨ ∃ j : Nat, ∃ h : j < l.length, r = (j : Int) ∧ l[j] = key ∧ ∀ t (h : t < l.length), t < j → l[t] ≠ key) := by
  obtain ⟨r, hr, h⟩ := index_from l key hl l.length 0 k (by omega) (by omega) hk
  refine ⟨r, hr, ?_⟩
  rcases h with ⟨h1, h2⟩ | ⟨j, hj, h1, _, h3, h4⟩
  · refine .inl ⟨h1, fun hm => ?_⟩
    obtain ⟨t, ht, e⟩ := List.getElem_of_mem hm
    exact h2 t ht (Nat.zero_le _) e
  · exact .inr ⟨j, hj, h1, h3, fun t h ht => h4 t h (Nat.zero_le _) ht⟩
theorem contains_spec (l : List S24) (key : S24) (hl : l.length < 1000000) (k : Nat) (hk : l.length < k) : api_QKey_8.f k l key.f0 key.f1 key.f2 = some (decide (key ∈ l)) := by
  obtain ⟨r, hr, h⟩ := index_spec l key hl k hk
  unfold api_QKey_8.f
  rw [hr]
  show some (decide (r ≥ 0)) = _
  congr 1
  rcases h with ⟨h1, h2⟩ | ⟨j, hj, h1, h3, _⟩
  · rw [decide_eq_false (show ¬ (r ≥ 0) by omega), decide_eq_false h2]
  · rw [decide_eq_true (show r ≥ 0 by omega), decide_eq_true (show key ∈ l from h3 ▸ List.getElem_mem hj)]
theorem equal_from (l : List S24) (hl : l.length < 1000000) : ∀ (d i k : Nat), l.length - i = d → i ≤ l.length → d < k → api_QKey_14.l0 k l l (l.length : Int) (i : Int) = some true := by
  intro d
  induction d with
  | zero =>
    intro i k hd hi hk
    obtain ⟨k, rfl⟩ : ∃ k', k = k' + 1 := ⟨k - 1, by omega⟩
    simp only [api_QKey_14.l0]
    rw [if_neg (by omega)]
  | succ d ih =>
    intro i k hd hi hk
    obtain ⟨k, rfl⟩ : ∃ k', k = k' + 1 := ⟨k - 1, by omega⟩
    simp only [api_QKey_14.l0]
    rw [if_pos (by omega), if_pos (by omega), if_pos (by omega), if_pos (by omega), if_neg (by simp), w64_id (by omega) (by omega)]
    have := ih (i + 1) k (by omega) (by omega) (by omega)
    push_cast at this
    exact this
theorem equal_self (l : List S24) (hl : l.length < 1000000) (k : Nat) (hk : l.length < k) : api_QKey_14.f k l l = some true := by
  unfold api_QKey_14.f
  rw [if_pos rfl]
  exact equal_from l hl l.length 0 k (by omega) (by omega) hk
/-! ### the example -/
def ka : S24 := ⟨0, 1, 0⟩
def kb : S24 := ⟨0, 2, 0⟩
def kc : S24 := ⟨0, 3, 0⟩
def exE : List S37 := [⟨kc, kb⟩, ⟨kb, ka⟩]
theorem wf_abc : wfK ka ∧ wfK kb ∧ wfK kc := by
  refine ⟨⟨?_, ?_, ?_⟩, ⟨?_, ?_, ?_⟩, ⟨?_, ?_, ?_⟩⟩ <;> exact wf_small _ (by decide) (by decide)
theorem ok_ex (k : S24) (h : wfK k) : Okd exE k := by
  refine ⟨by decide, fun e he => ?_, h⟩
  simp only [exE, List.mem_cons, List.not_mem_nil, or_false] at he
  rcases he with rfl | rfl
  · exact ⟨wf_abc.2.2, wf_abc.2.1⟩
  · exact ⟨wf_abc.2.1, wf_abc.1⟩
theorem nxt_ex (k x : S24) : x ∈ nxt false exE k ↔ (k = kc ∧ x = kb) ∨ (k = kb ∧ x = ka) := by
  rw [mem_nxt]
  simp only [exE, List.mem_cons, List.not_mem_nil, or_false, efrom, eto, exists_eq_or_imp, exists_eq_left, Bool.false_eq_true, if_false]
  constructor
  · rintro (⟨h1, h2⟩ | ⟨h1, h2⟩)
    · exact .inl ⟨h1.symm, h2.symm⟩
    · exact .inr ⟨h1.symm, h2.symm⟩
  · rintro (⟨h1, h2⟩ | ⟨h1, h2⟩)
    · exact .inl ⟨h1.symm, h2.symm⟩
    · exact .inr ⟨h1.symm, h2.symm⟩
theorem nxt_exr (k x : S24) : x ∈ nxt true exE k ↔ (k = kb ∧ x = kc) ∨ (k = ka ∧ x = kb) := by
  rw [mem_nxt]
  simp only [exE, List.mem_cons, List.not_mem_nil, or_false, efrom, eto, exists_eq_or_imp, exists_eq_left, if_true]
  constructor
  · rintro (⟨h1, h2⟩ | ⟨h1, h2⟩)
    · exact .inl ⟨h1.symm, h2.symm⟩
    · exact .inr ⟨h1.symm, h2.symm⟩
  · rintro (⟨h1, h2⟩ | ⟨h1, h2⟩)
    · exact .inl ⟨h1.symm, h2.symm⟩
    · exact .inr ⟨h1.symm, h2.symm⟩
theorem deps_ex : deps false exE kc = [ka, kb] := by
  refine (deps_srt _ _ _).ext (by simp [Srt, ltK, ka, kb]) (fun x => ?_)
  rw [deps_mem]
  constructor
  · intro h
    have : x = ka ∨ x = kb := by
      induction h with
      | one h => rcases (nxt_ex _ _).1 h with ⟨_, h⟩ | ⟨h, _⟩
                 · exact .inr h
                 · exact absurd h (by decide)
      | more _ h ih =>
        rcases (nxt_ex _ _).1 h with ⟨h1, h2⟩ | ⟨h1, h2⟩
        · exact .inr h2
        · exact .inl h2
    simpa using this
  · intro h
    have hb : Reach (nxt false exE) kc kb := .one ((nxt_ex _ _).2 (.inl ⟨rfl, rfl⟩))
    rcases (by simpa using h : x = ka ∨ x = kb) with rfl | rfl
    · exact .more hb ((nxt_ex _ _).2 (.inr ⟨rfl, rfl⟩))
    · exact hb
theorem deps_exr : deps true exE ka = [kb, kc] := by
  refine (deps_srt _ _ _).ext (by simp [Srt, ltK, kb, kc]) (fun x => ?_)
  rw [deps_mem]
  constructor
  · intro h
    have : x = kb ∨ x = kc := by
      induction h with
      | one h => rcases (nxt_exr _ _).1 h with ⟨h, _⟩ | ⟨_, h⟩
                 · exact absurd h (by decide)
                 · exact .inl h
      | more _ h ih =>
        rcases (nxt_exr _ _).1 h with ⟨h1, h2⟩ | ⟨h1, h2⟩
        · exact .inr h2
        · exact .inl h2
    simpa using this
  · intro h
    have hb : Reach (nxt true exE) ka kb := .one ((nxt_exr _ _).2 (.inr ⟨rfl, rfl⟩))
    rcases (by simpa using h : x = kb ∨ x = kc) with rfl | rfl
    · exact hb
    · exact .more hb ((nxt_exr _ _).2 (.inl ⟨rfl, rfl⟩))
theorem deps_f (es : List S37) (k : S24) (h : Okd es k) : depgraph_Dependencies.f es k.f0 k.f1 k.f2 = some (deps false es k) := by
  unfold depgraph_Dependencies.f
  exact if_pos h
theorem rdeps_f (es : List S37) (k : S24) (h : Okd es k) : depgraph_Dependents.f es k.f0 k.f1 k.f2 = some (deps true es k) := by
  unfold depgraph_Dependents.f
  exact if_pos h
theorem example_true (k : Nat) (hk : 5 ≤ k) : glossatorkeep3_graphExample.f k = some true := by
  unfold glossatorkeep3_graphExample.f
  show (depgraph_Dependencies.f exE kc.f0 kc.f1 kc.f2).bind _ = _
  rw [deps_f exE kc (ok_ex kc wf_abc.2.2), deps_ex]
  show (api_QKey_14.f k [ka, kb] [ka, kb]).bind _ = _
  rw [equal_self _ (by decide) k (by simp; omega)]
  rw [Option.bind_some, if_pos rfl]
  show (depgraph_Dependents.f exE ka.f0 ka.f1 ka.f2).bind _ = _
  rw [rdeps_f exE ka (ok_ex ka wf_abc.1), deps_exr]
  show (api_QKey_14.f k [kb, kc] [kb, kc]).bind _ = _
  rw [equal_self _ (by decide) k (by simp; omega)]
  rfl
/-! ### the law -/
theorem reach_trans {nx : S24 → List S24} {a b c : S24} (h : Reach nx a b) (k : Reach nx b c) : Reach nx a c := by
  induction k with
  | one h1 => exact .more h h1
  | more _ h1 ih => exact .more ih h1
theorem reach_flip (es : List S37) (a b : S24) : Reach (nxt false es) a b ↔ Reach (nxt true es) b a := by
  have key : ∀ rev, ∀ a b, Reach (nxt rev es) a b → Reach (nxt (!rev) es) b a := by
    intro rev a b h
    have step : ∀ k x, x ∈ nxt rev es k → k ∈ nxt (!rev) es x := by
      intro k x hx
      obtain ⟨e, he, h1, h2⟩ := (mem_nxt _ _ _ _).1 hx
      refine (mem_nxt _ _ _ _).2 ⟨e, he, ?_, ?_⟩
      · cases rev <;> simpa [efrom, eto] using h2
      · cases rev <;> simpa [efrom, eto] using h1
    induction h with
    | one h => exact .one (step _ _ h)
    | more _ h ih => exact reach_trans (.one (step _ _ h)) ih
  exact ⟨key false a b, key true b a⟩
theorem deps_len (rev : Bool) (es : List S37) (k : S24) : (deps rev es k).length ≤ 2 * es.length := by
  have h := gof_good rev es es.length (Nat.le_refl _)
  rw [List.take_length] at h
  exact Nat.le_trans (List.length_filter_le _ _) h.klen
theorem deps_wf (rev : Bool) (es : List S37) (k : S24) (h : Okd es k) (x : S24) (hx : x ∈ deps rev es k) : Okd es x :=
  ⟨h.1, h.2.1, gof_wf rev es h.2.1 x (reach_keys rev es k x ((deps_mem _ _ _ _).1 hx))⟩
end Go.Proofs.Yteekdkkfegcoeaa.Dg
