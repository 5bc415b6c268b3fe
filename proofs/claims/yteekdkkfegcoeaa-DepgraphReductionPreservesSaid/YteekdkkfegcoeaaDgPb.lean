/- The plain law of DepgraphReductionPreserves: for whatever well-formed edges the printed function answers true. -/
import Derived.Test.YteekdkkfegcoeaaDgx11
import Derived.Test.YteekdkkfegcoeaaDgPq
namespace Go.Proofs.Yteekdkkfegcoeaa.Dg
open Go.RowKit Go.Sort Go.Lib Go.Proofs.YteekdkkfegcoeaaW.PrintWords Go.Proofs.YteekdkkfegcoeaaW.PrintLast Go.Proofs.YteekdkkfegcoeaaW.PrintMore
open Go.Proofs.Yteekdkkfegcoeaa
set_option linter.unusedVariables false
set_option linter.unusedSimpArgs false
/-! ### what TopologicalOrder's loop gives -/
theorem tgo_code (nx : S24 → List S24) (ks : List S24) : ∀ (n : Nat) (ord : List S24), (tgo nx ks n ord).2 = 0 ∨ (tgo nx ks n ord).2 = 8 ∧ (tgo nx ks n ord).1 = []
  | 0, ord => .inl rfl
  | n + 1, ord => by
    unfold tgo
    split
    · exact .inr ⟨rfl, rfl⟩
    · exact tgo_code nx ks n _
/-- a rank under which what a key leads to comes first -/
def Rk (nx : S24 → List S24) (ord : List S24) (r : S24 → Nat) : Prop := ∀ k ∈ ord, r k < ord.length ∧ ∀ x ∈ nx k, x ∈ ord ∧ r x < r k
theorem tgo_ok (nx : S24 → List S24) (ks : List S24) : ∀ (n : Nat) (ord L : List S24), (∃ r, Rk nx ord r) → ord.Nodup → (∀ x ∈ ord, x ∈ ks) → tgo nx ks n ord = (L, 0) → (∃ r, Rk nx L r) ∧ L.Nodup ∧ (∀ x ∈ L, x ∈ ks) ∧ L.length = ord.length + n := by
  intro n
  induction n with
  | zero =>
    intro ord L hr hn hs h
    unfold tgo at h
    injection h with h1 h2
    subst h1
    exact ⟨hr, hn, hs, rfl⟩
  | succ n ih =>
    intro ord L hr hn hs h
    unfold tgo at h
    split at h
    · injection h with h1 h2
      cases h2
    · rename_i k hk
      have hkm := List.mem_of_find?_eq_some hk
      have hrd := List.find?_some hk
      simp only [rdyF, Bool.and_eq_true, decide_eq_true_eq, Bool.not_eq_true', List.any_eq_false] at hrd
      obtain ⟨hko, hkx⟩ := hrd
      obtain ⟨r, hr⟩ := hr
      have hnx : ∀ x ∈ nx k, x ∈ ord := fun x hx => Decidable.byContradiction (fun h9 => by have := hkx x hx; simp [h9] at this)
      obtain ⟨h1, h2, h3, h4⟩ := ih (ord ++ [k]) L ⟨fun z => if z = k then ord.length else r z, fun z hz => by
        rw [List.length_append, List.length_singleton]
        rcases List.mem_append.1 hz with hz | hz
        · have hzk : ¬ z = k := fun e => hko (e ▸ hz)
          obtain ⟨g1, g2⟩ := hr z hz
          simp only [if_neg hzk]
          refine ⟨by omega, fun x hx => ?_⟩
          obtain ⟨g3, g4⟩ := g2 x hx
          have hxk : ¬ x = k := fun e => hko (e ▸ g3)
          simp only [if_neg hxk]
          exact ⟨List.mem_append_left _ g3, g4⟩
        · rw [List.mem_singleton] at hz
          subst hz
          simp only [if_true]
          refine ⟨by omega, fun x hx => ?_⟩
          have g3 := hnx x hx
          have hxk : ¬ x = z := fun e => hko (e ▸ g3)
          simp only [if_neg hxk]
          exact ⟨List.mem_append_left _ g3, (hr x g3).1⟩⟩ (by
        rw [List.nodup_append]
        refine ⟨hn, by simp, fun a ha b hb e => ?_⟩
        rw [List.mem_singleton] at hb
        subst hb; subst e
        exact hko ha) (fun x hx => by
        rcases List.mem_append.1 hx with hx | hx
        · exact hs x hx
        · rw [List.mem_singleton] at hx; subst hx; exact hkm) h
      refine ⟨h1, h2, h3, ?_⟩
      rw [h4, List.length_append, List.length_singleton]; omega
theorem nodup_full {xs ys : List S24} (hn : xs.Nodup) (hs : ∀ x ∈ xs, x ∈ ys) (hl : xs.length = ys.length) (y : S24) (hy : y ∈ ys) : y ∈ xs := by
  refine Decidable.byContradiction (fun h => ?_)
  have := nodup_le (xs := y :: xs) (ys := ys) (List.nodup_cons.2 ⟨h, hn⟩) (fun x hx => by
    rcases List.mem_cons.1 hx with rfl | hx
    · exact hy
    · exact hs x hx)
  simp only [List.length_cons] at this
  omega
theorem srt_nodup {xs : List S24} (h : Srt xs) : xs.Nodup :=
  List.Pairwise.imp (R := ltK) (S := fun a b => a ≠ b) (fun {a b} h1 e => by subst e; exact ltK_irr a h1) h
theorem keys_nodup (es : List S37) : (gof false es).2.Nodup := by
  have h := gof_good false es es.length (Nat.le_refl _)
  rw [List.take_length] at h
  exact srt_nodup h.keys
theorem rank_of (es L : List S37) (o : List S24) (h : tgo (nxt false es) (gof false es).2 (gof false es).2.length [] = (o, 0)) : ∃ r : S24 → Nat, ∀ a b, b ∈ nxt false es a → r b < r a := by
  obtain ⟨⟨r, hr⟩, h2, h3, h4⟩ := tgo_ok _ _ _ [] o ⟨fun _ => 0, by intro k hk; cases hk⟩ List.nodup_nil (by simp) h
  refine ⟨r, fun a b hb => ?_⟩
  have ha : a ∈ (gof false es).2 := by
    obtain ⟨e, he, h5, _⟩ := (mem_nxt _ _ _ _).1 hb
    exact (mem_keys _ _ _).2 ⟨e, he, .inl h5⟩
  have hao := nodup_full h2 h3 (by rw [h4]; simp) a ha
  exact ((hr a hao).2 b hb).2
/-! ### the reduction -/
theorem fold_redu (es : List S37) (e : S37) : ∀ (l res : List S37), e ∈ l.foldl (rstep es) res ↔ e ∈ res ∨ (e ∈ l ∧ imp es e = false)
  | [], res => by simp
  | x :: r, res => by
    rw [List.foldl_cons, fold_redu es e r]
    have h1 : e ∈ rstep es res x ↔ e ∈ res ∨ (e = x ∧ imp es x = false) := by
      unfold rstep
      cases hi : imp es x with
      | true => simp
      | false =>
        simp only [Bool.false_eq_true, if_false]
        split
        · rename_i hm
          constructor
          · exact .inl
          · rintro (h | ⟨rfl, _⟩)
            · exact h
            · exact hm
        · simp
    rw [h1]
    constructor
    · rintro ((h | ⟨rfl, h⟩) | ⟨h, h'⟩)
      · exact .inl h
      · exact .inr ⟨List.mem_cons_self .., h⟩
      · exact .inr ⟨List.mem_cons_of_mem _ h, h'⟩
    · rintro (h | ⟨h, h'⟩)
      · exact .inl (.inl h)
      · rcases List.mem_cons.1 h with rfl | h
        · exact .inl (.inr ⟨rfl, h'⟩)
        · exact .inr ⟨h, h'⟩
theorem mem_redu (es : List S37) (e : S37) : e ∈ redu es ↔ e ∈ es ∧ imp es e = false := by
  unfold redu
  rw [fold_redu]
  simp
theorem fold_nodup (es : List S37) : ∀ (l res : List S37), res.Nodup → (l.foldl (rstep es) res).Nodup
  | [], res, h => h
  | x :: r, res, h => by
    rw [List.foldl_cons]
    refine fold_nodup es r _ ?_
    unfold rstep
    split
    · exact h
    · split
      · exact h
      · rename_i hx
        rw [List.nodup_append]
        refine ⟨h, by simp, fun a ha b hb e => ?_⟩
        rw [List.mem_singleton] at hb
        subst hb; subst e
        exact hx ha
theorem redu_nodup (es : List S37) : (redu es).Nodup := fold_nodup es es [] List.nodup_nil
theorem fold_len (es : List S37) : ∀ (l res : List S37), (l.foldl (rstep es) res).length ≤ res.length + l.length
  | [], res => Nat.le_refl _
  | x :: r, res => by
    rw [List.foldl_cons]
    have h1 := fold_len es r (rstep es res x)
    have h2 := rstep_len es res x
    simp only [List.length_cons]
    omega
theorem redu_len (es : List S37) : (redu es).length ≤ es.length := by
  have := fold_len es es []
  simpa [redu] using this
theorem imp_iff (es : List S37) (e : S37) : imp es e = true ↔ ∃ k, k ∈ nxt false es e.f0 ∧ Reach (nxt false es) k e.f1 := by
  unfold imp
  rw [List.any_eq_true]
  constructor
  · rintro ⟨k, hk, h⟩
    exact ⟨k, hk, (deps_mem _ _ _ _).1 (of_decide_eq_true h)⟩
  · rintro ⟨k, hk, h⟩
    exact ⟨k, hk, decide_eq_true ((deps_mem _ _ _ _).2 h)⟩
theorem reach_mono {nx ny : S24 → List S24} (h : ∀ k, ∀ x ∈ nx k, x ∈ ny k) {a b : S24} (hr : Reach nx a b) : Reach ny a b := by
  induction hr with
  | one h1 => exact .one (h _ _ h1)
  | more _ h1 ih => exact .more ih (h _ _ h1)
theorem nxt_sub {es fs : List S37} (h : ∀ e ∈ es, e ∈ fs) (k x : S24) (hx : x ∈ nxt false es k) : x ∈ nxt false fs k := by
  obtain ⟨e, he, h1⟩ := (mem_nxt _ _ _ _).1 hx
  exact (mem_nxt _ _ _ _).2 ⟨e, h e he, h1⟩
theorem reach_first {nx : S24 → List S24} {a b : S24} (h : Reach nx a b) : b ∈ nx a ∨ ∃ k, k ∈ nx a ∧ Reach nx k b := by
  induction h with
  | one h => exact .inl h
  | more _ h1 ih =>
    rcases ih with ih | ⟨k, hk, hr⟩
    · exact .inr ⟨_, ih, .one h1⟩
    · exact .inr ⟨k, hk, .more hr h1⟩
theorem reach_rank {nx : S24 → List S24} {r : S24 → Nat} (hr : ∀ a b, b ∈ nx a → r b < r a) {a b : S24} (h : Reach nx a b) : r b < r a := by
  induction h with
  | one h => exact hr _ _ h
  | more _ h1 ih => exact Nat.lt_trans (hr _ _ h1) ih
theorem edge_redu (es : List S37) (r : S24 → Nat) (hr : ∀ a b, b ∈ nxt false es a → r b < r a) : ∀ (n : Nat) (u v : S24), v ∈ nxt false es u → r u - r v ≤ n → Reach (nxt false (redu es)) u v := by
  intro n
  induction n with
  | zero =>
    intro u v hv hn
    have := hr u v hv
    omega
  | succ n ih =>
    intro u v hv hn
    obtain ⟨e, he, h1, h2⟩ := (mem_nxt _ _ _ _).1 hv
    cases hi : imp es e with
    | false => exact .one ((mem_nxt _ _ _ _).2 ⟨e, (mem_redu es e).2 ⟨he, hi⟩, h1, h2⟩)
    | true =>
      obtain ⟨k, hk, hkv⟩ := (imp_iff es e).1 hi
      have h1' : e.f0 = u := h1
      have h2' : e.f1 = v := h2
      rw [h1'] at hk
      rw [h2'] at hkv
      have huk := hr u k hk
      have hkv2 := reach_rank hr hkv
      have huv := hr u v hv
      have key : ∀ b, Reach (nxt false es) k b → r v ≤ r b → Reach (nxt false (redu es)) k b := by
        intro b hb
        induction hb with
        | one h =>
          intro hvb
          have := hr _ _ h
          exact ih k _ h (by omega)
        | more hy h ihy =>
          intro hvb
          have h3 := hr _ _ h
          have h4 := reach_rank hr hy
          exact reach_trans (ihy (by omega)) (ih _ _ h (by omega))
      exact reach_trans (ih u k hk (by omega)) (key v hkv (Nat.le_refl _))
theorem reach_redu (es : List S37) (r : S24 → Nat) (hr : ∀ a b, b ∈ nxt false es a → r b < r a) (a b : S24) : Reach (nxt false es) a b ↔ Reach (nxt false (redu es)) a b := by
  constructor
  · intro h
    induction h with
    | one h => exact edge_redu es r hr _ _ _ h (Nat.le_refl _)
    | more _ h ih => exact reach_trans ih (edge_redu es r hr _ _ _ h (Nat.le_refl _))
  · exact reach_mono (fun k x hx => nxt_sub (fun e he => ((mem_redu es e).1 he).1) k x hx)
theorem deps_redu (es : List S37) (r : S24 → Nat) (hr : ∀ a b, b ∈ nxt false es a → r b < r a) (u : S24) : deps false es u = deps false (redu es) u :=
  (deps_srt _ _ _).ext (deps_srt _ _ _) (fun x => by rw [deps_mem, deps_mem]; exact reach_redu es r hr u x)
theorem drop_one (es : List S37) (m : Nat) (hm : m < (redu es).length) : ¬ Reach (nxt false ((redu es).take m ++ (redu es).drop (m + 1))) (redu es)[m].f0 (redu es)[m].f1 := by
  intro h
  have hd := List.getElem_mem hm
  have hsub : ∀ e ∈ (redu es).take m ++ (redu es).drop (m + 1), e ∈ redu es := fun e he => by
    rcases List.mem_append.1 he with h1 | h1
    · exact List.mem_of_mem_take h1
    · exact List.mem_of_mem_drop h1
  have hsub2 : ∀ e ∈ (redu es).take m ++ (redu es).drop (m + 1), e ∈ es := fun e he => ((mem_redu es e).1 (hsub e he)).1
  have hnd := redu_nodup es
  have hsplit : redu es = (redu es).take m ++ (redu es)[m] :: (redu es).drop (m + 1) := by rw [List.getElem_cons_drop, List.take_append_drop]
  rcases reach_first h with h1 | ⟨k, hk, h1⟩
  · obtain ⟨e, he, g1, g2⟩ := (mem_nxt _ _ _ _).1 h1
    have hee : e = (redu es)[m] := S37_ext g1 g2
    rw [hee] at he
    rw [hsplit] at hnd
    rw [List.nodup_append] at hnd
    obtain ⟨n1, n2, n3⟩ := hnd
    rcases List.mem_append.1 he with h2 | h2
    · exact n3 _ h2 _ (List.mem_cons_self ..) rfl
    · exact (List.nodup_cons.1 n2).1 h2
  · have hi := ((mem_redu es _).1 hd).2
    have : imp es (redu es)[m] = true := (imp_iff es _).2 ⟨k, nxt_sub hsub2 _ _ hk, reach_mono (fun k x hx => nxt_sub hsub2 k x hx) h1⟩
    rw [hi] at this
    cases this
theorem mod_spec (a : Int) (n : Nat) (hn : 0 < n) (hl : n < 1000000) : ∃ m : Nat, glossatorref3_Mod.f a (n : Int) = some (m : Int) ∧ m < n := by
  unfold glossatorref3_Mod.f
  rw [if_neg (by omega)]
  have h1 := Int.tmod_lt_of_pos a (show (0 : Int) < (n : Int) by omega)
  have h2 : -(n : Int) < Int.tmod a (n : Int) := by
    have := Int.neg_tmod a (n : Int)
    have h3 := Int.tmod_lt_of_pos (-a) (show (0 : Int) < (n : Int) by omega)
    omega
  by_cases hneg : Int.tmod a (n : Int) < 0
  · rw [if_pos hneg, w64_id (by omega) (by omega)]
    exact ⟨(Int.tmod a (n : Int) + (n : Int)).toNat, by congr 1; omega, by omega⟩
  · rw [if_neg hneg]
    exact ⟨(Int.tmod a (n : Int)).toNat, by congr 1; omega, by omega⟩
theorem red_loop (es : List S37) (a : Int) (hk : Oke es) (he : es.length ≤ 30) (r : S24 → Nat) (hr : ∀ a b, b ∈ nxt false es a → r b < r a) : ∀ (d i k : Nat), es.length - i = d → i ≤ es.length → d + 200 ≤ k →
    glossatorkeep3_DepgraphReductionPreserves.l0 k es a (redu es) es (es.length : Int) (i : Int) = some true := by
  have hrl := redu_len es
  have hwr : ∀ e ∈ redu es, wfK e.f0 ∧ wfK e.f1 := fun e h => hk.2 e ((mem_redu es e).1 h).1
  intro d
  induction d with
  | zero =>
    intro i k hd hi hkk
    obtain ⟨k, rfl⟩ : ∃ k', k = k' + 1 := ⟨k - 1, by omega⟩
    simp only [glossatorkeep3_DepgraphReductionPreserves.l0]
    rw [if_neg (by omega)]
    by_cases h0 : (redu es).length = 0
    · rw [if_pos (by omega), example_true k (by omega), Option.bind_some, if_pos rfl]
      have hes : es.length = 0 := by
        cases es with
        | nil => rfl
        | cons e l =>
          have h1 : e.f1 ∈ nxt false (e :: l) e.f0 := (mem_nxt _ _ _ _).2 ⟨e, List.mem_cons_self .., rfl, rfl⟩
          have h2 := (reach_redu _ r hr _ _).1 (.one h1)
          have h3 : ∀ z ∈ redu (e :: l), False := fun z hz => by rw [List.eq_nil_of_length_eq_zero h0] at hz; cases hz
          rcases reach_first h2 with h4 | ⟨k2, h4, _⟩
          · obtain ⟨z, hz, _⟩ := (mem_nxt _ _ _ _).1 h4; exact (h3 z hz).elim
          · obtain ⟨z, hz, _⟩ := (mem_nxt _ _ _ _).1 h4; exact (h3 z hz).elim
      rw [hes]; rfl
    · rw [if_neg (by omega)]
      obtain ⟨m, hm, hmn⟩ := mod_spec a (redu es).length (by omega) (by omega)
      rw [hm, Option.bind_some, if_pos (by omega), if_pos (by omega)]
      simp only [Int.toNat_natCast]
      have h16 : api_QEdge_16.f ((redu es).take m) = some ((redu es).take m) := by
        unfold api_QEdge_16.f
        exact if_pos (by rw [List.length_take]; omega)
      rw [h16, Option.bind_some, w64_id (by omega) (by omega), if_pos (by omega), if_pos (by omega)]
      rw [show ((m : Int) + 1).toNat = m + 1 by omega, Option.bind_some]
      rw [if_pos (by rw [List.length_take, List.length_drop]; omega), example_true k (by omega), Option.bind_some, if_pos rfl, if_pos (by omega), rd37_at (redu es) m hmn]
      have hsub : ∀ e ∈ (redu es).take m ++ (redu es).drop (m + 1), e ∈ redu es := fun e he => by
        rcases List.mem_append.1 he with h1 | h1
        · exact List.mem_of_mem_take h1
        · exact List.mem_of_mem_drop h1
      have hll : ((redu es).take m ++ (redu es).drop (m + 1)).length ≤ 30 := by rw [List.length_append, List.length_take, List.length_drop]; omega
      rw [deps_f _ _ ⟨by omega, fun e h => hwr e (hsub e h), (hwr _ (List.getElem_mem hmn)).1⟩, Option.bind_some]
      have hdl := deps_len false ((redu es).take m ++ (redu es).drop (m + 1)) (redu es)[m].f0
      rw [contains_spec _ _ (by omega) k (by omega), Option.bind_some]
      have hnot : (redu es)[m].f1 ∉ deps false ((redu es).take m ++ (redu es).drop (m + 1)) (redu es)[m].f0 := fun h => drop_one es m hmn ((deps_mem _ _ _ _).1 h)
      rw [decide_eq_false hnot]
      rfl
  | succ d ih =>
    intro i k hd hi hkk
    obtain ⟨k, rfl⟩ : ∃ k', k = k' + 1 := ⟨k - 1, by omega⟩
    have hil : i < es.length := by omega
    simp only [glossatorkeep3_DepgraphReductionPreserves.l0]
    rw [if_pos (by omega), if_pos (by omega), if_pos (by omega), rd37_at es i hil]
    have hw := (hk.2 _ (List.getElem_mem hil)).1
    rw [deps_f es _ ⟨by omega, hk.2, hw⟩, Option.bind_some, deps_f (redu es) _ ⟨by omega, hwr, hw⟩, Option.bind_some, ← deps_redu es r hr]
    have hdl := deps_len false es es[i].f0
    rw [equal_self _ (by omega) k (by omega), Option.bind_some, if_pos rfl, w64_id (by omega) (by omega)]
    have := ih (i + 1) k (by omega) (by omega) (by omega)
    push_cast at this
    exact this
theorem reduction_true (l0 : List S37) (a : Int) (hw : ∀ e ∈ l0, wfK e.f0 ∧ wfK e.f1) (hl : l0.length ≤ 9223372036854775807) : glossatorkeep3_DepgraphReductionPreserves.f 1000 l0 a = some true := by
  unfold glossatorkeep3_DepgraphReductionPreserves.f
  rw [example_true _ (by omega), Option.bind_some]
  have hm : 0 ≤ mn (l0.length : Int) 30 ∧ mn (l0.length : Int) 30 ≤ (l0.length : Int) ∧ (mn (l0.length : Int) 30).toNat ≤ 30 := by unfold mn; split <;> omega
  rw [if_pos rfl, if_pos hm.1, if_pos hm.2.1, Option.bind_some]
  generalize hes : l0.take (mn (l0.length : Int) 30).toNat = es
  have hel : es.length ≤ 30 := by rw [← hes, List.length_take]; omega
  have hwe : ∀ e ∈ es, wfK e.f0 ∧ wfK e.f1 := fun e he => hw e (List.mem_of_mem_take (hes ▸ he))
  have hok : Oke es := ⟨by omega, hwe⟩
  have hf : depgraph_TransitiveReduction.f es = (if (tgo (nxt false es) (gof false es).2 (gof false es).2.length []).2 = 0 then some (redu es, 0) else some ([], (tgo (nxt false es) (gof false es).2 (gof false es).2.length []).2)) := by
    unfold depgraph_TransitiveReduction.f
    exact if_pos hok
  rw [hf]
  by_cases h0 : (tgo (nxt false es) (gof false es).2 (gof false es).2.length []).2 = 0
  · rw [if_pos h0, Option.bind_some]
    simp only [if_true]
    obtain ⟨r, hr⟩ := rank_of es es (tgo (nxt false es) (gof false es).2 (gof false es).2.length []).1 (by rw [← h0])
    exact red_loop es a hok hel r hr es.length 0 1000 (by omega) (by omega) (by omega)
  · rw [if_neg h0, Option.bind_some]
    have h8 := (tgo_code (nxt false es) (gof false es).2 (gof false es).2.length []).resolve_left h0
    simp only [h8.1]
    rw [if_neg (by decide), Option.bind_some, if_pos rfl]
    rfl
end Go.Proofs.Yteekdkkfegcoeaa.Dg
