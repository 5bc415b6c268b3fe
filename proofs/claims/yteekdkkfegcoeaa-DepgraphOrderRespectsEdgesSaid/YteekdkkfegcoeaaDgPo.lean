/- Topological orders in plain words: what TopologicalOrder and Levels answer. No condition. -/
import Derived.Test.YteekdkkfegcoeaaDghLv
import Derived.Test.YteekdkkfegcoeaaDgPq
namespace Go.Proofs.Yteekdkkfegcoeaa.Dg
open Go.RowKit Go.Sort Go.Lib Go.Proofs.YteekdkkfegcoeaaW.PrintWords Go.Proofs.YteekdkkfegcoeaaW.PrintLast Go.Proofs.YteekdkkfegcoeaaW.PrintMore
open Go.Proofs.Yteekdkkfegcoeaa
set_option linter.unusedVariables false
set_option linter.unusedSimpArgs false
/-- every key behind what it leads to -/
def Ordd (nx : S24 → List S24) (L : List S24) : Prop := ∀ (j : Nat) (h : j < L.length), ∀ x ∈ nx L[j], ∃ (i : Nat) (hi : i < j), L[i]'(Nat.lt_trans hi h) = x
structure Pre (nx : S24 → List S24) (ks L : List S24) : Prop where
  ord : Ordd nx L
  nd : L.Nodup
  sub : ∀ x ∈ L, x ∈ ks
def Stuck (nx : S24 → List S24) (ks : List S24) : Prop := ∃ P : List S24, (∃ k ∈ ks, k ∉ P) ∧ ∀ k ∈ ks, k ∉ P → ∃ x ∈ nx k, x ∉ P
theorem Pre.nil (nx : S24 → List S24) (ks : List S24) : Pre nx ks [] := ⟨fun j h => absurd h (by simp), List.nodup_nil, by simp⟩
theorem Pre.app {nx : S24 → List S24} {ks P lv : List S24} (h : Pre nx ks P) (hn : lv.Nodup) (hk : ∀ k ∈ lv, k ∈ ks ∧ k ∉ P ∧ ∀ x ∈ nx k, x ∈ P) : Pre nx ks (P ++ lv) := by
  refine ⟨fun j hj x hx => ?_, ?_, fun x hx => ?_⟩
  · rw [List.length_append] at hj
    by_cases hjp : j < P.length
    · rw [List.getElem_append_left hjp] at hx
      obtain ⟨i, hi, e⟩ := h.ord j hjp x hx
      exact ⟨i, hi, by rw [List.getElem_append_left (by omega)]; exact e⟩
    · rw [List.getElem_append_right (by omega)] at hx
      have hm := (hk _ (List.getElem_mem (show j - P.length < lv.length by omega))).2.2 x hx
      obtain ⟨i, hi, e⟩ := List.getElem_of_mem hm
      exact ⟨i, by omega, by rw [List.getElem_append_left hi]; exact e⟩
  · rw [List.nodup_append]
    exact ⟨h.nd, hn, fun a ha b hb e => (hk b hb).2.1 (e ▸ ha)⟩
  · rcases List.mem_append.1 hx with hx | hx
    · exact h.sub x hx
    · exact (hk x hx).1
theorem rdy_iff (xs ord : List S24) (k : S24) : rdyF xs ord k = true ↔ k ∉ ord ∧ ∀ x ∈ xs, x ∈ ord := by
  unfold rdyF
  simp only [Bool.and_eq_true, decide_eq_true_eq, Bool.not_eq_true', List.any_eq_false]
  constructor
  · rintro ⟨h1, h2⟩
    exact ⟨h1, fun x hx => Decidable.byContradiction (fun h9 => by have := h2 x hx; simp [h9] at this)⟩
  · rintro ⟨h1, h2⟩
    exact ⟨h1, fun x hx => by simp [h2 x hx]⟩
theorem full_le {xs ys : List S24} (hn : xs.Nodup) (hs : ∀ x ∈ xs, x ∈ ys) (hl : ys.length ≤ xs.length) (y : S24) (hy : y ∈ ys) : y ∈ xs := by
  refine Decidable.byContradiction (fun h => ?_)
  have := nodup_le (xs := y :: xs) (ys := ys) (List.nodup_cons.2 ⟨h, hn⟩) (fun x hx => by
    rcases List.mem_cons.1 hx with rfl | hx
    · exact hy
    · exact hs x hx)
  simp only [List.length_cons] at this
  omega
theorem short_out {P ks : List S24} (hn : ks.Nodup) (hl : P.length < ks.length) : ∃ k ∈ ks, k ∉ P := by
  refine Decidable.byContradiction (fun h => ?_)
  have := nodup_le (xs := ks) (ys := P) hn (fun x hx => Decidable.byContradiction (fun h9 => h ⟨x, hx, h9⟩))
  omega
theorem stuck_of {nx : S24 → List S24} {ks P : List S24} (hn : ks.Nodup) (hl : P.length < ks.length) (h : ∀ k ∈ ks, rdyF (nx k) P k = false) : Stuck nx ks := by
  refine ⟨P, short_out hn hl, fun k hk hkp => Decidable.byContradiction (fun h9 => ?_)⟩
  have h1 : rdyF (nx k) P k = true := (rdy_iff _ _ _).2 ⟨hkp, fun x hx => Decidable.byContradiction (fun h8 => h9 ⟨x, hx, h8⟩)⟩
  rw [h k hk] at h1
  cases h1
theorem tgo_topo {nx : S24 → List S24} {ks : List S24} (hn : ks.Nodup) : ∀ (n : Nat) (P : List S24), Pre nx ks P → P.length + n = ks.length → (tgo nx ks n P = ([], 8) ∧ Stuck nx ks) ∨ ∃ L, tgo nx ks n P = (L, 0) ∧ Pre nx ks L ∧ L.length = ks.length := by
  intro n
  induction n with
  | zero =>
    intro P hp hl
    exact .inr ⟨P, rfl, hp, by omega⟩
  | succ n ih =>
    intro P hp hl
    unfold tgo
    split
    · rename_i hf
      refine .inl ⟨rfl, stuck_of (P := P) hn (by omega) (fun k hk => ?_)⟩
      have := List.find?_eq_none.1 hf k hk
      simpa using this
    · rename_i k hf
      have hkm := List.mem_of_find?_eq_some hf
      have hrd := (rdy_iff (nx k) P k).1 (List.find?_some (p := fun k => rdyF (nx k) P k) hf)
      exact ih (P ++ [k]) (hp.app (by simp) (fun z hz => by rw [List.mem_singleton] at hz; subst hz; exact ⟨hkm, hrd.1, hrd.2⟩)) (by rw [List.length_append, List.length_singleton]; omega)
theorem lgo_topo {nx : S24 → List S24} {ks : List S24} (hn : ks.Nodup) : ∀ (n : Nat) (P : List S24) (ls : List (List S24)), Pre nx ks P → ls.flatten = P → ks.length - P.length ≤ n → (lgo nx ks n P ls = ([], 8) ∧ Stuck nx ks) ∨ ∃ ls', lgo nx ks n P ls = (ls', 0) ∧ Pre nx ks ls'.flatten ∧ ls'.flatten.length = ks.length := by
  intro n
  induction n with
  | zero =>
    intro P ls hp hf hl
    have := nodup_le hp.nd hp.sub
    exact .inr ⟨ls, rfl, hf ▸ hp, by rw [hf]; omega⟩
  | succ n ih =>
    intro P ls hp hf hl
    unfold lgo
    by_cases hlt : P.length < ks.length
    · rw [if_pos hlt]
      by_cases hlv : ks.filter (fun k => rdyF (nx k) P k) = []
      · rw [if_pos hlv]
        refine .inl ⟨rfl, stuck_of hn hlt (fun k hk => ?_)⟩
        have := List.filter_eq_nil_iff.1 hlv k hk
        simpa using this
      · rw [if_neg hlv]
        have hpos : 0 < (ks.filter (fun k => rdyF (nx k) P k)).length := List.length_pos_iff.2 hlv
        refine ih _ _ (hp.app (hn.filter _) (fun k hk => ?_)) (by rw [List.flatten_append, hf]; simp) (by rw [List.length_append]; omega)
        rw [List.mem_filter] at hk
        have h2 := (rdy_iff _ _ _).1 hk.2
        exact ⟨hk.1, h2.1, h2.2⟩
    · rw [if_neg hlt]
      have := nodup_le hp.nd hp.sub
      exact .inr ⟨ls, rfl, hf ▸ hp, by rw [hf]; omega⟩
theorem pre_acyc {nx : S24 → List S24} {ks L : List S24} (h : Pre nx ks L) (hl : L.length = ks.length) (hk : ∀ a x, x ∈ nx a → a ∈ ks) (a : S24) : ¬ Reach nx a a := by
  have key : ∀ b, Reach nx a b → ∀ (j : Nat) (hj : j < L.length), L[j] = a → ∃ (i : Nat) (hi : i < j), L[i]'(Nat.lt_trans hi hj) = b := by
    intro b hb
    induction hb with
    | one h1 =>
      intro j hj e
      subst e
      exact h.ord j hj _ h1
    | more _ h1 ih =>
      intro j hj e
      obtain ⟨i, hi, e2⟩ := ih j hj e
      subst e2
      obtain ⟨i2, hi2, e3⟩ := h.ord i (Nat.lt_trans hi hj) _ h1
      exact ⟨i2, Nat.lt_trans hi2 hi, e3⟩
  intro hr
  have ha : a ∈ ks := by
    rcases (show (∃ x, x ∈ nx a) from by
      have : ∀ b, Reach nx a b → ∃ x, x ∈ nx a := by
        intro b hb
        induction hb with
        | one h1 => exact ⟨_, h1⟩
        | more _ _ ih => exact ih
      exact this a hr) with ⟨x, hx⟩
    exact hk a x hx
  obtain ⟨j, hj, e⟩ := List.getElem_of_mem (full_le h.nd h.sub (by omega) a ha)
  obtain ⟨i, hi, e2⟩ := key a hr j hj e
  have h3 := List.pairwise_iff_getElem.1 h.nd i j (Nat.lt_trans hi hj) hj hi
  exact h3 (e2.trans e.symm)
theorem stuck_cycle {nx : S24 → List S24} {ks : List S24} (hk : ∀ a, ∀ x ∈ nx a, x ∈ ks) (h : Stuck nx ks) : ∃ a, Reach nx a a := by
  obtain ⟨P, ⟨k0, hk0, hp0⟩, hs⟩ := h
  refine Classical.byContradiction (fun hno => ?_)
  have chain : ∀ n : Nat, ∃ (c : List S24) (hd : S24), c.length = n + 1 ∧ c.Nodup ∧ (∀ x ∈ c, x ∈ ks ∧ x ∉ P) ∧ hd ∈ c ∧ ∀ x ∈ c, x = hd ∨ Reach nx x hd := by
    intro n
    induction n with
    | zero => exact ⟨[k0], k0, rfl, by simp, by simp [hk0, hp0], by simp, by simp⟩
    | succ n ih =>
      obtain ⟨c, hd, hl, hn, hc, hm, hr⟩ := ih
      obtain ⟨y, hy, hyp⟩ := hs hd (hc hd hm).1 (hc hd hm).2
      have hyc : y ∉ c := fun hyc => by
        rcases hr y hyc with h1 | h1
        · exact hno ⟨y, .one (by rw [← h1] at hy; exact hy)⟩
        · exact hno ⟨y, .more h1 hy⟩
      refine ⟨y :: c, y, by rw [List.length_cons, hl], List.nodup_cons.2 ⟨hyc, hn⟩, fun x hx => ?_, List.mem_cons_self .., fun x hx => ?_⟩
      · rcases List.mem_cons.1 hx with rfl | hx
        · exact ⟨hk hd _ hy, hyp⟩
        · exact hc x hx
      · rcases List.mem_cons.1 hx with rfl | hx
        · exact .inl rfl
        · rcases hr x hx with rfl | h1
          · exact .inr (.one hy)
          · exact .inr (.more h1 hy)
  obtain ⟨c, hd, hl, hn, hc, _⟩ := chain ks.length
  have := nodup_le hn (fun x hx => (hc x hx).1)
  omega
/-! ### for a list of edges -/
theorem keys_nd (es : List S37) : (gof false es).2.Nodup := by
  have h := gof_good false es es.length (Nat.le_refl _)
  rw [List.take_length] at h
  exact List.Pairwise.imp (R := ltK) (S := fun a b => a ≠ b) (fun {a b} h1 e => by subst e; exact ltK_irr a h1) h.keys
noncomputable def cyc (es : List S37) : Bool := es.any (fun e => decide (e.f0 ∈ deps false es e.f0))
theorem cyc_iff (es : List S37) : cyc es = true ↔ ∃ a, Reach (nxt false es) a a := by
  unfold cyc
  rw [List.any_eq_true]
  constructor
  · rintro ⟨e, _, h⟩
    exact ⟨e.f0, (deps_mem _ _ _ _).1 (of_decide_eq_true h)⟩
  · rintro ⟨a, h⟩
    have : ∀ b, Reach (nxt false es) a b → ∃ x, x ∈ nxt false es a := by
      intro b hb
      induction hb with
      | one h1 => exact ⟨_, h1⟩
      | more _ _ ih => exact ih
    obtain ⟨x, hx⟩ := this a h
    obtain ⟨e, he, h1, _⟩ := (mem_nxt _ _ _ _).1 hx
    have h1' : e.f0 = a := h1
    exact ⟨e, he, decide_eq_true ((deps_mem _ _ _ _).2 (by rw [h1']; exact h))⟩
/-- an order of a graph's keys -/
structure Topo (es : List S37) (L : List S24) : Prop where
  pre : Pre (nxt false es) (gof false es).2 L
  len : L.length = (gof false es).2.length
theorem nxt_key (es : List S37) (a x : S24) (h : x ∈ nxt false es a) : a ∈ (gof false es).2 := by
  obtain ⟨e, he, h5, _⟩ := (mem_nxt _ _ _ _).1 h
  exact (mem_keys _ _ _).2 ⟨e, he, .inl h5⟩
theorem topo_law (es : List S37) :
    (cyc es = true → tgo (nxt false es) (gof false es).2 (gof false es).2.length [] = ([], 8) ∧ lgo (nxt false es) (gof false es).2 (gof false es).2.length [] [] = ([], 8)) ∧
    (cyc es = false → ∃ L ls, tgo (nxt false es) (gof false es).2 (gof false es).2.length [] = (L, 0) ∧ lgo (nxt false es) (gof false es).2 (gof false es).2.length [] [] = (ls, 0) ∧ Topo es L ∧ Topo es ls.flatten) := by
  have ht := tgo_topo (keys_nd es) (gof false es).2.length [] (Pre.nil (nxt false es) _) (by simp)
  have hl := lgo_topo (keys_nd es) (gof false es).2.length [] [] (Pre.nil (nxt false es) _) rfl (by simp)
  constructor
  · intro hc
    obtain ⟨a, ha⟩ := (cyc_iff es).1 hc
    refine ⟨?_, ?_⟩
    · rcases ht with h | ⟨L, _, h2, h3⟩
      · exact h.1
      · exact absurd ha (pre_acyc h2 h3 (nxt_key es) a)
    · rcases hl with h | ⟨L, _, h2, h3⟩
      · exact h.1
      · exact absurd ha (pre_acyc h2 h3 (nxt_key es) a)
  · intro hc
    have hno : ¬ Stuck (nxt false es) (gof false es).2 := fun h => by
      obtain ⟨a, ha⟩ := stuck_cycle (fun a x hx => nxt_keys false es a x hx) h
      rw [(cyc_iff es).2 ⟨a, ha⟩] at hc
      cases hc
    rcases ht with h | ⟨L, h1, h2, h3⟩
    · exact absurd h.2 hno
    · rcases hl with h | ⟨ls, g1, g2, g3⟩
      · exact absurd h.2 hno
      · exact ⟨L, ls, h1, g1, ⟨h2, h3⟩, ⟨g2, g3⟩⟩
theorem Topo.idx {es : List S37} {L : List S24} (h : Topo es L) (hl : L.length < 1000000) (j : Nat) (hj : j < L.length) (k : Nat) (hk : L.length < k) : api_QKey_12.f k L L[j].f0 L[j].f1 L[j].f2 = some (j : Int) := by
  obtain ⟨r, hr, h1⟩ := index_spec L L[j] hl k hk
  rcases h1 with ⟨_, h2⟩ | ⟨i, hi, h2, h3, _⟩
  · exact absurd (List.getElem_mem hj) h2
  · rw [hr, h2]
    congr 2
    rcases Nat.lt_trichotomy i j with h4 | h4 | h4
    · exact absurd h3 (List.pairwise_iff_getElem.1 h.pre.nd i j hi hj h4)
    · exact h4
    · exact absurd h3.symm (List.pairwise_iff_getElem.1 h.pre.nd j i hj hi h4)
theorem Topo.mem {es : List S37} {L : List S24} (h : Topo es L) (x : S24) : x ∈ L ↔ x ∈ (gof false es).2 := ⟨h.pre.sub x, full_le h.pre.nd h.pre.sub (by rw [h.len]; exact Nat.le_refl _) x⟩
/-- an edge's ends in an order -/
theorem Topo.edge {es : List S37} {L : List S24} (h : Topo es L) (hl : L.length < 1000000) (e : S37) (he : e ∈ es) (k : Nat) (hk : L.length < k) : ∃ i j : Nat, i < j ∧ j < L.length ∧ api_QKey_12.f k L e.f1.f0 e.f1.f1 e.f1.f2 = some (i : Int) ∧ api_QKey_12.f k L e.f0.f0 e.f0.f1 e.f0.f2 = some (j : Int) := by
  have hx : e.f1 ∈ nxt false es e.f0 := (mem_nxt _ _ _ _).2 ⟨e, he, rfl, rfl⟩
  obtain ⟨j, hj, e1⟩ := List.getElem_of_mem ((h.mem e.f0).2 (nxt_key es _ _ hx))
  obtain ⟨i, hi, e2⟩ := h.pre.ord j hj e.f1 (by rw [e1]; exact hx)
  refine ⟨i, j, hi, hj, ?_, ?_⟩
  · rw [← e2]; exact h.idx hl i (Nat.lt_trans hi hj) k hk
  · rw [← e1]; exact h.idx hl j hj k hk
end Go.Proofs.Yteekdkkfegcoeaa.Dg
