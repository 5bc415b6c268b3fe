/- What influences says: a set of queries that is closed under reading, without the input. No condition. -/
import Derived.Test.YtnhkfelpahjgpaaQuPa
set_option linter.unusedVariables false
set_option linter.unusedSimpArgs false
set_option linter.unusedSectionVars false
namespace Go.Proofs.Ytnhkfelpahjgpaa.Qu
open Go.RowKit Go.Proofs.YtnhkfelpahjgpaaW.PrintWords
theorem goT_more (gt : Int → Int → Option Int) (idx : Int) : ∀ (l : List S43) (st : List Int) (tr : List K3) (st' : List Int) (tr' : List K3), goT gt idx l st tr = some (st', tr') → ∀ t ∈ tr, t ∈ tr'
  | [], st, tr, st', tr', h, t, ht => by
    unfold goT at h
    simp only [Option.some.injEq, Prod.mk.injEq] at h
    rw [← h.2]; exact ht
  | op :: l, st, tr, st', tr', h, t, ht => by
    rw [goT_cons] at h
    obtain ⟨⟨s1, t1⟩, h1, h2⟩ := Option.bind_eq_some_iff.1 h
    refine goT_more gt idx l s1 t1 st' tr' h2 t ?_
    unfold stepT at h1
    split at h1
    · obtain ⟨p, _, h1⟩ := Option.bind_eq_some_iff.1 h1
      obtain ⟨q, _, h1⟩ := Option.bind_eq_some_iff.1 h1
      obtain ⟨v, _, h1⟩ := Option.bind_eq_some_iff.1 h1
      simp only [Option.some.injEq, Prod.mk.injEq] at h1
      rw [← h1.2]; exact List.mem_append_left _ ht
    split at h1
    · obtain ⟨q, _, h1⟩ := Option.bind_eq_some_iff.1 h1
      obtain ⟨v, _, h1⟩ := Option.bind_eq_some_iff.1 h1
      simp only [Option.some.injEq, Prod.mk.injEq] at h1
      rw [← h1.2]; exact List.mem_append_left _ ht
    split at h1
    · obtain ⟨v, _, h1⟩ := Option.bind_eq_some_iff.1 h1
      simp only [Option.some.injEq, Prod.mk.injEq] at h1
      rw [← h1.2]; exact ht
    · obtain ⟨p, _, h1⟩ := Option.bind_eq_some_iff.1 h1
      obtain ⟨q, _, h1⟩ := Option.bind_eq_some_iff.1 h1
      obtain ⟨v, _, h1⟩ := Option.bind_eq_some_iff.1 h1
      simp only [Option.some.injEq, Prod.mk.injEq] at h1
      rw [← h1.2]; exact ht
/-- a run depends on the keys that it asks alone -/
theorem goT_asked {gt gt' : Int → Int → Option Int} (idx : Int) : ∀ (l : List S43) (st : List Int) (tr : List K3) (st' : List Int) (tr' : List K3), goT gt idx l st tr = some (st', tr') → (∀ t ∈ tr', ∀ v, gt t.1 t.2.1 = some v → gt' t.1 t.2.1 = some v) → goT gt' idx l st tr = some (st', tr')
  | [], st, tr, st', tr', h, _ => h
  | op :: l, st, tr, st', tr', h, hg => by
    rw [goT_cons] at h ⊢
    obtain ⟨⟨s1, t1⟩, h1, h2⟩ := Option.bind_eq_some_iff.1 h
    have hin := goT_more gt idx l s1 t1 st' tr' h2
    refine Option.bind_eq_some_iff.2 ⟨(s1, t1), ?_, goT_asked idx l s1 t1 st' tr' h2 hg⟩
    unfold stepT at h1 ⊢
    split at h1
    · rename_i c
      rw [if_pos c]
      obtain ⟨p, e1, h1⟩ := Option.bind_eq_some_iff.1 h1
      obtain ⟨q, e2, h1⟩ := Option.bind_eq_some_iff.1 h1
      obtain ⟨v, e3, h1⟩ := Option.bind_eq_some_iff.1 h1
      have h1' := h1
      simp only [Option.some.injEq, Prod.mk.injEq] at h1'
      exact Option.bind_eq_some_iff.2 ⟨p, e1, Option.bind_eq_some_iff.2 ⟨q, e2, Option.bind_eq_some_iff.2 ⟨v, hg (q.1, q.2.1, q.2.2.1) (hin _ (by rw [← h1'.2]; simp)) v e3, h1⟩⟩⟩
    · rename_i c
      rw [if_neg c]
      split at h1
      · rename_i c2
        rw [if_pos c2]
        obtain ⟨q, e2, h1⟩ := Option.bind_eq_some_iff.1 h1
        obtain ⟨v, e3, h1⟩ := Option.bind_eq_some_iff.1 h1
        have h1' := h1
        simp only [Option.some.injEq, Prod.mk.injEq] at h1'
        exact Option.bind_eq_some_iff.2 ⟨q, e2, Option.bind_eq_some_iff.2 ⟨v, hg (q.1, q.2.1, q.2.2.1) (hin _ (by rw [← h1'.2]; simp)) v e3, h1⟩⟩
      · rename_i c2
        rw [if_neg c2]
        exact h1
theorem sameK_iff (t : K3) (x : S40) : sameK t x = true ↔ x = ⟨t.1, t.2.1, t.2.2⟩ := by
  unfold sameK
  obtain ⟨a, b, c⟩ := t
  obtain ⟨p, q, r⟩ := x
  simp only [Bool.and_eq_true, beq_iff_eq, S40.mk.injEq]
  exact ⟨fun h => ⟨h.1.symm, h.2.1.symm, h.2.2.symm⟩, fun h => ⟨h.1.symm, h.2.1.symm, h.2.2.symm⟩⟩
theorem addK_mem (ks : List S40) (t : K3) (x : S40) : x ∈ addK ks t ↔ x ∈ ks ∨ x = ⟨t.1, t.2.1, t.2.2⟩ := by
  unfold addK
  split
  · rename_i h
    obtain ⟨y, hy, hs⟩ := List.any_eq_true.1 h
    rw [sameK_iff] at hs
    exact ⟨.inl, fun h => h.elim id (fun e => by rw [e, ← hs]; exact hy)⟩
  · rw [List.mem_append, List.mem_singleton]
theorem keysOf_mem (tr : List K3) (x : S40) : x ∈ keysOf tr ↔ (x.f0, x.f1, x.f2) ∈ tr := by
  have : ∀ (l : List K3) (ks : List S40), x ∈ l.foldl addK ks ↔ x ∈ ks ∨ (x.f0, x.f1, x.f2) ∈ l := by
    intro l
    induction l with
    | nil => intro ks; simp
    | cons t l ih =>
      intro ks
      rw [List.foldl_cons, ih, addK_mem, List.mem_cons, or_assoc]
      refine or_congr_right (or_congr_left ⟨fun h => by rw [h], fun h => ?_⟩)
      obtain ⟨a, b, c⟩ := t
      obtain ⟨p, q, r⟩ := x
      simp only [Prod.mk.injEq] at h
      obtain ⟨rfl, rfl, rfl⟩ := h
      rfl
  have h := this tr []
  unfold keysOf
  simpa using h
/-- the keys that a query reads -/
def keysQ (qs : List (List S43)) (ins : List Int) (q : Int) : List S40 := ((goT (G qs ins 50) q (rd_L2 qs q) [] []).getD ([], [])).2 |> keysOf
section
variable {n : Int} {qs : List (List S43)} {ins : List Int} (hv : Valid n qs) (hi : (ins.length : Int) = n)
include hv hi
theorem runs (q : Nat) (hq : q < qs.length) : ∃ x tr, goT (G qs ins q) (q : Int) (rd_L2 qs (q : Int)) [] [] = some ([x], tr) ∧ (∀ t ∈ tr, okK n q t) ∧ tr.length ≤ 20 := by
  have hlen := hv.2.2.1 _ (rdL2_mem qs q hq)
  obtain ⟨x, tr1, e1, e2, e3, e4, e5⟩ := run2 (n := n) (idx := q) (gt := G qs ins q) (gt' := G qs ins q) (fun kind a hk => by
    rcases hk with ⟨rfl, h1, h2⟩ | ⟨rfl, h1, h2⟩
    · rw [G_0, if_pos ⟨h1, by omega⟩, reduce_is]
      exact ⟨_, ⟨Int.emod_nonneg _ (by decide), Int.emod_lt_of_pos _ (by decide)⟩, rfl, rfl⟩
    · obtain ⟨j, rfl⟩ : ∃ j : Nat, a = j := ⟨a.toNat, by omega⟩
      obtain ⟨r, h3, h4, h5⟩ := evalAll n qs qs ins ins hv hi hi (fun a _ _ => rfl) j (by omega) (fun i hi => ⟨by omega, rfl⟩)
      exact ⟨r, h3, G_le _ _ (by omega) h4, G_le _ _ (by omega) h4⟩) (rd_L2 qs (q : Int)) [] [] (hv.2.2.2 q hq) (fun v hv => by cases hv)
  exact ⟨x, tr1, e1, fun t ht => (e4 t ht).elim (fun h => by cases h) id, by simpa using Nat.le_trans e5 (by simpa using hlen)⟩
theorem run50 {q : Nat} (hq : q < qs.length) {x : Int} {tr : List K3} (h : goT (G qs ins q) (q : Int) (rd_L2 qs (q : Int)) [] [] = some ([x], tr)) : goT (G qs ins 50) (q : Int) (rd_L2 qs (q : Int)) [] [] = some ([x], tr) ∧ G qs ins (q + 1) 1 (q : Int) = some x := by
  have hlen := hv.2.2.1 _ (rdL2_mem qs q hq)
  have hq40 := hv.2.1
  refine ⟨goT_mono (fun a b v hg => G_le qs ins (by omega : q ≤ 50) hg) _ _ _ _ _ h, ?_⟩
  rw [G_1 _ _ _ _ _ (by decide), if_pos ⟨⟨by omega, by omega⟩, by omega, by omega⟩, h]
  rfl
theorem keysQ_is {q : Nat} (hq : q < qs.length) {x : Int} {tr : List K3} (h : goT (G qs ins q) (q : Int) (rd_L2 qs (q : Int)) [] [] = some ([x], tr)) : keysQ qs ins (q : Int) = keysOf tr := by
  unfold keysQ
  rw [(run50 hv hi hq h).1]
  rfl
theorem reads_is (q : Nat) (hq : q < qs.length) : querylang_Reads.f n qs ins (q : Int) = some (keysQ qs ins (q : Int), 0) := by
  obtain ⟨x, tr, h, _, _⟩ := runs hv hi q hq
  have hlen := hv.2.2.1 _ (rdL2_mem qs q hq)
  rw [keysQ_is hv hi hq h]
  unfold querylang_Reads.f
  rw [pre_ok n qs ins q hv hi (by omega) (by omega), Option.bind_some, if_neg (by omega), if_pos ⟨⟨by omega, by omega⟩, by omega⟩, (run50 hv hi hq h).1, Option.bind_some, if_neg (by simp)]
theorem keysQ_ok (q : Nat) (hq : q < qs.length) : (keysQ qs ins (q : Int)).length ≤ 20 ∧ ∀ x ∈ keysQ qs ins (q : Int), okK n q (x.f0, x.f1, x.f2) := by
  obtain ⟨x, tr, h, h1, h2⟩ := runs hv hi q hq
  rw [keysQ_is hv hi hq h]
  exact ⟨Nat.le_trans (keysOf_len tr) h2, fun y hy => h1 _ ((keysOf_mem tr y).1 hy)⟩
end
/-! ### the search -/
theorem takeI (l : List Int) (i : Nat) (h : i < l.length) : l.drop i = rd l (i : Int) :: l.drop (i + 1) := by
  rw [List.drop_eq_getElem_cons h]
  unfold rd
  simp [h]
theorem indexI_is (l : List Int) (hl : l.length < 1000000000) (a : Int) : ∀ (m i k : Nat), i + m = l.length → m < k → ∃ r, glossatorref3_Index_int.l0 k a l (l.length : Int) (i : Int) = some r ∧ decide (r ≥ 0) = (l.drop i).any (fun y => decide (a = y))
  | 0, i, k, hi, hk => by
    obtain ⟨k, rfl⟩ : ∃ j, k = j + 1 := ⟨k - 1, by omega⟩
    unfold glossatorref3_Index_int.l0
    rw [if_neg (by omega), List.drop_eq_nil_of_le (by omega)]
    exact ⟨-1, rfl, rfl⟩
  | m + 1, i, k, hi, hk => by
    obtain ⟨k, rfl⟩ : ∃ j, k = j + 1 := ⟨k - 1, by omega⟩
    unfold glossatorref3_Index_int.l0
    rw [if_pos (by omega), if_pos (by omega), if_pos (by omega), takeI l i (by omega), List.any_cons]
    by_cases hs : a = rd l (i : Int)
    · rw [if_pos hs, decide_eq_true hs]
      exact ⟨i, rfl, by simp⟩
    · rw [if_neg hs, w64_id _ (by omega) (by omega), decide_eq_false hs]
      obtain ⟨r, h1, h2⟩ := indexI_is l hl a m (i + 1) k (by omega) (by omega)
      exact ⟨r, by rw [← h1]; norm_cast, by rw [h2]; simp⟩
theorem containsI_is (l : List Int) (hl : l.length < 1000000000) (a : Int) (k : Nat) (hk : l.length < k) : ∃ b, glossatorref3_Contains_int.f k l a = some b ∧ (b = true ↔ a ∈ l) := by
  unfold glossatorref3_Contains_int.f glossatorref3_Index_int.f
  obtain ⟨r, h1, h2⟩ := indexI_is l hl a l.length 0 k (by omega) hk
  rw [show ((0 : Nat) : Int) = 0 from rfl] at h1
  rw [h1, Option.bind_some, h2, List.drop_zero]
  exact ⟨_, rfl, by simp⟩
/-- how many queries are not in the list -/
def mu (m : Nat) (P : List Int) : Nat := ((List.range m).filter (fun j : Nat => !(P.contains (j : Int)))).length
theorem filter_lt {α : Type} (p q : α → Bool) (l : List α) (h : ∀ x, q x = true → p x = true) (hx : ∃ x ∈ l, p x = true ∧ q x = false) : (l.filter q).length < (l.filter p).length := by
  induction l with
  | nil => obtain ⟨x, h1, _⟩ := hx; cases h1
  | cons y l ih =>
    have hle : (l.filter q).length ≤ (l.filter p).length := by
      clear ih hx
      induction l with
      | nil => simp
      | cons z l ih =>
        rw [List.filter_cons, List.filter_cons]
        cases hq : q z with
        | true => rw [h z hq]; simp; exact ih
        | false => cases p z <;> simp <;> omega
    rw [List.filter_cons, List.filter_cons]
    obtain ⟨x, h1, h2, h3⟩ := hx
    rcases List.mem_cons.1 h1 with rfl | h1
    · rw [h2, h3]; simp; omega
    · have := ih ⟨x, h1, h2, h3⟩
      cases hq : q y with
      | true => rw [h y hq]; simp; exact this
      | false => cases p y <;> simp <;> omega
theorem mu_add (m : Nat) (P : List Int) (a : Int) (h0 : 0 ≤ a) (h1 : a < (m : Int)) (h2 : a ∉ P) : mu m (P ++ [a]) + 1 ≤ mu m P := by
  unfold mu
  refine filter_lt _ _ _ (fun j hj => ?_) ⟨a.toNat, List.mem_range.2 (by omega), ?_, ?_⟩
  · simp only [Bool.not_eq_true', List.contains_eq_mem, decide_eq_false_iff_not, List.mem_append, not_or] at hj ⊢
    exact hj.1
  · simp only [Bool.not_eq_true', List.contains_eq_mem, decide_eq_false_iff_not]
    rw [show ((a.toNat : Nat) : Int) = a by omega]; exact h2
  · simp only [Bool.not_eq_false', List.contains_eq_mem, decide_eq_true_eq]
    rw [show ((a.toNat : Nat) : Int) = a by omega]; simp
theorem mu_le (m : Nat) (P : List Int) : mu m P ≤ m := by
  unfold mu
  exact Nat.le_trans (List.length_filter_le _ _) (by simp)
/-- the first i of P are done: what they read lies in P, and is not the input -/
def Done (qs : List (List S43)) (ins : List Int) (inp : Int) (P : List Int) (i : Nat) : Prop := (∀ q ∈ P, 0 ≤ q ∧ q < (qs.length : Int)) ∧ ∀ q ∈ P.take i, ∀ x ∈ keysQ qs ins q, x ≠ ⟨0, inp, 0⟩ ∧ (x.f0 = 1 → x.f1 ∈ P)
section
variable {n : Int} {qs : List (List S43)} {ins : List Int} (hv : Valid n qs) (hi : (ins.length : Int) = n) (inp : Int)
include hv hi
theorem search : ∀ (N : Nat) (P : List Int) (i k : Nat), (P.length - i) + mu qs.length P ≤ N → i ≤ P.length → P.length + mu qs.length P ≤ 41 → Done qs ins inp P i → 40 * N + 100 ≤ k → ∃ b, glossatorkeep3_influences.l0 k ins inp P (i : Int) n qs = some b ∧ (b = false → ∃ P', (∀ x ∈ P, x ∈ P') ∧ Done qs ins inp P' P'.length) := by
  intro N
  induction N with
  | zero =>
    intro P i k hN hiP h41 hd hk
    obtain ⟨k, rfl⟩ : ∃ j, k = j + 1 := ⟨k - 1, by omega⟩
    have : i = P.length := by omega
    subst this
    unfold glossatorkeep3_influences.l0
    rw [if_neg (by omega)]
    exact ⟨false, rfl, fun _ => ⟨P, fun _ h => h, hd⟩⟩
  | succ N ih =>
    intro P i k hN hiP h41 hd hk
    obtain ⟨k, rfl⟩ : ∃ j, k = j + 1 := ⟨k - 1, by omega⟩
    unfold glossatorkeep3_influences.l0
    by_cases hlt : i < P.length
    · rw [if_pos (by omega), if_pos (by omega)]
      obtain ⟨q, hq⟩ : ∃ q : Nat, rd P (i : Int) = q := by
        have := hd.1 (rd P (i : Int)) (by unfold rd; simp [hlt])
        exact ⟨(rd P (i : Int)).toNat, by omega⟩
      have hq1 : q < qs.length := by
        have := hd.1 (rd P (i : Int)) (by unfold rd; simp [hlt])
        omega
      rw [hq, reads_is hv hi q hq1, Option.bind_some]
      obtain ⟨hk20, hkok⟩ := keysQ_ok hv hi q hq1
      -- the inner loop
      have inner : ∀ (m j k : Nat) (P2 : List Int), j + m = (keysQ qs ins (q : Int)).length → 40 * N + 100 + m + 1 ≤ k → i < P2.length → rd P2 (i : Int) = q → (P2.length - i) + mu qs.length P2 ≤ N + 1 → P2.length + mu qs.length P2 ≤ 41 → Done qs ins inp P2 i → (∀ x ∈ (keysQ qs ins (q : Int)).take j, x ≠ ⟨0, inp, 0⟩ ∧ (x.f0 = 1 → x.f1 ∈ P2)) → (∀ x ∈ P, x ∈ P2) → ∃ b, glossatorkeep3_influences.l1 k ins inp P2 (i : Int) (keysQ qs ins (q : Int)) ((keysQ qs ins (q : Int)).length : Int) (j : Int) n qs = some b ∧ (b = false → ∃ P', (∀ x ∈ P, x ∈ P') ∧ Done qs ins inp P' P'.length) := by
        intro m
        induction m with
        | zero =>
          intro j k P2 hj hk hiP2 hP2 hN2 h412 hd2 hx hsub
          obtain ⟨k, rfl⟩ : ∃ j, k = j + 1 := ⟨k - 1, by omega⟩
          unfold glossatorkeep3_influences.l1
          rw [if_neg (by omega), w64_id _ (by omega) (by omega)]
          have hj' : j = (keysQ qs ins (q : Int)).length := by omega
          rw [hj', List.take_length] at hx
          obtain ⟨b, hb, hb2⟩ := ih P2 (i + 1) k (by omega) (by omega) h412 ⟨hd2.1, fun p hp => by
            rw [List.take_add_one, List.getElem?_eq_getElem hiP2] at hp
            rcases List.mem_append.1 hp with hp | hp
            · exact hd2.2 p hp
            · have e : p = (q : Int) := by
                rw [← hP2]
                unfold rd
                simp at hp
                simp [hiP2, hp]
              rw [e]; exact hx⟩ (by omega)
          refine ⟨b, by rw [← hb]; norm_cast, fun h => ?_⟩
          obtain ⟨P', h1, h2⟩ := hb2 h
          exact ⟨P', fun x hx => h1 x (hsub x hx), h2⟩
        | succ m ihm =>
          intro j k P2 hj hk hiP2 hP2 hN2 h412 hd2 hx hsub
          obtain ⟨k, rfl⟩ : ∃ j, k = j + 1 := ⟨k - 1, by omega⟩
          unfold glossatorkeep3_influences.l1
          rw [if_pos (by omega), if_pos (by omega), if_pos (by omega)]
          have hmem : rd_T40 (keysQ qs ins (q : Int)) (j : Int) ∈ keysQ qs ins (q : Int) := by unfold rd_T40; simp [show j < (keysQ qs ins (q : Int)).length by omega]
          have htake : (keysQ qs ins (q : Int)).take (j + 1) = (keysQ qs ins (q : Int)).take j ++ [rd_T40 (keysQ qs ins (q : Int)) (j : Int)] := by
            rw [List.take_add_one, List.getElem?_eq_getElem (by omega : j < (keysQ qs ins (q : Int)).length)]
            unfold rd_T40
            simp [show j < (keysQ qs ins (q : Int)).length by omega]
          have hok := hkok _ hmem
          unfold glossatorkeep3_inputKey.f
          rw [Option.bind_some]
          generalize rd_T40 (keysQ qs ins (q : Int)) (j : Int) = x at hmem htake hok ⊢
          rw [w64_id ((j : Int) + 1) (by omega) (by omega)]
          by_cases hbad : (x.f0 == 0 && (x.f1 == inp && x.f2 == 0)) = true
          · rw [if_pos hbad]; exact ⟨true, rfl, fun h => by cases h⟩
          rw [if_neg hbad]
          have hne : x ≠ ⟨0, inp, 0⟩ := fun e => hbad (by rw [e]; simp)
          have next : ∀ P3 : List Int, i < P3.length → rd P3 (i : Int) = q → (P3.length - i) + mu qs.length P3 ≤ N + 1 → P3.length + mu qs.length P3 ≤ 41 → Done qs ins inp P3 i → (∀ y ∈ P2, y ∈ P3) → (x.f0 = 1 → x.f1 ∈ P3) → ∃ b, glossatorkeep3_influences.l1 k ins inp P3 (i : Int) (keysQ qs ins (q : Int)) ((keysQ qs ins (q : Int)).length : Int) ((j : Int) + 1) n qs = some b ∧ (b = false → ∃ P', (∀ x ∈ P, x ∈ P') ∧ Done qs ins inp P' P'.length) := fun P3 a1 a2 a3 a4 a5 a6 a7 => by
            obtain ⟨b, hb, hb2⟩ := ihm (j + 1) k P3 (by omega) (by omega) a1 a2 a3 a4 a5 (fun y hy => by
              rw [htake] at hy
              rcases List.mem_append.1 hy with hy | hy
              · exact ⟨(hx y hy).1, fun e => a6 _ ((hx y hy).2 e)⟩
              · rw [List.mem_singleton] at hy; rw [hy]; exact ⟨hne, a7⟩) (fun y hy => a6 y (hsub y hy))
            exact ⟨b, by rw [← hb]; norm_cast, hb2⟩
          by_cases h1 : x.f0 = 1
          · rw [if_pos h1]
            have hr : 0 ≤ x.f1 ∧ x.f1 < (q : Int) := by
              rcases hok.1 with h | h
              · have h' := h.1; simp only at h'; omega
              · exact h.2
            obtain ⟨b, hb, hb2⟩ := containsI_is P2 (by omega) x.f1 k (by omega)
            rw [hb, Option.bind_some]
            cases b with
            | true => rw [if_pos rfl]; exact next P2 hiP2 hP2 hN2 h412 hd2 (fun _ h => h) (fun _ => hb2.1 rfl)
            | false =>
              have hnot : x.f1 ∉ P2 := fun h => by have := hb2.2 h; cases this
              rw [if_neg (by simp), if_pos (by omega)]
              have hmu := mu_add qs.length P2 x.f1 hr.1 (by omega) hnot
              have hl : (P2 ++ [x.f1]).length = P2.length + 1 := by simp
              refine next (P2 ++ [x.f1]) (by omega) ?_ (by omega) (by omega) ⟨fun y hy => ?_, fun y hy z hz => ?_⟩ (fun y hy => List.mem_append_left _ hy) (fun _ => by simp)
              · rw [← hP2]; unfold rd; simp [hiP2, List.getElem?_append]
              · rcases List.mem_append.1 hy with hy | hy
                · exact hd2.1 y hy
                · rw [List.mem_singleton] at hy; rw [hy]; omega
              · rw [List.take_append_of_le_length (by omega)] at hy
                exact ⟨(hd2.2 y hy z hz).1, fun e => List.mem_append_left _ ((hd2.2 y hy z hz).2 e)⟩
          · rw [if_neg h1]
            exact next P2 hiP2 hP2 hN2 h412 hd2 (fun _ h => h) (fun e => absurd e h1)
      obtain ⟨b, hb, hb2⟩ := inner (keysQ qs ins (q : Int)).length 0 k P (by omega) (by omega) hlt hq (by omega) h41 hd (fun x hx => by simp at hx) (fun _ h => h)
      exact ⟨b, by rw [← hb]; norm_cast, hb2⟩
    · have : i = P.length := by omega
      subst this
      rw [if_neg (by omega)]
      exact ⟨false, rfl, fun _ => ⟨P, fun _ h => h, hd⟩⟩
theorem influences_is (q0 : Nat) (hq : q0 < qs.length) (k : Nat) (hk : 1800 ≤ k) : ∃ b, glossatorkeep3_influences.f k n qs ins (q0 : Int) inp = some b ∧ (b = false → ∃ P, (q0 : Int) ∈ P ∧ Done qs ins inp P P.length) := by
  have h40 := hv.2.1
  have hmu := mu_le qs.length [(q0 : Int)]
  unfold glossatorkeep3_influences.f
  obtain ⟨b, hb, hb2⟩ := search hv hi inp (1 + mu qs.length [(q0 : Int)]) [(q0 : Int)] 0 k (by simp) (by simp) (by simp; omega) ⟨fun y hy => by rw [List.mem_singleton] at hy; rw [hy]; omega, fun y hy => by simp at hy⟩ (by omega)
  exact ⟨b, hb, fun h => by obtain ⟨P, h1, h2⟩ := hb2 h; exact ⟨P, h1 _ (by simp), h2⟩⟩
/-- a closed set's queries do not see the input -/
theorem blind (P : List Int) (hP : Done qs ins inp P P.length) (v : Int) (h0 : 0 ≤ inp) (h1 : inp < n) : ∀ q : Nat, (q : Int) ∈ P → ∃ x tr, goT (G qs ins q) (q : Int) (rd_L2 qs (q : Int)) [] [] = some ([x], tr) ∧ goT (G qs (ins.set inp.toNat v) q) (q : Int) (rd_L2 qs (q : Int)) [] [] = some ([x], tr) := by
  intro q
  induction q using Nat.strongRecOn with
  | ind q ih =>
    intro hqP
    have hq : q < qs.length := by have := hP.1 _ hqP; omega
    obtain ⟨x, tr, h, hok, _⟩ := runs hv hi q hq
    refine ⟨x, tr, h, goT_asked _ _ _ _ _ _ h (fun t ht w hw => ?_)⟩
    have hk : (⟨t.1, t.2.1, t.2.2⟩ : S40) ∈ keysQ qs ins (q : Int) := by rw [keysQ_is hv hi hq h, keysOf_mem]; exact ht
    have hc := hP.2 (q : Int) (by rw [List.take_length]; exact hqP) _ hk
    obtain ⟨hk1, hk2⟩ := hok t ht
    rcases hk1 with ⟨e, a1, a2⟩ | ⟨e, a1, a2⟩
    · have hne : t.2.1 ≠ inp := fun e2 => hc.1 (by rw [e, e2, hk2])
      rw [e] at hw ⊢
      rw [G_0] at hw ⊢
      rw [List.length_set, rd_set ins inp t.2.1 v h0 a1 (by omega), if_neg hne]
      exact hw
    · have hin : t.2.1 ∈ P := hc.2 e
      obtain ⟨j, hj⟩ : ∃ j : Nat, t.2.1 = j := ⟨t.2.1.toNat, by omega⟩
      rw [hj] at hin a2
      obtain ⟨y, try_, b1, b2⟩ := ih j (by omega) hin
      have c1 := (run50 hv hi (by omega : j < qs.length) b1).2
      have c2 := (run50 (ins := ins.set inp.toNat v) hv (by rw [List.length_set]; exact hi) (by omega : j < qs.length) b2).2
      rw [e, hj] at hw ⊢
      have := G_same qs ins hw c1
      rw [this]
      exact G_le _ _ (by omega) c2
end
theorem rows_same (l : List S40) (hl : l.length < 1000000000) : ∀ (m i k : Nat), i + m = l.length → m < k → api_QKey_14.l0 k l l (l.length : Int) (i : Int) = some true
  | 0, i, k, hi, hk => by
    obtain ⟨k, rfl⟩ : ∃ j, k = j + 1 := ⟨k - 1, by omega⟩
    unfold api_QKey_14.l0
    rw [if_neg (by omega)]
  | m + 1, i, k, hi, hk => by
    obtain ⟨k, rfl⟩ : ∃ j, k = j + 1 := ⟨k - 1, by omega⟩
    unfold api_QKey_14.l0
    rw [if_pos (by omega), if_pos (by omega), if_pos (by omega), if_pos (by omega), if_neg (by simp), w64_id _ (by omega) (by omega)]
    have := rows_same l hl m (i + 1) k (by omega) (by omega)
    rw [← this]; norm_cast
theorem UnreadInput (n : Int) (qs : List (List S43)) (l : List Int) (a2 a3 a4 : Int) : ∃ k, glossatorkeep3_QuerylangUnreadInput.f k n qs l a2 a3 a4 = some true := by
  refine ⟨1800, ?_⟩
  unfold glossatorkeep3_QuerylangUnreadInput.f
  obtain ⟨b, hu, hb⟩ := usable_is n qs 1800 (by omega)
  rw [example_is, Option.bind_some, if_pos rfl, hu, Option.bind_some]
  cases b with
  | false => rw [if_neg (by simp)]; rfl
  | true =>
    obtain ⟨hv, hq0, hn0⟩ := hb rfl
    obtain ⟨r, hf, hlen⟩ := fit_is l n (by omega) hv.1.2
    have hq40 := hv.2.1
    have hn40 := hv.1.2
    rw [if_pos rfl, hf, Option.bind_some, mod_is a2 _ (by omega) (by omega), Option.bind_some, mod_is a3 _ (by omega) (by omega), Option.bind_some]
    obtain ⟨q, hq⟩ : ∃ q : Nat, a2 % (qs.length : Int) = q := ⟨(a2 % (qs.length : Int)).toNat, by have := Int.emod_nonneg a2 (by omega : (qs.length : Int) ≠ 0); omega⟩
    have hq1 : q < qs.length := by have := Int.emod_lt_of_pos a2 (by omega : 0 < (qs.length : Int)); omega
    have hi0 := Int.emod_nonneg a3 (by omega : n ≠ 0)
    have hi1 := Int.emod_lt_of_pos a3 hn0
    rw [hq]
    generalize a3 % n = i at hi0 hi1 ⊢
    obtain ⟨b, hb1, hb2⟩ := influences_is hv hlen i q hq1 1800 (Nat.le_refl _)
    rw [hb1, Option.bind_some]
    cases b with
    | true => rw [if_pos rfl]; rfl
    | false =>
      obtain ⟨P, hP1, hP2⟩ := hb2 rfl
      obtain ⟨x, tr, e1, e2⟩ := blind hv hlen i P hP2 a4 hi0 hi1 q hP1
      have hlen2 : ((r.set i.toNat a4).length : Int) = n := by rw [List.length_set]; exact hlen
      have g1 := (run50 hv hlen hq1 e1).2
      have g2 := (run50 hv hlen2 hq1 e2).2
      have k1 := keysQ_is hv hlen hq1 e1
      have k2 := keysQ_is hv hlen2 hq1 e2
      have hk20 := (keysQ_ok hv hlen q hq1).1
      rw [k1] at hk20
      have hcl : glossatorref3_Clone_int.f r = some r := by unfold glossatorref3_Clone_int.f; rw [if_pos (by omega)]
      rw [if_neg (by simp), hcl, Option.bind_some, if_pos hi0, if_pos (by omega), Option.bind_some, eval_is n qs r q hv hlen hq1 g1, Option.bind_some, eval_is n qs _ q hv hlen2 hq1 g2, Option.bind_some, reads_is hv hlen q hq1, Option.bind_some, reads_is hv hlen2 q hq1, Option.bind_some, Option.bind_some, if_pos rfl, if_pos rfl, if_pos rfl, if_pos rfl, if_pos rfl, if_pos rfl, k1, k2]
      unfold api_QKey_14.f
      rw [if_pos rfl]
      have h_ := rows_same (keysOf tr) (by omega) (keysOf tr).length 0 1800 (by omega) (by omega)
      rw [show ((0 : Nat) : Int) = 0 from rfl] at h_
      rw [h_]
      rfl
end Go.Proofs.Ytnhkfelpahjgpaa.Qu
