/- An element is in the least solution iff the derivations reach it. Condition: a valid system. -/
import Derived.Test.YtgjcembdmohhkaaFsPc
set_option linter.unusedVariables false
set_option linter.unusedSimpArgs false
namespace Go.Proofs.Ytgjcembdmohhkaa.Fs
open Go.RowKit Go.Proofs.YtgjcembdmohhkaaW.PrintWords Go.Proofs.YtgjcembdmohhkaaW.PrintLast Go.Proofs.YtgjcembdmohhkaaW.PrintMore
open Go.Proofs.Ytgjcembdmohhkaa

theorem bit_nat (m : Nat) (hm : m < 1048576) (e : Nat) : Go.bits .and .i64 ((m : Int) / 2 ^ e) 1 = if m.testBit e = true then 1 else 0 := by
  have h1 : ((m : Int) / 2 ^ e) = ((m / 2 ^ e : Nat) : Int) := by
    rw [Int.natCast_ediv, Int.natCast_pow]
    rfl
  have h2 : m / 2 ^ e < 1048576 := Nat.lt_of_le_of_lt (Nat.div_le_self _ _) hm
  rw [h1, show (1 : Int) = ((1 : Nat) : Int) from rfl, and_nat h2 (by decide), Nat.and_one_is_mod, Nat.testBit_eq_decide_div_mod_eq]
  rcases Nat.mod_two_eq_zero_or_one (m / 2 ^ e) with h | h
  · rw [h]; simp
  · rw [h]; simp
theorem bitF_is (e m : Int) (h0 : 0 ≤ m) (h1 : m < 1048576) : bitF e m = m.toNat.testBit e.toNat := by
  obtain ⟨k, rfl⟩ := Int.eq_ofNat_of_zero_le h0
  unfold bitF
  rw [Int.toNat_natCast, bit_nat k (by omega)]
  cases k.testBit e.toNat <;> rfl
/-- derived -/
def dd (D : List Bool) (j : Int) : Prop := rdOf false D j = true
theorem appF_is {R : List (List S31)} (hR : Okr R) (el : Int) (D : List Bool) {L : List S31} (hL : L ∈ R) {r : S31} (hr : r ∈ L) : appF el D r = true ↔ r.f0.toNat.testBit el.toNat = true ∧ ∀ j ∈ r.f1, dd D j := by
  have hm := hR.mask L hL r hr
  unfold appF
  rw [bitF_is el r.f0 hm.1 (by omega), Bool.and_eq_true]
  constructor
  · rintro ⟨h1, h2⟩
    refine ⟨h1, fun j hj => ?_⟩
    rw [Bool.not_eq_true', List.any_eq_false] at h2
    have h3 := h2 j hj
    unfold noF at h3
    unfold dd
    simpa using h3
  · rintro ⟨h1, h2⟩
    refine ⟨h1, ?_⟩
    rw [Bool.not_eq_true', List.any_eq_false]
    intro j hj
    have h3 := h2 j hj
    unfold dd at h3
    unfold noF
    simp [h3]
/-- the rule of a step -/
def ruleOf (R : List (List S31)) (s : S59) : S31 := rd_T31 (rd_L3 R s.f0) s.f1
structure Gs (R : List (List S31)) (el : Int) (s : S59) : Prop where
  s0 : 0 ≤ s.f0 ∧ s.f0 < (R.length : Int)
  s1 : 0 ≤ s.f1 ∧ s.f1 < ((rd_L3 R s.f0).length : Int)
  s2 : s.f2 = el
  bit : (ruleOf R s).f0.toNat.testBit el.toNat = true
theorem Gs.mem {R : List (List S31)} {el : Int} {s : S59} (h : Gs R el s) : rd_L3 R s.f0 ∈ R ∧ ruleOf R s ∈ rd_L3 R s.f0 := by
  have h1 := h.s0
  have h2 := h.s1
  constructor
  · have e_ : rd_L3 R s.f0 = R[s.f0.toNat] := by unfold rd_L3; simp [show s.f0.toNat < R.length from by omega]
    rw [e_]; exact List.getElem_mem _
  · have e_ : ruleOf R s = (rd_L3 R s.f0)[s.f1.toNat] := by unfold ruleOf rd_T31; simp [show s.f1.toNat < (rd_L3 R s.f0).length from by omega]
    rw [e_]; exact List.getElem_mem _
/-- each step's sets are there, or come before it -/
def Vd (R : List (List S31)) : (Int → Prop) → List S59 → Prop
  | _, [] => True
  | A, s :: Q => (∀ j ∈ (ruleOf R s).f1, A j) ∧ Vd R (fun j => A j ∨ j = s.f0) Q
theorem Vd.imp {R : List (List S31)} : ∀ {Q : List S59} {A B : Int → Prop}, Vd R A Q → (∀ j, A j → B j) → Vd R B Q
  | [], _, _, _, _ => trivial
  | s :: Q, A, B, h, hi => ⟨fun j hj => hi j (h.1 j hj), h.2.imp (fun j hj => hj.imp (hi j) id)⟩
theorem Vd.snoc {R : List (List S31)} : ∀ {Q : List S59} {A : Int → Prop} {s : S59}, Vd R A Q → (∀ j ∈ (ruleOf R s).f1, A j ∨ ∃ d ∈ Q, d.f0 = j) → Vd R A (Q ++ [s])
  | [], A, s, _, h => ⟨fun j hj => (h j hj).elim id (fun ⟨d, hd, _⟩ => by cases hd), trivial⟩
  | q :: Q, A, s, hv, h => ⟨hv.1, hv.2.snoc (fun j hj => (h j hj).elim (fun h1 => .inl (.inl h1)) (fun ⟨d, hd, e⟩ => by
      rcases List.mem_cons.1 hd with rfl | hd
      · exact .inl (.inr e.symm)
      · exact .inr ⟨d, hd, e⟩))⟩
theorem Vd.at {R : List (List S31)} : ∀ {Q : List S59} {A : Int → Prop}, Vd R A Q → ∀ (i : Nat) (hi : i < Q.length), ∀ j ∈ (ruleOf R Q[i]).f1, A j ∨ ∃ d ∈ Q.take i, d.f0 = j
  | s :: Q, A, h, 0, hi, j, hj => .inl (h.1 j hj)
  | s :: Q, A, h, i + 1, hi, j, hj => by
    rcases h.2.at i (by simpa using hi) j hj with (h1 | h1) | ⟨d, hd, e⟩
    · exact .inl h1
    · exact .inr ⟨s, List.mem_cons_self, h1.symm⟩
    · exact .inr ⟨d, by rw [List.take_succ_cons]; exact List.mem_cons_of_mem _ hd, e⟩
theorem Vd.take {R : List (List S31)} : ∀ {Q : List S59} {A : Int → Prop} (n : Nat), Vd R A Q → Vd R A (Q.take n)
  | _, _, 0, _ => trivial
  | [], _, n + 1, _ => trivial
  | s :: Q, A, n + 1, h => ⟨h.1, h.2.take n⟩
structure Iv (R : List (List S31)) (el : Int) (D : List Bool) (st : List S59) : Prop where
  len : D.length = R.length
  iff : ∀ j : Int, 0 ≤ j → (dd D j ↔ ∃ s ∈ st, s.f0 = j)
  gs : ∀ s ∈ st, Gs R el s
  vd : Vd R (fun _ => False) st
theorem dd_set {D : List Bool} {i j : Int} (h0 : 0 ≤ i) (h1 : i < (D.length : Int)) (hj : 0 ≤ j) : dd (D.set i.toNat true) j ↔ dd D j ∨ j = i := by
  unfold dd rdOf
  rw [List.getD_eq_getElem?_getD, List.getElem?_set, List.getD_eq_getElem?_getD]
  by_cases h : j = i
  · subst h
    rw [if_pos rfl, if_pos (by omega)]
    simp
  · rw [if_neg (by omega)]
    simp [h]
theorem cnt_set : ∀ (D : List Bool) (i : Nat), i < D.length → D.getD i false = false → (D.set i true).count true = D.count true + 1
  | [], _, h, _ => by cases h
  | b :: D, 0, _, h => by
    have : b = false := by simpa using h
    subst this
    simp
  | b :: D, i + 1, h, hg => by
    have := cnt_set D i (by simpa using h) (by simpa using hg)
    rw [List.set_cons_succ, List.count_cons, List.count_cons, this]
    omega
theorem ixs_at {α : Type} (p : α → Bool) (l : List α) : ∀ i : Int, 0 ≤ i → 0 ≤ ixs p l i → ∃ x ∈ l, p x = true ∧ l[(ixs p l i - i).toNat]? = some x := by
  induction l with
  | nil => intro i _ h; exact absurd h (by unfold ixs; omega)
  | cons y l ih =>
    intro i hi h
    rw [ixs_cons] at h ⊢
    split
    · rename_i hc
      exact ⟨y, List.mem_cons_self, hc, by simp⟩
    · rename_i hc
      rw [if_neg hc] at h
      obtain ⟨x, hx, hp, he⟩ := ih (i + 1) (by omega) h
      obtain ⟨h1, h2⟩ := ixs_lt p l (i + 1) h
      refine ⟨x, List.mem_cons_of_mem _ hx, hp, ?_⟩
      rw [show (ixs p l (i + 1) - i).toNat = (ixs p l (i + 1) - (i + 1)).toNat + 1 from by omega]
      simpa using he
theorem ixs_none {α : Type} (p : α → Bool) (l : List α) : ∀ i : Int, 0 ≤ i → ixs p l i < 0 → ∀ x ∈ l, p x = false := by
  induction l with
  | nil => intro i _ _ x hx; cases hx
  | cons y l ih =>
    intro i hi h x hx
    rw [ixs_cons] at h
    split at h
    · omega
    · rename_i hc
      rcases List.mem_cons.1 hx with rfl | hx
      · simpa using hc
      · exact ih (i + 1) (by omega) h x hx
theorem dpass_iv {R : List (List S31)} (hR : Okr R) (el : Int) : ∀ (ls : List (List S31)) (i : Nat) (D : List Bool) (st : List S59) (pr : Bool), R.drop i = ls → Iv R el D st →
    Iv R el (dpass el ls (i : Int) D st pr).1 (dpass el ls (i : Int) D st pr).2.1 ∧ D.count true ≤ (dpass el ls (i : Int) D st pr).1.count true ∧ (pr = false → (dpass el ls (i : Int) D st pr).2.2 = true → D.count true + 1 ≤ (dpass el ls (i : Int) D st pr).1.count true) ∧
    ((dpass el ls (i : Int) D st pr).2.2 = false → pr = false ∧ (dpass el ls (i : Int) D st pr).1 = D ∧ (dpass el ls (i : Int) D st pr).2.1 = st ∧ ∀ j, i ≤ j → ∀ (hj : j < R.length), dd D (j : Int) ∨ ∀ r ∈ R[j], appF el D r = false)
  | [], i, D, st, pr, hd, hv => ⟨hv, Nat.le_refl _, (fun h1 h2 => by rw [h1] at h2; cases h2), fun h => ⟨h, rfl, rfl, fun j hj hjl => by
      have := congrArg List.length hd
      rw [List.length_drop, List.length_nil] at this
      omega⟩⟩
  | l :: ls, i, D, st, pr, hd, hv => by
    have hi : i < R.length := by
      rcases Nat.lt_or_ge i R.length with h1 | h1
      · exact h1
      · rw [List.drop_eq_nil_of_le h1] at hd; cases hd
    rw [List.drop_eq_getElem_cons hi] at hd
    obtain ⟨hl, h2⟩ := List.cons.inj hd
    have hm : l ∈ R := hl ▸ List.getElem_mem hi
    rw [dpass_cons, show ((i : Nat) : Int) + 1 = ((i + 1 : Nat) : Int) from by omega]
    by_cases h3 : rdOf false D (i : Int) = true
    · rw [if_pos h3]
      obtain ⟨k1, k2, k3, k4⟩ := dpass_iv hR el ls (i + 1) D st pr h2 hv
      refine ⟨k1, k2, k3, fun h => ?_⟩
      obtain ⟨m1, m2, m3, m4⟩ := k4 h
      refine ⟨m1, m2, m3, fun j hj hjl => ?_⟩
      rcases Nat.eq_or_lt_of_le hj with rfl | hj
      · exact .inl h3
      · exact m4 j hj hjl
    · rw [if_neg h3]
      by_cases h4 : ixs (appF el D) l 0 ≥ 0
      · rw [if_pos h4]
        obtain ⟨r, hr, hp, he⟩ := ixs_at (appF el D) l 0 (Int.le_refl _) h4
        obtain ⟨b1, b2⟩ := ixs_lt (appF el D) l 0 h4
        have hlen : (i : Int) < (D.length : Int) := by have := hv.len; omega
        have eL : rd_L3 R (i : Int) = l := by rw [← hl]; unfold rd_L3; simp [hi]
        have eR : ruleOf R ⟨(i : Int), ixs (appF el D) l 0, el⟩ = r := by
          unfold ruleOf
          simp only [eL]
          unfold rd_T31
          rw [List.getD_eq_getElem?_getD, show (ixs (appF el D) l 0).toNat = (ixs (appF el D) l 0 - 0).toNat from by omega, he]
          rfl
        have ha := (appF_is hR el D hm hr).1 hp
        have hcount := cnt_set D i (by have := hv.len; omega) (by
          have : D.getD i false = rdOf false D (i : Int) := by unfold rdOf; rw [Int.toNat_natCast]
          rw [this]
          simpa using h3)
        have hv2 : Iv R el (D.set (i : Int).toNat true) (st ++ [⟨(i : Int), ixs (appF el D) l 0, el⟩]) := by
          refine ⟨by rw [List.length_set]; exact hv.len, fun j hj => ?_, fun s hs => ?_, hv.vd.snoc (fun j hj => ?_)⟩
          · rw [dd_set (by omega) hlen hj, hv.iff j hj]
            constructor
            · rintro (⟨s, hs, e⟩ | e)
              · exact ⟨s, List.mem_append_left _ hs, e⟩
              · exact ⟨_, List.mem_append_right _ (List.mem_singleton.2 rfl), e.symm⟩
            · rintro ⟨s, hs, e⟩
              rcases List.mem_append.1 hs with hs | hs
              · exact .inl ⟨s, hs, e⟩
              · rw [List.mem_singleton] at hs; subst hs; exact .inr e.symm
          · rcases List.mem_append.1 hs with hs | hs
            · exact hv.gs s hs
            · rw [List.mem_singleton] at hs
              subst hs
              exact ⟨⟨by simp only []; omega, by simp only []; omega⟩, ⟨h4, by simp only []; rw [eL]; omega⟩, rfl, by rw [eR]; exact ha.1⟩
          · rw [eR] at hj
            have hj0 := hR.idx l hm r hr j hj
            exact .inr ((hv.iff j hj0.1).1 (ha.2 j hj))
        obtain ⟨k1, k2, k3, k4⟩ := dpass_iv hR el ls (i + 1) _ _ true h2 hv2
        rw [Int.toNat_natCast] at k1 k2 k3 k4 ⊢
        refine ⟨k1, by omega, fun _ _ => by omega, fun h => ?_⟩
        exact absurd (k4 h).1 (by simp)
      · rw [if_neg h4]
        obtain ⟨k1, k2, k3, k4⟩ := dpass_iv hR el ls (i + 1) D st pr h2 hv
        refine ⟨k1, k2, k3, fun h => ?_⟩
        obtain ⟨m1, m2, m3, m4⟩ := k4 h
        refine ⟨m1, m2, m3, fun j hj hjl => ?_⟩
        rcases Nat.eq_or_lt_of_le hj with rfl | hj
        · refine .inr (fun r hr => ?_)
          rw [hl] at hr
          exact ixs_none _ l 0 (Int.le_refl _) (by omega) r hr
        · exact m4 j hj hjl
theorem dloop_iv {R : List (List S31)} (hR : Okr R) (el : Int) : ∀ (k : Nat) (D : List Bool) (st : List S59), Iv R el D st → R.length + 1 - D.count true ≤ k → ∃ D' r, dloop el R k D st = some r ∧ Iv R el D' r ∧ ∀ j, ∀ (hj : j < R.length), dd D' (j : Int) ∨ ∀ q ∈ R[j], appF el D' q = false
  | 0, D, st, hv, hk => by
    have := List.count_le_length (a := true) (l := D)
    have := hv.len
    omega
  | k + 1, D, st, hv, hk => by
    obtain ⟨k1, k2, k3, k4⟩ := dpass_iv hR el R 0 D st false rfl hv
    rw [show ((0 : Nat) : Int) = 0 from rfl] at k1 k2 k3 k4
    unfold dloop
    by_cases h : (dpass el R 0 D st false).2.2 = true
    · rw [if_pos h]
      exact dloop_iv hR el k _ _ k1 (by have := k3 rfl h; omega)
    · rw [if_neg h]
      obtain ⟨m1, m2, m3, m4⟩ := k4 (by simpa using h)
      refine ⟨D, _, rfl, by rw [m3]; exact hv, fun j hj => m4 j (Nat.zero_le _) hj⟩
theorem iv_nil (R : List (List S31)) (el : Int) : Iv R el (List.replicate R.length false) [] := by
  refine ⟨List.length_replicate .., fun j hj => ⟨fun h => ?_, (fun ⟨s, hs, _⟩ => by cases hs)⟩, (fun s hs => by cases hs), trivial⟩
  unfold dd rdOf at h
  rw [List.getD_eq_getElem?_getD, List.getElem?_replicate] at h
  split at h <;> cases h
/-- sound: a step's element is in every solution -/
theorem vd_sound {R : List (List S31)} {el : Int} {c : List Int} (hc : Sol R c) : ∀ (Q : List S59) (A : Int → Prop), Vd R A Q → (∀ s ∈ Q, Gs R el s) → (∀ j, A j → has c j el.toNat) → ∀ s ∈ Q, has c s.f0 el.toNat
  | [], _, _, _, _, s, hs => by cases hs
  | q :: Q, A, hv, hg, hA, s, hs => by
    have hq : has c q.f0 el.toNat := by
      have g := hg q List.mem_cons_self
      have h0 := g.s0
      have hm := g.mem
      have e : rd_L3 R q.f0 = R[q.f0.toNat] := by unfold rd_L3; simp [show q.f0.toNat < R.length from by omega]
      have := hc q.f0.toNat (by omega) (ruleOf R q) (e ▸ hm.2) el.toNat ⟨g.bit, fun j hj => hA j (hv.1 j hj)⟩
      rwa [show ((q.f0.toNat : Nat) : Int) = q.f0 from by omega] at this
    rcases List.mem_cons.1 hs with rfl | hs
    · exact hq
    · exact vd_sound hc Q _ hv.2 (fun s hs => hg s (List.mem_cons_of_mem _ hs)) (fun j hj => hj.elim (hA j) (fun e => e ▸ hq)) s hs
theorem xor_bit (x k e : Nat) (hx : x.testBit k = true) : (x ^^^ 2 ^ k).testBit e = true ↔ x.testBit e = true ∧ e ≠ k := by
  rw [Nat.testBit_xor, Nat.testBit_two_pow]
  by_cases h : e = k
  · subst h; simp [hx]
  · have h2 : ¬ k = e := fun h1 => h h1.symm
    simp [h, h2]
/-- complete: what the derivations do not reach is not in the least solution -/
theorem dd_complete {R : List (List S31)} (hR : Okr R) {res : List Int} (hres : Good R.length res) (hs : Sol R res) (hmin : ∀ c : List Int, Sol R c → ∀ i : Int, 0 ≤ i → ∀ e, has res i e → has c i e)
    (el : Int) (D : List Bool) (hD : ∀ j, ∀ (hj : j < R.length), dd D (j : Int) ∨ ∀ q ∈ R[j], appF el D q = false) (i : Int) (h0 : 0 ≤ i) (h1 : i < (R.length : Int)) (hh : has res i el.toNat) : dd D i := by
  classical
  obtain ⟨c, hcdef⟩ : ∃ c : List Int, c = (List.range R.length).map fun k : Nat => if ¬ dd D (k : Int) ∧ has res (k : Int) el.toNat then ((g res (k : Int) ^^^ 2 ^ el.toNat : Nat) : Int) else rd res (k : Int) := ⟨_, rfl⟩
  have hget : ∀ k : Nat, k < R.length → ∀ e, has c (k : Int) e ↔ has res (k : Int) e ∧ (e = el.toNat → dd D (k : Int)) := by
    intro k hk e
    have hrd : rd c (k : Int) = if ¬ dd D (k : Int) ∧ has res (k : Int) el.toNat then ((g res (k : Int) ^^^ 2 ^ el.toNat : Nat) : Int) else rd res (k : Int) := by
      rw [hcdef]
      unfold rd
      simp [hk]
    by_cases hc : ¬ dd D (k : Int) ∧ has res (k : Int) el.toNat
    · rw [if_pos hc] at hrd
      unfold has
      have : g c (k : Int) = g res (k : Int) ^^^ 2 ^ el.toNat := by unfold g at hrd ⊢; rw [hrd, Int.toNat_natCast]
      rw [this, xor_bit _ _ _ hc.2]
      constructor
      · rintro ⟨a, b⟩; exact ⟨a, fun e1 => absurd e1 b⟩
      · rintro ⟨a, b⟩; exact ⟨a, fun e1 => hc.1 (b e1)⟩
    · rw [if_neg hc] at hrd
      unfold has
      have : g c (k : Int) = g res (k : Int) := by unfold g; rw [hrd]
      rw [this]
      constructor
      · intro a
        refine ⟨a, fun e1 => Classical.byContradiction fun hd => hc ⟨hd, ?_⟩⟩
        rw [← e1]; exact a
      · exact fun a => a.1
  have hsol : Sol R c := by
    intro k hk r hr e hd
    have hL : R[k] ∈ R := List.getElem_mem hk
    have hsub : drv r res e := ⟨hd.1, fun j hj => by
      have hj0 := hR.idx _ hL r hr j hj
      have := (hget j.toNat (by omega) e).1 (by rw [show ((j.toNat : Nat) : Int) = j from by omega]; exact hd.2 j hj)
      rw [show ((j.toNat : Nat) : Int) = j from by omega] at this
      exact this.1⟩
    refine (hget k hk e).2 ⟨hs k hk r hr e hsub, fun he => ?_⟩
    rcases hD k hk with h | h
    · exact h
    · have ha := (appF_is hR el D hL hr).2 ⟨by rw [← he]; exact hd.1, fun j hj => by
        have hj0 := hR.idx _ hL r hr j hj
        have := (hget j.toNat (by omega) e).1 (by rw [show ((j.toNat : Nat) : Int) = j from by omega]; exact hd.2 j hj)
        rw [show ((j.toNat : Nat) : Int) = j from by omega] at this
        exact this.2 he⟩
      rw [h r hr] at ha
      cases ha
  have := hmin c hsol i h0 el.toNat hh
  have h2 := (hget i.toNat (by omega) el.toNat).1 (by rw [show ((i.toNat : Nat) : Int) = i from by omega]; exact this)
  rw [show ((i.toNat : Nat) : Int) = i from by omega] at h2
  exact h2.2 rfl
end Go.Proofs.Ytgjcembdmohhkaa.Fs
