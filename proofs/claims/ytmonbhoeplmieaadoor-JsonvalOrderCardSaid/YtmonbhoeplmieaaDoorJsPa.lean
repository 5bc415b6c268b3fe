/- The plain law of reversed values, first part: limits, validity. -/
import Derived.Test.YtmonbhoeplmieaaDoorJshOr
namespace Go.Proofs.YtmonbhoeplmieaaDoor.Js
open Go.RowKit Go.Proofs.YtmonbhoeplmieaaDoorW.PrintWords
open Go.Proofs.YtmonbhoeplmieaaDoor
set_option linter.unusedVariables false
set_option linter.unusedSimpArgs false
attribute [local instance 0] Classical.propDecidable
mutual
/-- the number of values within -/
def nd : S25 → Nat
  | .mk _ _ _ _ es => 1 + nds es
def nds : List S25 → Nat
  | [] => 0
  | e :: es => nd e + nds es
end
theorem nd_eq (j : S25) : nd j = 1 + nds j.f4 := by cases j; first | (rw [nd]; done) | (rw [nd]; rfl)
theorem nds_nil : nds [] = 0 := by rw [nds]
theorem nds_cons (e : S25) (es : List S25) : nds (e :: es) = nd e + nds es := by rw [nds]
theorem nds_append : ∀ (l m : List S25), nds (l ++ m) = nds l + nds m
  | [], m => by rw [List.nil_append, nds_nil, Nat.zero_add]
  | e :: l, m => by rw [List.cons_append, nds_cons, nds_cons, nds_append l m, Nat.add_assoc]
theorem nds_reverse : ∀ l : List S25, nds l.reverse = nds l
  | [] => rfl
  | e :: l => by rw [List.reverse_cons, nds_append, nds_reverse l, nds_cons, nds_cons, nds_nil]; omega
theorem nds_len : ∀ es : List S25, es.length ≤ nds es
  | [] => Nat.zero_le _
  | e :: es => by rw [nds_cons, List.length_cons, nd_eq]; have := nds_len es; omega
theorem nd_le_nds {e : S25} : ∀ {es : List S25}, e ∈ es → nd e ≤ nds es
  | [], h => by cases h
  | x :: es, h => by
    rw [nds_cons]
    rcases List.mem_cons.1 h with rfl | h
    · omega
    · have := nd_le_nds h; omega
/-- no deeper than -/
def dle : Nat → S25 → Prop
  | 0, _ => False
  | m + 1, j => ∀ e ∈ j.f4, dle m e
mutual
theorem wl_true (d c : Nat) : ∀ j : S25, (wl d c j).1 = true → c + nd j ≤ 400 ∧ d ≤ 20 ∧ dle (21 - d) j ∧ (wl d c j).2 = c + nd j
  | .mk k n t ns es => by
    intro h
    rw [wl_eq] at h ⊢
    by_cases hc : 400 < c + 1 ∨ 20 < d
    · rw [if_pos hc] at h; cases h
    · rw [if_neg hc] at h ⊢
      have hw := wls_true (d + 1) (c + 1) (by omega) es h
      have hs : 21 - d = (20 - d) + 1 := by omega
      refine ⟨by rw [nd_eq]; show c + (1 + nds es) ≤ 400; omega, by omega, ?_, by rw [nd_eq]; show _ = c + (1 + nds es); rw [show (S25.mk k n t ns es).f4 = es from rfl, hw.2.2]; omega⟩
      rw [hs]
      intro e he
      have h_ := hw.2.1 e he
      rw [show 20 - d = 21 - (d + 1) from by omega]
      exact h_.2
theorem wls_true (d c : Nat) (hc : c ≤ 400) : ∀ es : List S25, (wls d c es).1 = true → c + nds es ≤ 400 ∧ (∀ e ∈ es, d ≤ 20 ∧ dle (21 - d) e) ∧ (wls d c es).2 = c + nds es
  | [] => by
    intro _
    rw [wls_nil, nds_nil]
    exact ⟨hc, fun _ h => (by cases h), rfl⟩
  | e :: es => by
    intro h
    rw [wls_cons] at h ⊢
    by_cases h1 : (wl d c e).1 = true
    · rw [if_pos h1] at h ⊢
      have he := wl_true d c e h1
      rw [he.2.2.2] at h ⊢
      have hw := wls_true d (c + nd e) he.1 es h
      rw [nds_cons]
      refine ⟨by omega, fun x hx => ?_, by rw [hw.2.2]; omega⟩
      rcases List.mem_cons.1 hx with rfl | hx
      · exact ⟨he.2.1, he.2.2.1⟩
      · exact hw.2.1 x hx
    · rw [if_neg h1] at h; cases h
end
mutual
theorem wl_of (d c : Nat) : ∀ j : S25, c + nd j ≤ 400 → d ≤ 20 → dle (21 - d) j → wl d c j = (true, c + nd j)
  | .mk k n t ns es => by
    intro h1 h2 h3
    rw [nd_eq] at h1 ⊢
    have h1' : c + (1 + nds es) ≤ 400 := h1
    rw [wl_eq, if_neg (by omega)]
    have hs : 21 - d = (20 - d) + 1 := by omega
    rw [hs] at h3
    show wls (d + 1) (c + 1) es = (true, c + (1 + nds es))
    rw [wls_of (d + 1) (c + 1) es (by omega) (fun e he => by
      have h_ : dle (20 - d) e := h3 e he
      cases hd : 20 - d with
      | zero => rw [hd] at h_; exact h_.elim
      | succ q => exact ⟨by omega, by rw [show 21 - (d + 1) = 20 - d from by omega]; exact h_⟩)]
    rw [show c + 1 + nds es = c + (1 + nds es) from by omega]
theorem wls_of (d c : Nat) : ∀ es : List S25, c + nds es ≤ 400 → (∀ e ∈ es, d ≤ 20 ∧ dle (21 - d) e) → wls d c es = (true, c + nds es)
  | [] => by
    intro _ _
    rw [wls_nil, nds_nil]
    rfl
  | e :: es => by
    intro h1 h2
    rw [nds_cons] at h1 ⊢
    have he := h2 e List.mem_cons_self
    rw [wls_cons, wl_of d c e (by omega) he.1 he.2, if_pos rfl]
    show wls d (c + nd e) es = _
    rw [wls_of d (c + nd e) es (by omega) (fun x hx => h2 x (List.mem_cons_of_mem _ hx)), Nat.add_assoc]
end
theorem lim_iff (j : S25) : (wl 1 0 j).1 = true ↔ nd j ≤ 400 ∧ dle 20 j :=
  ⟨fun h => by have h_ := wl_true 1 0 j h; exact ⟨by omega, h_.2.2.1⟩, fun h => by rw [wl_of 1 0 j (by omega) (by omega) h.2]⟩
theorem vas_iff : ∀ es : List S25, vas es = 0 ↔ ∀ e ∈ es, va e = 0
  | [] => ⟨fun _ _ h => (by cases h), fun _ => vas_nil⟩
  | e :: es => by
    rw [vas_cons]
    by_cases h : va e = 0
    · rw [if_pos h, vas_iff es]
      exact ⟨fun hh x hx => Or.elim (List.mem_cons.1 hx) (fun e_ => by rw [e_]; exact h) (fun h_ => hh x h_), fun hh x hx => hh x (List.mem_cons_of_mem _ hx)⟩
    · rw [if_neg h]
      exact ⟨fun hh => absurd hh h, fun hh => absurd (hh e List.mem_cons_self) h⟩
theorem va_iff (j : S25) : va j = 0 ↔ (0 ≤ j.f0 ∧ j.f0 < 6) ∧ wf j = true ∧ ∀ e ∈ j.f4, va e = 0 := by
  rw [va_eq]
  by_cases h1 : j.f0 < 0 ∨ 6 ≤ j.f0
  · rw [if_pos h1]
    exact ⟨fun h => (by cases h), fun h => (by omega)⟩
  · rw [if_neg h1]
    cases h2 : wf j with
    | false =>
      rw [if_pos rfl]
      exact ⟨fun h => (by cases h), fun h => (by have := h.2.1; cases this)⟩
    | true =>
      rw [if_neg (by decide), vas_iff]
      exact ⟨fun h => ⟨by omega, rfl, h⟩, fun h => h.2.2⟩
/-- what wellFormed lets in -/
theorem wf_obj {j : S25} (h : wf j = true) (hk : j.f0 = 5) : j.f3.length = j.f4.length ∧ j.f3.Nodup := by
  unfold wf wfp at h
  split at h <;> try contradiction
  split at h <;> try contradiction
  split at h <;> try contradiction
  split at h <;> try contradiction
  rename_i h4
  rw [not_and, not_or] at h4
  have h5 := h4 hk
  refine ⟨Classical.not_not.1 h5.1, ?_⟩
  have h6 : decide j.f3.Nodup = true := by cases hd : decide j.f3.Nodup with | true => rfl | false => exact absurd hd h5.2
  exact of_decide_eq_true h6
theorem wf_other {j : S25} (h : wf j = true) (hk : ¬ j.f0 = 5) : j.f3 = [] := by
  unfold wf wfp at h
  split at h <;> try contradiction
  split at h <;> try contradiction
  split at h <;> try contradiction
  split at h <;> try contradiction
  split at h <;> try contradiction
  rename_i h5
  rw [not_and] at h5
  have h6 := h5 hk
  exact List.eq_nil_of_length_eq_zero (by omega)
theorem rv_kind (j : S25) : (rv j).f0 = j.f0 := by
  by_cases h : j.f0 = 5
  · rw [rv_obj h]
  · rw [rv_other h]
theorem rv_elems_len (j : S25) : (rv j).f4.length = j.f4.length := by
  by_cases h : j.f0 = 5
  · rw [rv_obj h]; show ((j.f4.map rv).reverse).length = _; rw [List.length_reverse, List.length_map]
  · rw [rv_other h]; show (j.f4.map rv).length = _; rw [List.length_map]
theorem rv_mem {j x : S25} (h : x ∈ (rv j).f4) : ∃ e ∈ j.f4, x = rv e := by
  by_cases hk : j.f0 = 5
  · rw [rv_obj hk] at h
    have h' : x ∈ (j.f4.map rv).reverse := h
    rw [List.mem_reverse, List.mem_map] at h'
    obtain ⟨e, he, rfl⟩ := h'
    exact ⟨e, he, rfl⟩
  · rw [rv_other hk] at h
    have h' : x ∈ j.f4.map rv := h
    rw [List.mem_map] at h'
    obtain ⟨e, he, rfl⟩ := h'
    exact ⟨e, he, rfl⟩
theorem nodup_rev (l : List ByteArray) : l.reverse.Nodup ↔ l.Nodup := by
  unfold List.Nodup
  rw [List.pairwise_reverse]
  constructor <;> intro h <;> exact h.imp fun hne e => hne e.symm
theorem wf_rv (j : S25) : wf (rv j) = wf j := by
  by_cases hk : j.f0 = 5
  · rw [rv_obj hk]
    unfold wf wfp
    show (if j.f1 < lowJ j.f0 ∨ highJ j.f0 < j.f1 then false else if ¬ j.f2.toList = [] ∧ ¬ j.f0 = 3 then false else if 0 < ((j.f4.map rv).reverse).length ∧ ¬ j.f0 = 4 ∧ ¬ j.f0 = 5 then false else if j.f0 = 5 ∧ (¬ j.f3.reverse.length = ((j.f4.map rv).reverse).length ∨ decide j.f3.reverse.Nodup = false) then false else if ¬ j.f0 = 5 ∧ 0 < j.f3.reverse.length then false else if vtext j.f2 = false then false else j.f3.reverse.all vtext) = _
    rw [List.length_reverse, List.length_reverse, List.length_map, List.all_reverse]
    have hn : decide j.f3.reverse.Nodup = decide j.f3.Nodup := by simp only [nodup_rev]
    rw [hn]
  · rw [rv_other hk]
    unfold wf wfp
    show (if j.f1 < lowJ j.f0 ∨ highJ j.f0 < j.f1 then false else if ¬ j.f2.toList = [] ∧ ¬ j.f0 = 3 then false else if 0 < (j.f4.map rv).length ∧ ¬ j.f0 = 4 ∧ ¬ j.f0 = 5 then false else if j.f0 = 5 ∧ (¬ j.f3.length = (j.f4.map rv).length ∨ decide j.f3.Nodup = false) then false else if ¬ j.f0 = 5 ∧ 0 < j.f3.length then false else if vtext j.f2 = false then false else j.f3.all vtext) = _
    rw [List.length_map]
theorem nd_rv : ∀ n (j : S25), SizeOf.sizeOf j < n → nd (rv j) = nd j
  | 0, _, h => absurd h (Nat.not_lt_zero _)
  | n + 1, j, h => by
    have hm : ∀ es : List S25, (∀ e ∈ es, SizeOf.sizeOf e < n) → nds (es.map rv) = nds es := by
      intro es
      induction es with
      | nil => intro _; rfl
      | cons e es ih =>
        intro hh
        rw [List.map_cons, nds_cons, nds_cons, nd_rv n e (hh e List.mem_cons_self), ih fun x hx => hh x (List.mem_cons_of_mem _ hx)]
    have he : ∀ e ∈ j.f4, SizeOf.sizeOf e < n := fun e he => by have := elem_lt he; omega
    rw [nd_eq, nd_eq j]
    by_cases hk : j.f0 = 5
    · rw [rv_obj hk]; show 1 + nds (j.f4.map rv).reverse = _; rw [nds_reverse, hm _ he]
    · rw [rv_other hk]; show 1 + nds (j.f4.map rv) = _; rw [hm _ he]
theorem dle_rv : ∀ m (j : S25), dle m j → dle m (rv j)
  | 0, _, h => h.elim
  | m + 1, j, h => fun x hx => by
    obtain ⟨e, he, rfl⟩ := rv_mem hx
    exact dle_rv m e (h e he)
theorem dle_mono : ∀ m (j : S25), dle m j → dle (m + 1) j
  | 0, _, h => h.elim
  | m + 1, j, h => fun x hx => dle_mono m x (h x hx)
theorem va_rv : ∀ n (j : S25), SizeOf.sizeOf j < n → va j = 0 → va (rv j) = 0
  | 0, _, h, _ => absurd h (Nat.not_lt_zero _)
  | n + 1, j, h, hv => by
    have h1 := (va_iff j).1 hv
    rw [va_iff, rv_kind, wf_rv]
    refine ⟨h1.1, h1.2.1, fun x hx => ?_⟩
    obtain ⟨e, he, rfl⟩ := rv_mem hx
    exact va_rv n e (by have := elem_lt he; omega) (h1.2.2 e he)
theorem szd_rv : ∀ n (j : S25), SizeOf.sizeOf j < n → szd j → szd (rv j)
  | 0, _, h, _ => absurd h (Nat.not_lt_zero _)
  | n + 1, j, h, hs => by
    have h1 := (szd_eq j).1 hs
    have he : ∀ x ∈ (rv j).f4, szd x := fun x hx => by
      obtain ⟨e, he, rfl⟩ := rv_mem hx
      exact szd_rv n e (by have := elem_lt he; omega) (szds_mem h1.2.2 he)
    rw [szd_eq]
    refine ⟨?_, ?_, szds_of he⟩
    · by_cases hk : j.f0 = 5
      · rw [rv_obj hk]; exact h1.1
      · rw [rv_other hk]; exact h1.1
    · by_cases hk : j.f0 = 5
      · rw [rv_obj hk]; exact fun x hx => h1.2.1 x (List.mem_reverse.1 hx)
      · rw [rv_other hk]; exact h1.2.1
theorem nice_of : ∀ n (j : S25), SizeOf.sizeOf j < n → va j = 0 → nd j ≤ 400 → nice j
  | 0, _, h, _, _ => absurd h (Nat.not_lt_zero _)
  | n + 1, j, h, hv, hn => by
    have h1 := (va_iff j).1 hv
    have h2 : 1 + nds j.f4 ≤ 400 := by rw [← nd_eq]; exact hn
    have h3 := nds_len j.f4
    rw [nice_eq]
    refine ⟨?_, by omega, fun hk => (wf_obj h1.2.1 hk).1, nices_of fun x hx => nice_of n x (by have := elem_lt hx; omega) (h1.2.2 x hx) (by have := nd_le_nds hx; omega)⟩
    by_cases hk : j.f0 = 5
    · rw [(wf_obj h1.2.1 hk).1]; omega
    · rw [wf_other h1.2.1 hk]; simp
theorem valid_iff (j : S25) : valid j = 0 ↔ (nd j ≤ 400 ∧ dle 20 j) ∧ va j = 0 := by
  unfold valid
  rw [← lim_iff]
  cases h : (wl 1 0 j).1 with
  | false =>
    rw [if_pos rfl]
    exact ⟨fun h => (by cases h), fun h => (by cases h.1)⟩
  | true =>
    rw [if_neg (by decide)]
    exact ⟨fun h => ⟨rfl, h⟩, fun h => h.2⟩
theorem valid_rv {j : S25} (h : valid j = 0) : valid (rv j) = 0 := by
  rw [valid_iff] at h ⊢
  exact ⟨⟨by rw [nd_rv _ j (Nat.lt_succ_self _)]; exact h.1.1, dle_rv _ _ h.1.2⟩, va_rv _ j (Nat.lt_succ_self _) h.2⟩
theorem valid_elem {j x : S25} (h : valid j = 0) (hx : x ∈ j.f4) : valid x = 0 := by
  rw [valid_iff] at h ⊢
  have h1 := (va_iff j).1 h.2
  have h2 : 1 + nds j.f4 ≤ 400 := by rw [← nd_eq]; exact h.1.1
  exact ⟨⟨by have := nd_le_nds hx; omega, dle_mono 19 _ (h.1.2 x hx)⟩, h1.2.2 x hx⟩
theorem valid_nice {j : S25} (h : valid j = 0) : nice j := by
  rw [valid_iff] at h
  exact nice_of _ j (Nat.lt_succ_self _) h.2 h.1.1
end Go.Proofs.YtmonbhoeplmieaaDoor.Js
