/- Maps in memory as lists of pairs: what look-up, store, delete, len, clear and range do to the list. No condition. -/
import Derived.Maps.Keyed
import Derived.Maps.RangeRun
import Derived.Maps.Own
import Derived.Maps.OwnOps
import Derived.Maps.OwnSet
import Derived.Maps.RangeWalk
import Derived.WalkKit
import Derived.Carry
import Derived.Below
set_option linter.unusedVariables false
set_option linter.unusedSimpArgs false
set_option linter.unusedSectionVars false
namespace Go.Proofs.YtmonbhoeplmieaaDoor.Mp
open Go.RowKit
open Go.ChangeMaps (setBlock)
open Go.MapKept
open Go.Maps (Keyed)

section
variable {κ β : Type} [DecidableEq κ]
/-- the list's words: first hit; replaced in its place, or put behind; struck -/
def aget (l : List (κ × β)) (x : κ) : Option β := (l.find? fun p => decide (p.1 = x)).map (·.2)
def aset (l : List (κ × β)) (x : κ) (v : β) : List (κ × β) := if l.any (fun p => decide (p.1 = x)) then l.map (fun p => if p.1 = x then (x, v) else p) else l ++ [(x, v)]
def adel (l : List (κ × β)) (x : κ) : List (κ × β) := l.filter fun p => !decide (p.1 = x)

theorem aget_nil (x : κ) : aget ([] : List (κ × β)) x = none := rfl
theorem aget_cons (p : κ × β) (l : List (κ × β)) (x : κ) : aget (p :: l) x = if p.1 = x then some p.2 else aget l x := by
  unfold aget
  by_cases h : p.1 = x <;> simp [h]
theorem aget_append (l r : List (κ × β)) (x : κ) : aget (l ++ r) x = (aget l x).or (aget r x) := by
  unfold aget
  rw [List.find?_append]
  cases l.find? (fun p => decide (p.1 = x)) <;> simp
theorem aget_none {l : List (κ × β)} {x : κ} : aget l x = none ↔ ∀ p ∈ l, p.1 ≠ x := by
  unfold aget; simp
theorem any_iff {l : List (κ × β)} {x : κ} : l.any (fun p => decide (p.1 = x)) = true ↔ aget l x ≠ none := by
  rw [Ne, aget_none]
  simp
theorem aget_mem {l : List (κ × β)} {x : κ} {v : β} (h : aget l x = some v) : (x, v) ∈ l := by
  unfold aget at h
  obtain ⟨p, hp, rfl⟩ := Option.map_eq_some_iff.1 h
  have h1 := List.find?_some hp
  have h2 := List.mem_of_find?_eq_some hp
  simp at h1
  rw [← h1]; exact h2
theorem aget_of_mem {l : List (κ × β)} (hd : l.Pairwise (fun p q => p.1 ≠ q.1)) {x : κ} {v : β} (h : (x, v) ∈ l) : aget l x = some v := by
  induction l with
  | nil => cases h
  | cons p l ih =>
    rw [aget_cons]
    obtain ⟨h1, h2⟩ := List.pairwise_cons.1 hd
    rcases List.mem_cons.1 h with rfl | h
    · rw [if_pos rfl]
    · rw [if_neg (h1 _ h)]; exact ih h2 h
theorem aset_apart {l : List (κ × β)} (hd : l.Pairwise (fun p q => p.1 ≠ q.1)) (x : κ) (v : β) : (aset l x v).Pairwise (fun p q => p.1 ≠ q.1) := by
  unfold aset
  split
  · rw [List.pairwise_map]
    refine hd.imp ?_
    intro p q hpq
    by_cases h1 : p.1 = x <;> by_cases h2 : q.1 = x <;> simp [h1, h2]
    · exact hpq (h1.trans h2.symm)
    · exact fun e => h2 e.symm
    · exact hpq
  · rename_i hn
    have hn' : aget l x = none := by
      cases h : aget l x with
      | none => rfl
      | some v => exact absurd (any_iff.2 (by rw [h]; simp)) hn
    rw [List.pairwise_append]
    refine ⟨hd, List.pairwise_singleton _ _, fun p hp q hq => ?_⟩
    rw [List.mem_singleton] at hq
    rw [hq]
    exact aget_none.1 hn' p hp
theorem aget_aset (l : List (κ × β)) (x y : κ) (v : β) : aget (aset l x v) y = if x = y then some v else aget l y := by
  unfold aset
  split
  · rename_i hany
    induction l with
    | nil => simp at hany
    | cons p l ih =>
      rw [List.map_cons, aget_cons, aget_cons]
      by_cases hp : p.1 = x
      · by_cases hy : x = y
        · simp [hp, hy]
        · have e1 : ¬ p.1 = y := fun e => hy (hp.symm.trans e)
          simp only [hp, if_true, if_neg hy]
          by_cases hl : l.any (fun p => decide (p.1 = x)) = true
          · rw [ih hl, if_neg hy]
          · have e2 : l.map (fun p => if p.1 = x then (x, v) else p) = l := by
              rw [List.map_congr_left (g := id)]
              · simp
              · intro q hq
                have : ¬ q.1 = x := fun e => hl (List.any_eq_true.2 ⟨q, hq, by simp [e]⟩)
                simp [this]
            rw [e2]
      · rw [if_neg hp]
        have hl : l.any (fun p => decide (p.1 = x)) = true := by simpa [hp] using hany
        by_cases hpy : p.1 = y
        · have : ¬ x = y := fun e => hp (hpy.trans e.symm)
          simp [hpy, this]
        · simp only [if_neg hpy]
          exact ih hl
  · rename_i hn
    have hn' : aget l x = none := by
      cases h : aget l x with
      | none => rfl
      | some v => exact absurd (any_iff.2 (by rw [h]; simp)) hn
    rw [aget_append, aget_cons, aget_nil]
    by_cases hy : x = y
    · subst hy; simp [hn']
    · simp [hy]
theorem aget_adel (l : List (κ × β)) (x y : κ) : aget (adel l x) y = if x = y then none else aget l y := by
  unfold adel
  induction l with
  | nil => simp [aget]
  | cons p l ih =>
    rw [List.filter_cons]
    by_cases hp : p.1 = x
    · simp only [hp, decide_true, Bool.not_true, Bool.false_eq_true, if_false]
      rw [ih, aget_cons]
      by_cases hy : x = y
      · simp [hy]
      · have : ¬ p.1 = y := fun e => hy (hp.symm.trans e)
        simp [hy, this]
    · simp only [hp, decide_false, Bool.not_false, if_true]
      rw [aget_cons, aget_cons, ih]
      by_cases hpy : p.1 = y
      · have : ¬ x = y := fun e => hp (hpy.trans e.symm)
        simp [hpy, this]
      · rw [if_neg hpy, if_neg hpy]
def vals {β γ : Type} (g : β → γ) (l : List (κ × β)) : List (κ × γ) := l.map fun p => (p.1, g p.2)
theorem vals_nil {γ : Type} (g : β → γ) : vals g ([] : List (κ × β)) = [] := rfl
theorem vals_length {γ : Type} (g : β → γ) (l : List (κ × β)) : (vals g l).length = l.length := List.length_map _
theorem aset_vals {γ : Type} (g : β → γ) (l : List (κ × β)) (x : κ) (v : β) : aset (vals g l) x (g v) = vals g (aset l x v) := by
  unfold aset vals
  have e : (l.map fun p => (p.1, g p.2)).any (fun p => decide (p.1 = x)) = l.any (fun p => decide (p.1 = x)) := by rw [List.any_map]; rfl
  rw [e]
  split
  · rw [List.map_map, List.map_map]
    apply List.map_congr_left
    intro p _
    by_cases hp : p.1 = x <;> simp [hp]
  · simp
theorem aget_vals {γ : Type} (g : β → γ) (l : List (κ × β)) (x : κ) : aget (vals g l) x = (aget l x).map g := by
  induction l with
  | nil => rfl
  | cons p l ih =>
    show aget ((p.1, g p.2) :: vals g l) x = _
    rw [aget_cons, aget_cons, ih]
    by_cases hp : p.1 = x <;> simp [hp]
theorem adel_vals {γ : Type} (g : β → γ) (l : List (κ × β)) (x : κ) : adel (vals g l) x = vals g (adel l x) := by
  unfold adel vals
  rw [List.filter_map]
  rfl
theorem vals_split {γ : Type} {g : β → γ} {l : List (κ × β)} {x : κ} {v : γ} {pre post : List (κ × γ)} (h : vals g l = pre ++ (x, v) :: post) : ∃ l1 u l2, l = l1 ++ (x, u) :: l2 ∧ pre = vals g l1 ∧ post = vals g l2 ∧ v = g u := by
  obtain ⟨l1, l', rfl, h1, h2⟩ := List.map_eq_append_iff.1 h
  obtain ⟨p, l2, rfl, h3, h4⟩ := List.map_eq_cons_iff.1 h2
  simp only [Prod.mk.injEq] at h3
  exact ⟨l1, p.2, l2, by rw [← h3.1], h1.symm, h4.symm, h3.2.symm⟩
theorem adel_apart {l : List (κ × β)} (hd : l.Pairwise (fun p q => p.1 ≠ q.1)) (x : κ) : (adel l x).Pairwise (fun p q => p.1 ≠ q.1) := hd.filter _
end

section
variable {κ : Type} [DecidableEq κ] {P : Program} {kt : TypeId} {enc : κ → Value} {w : World} {b : Nat}

/-- block b of w is a map with these entries; they read as the pairs of l -/
structure Is (P : Program) (kt : TypeId) (enc : κ → Value) (w : World) (b : Nat) (es : Array MapEntry) (clock : Nat) (l : List (κ × Value)) : Prop where
  blk : w.heap[b]? = some (.map es clock)
  reads : es.toList.map (fun e => (e.key, e.val)) = l.map (fun p => (enc p.1, p.2))
  keys : ∀ p ∈ l, ∃ lit, keyOf P kt (enc p.1) = some lit
  apart : l.Pairwise (fun p q => p.1 ≠ q.1)
  born : ∀ e ∈ es.toList, e.born < clock
  nodup : (es.toList.map (·.born)).Nodup
def At (P : Program) (kt : TypeId) (enc : κ → Value) (w : World) (b : Nat) (l : List (κ × Value)) : Prop := ∃ es clock, Is P kt enc w b es clock l

theorem at_made (P : Program) (kt : TypeId) (enc : κ → Value) (w : World) : At P kt enc (w.alloc (.map #[] 0)) w.heap.size [] :=
  ⟨#[], 0, by show (w.heap.push _)[w.heap.size]? = _; simp, rfl, by simp, List.Pairwise.nil, by simp, by simp⟩
theorem At.keep {l : List (κ × Value)} {w' : World} (h : At P kt enc w b l) (e : w'.heap[b]? = w.heap[b]?) : At P kt enc w' b l := by
  obtain ⟨es, clock, h⟩ := h
  exact ⟨es, clock, e.trans h.blk, h.reads, h.keys, h.apart, h.born, h.nodup⟩
theorem At.grown {l : List (κ × Value)} {w' : World} {row : Option Nat} (h : At P kt enc w b l) (g : w.grownBy w' row) (e : some b ≠ row) : At P kt enc w' b l := by
  have hlt : b < w.heap.size := by
    obtain ⟨es, clock, h⟩ := h
    exact (Array.getElem?_eq_some_iff.1 h.blk).1
  exact h.keep (g.block b hlt e)
theorem At.below {l : List (κ × Value)} {w' : World} (h : At P kt enc w b l) (g : Below w.heap.size w w') : At P kt enc w' b l := by
  have hlt : b < w.heap.size := by
    obtain ⟨es, clock, h⟩ := h
    exact (Array.getElem?_eq_some_iff.1 h.blk).1
  exact h.keep (g.block b hlt)
theorem At.set {l : List (κ × Value)} (h : At P kt enc w b l) {p : Addr} (hp : b ≠ p.block) (u : Value) : At P kt enc (w.setCell p u) b l := h.keep (Below.heap_setCell w p u b hp)
theorem At.drew {l : List (κ × Value)} (h : At P kt enc w b l) : At P kt enc w.drew b l := h.keep rfl
theorem At.alloc {l : List (κ × Value)} (h : At P kt enc w b l) (ob : Obj) : At P kt enc (w.alloc ob) b l := by
  have hlt : b < w.heap.size := by
    obtain ⟨es, clock, h⟩ := h
    exact (Array.getElem?_eq_some_iff.1 h.blk).1
  exact h.keep (Below.heap_alloc w ob b hlt)
theorem At.lt {l : List (κ × Value)} (h : At P kt enc w b l) : b < w.heap.size := by
  obtain ⟨es, clock, h⟩ := h
  exact (Array.getElem?_eq_some_iff.1 h.blk).1
theorem At.apart {l : List (κ × Value)} (h : At P kt enc w b l) : l.Pairwise (fun p q => p.1 ≠ q.1) := by
  obtain ⟨es, clock, h⟩ := h; exact h.apart
theorem At.keys {l : List (κ × Value)} (h : At P kt enc w b l) : ∀ p ∈ l, ∃ lit, keyOf P kt (enc p.1) = some lit := by
  obtain ⟨es, clock, h⟩ := h; exact h.keys

section
variable {es : Array MapEntry} {clock : Nat} {l : List (κ × Value)}
theorem Is.length (h : Is P kt enc w b es clock l) : es.toList.length = l.length := by simpa using congrArg List.length h.reads
theorem Is.nth (h : Is P kt enc w b es clock l) {j : Nat} {e : MapEntry} (he : es.toList[j]? = some e) : ∃ p, l[j]? = some p ∧ e.key = enc p.1 ∧ e.val = p.2 := by
  have h1 := congrArg (fun x => x[j]?) h.reads
  simp only [List.getElem?_map, he, Option.map_some] at h1
  obtain ⟨p, hp, hq⟩ := Option.map_eq_some_iff.1 h1.symm
  simp only [Prod.mk.injEq] at hq
  exact ⟨p, hp, hq.1.symm, hq.2.symm⟩
theorem Is.entry_keys (h : Is P kt enc w b es clock l) : ∀ e ∈ es.toList, ∃ lit, keyOf P kt e.key = some lit := fun e he => by
  obtain ⟨j, hj, rfl⟩ := List.getElem_of_mem he
  obtain ⟨p, hp, hk, _⟩ := h.nth (List.getElem?_eq_getElem hj)
  rw [hk]; exact h.keys p (List.mem_of_getElem? hp)

/-- the search: no entry, or the one at its place -/
theorem Is.find (K : Keyed P kt) (inj : ∀ a b, enc a = enc b → a = b) (h : Is P kt enc w b es clock l) {x : κ} {lx : Lit} (hx : keyOf P kt (enc x) = some lx) :
    ((Instr.findKey kt (enc x) es.toList).run P w = .ok none w ∧ aget l x = none) ∨
    ∃ j e v, (Instr.findKey kt (enc x) es.toList).run P w = .ok (some (j, v)) w ∧ es.toList[j]? = some e ∧ e.key = enc x ∧ l[j]? = some (x, v) ∧ e.val = v ∧ aget l x = some v := by
  rcases K.find w hx es.toList h.entry_keys with ⟨h1, h2⟩ | ⟨j, e, h1, h2, h3⟩
  · refine Or.inl ⟨h1, aget_none.2 fun p hp e1 => ?_⟩
    obtain ⟨j, hj, rfl⟩ := List.getElem_of_mem hp
    have hj' : j < es.toList.length := by rw [h.length]; exact hj
    obtain ⟨p', hp', hk, _⟩ := h.nth (List.getElem?_eq_getElem hj')
    rw [List.getElem?_eq_getElem hj] at hp'
    cases hp'
    exact h2 _ (List.getElem_mem hj') (by rw [hk, e1])
  · obtain ⟨p, hp, hk, hv⟩ := h.nth h2
    have e1 : p.1 = x := inj _ _ (hk.symm.trans h3)
    have e2 : p = (x, e.val) := by rw [← e1, hv]
    refine Or.inr ⟨j, e, e.val, h1, h2, h3, by rw [hp, e2], rfl, ?_⟩
    exact aget_of_mem h.apart (by rw [← e2]; exact List.mem_of_getElem? hp)
end

/-- 'm[k]', 'v, ok := m[k]' -/
theorem At.look {l : List (κ × Value)} (c : Bool) (K : Keyed P kt) (inj : ∀ a b, enc a = enc b → a = b) {T et : TypeId} (ht : P.underlying T = some (.map kt et)) {z : Value} (hz : (zeroValue et).run P w = .ok z w) (h : At P kt enc w b l) {x : κ} {lx : Lit} (hx : keyOf P kt (enc x) = some lx) :
    (Instr.lookup T (.map (some b)) (enc x) c).run P w = .ok (if c then .tuple #[(aget l x).getD z, .bool (aget l x).isSome] else (aget l x).getD z) w := by
  obtain ⟨es, clock, h⟩ := h
  rcases h.find K inj hx with ⟨h1, h2⟩ | ⟨j, e, v, h1, _, _, _, _, h6⟩
  · simp [Instr.lookup, run_underlying ht, MapKept.run_getObj_map h.blk, K.check w _ hx, h1, hz, h2, Result.andThen]
  · simp [Instr.lookup, run_underlying ht, MapKept.run_getObj_map h.blk, K.check w _ hx, h1, h6, Result.andThen]

/-- a nil map reads as empty -/
theorem look_nil {kt et T : TypeId} (c : Bool) (K : Keyed P kt) (ht : P.underlying T = some (.map kt et)) {z : Value} (hz : (zeroValue et).run P w = .ok z w) {x : Value} {lx : Lit} (hx : keyOf P kt x = some lx) :
    (Instr.lookup T (.map none) x c).run P w = .ok (if c then .tuple #[z, .bool false] else z) w := Go.Maps.look_nil (w := w) c K ht hz hx

theorem setBlock_heap {w : World} {b : Nat} (o : Obj) (h : b < w.heap.size) : (setBlock w b o).heap[b]? = some o := by
  simp [setBlock, h]
theorem setBlock_other {w : World} {b i : Nat} (o : Obj) (h : i ≠ b) : (setBlock w b o).heap[i]? = w.heap[i]? := by
  simp [setBlock, Array.getElem?_setIfInBounds, h.symm]
theorem setBlock_size {w : World} {b : Nat} (o : Obj) : (setBlock w b o).heap.size = w.heap.size := by simp [setBlock]

/-- 'm[k] = v' -/
theorem At.store {l : List (κ × Value)} (K : Keyed P kt) (inj : ∀ a b, enc a = enc b → a = b) {T et : TypeId} (ht : P.underlying T = some (.map kt et)) (h : At P kt enc w b l) {x : κ} {lx : Lit} (hx : keyOf P kt (enc x) = some lx) (v : Value) :
    ∃ o, (Instr.mapUpdate T (.map (some b)) (enc x) v).run P w = .ok () (setBlock w b o) ∧ At P kt enc (setBlock w b o) b (aset l x v) := by
  obtain ⟨es, clock, h⟩ := h
  have hlt := (Array.getElem?_eq_some_iff.1 h.blk).1
  have hkeys : ∀ p ∈ aset l x v, ∃ lit, keyOf P kt (enc p.1) = some lit := by
    intro p hp
    unfold aset at hp
    split at hp
    · obtain ⟨q, hq, rfl⟩ := List.mem_map.1 hp
      by_cases hq1 : q.1 = x
      · simp only [hq1, if_true]; exact ⟨lx, hx⟩
      · rw [if_neg hq1]; exact h.keys q hq
    · rcases List.mem_append.1 hp with hp | hp
      · exact h.keys p hp
      · rw [List.mem_singleton] at hp; rw [hp]; exact ⟨lx, hx⟩
  rcases h.find K inj hx with ⟨h1, h2⟩ | ⟨j, e, u, h1, h3, h4, h5, h6, h7⟩
  · refine ⟨.map (es.push ⟨enc x, v, clock⟩) (clock + 1), ?_, es.push ⟨enc x, v, clock⟩, clock + 1, setBlock_heap _ hlt, ?_, hkeys, aset_apart h.apart x v, ?_, ?_⟩
    · simp [Instr.mapUpdate, run_underlying ht, MapKept.run_getObj_map h.blk, K.check w false hx, h1, MapKept.run_setObj_map _ h.blk, Result.andThen, setBlock]
    · have hn : ¬ l.any (fun p => decide (p.1 = x)) = true := fun ha => any_iff.1 ha h2
      unfold aset
      rw [if_neg hn]
      simp only [Array.toList_push, List.map_append, List.map_cons, List.map_nil, h.reads]
    · intro e he
      simp only [Array.toList_push, List.mem_append, List.mem_singleton] at he
      rcases he with he | rfl
      · exact Nat.lt_succ_of_lt (h.born e he)
      · exact Nat.lt_succ_self _
    · simp only [Array.toList_push, List.map_append, List.map_cons, List.map_nil]
      rw [List.nodup_append]
      refine ⟨h.nodup, by simp, fun a ha c hc => ?_⟩
      rw [List.mem_singleton] at hc
      obtain ⟨e, he, rfl⟩ := List.mem_map.1 ha
      have := h.born e he
      omega
  · have hj : es[j]? = some e := by simpa using h3
    have hjl : j < l.length := (List.getElem?_eq_some_iff.1 h5).1
    have hlist : (es.modify j (fun e' => { e' with key := enc x, val := v })).toList = es.toList.set j { e with key := enc x, val := v } := by rw [Array.toList_modify, ChangeMaps.modify_eq_set _ _ _ _ h3]
    refine ⟨.map (es.modify j (fun e' => { e' with key := enc x, val := v })) clock, ?_, _, clock, setBlock_heap _ hlt, ?_, hkeys, aset_apart h.apart x v, ?_, ?_⟩
    · simp [Instr.mapUpdate, run_underlying ht, MapKept.run_getObj_map h.blk, K.check w false hx, h1, hj, h4, K.stays w hx, MapKept.run_setObj_map _ h.blk, Result.andThen, setBlock]
    · have ha : l.any (fun p => decide (p.1 = x)) = true := any_iff.2 (by rw [h7]; simp)
      unfold aset
      rw [if_pos ha, hlist, List.map_set, h.reads, List.map_map]
      apply List.ext_getElem?
      intro i
      rw [List.getElem?_set]
      simp only [List.getElem?_map, List.length_map]
      by_cases hij : j = i
      · subst hij
        rw [if_pos rfl, if_pos hjl, h5]
        simp
      · rw [if_neg hij]
        cases hi : l[i]? with
        | none => rfl
        | some q =>
          have hq : ¬ q.1 = x := fun eq => by
            have hil := (List.getElem?_eq_some_iff.1 hi).1
            have e5 := (List.getElem?_eq_some_iff.1 h5).2
            have ei := (List.getElem?_eq_some_iff.1 hi).2
            have hp := List.pairwise_iff_getElem.1 h.apart
            rcases Nat.lt_or_gt_of_ne hij with hlt' | hgt'
            · exact hp j i hjl hil hlt' (by rw [e5, ei, eq])
            · exact hp i j hil hjl hgt' (by rw [e5, ei, eq])
          simp [hq]
    · intro e' he'
      rw [hlist] at he'
      rcases List.mem_or_eq_of_mem_set he' with he' | rfl
      · exact h.born e' he'
      · exact h.born e (List.mem_of_getElem? h3)
    · rw [hlist, List.map_set]
      have e1 : (es.toList.map (·.born)).set j e.born = es.toList.map (·.born) := by
        apply List.ext_getElem?
        intro i
        rw [List.getElem?_set]
        by_cases hij : j = i
        · subst hij
          simp [h3]
          exact (List.getElem?_eq_some_iff.1 h3).1
        · rw [if_neg hij]
      show ((es.toList.map (·.born)).set j e.born).Nodup
      rw [e1]; exact h.nodup

/-- 'delete(m, k)' -/
theorem At.drop {l : List (κ × Value)} (K : Keyed P kt) (inj : ∀ a b, enc a = enc b → a = b) {T et : TypeId} (ht : P.underlying T = some (.map kt et)) (h : At P kt enc w b l) {x : κ} {lx : Lit} (hx : keyOf P kt (enc x) = some lx) (ty : TypeId) :
    ∃ o, (Builtin.delete_ #[T, kt] ty #[.map (some b), enc x]).run P w = .ok (.tuple #[]) (setBlock w b o) ∧ At P kt enc (setBlock w b o) b (adel l x) := by
  obtain ⟨es, clock, h⟩ := h
  have hlt := (Array.getElem?_eq_some_iff.1 h.blk).1
  have hkeys : ∀ p ∈ adel l x, ∃ lit, keyOf P kt (enc p.1) = some lit := fun p hp => h.keys p (List.mem_filter.1 hp).1
  rcases h.find K inj hx with ⟨h1, h2⟩ | ⟨j, e, u, h1, h3, h4, h5, h6, h7⟩
  · refine ⟨.map es clock, ?_, es, clock, setBlock_heap _ hlt, ?_, hkeys, adel_apart h.apart x, h.born, h.nodup⟩
    · simp [Builtin.delete_, run_underlying ht, MapKept.run_getObj_map h.blk, K.check w _ hx, h1, MapKept.run_setObj_map _ h.blk, Result.andThen, setBlock]
    · rw [h.reads]
      have : adel l x = l := List.filter_eq_self.2 fun p hp => by simpa using aget_none.1 h2 p hp
      rw [this]
  · have hjl : j < es.toList.length := (List.getElem?_eq_some_iff.1 h3).1
    have hjs : j < es.size := by simpa using hjl
    have hsub : (es.eraseIdxIfInBounds j).toList = es.toList.eraseIdx j := by
      unfold Array.eraseIdxIfInBounds
      rw [dif_pos hjs]
      simp
    have hll : j < l.length := (List.getElem?_eq_some_iff.1 h5).1
    have hdel : adel l x = l.eraseIdx j := by
      have hp := List.pairwise_iff_getElem.1 h.apart
      have e5 := (List.getElem?_eq_some_iff.1 h5).2
      have hsplit : l = l.take j ++ l[j] :: l.drop (j + 1) := by rw [List.getElem_cons_drop, List.take_append_drop]
      have hne : ∀ i (hi : i < l.length), i ≠ j → ¬ (l[i]).1 = x := fun i hi hij eq => by
        rcases Nat.lt_or_gt_of_ne hij with hlt' | hgt'
        · exact hp i j hi hll hlt' (by rw [e5, eq])
        · exact hp j i hll hi hgt' (by rw [e5, eq])
      unfold adel
      rw [List.eraseIdx_eq_take_drop_succ]
      conv => lhs; rw [hsplit]
      rw [List.filter_append, List.filter_cons]
      have f1 : (l.take j).filter (fun p => !decide (p.1 = x)) = l.take j := List.filter_eq_self.2 fun p hp' => by
        obtain ⟨i, hi, rfl⟩ := List.getElem_of_mem hp'
        rw [List.length_take] at hi
        rw [List.getElem_take]
        simpa using hne i (by omega) (by omega)
      have f2 : (l.drop (j + 1)).filter (fun p => !decide (p.1 = x)) = l.drop (j + 1) := List.filter_eq_self.2 fun p hp' => by
        obtain ⟨i, hi, rfl⟩ := List.getElem_of_mem hp'
        rw [List.length_drop] at hi
        rw [List.getElem_drop]
        simpa using hne (j + 1 + i) (by omega) (by omega)
      rw [f1, f2, e5]
      simp
    refine ⟨.map (es.eraseIdxIfInBounds j) clock, ?_, _, clock, setBlock_heap _ hlt, ?_, hkeys, adel_apart h.apart x, ?_, ?_⟩
    · simp [Builtin.delete_, run_underlying ht, MapKept.run_getObj_map h.blk, K.check w _ hx, h1, MapKept.run_setObj_map _ h.blk, Result.andThen, setBlock]
    · rw [hsub, hdel, ChangeMaps.map_eraseIdx, ChangeMaps.map_eraseIdx, h.reads]
    · intro e' he'
      rw [hsub] at he'
      exact h.born e' ((List.eraseIdx_sublist _ _).subset he')
    · rw [hsub, ChangeMaps.map_eraseIdx]
      exact h.nodup.sublist (List.eraseIdx_sublist _ _)

/-- 'len(m)' -/
theorem At.len {l : List (κ × Value)} {T et : TypeId} (ht : P.underlying T = some (.map kt et)) (h : At P kt enc w b l) (ty : TypeId) : (Builtin.len_ #[T] ty #[.map (some b)]).run P w = .ok (.int .i64 l.length) w := by
  obtain ⟨es, clock, h⟩ := h
  have : es.size = l.length := by rw [← h.length, Array.length_toList]
  simp [Builtin.len_, run_underlying ht, MapKept.run_getObj_map h.blk, goInt, Result.andThen, this]

/-- 'clear(m)' -/
theorem At.wipe {l : List (κ × Value)} {T et : TypeId} (ht : P.underlying T = some (.map kt et)) (h : At P kt enc w b l) (ty : TypeId) :
    ∃ o, (Builtin.clear_ #[T] ty #[.map (some b)]).run P w = .ok (.tuple #[]) (setBlock w b o) ∧ At P kt enc (setBlock w b o) b [] := by
  obtain ⟨es, clock, h⟩ := h
  have hlt := (Array.getElem?_eq_some_iff.1 h.blk).1
  refine ⟨.map #[] clock, ?_, #[], clock, setBlock_heap _ hlt, rfl, by simp, List.Pairwise.nil, by simp, by simp⟩
  simp [Builtin.clear_, run_underlying ht, MapKept.run_getObj_map h.blk, MapKept.run_setObj_map _ h.blk, Result.andThen, setBlock]

/-! ### 'for k, v := range m' over a map that is not written meanwhile -/
/-- block r is an iterator over map b; 'todo': what is still to come, in some order -/
structure Iter (P : Program) (kt : TypeId) (enc : κ → Value) (w : World) (b r : Nat) (l todo : List (κ × Value)) : Prop where
  ex : ∃ es clock seen, Is P kt enc w b es clock l ∧ w.heap[r]? = some (.mapIter (some b) clock seen clock) ∧ ((leftOf es seen).toList.map fun e => (e.key, e.val)) = todo.map (fun p => (enc p.1, p.2)) ∧ ∀ p ∈ todo, p ∈ l

theorem Iter.keep {l todo : List (κ × Value)} {r : Nat} {w' : World} (h : Iter P kt enc w b r l todo) (e : w'.heap[b]? = w.heap[b]?) (e' : w'.heap[r]? = w.heap[r]?) : Iter P kt enc w' b r l todo := by
  obtain ⟨es, clock, seen, h, hr, ht, hm⟩ := h
  exact ⟨es, clock, seen, ⟨e.trans h.blk, h.reads, h.keys, h.apart, h.born, h.nodup⟩, e'.trans hr, ht, hm⟩
theorem Iter.at {l todo : List (κ × Value)} {r : Nat} (h : Iter P kt enc w b r l todo) : At P kt enc w b l := by
  obtain ⟨es, clock, seen, h, _⟩ := h
  exact ⟨es, clock, h⟩

theorem Iter.lt {l todo : List (κ × Value)} {r : Nat} (h : Iter P kt enc w b r l todo) : b < w.heap.size ∧ r < w.heap.size := by
  obtain ⟨es, clock, seen, h, hr, _⟩ := h
  exact ⟨(Array.getElem?_eq_some_iff.1 h.blk).1, (Array.getElem?_eq_some_iff.1 hr).1⟩
theorem Iter.grown {l todo : List (κ × Value)} {r : Nat} {w' : World} {row : Option Nat} (h : Iter P kt enc w b r l todo) (g : w.grownBy w' row) (e : some b ≠ row) (e' : some r ≠ row) : Iter P kt enc w' b r l todo := h.keep (g.block b h.lt.1 e) (g.block r h.lt.2 e')
theorem Iter.below {l todo : List (κ × Value)} {r : Nat} {w' : World} (h : Iter P kt enc w b r l todo) (g : Below w.heap.size w w') : Iter P kt enc w' b r l todo := h.keep (g.block b h.lt.1) (g.block r h.lt.2)
theorem Iter.set {l todo : List (κ × Value)} {r : Nat} (h : Iter P kt enc w b r l todo) {p : Addr} (hp : b ≠ p.block) (hp' : r ≠ p.block) (u : Value) : Iter P kt enc (w.setCell p u) b r l todo := h.keep (Below.heap_setCell w p u b hp) (Below.heap_setCell w p u r hp')
theorem Iter.alloc {l todo : List (κ × Value)} {r : Nat} (h : Iter P kt enc w b r l todo) (ob : Obj) : Iter P kt enc (w.alloc ob) b r l todo := h.keep (Below.heap_alloc w ob b h.lt.1) (Below.heap_alloc w ob r h.lt.2)

/-- 'range' at the loop's head -/
theorem At.range {l : List (κ × Value)} {T et : TypeId} (ht : P.underlying T = some (.map kt et)) (h : At P kt enc w b l) :
    ∃ o, (Instr.range T (.map (some b))).run P w = .ok (.pointer (some ⟨w.heap.size, 0, none⟩)) (w.alloc o) ∧ Iter P kt enc (w.alloc o) b w.heap.size l l := by
  obtain ⟨es, clock, h⟩ := h
  have hlt := (Array.getElem?_eq_some_iff.1 h.blk).1
  refine ⟨.mapIter (some b) clock #[] clock, ?_, es, clock, #[], ⟨?_, h.reads, h.keys, h.apart, h.born, h.nodup⟩, ?_, ?_, fun p hp => hp⟩
  · simp [Instr.range, run_underlying ht, MapKept.run_getObj_map h.blk, newObj, Sem.run, Result.andThen]
  · rw [← h.blk]; show (w.heap.push _)[b]? = _; simp [Array.getElem?_push, Nat.ne_of_lt hlt]
  · show (w.heap.push _)[w.heap.size]? = _; simp
  · rw [← h.reads]
    have : leftOf es #[] = es := by unfold leftOf; simp
    rw [this]

/-- a step: nothing is left; or one pair comes out, whichever the tape says -/
theorem Iter.next {l todo : List (κ × Value)} {r : Nat} (ty : TypeId) (inj : ∀ a b, enc a = enc b → a = b) (h : Iter P kt enc w b r l todo) :
    (todo = [] ∧ (Instr.next (.pointer (some ⟨r, 0, none⟩)) false ty).run P w = .ok (.tuple #[.bool false]) w) ∨
    ∃ x v pre post w1 o, todo = pre ++ (x, v) :: post ∧ (w1 = w ∨ w1 = w.drew) ∧ (Instr.next (.pointer (some ⟨r, 0, none⟩)) false ty).run P w = .ok (.tuple #[.bool true, enc x, v]) (setBlock w1 r o) ∧
      Iter P kt enc (setBlock w1 r o) b r l (pre ++ post) ∧ (Instr.entry (.pointer (some ⟨r, 0, none⟩))).run P (setBlock w1 r o) = .ok (.tuple #[enc x, v]) (setBlock w1 r o) := by
  obtain ⟨es, clock, seen, h, hr, ht, hm⟩ := h
  have hbr : b ≠ r := fun e => by
    have := h.blk
    rw [e, hr] at this
    cases this
  rcases run_next_at (P := P) w ty r b clock clock seen es clock hr h.blk h.born (Nat.le_refl _) with ⟨h0, hrun⟩ | ⟨e, he, w1, hw1, hrun⟩
  · refine Or.inl ⟨?_, hrun⟩
    have h1 : (leftOf es seen).toList.length = 0 := by rw [Array.length_toList]; exact h0
    have h2 := congrArg List.length ht
    rw [List.length_map, List.length_map, h1] at h2
    exact List.eq_nil_of_length_eq_zero h2.symm
  · obtain ⟨j, hj, hej⟩ := List.getElem_of_mem he
    have hjt : j < todo.length := by
      have h2 := congrArg List.length ht
      rw [List.length_map, List.length_map] at h2
      omega
    have hpj : (e.key, e.val) = (enc (todo[j]).1, (todo[j]).2) := by
      have h3 := congrArg (fun z => z[j]?) ht
      simp only [List.getElem?_map] at h3
      rw [List.getElem?_eq_getElem hj, List.getElem?_eq_getElem hjt] at h3
      simp only [Option.map_some, Option.some.injEq] at h3
      rw [← hej]; exact h3
    have hlt : r < w1.heap.size := by
      have h1 := (Array.getElem?_eq_some_iff.1 hr).1
      rcases hw1 with rfl | rfl <;> exact h1
    have hbw : w1.heap[b]? = some (.map es clock) := by rcases hw1 with rfl | rfl <;> exact h.blk
    simp only [Prod.mk.injEq] at hpj
    refine Or.inr ⟨(todo[j]).1, (todo[j]).2, todo.take j, todo.drop (j + 1), w1, .mapIter (some b) clock (seen.push e.born) clock, ?_, hw1, ?_, ?_, ?_⟩
    · rw [show ((todo[j]).1, (todo[j]).2) = todo[j] from rfl, List.getElem_cons_drop, List.take_append_drop]
    · rw [hrun, hpj.1, hpj.2]
    · refine ⟨es, clock, seen.push e.born, ⟨?_, h.reads, h.keys, h.apart, h.born, h.nodup⟩, setBlock_heap _ hlt, ?_, fun p hp => hm p ?_⟩
      · rw [setBlock_other _ hbr]; exact hbw
      · have hnd : ((leftOf es seen).toList.map (·.born)).Nodup := by
          unfold leftOf
          rw [Array.toList_filter]
          exact h.nodup.sublist (List.Sublist.map _ List.filter_sublist)
        have hle : (leftOf es (seen.push e.born)).toList = (leftOf es seen).toList.eraseIdx j := by
          have e1 : (leftOf es (seen.push e.born)).toList = (leftOf es seen).toList.filter (fun x => !(x.born == e.born)) := by
            unfold leftOf
            rw [Array.toList_filter, Array.toList_filter, List.filter_filter]
            congr 1
            funext x
            simp [Array.contains_push, Bool.not_or, Bool.and_comm]
            rfl
          rw [e1]
          generalize hL : (leftOf es seen).toList = L at *
          have hsplit : L = L.take j ++ L[j] :: L.drop (j + 1) := by rw [List.getElem_cons_drop, List.take_append_drop]
          have hpw := List.pairwise_iff_getElem.1 (List.pairwise_map.1 hnd)
          have hne : ∀ i (hi : i < L.length), i ≠ j → ¬ (L[i]).born = e.born := fun i hi hij eq => by
            rw [← hej] at eq
            rcases Nat.lt_or_gt_of_ne hij with hlt' | hgt'
            · exact hpw i j hi hj hlt' eq
            · exact hpw j i hj hi hgt' eq.symm
          rw [List.eraseIdx_eq_take_drop_succ]
          conv => lhs; rw [hsplit]
          rw [List.filter_append, List.filter_cons]
          have f1 : (L.take j).filter (fun x => !(x.born == e.born)) = L.take j := List.filter_eq_self.2 fun p hp' => by
            obtain ⟨i, hi, rfl⟩ := List.getElem_of_mem hp'
            rw [List.length_take] at hi
            rw [List.getElem_take]
            simpa using hne i (by omega) (by omega)
          have f2 : (L.drop (j + 1)).filter (fun x => !(x.born == e.born)) = L.drop (j + 1) := List.filter_eq_self.2 fun p hp' => by
            obtain ⟨i, hi, rfl⟩ := List.getElem_of_mem hp'
            rw [List.length_drop] at hi
            rw [List.getElem_drop]
            simpa using hne (j + 1 + i) (by omega) (by omega)
          rw [f1, f2, hej]
          simp
        rw [hle, ChangeMaps.map_eraseIdx, ht, ← ChangeMaps.map_eraseIdx, List.eraseIdx_eq_take_drop_succ]
      · rcases List.mem_append.1 hp with hp | hp
        · exact List.mem_of_mem_take hp
        · exact List.mem_of_mem_drop hp
    · have he' : e ∈ es.toList := by
        unfold leftOf at he
        rw [Array.toList_filter] at he
        exact (List.mem_filter.1 he).1
      have := run_entry_at (P := P) (setBlock w1 r (.mapIter (some b) clock (seen.push e.born) clock)) r b clock seen es clock e (setBlock_heap _ hlt) (by rw [setBlock_other _ hbr]; exact hbw) he' h.nodup
      rw [this, hpj.1, hpj.2]
/-! ### at the operation -/
section
variable {ops : Array Oper} {rest : List Oper} {o : Oper} {a : Act} {Q : Exit → Act → World → Prop}
theorem grown_set {w : World} {b : Nat} (ob : Obj) : w.grownBy (setBlock w b ob) (some b) :=
  ⟨rfl, rfl, rfl, Nat.le_of_eq (setBlock_size ob).symm, fun k _ hk => setBlock_other ob (fun e => hk (by rw [e]))⟩
theorem grown_alloc (w : World) (ob : Obj) : w.grownBy (w.alloc ob) none :=
  ⟨rfl, rfl, rfl, by show _ ≤ (w.heap.push ob).size; rw [Array.size_push]; omega, fun k hk _ => Below.heap_alloc w ob k hk⟩
theorem grown_drew {w w1 : World} {row : Option Nat} (h : w1 = w ∨ w1 = w.drew) {w2 : World} (hg : w1.grownBy w2 row) : w.grownBy w2 row := by
  rcases h with rfl | rfl
  · exact hg
  · exact ⟨hg.os, hg.tape, hg.output, hg.size, hg.block⟩
/-- 'map[K]V{}' -/
theorem wp_make (hg : o.guard = none) (t : TypeId) (hop : o.op = Op.makeMap t none) {kt et : TypeId} {enc : κ → Value} (ht : P.underlying t = some (.map kt et))
    (hK : ∀ w1, At P kt enc w1 w.heap.size [] → w.grownBy w1 none → Below w.heap.size w w1 → w.heap.size < w1.heap.size → wpList P ops Q rest (a.put o.dst (.map (some w.heap.size))) w1) : wpList P ops Q (o :: rest) a w := by
  refine wpList_plain hg fun K' hK' => ?_
  unfold Oper.wp
  simp [execOp, hop, run_makeMap, Result.andThen]
  refine hK' _ _ (hK _ (at_made P kt enc w) (grown_alloc w _) ((Below.refl _ _).alloc (Nat.le_refl _) _) ?_)
  show _ < (w.heap.push _).size
  rw [Array.size_push]; omega
theorem wp_make_at (hg : o.guard = none) (t : TypeId) (hop : o.op = Op.makeMap t none) {kt et : TypeId} {enc : κ → Value} (ht : P.underlying t = some (.map kt et))
    (hK : ∀ w1 b, b = w.heap.size → At P kt enc w1 b [] → w.grownBy w1 none → Below w.heap.size w w1 → b < w1.heap.size → wpList P ops Q rest (a.put o.dst (.map (some b))) w1) : wpList P ops Q (o :: rest) a w :=
  wp_make hg t hop ht (fun w1 h1 h2 h3 h4 => hK w1 _ rfl h1 h2 h3 h4)
/-- 'm[k] = v' -/
theorem wp_store (hg : o.guard = none) (m x v : Operand) (t : TypeId) (hop : o.op = Op.mapUpdate t m x v) {et : TypeId} (K : Keyed P kt) (inj : ∀ a b, enc a = enc b → a = b) (ht : P.underlying t = some (.map kt et))
    {l : List (κ × Value)} (h : At P kt enc w b l) (y : κ) {ly : Lit} (hy : keyOf P kt (enc y) = some ly) (val : Value) (hm : a.eval m = .map (some b)) (hx : a.eval x = enc y) (hv : a.eval v = val)
    (hK : ∀ w1, At P kt enc w1 b (aset l y val) → w.grownBy w1 (some b) → w1.heap.size = w.heap.size → wpList P ops Q rest (a.put o.dst undef) w1) : wpList P ops Q (o :: rest) a w := by
  refine wpList_plain hg fun K' hK' => ?_
  obtain ⟨ob, hrun, hat⟩ := h.store K inj ht hy val
  unfold Oper.wp
  simp [execOp, hop, hm, hx, hv, hrun, Result.andThen]
  exact hK' _ _ (hK _ hat (grown_set ob) (setBlock_size ob))
/-- 'm[k]', 'v, ok := m[k]' -/
theorem wp_look (hg : o.guard = none) (m x : Operand) (t : TypeId) (c : Bool) (hop : o.op = Op.lookup t m x c) {et : TypeId} (K : Keyed P kt) (inj : ∀ a b, enc a = enc b → a = b) (ht : P.underlying t = some (.map kt et)) {z : Value} (hz : (zeroValue et).run P w = .ok z w)
    {l : List (κ × Value)} (h : At P kt enc w b l) (y : κ) {ly : Lit} (hy : keyOf P kt (enc y) = some ly) (hm : a.eval m = .map (some b)) (hx : a.eval x = enc y)
    (hK : wpList P ops Q rest (a.put o.dst (if c then .tuple #[(aget l y).getD z, .bool (aget l y).isSome] else (aget l y).getD z)) w) : wpList P ops Q (o :: rest) a w := by
  refine wpList_plain hg fun K' hK' => ?_
  have hrun := h.look c K inj ht hz hy
  unfold Oper.wp
  simp [execOp, hop, hm, hx, hrun, Result.andThen]
  exact hK' _ _ hK
/-- 'delete(m, k)' -/
theorem wp_drop (hg : o.guard = none) (m x : Operand) (t : TypeId) (hop : o.op = Op.call { callee := Callee.builtin Builtin.delete, args := #[m, x], argTypes := #[t, kt] }) {et : TypeId} (K : Keyed P kt) (inj : ∀ a b, enc a = enc b → a = b) (ht : P.underlying t = some (.map kt et))
    {l : List (κ × Value)} (h : At P kt enc w b l) (y : κ) {ly : Lit} (hy : keyOf P kt (enc y) = some ly) (hm : a.eval m = .map (some b)) (hx : a.eval x = enc y)
    (hK : ∀ w1, At P kt enc w1 b (adel l y) → w.grownBy w1 (some b) → w1.heap.size = w.heap.size → wpList P ops Q rest (a.put o.dst (.tuple #[])) w1) : wpList P ops Q (o :: rest) a w := by
  refine wpList_plain hg fun K' hK' => ?_
  obtain ⟨ob, hrun, hat⟩ := h.drop K inj ht hy o.type
  unfold Oper.wp
  simp [execOp, hop, resolve, invoke, builtin, hm, hx, hrun, Result.andThen]
  exact hK' _ _ (hK _ hat (grown_set ob) (setBlock_size ob))
/-- 'len(m)' -/
theorem wp_len (hg : o.guard = none) (m : Operand) (t : TypeId) (hop : o.op = Op.call { callee := Callee.builtin Builtin.len, args := #[m], argTypes := #[t] }) {et : TypeId} (ht : P.underlying t = some (.map kt et))
    {l : List (κ × Value)} (h : At P kt enc w b l) (hm : a.eval m = .map (some b)) (hK : wpList P ops Q rest (a.put o.dst (.int .i64 l.length)) w) : wpList P ops Q (o :: rest) a w := by
  refine wpList_plain hg fun K' hK' => ?_
  have hrun := h.len ht o.type
  unfold Oper.wp
  simp [execOp, hop, resolve, invoke, builtin, hm, hrun, Result.andThen]
  exact hK' _ _ hK
/-- 'clear(m)' -/
theorem wp_wipe (hg : o.guard = none) (m : Operand) (t : TypeId) (hop : o.op = Op.call { callee := Callee.builtin Builtin.clear, args := #[m], argTypes := #[t] }) {et : TypeId} (ht : P.underlying t = some (.map kt et))
    {l : List (κ × Value)} (h : At P kt enc w b l) (hm : a.eval m = .map (some b)) (hK : ∀ w1, At P kt enc w1 b [] → w.grownBy w1 (some b) → w1.heap.size = w.heap.size → wpList P ops Q rest (a.put o.dst (.tuple #[])) w1) : wpList P ops Q (o :: rest) a w := by
  refine wpList_plain hg fun K' hK' => ?_
  obtain ⟨ob, hrun, hat⟩ := h.wipe ht o.type
  unfold Oper.wp
  simp [execOp, hop, resolve, invoke, builtin, hm, hrun, Result.andThen]
  exact hK' _ _ (hK _ hat (grown_set ob) (setBlock_size ob))
/-- 'range m' -/
theorem wp_range (hg : o.guard = none) (m : Operand) (t : TypeId) (hop : o.op = Op.range t m) {et : TypeId} (ht : P.underlying t = some (.map kt et))
    {l : List (κ × Value)} (h : At P kt enc w b l) (hm : a.eval m = .map (some b))
    (hK : ∀ w1 r, r = w.heap.size → Iter P kt enc w1 b r l l → w.grownBy w1 none → Below w.heap.size w w1 → r < w1.heap.size → wpList P ops Q rest (a.put o.dst (.pointer (some ⟨r, 0, none⟩))) w1) : wpList P ops Q (o :: rest) a w := by
  refine wpList_plain hg fun K' hK' => ?_
  obtain ⟨ob, hrun, hit⟩ := h.range ht
  unfold Oper.wp
  simp [execOp, hop, hm, hrun, Result.andThen]
  refine hK' _ _ (hK _ _ rfl hit (grown_alloc w _) ((Below.refl _ _).alloc (Nat.le_refl _) _) ?_)
  show _ < (w.heap.push _).size
  rw [Array.size_push]; omega
/-- the step -/
theorem wp_next (hg : o.guard = none) (it : Operand) (hop : o.op = Op.next it false) (inj : ∀ a b, enc a = enc b → a = b) {l todo : List (κ × Value)} {r : Nat} (h : Iter P kt enc w b r l todo) (hit : a.eval it = .pointer (some ⟨r, 0, none⟩))
    (hDone : todo = [] → wpList P ops Q rest (a.put o.dst (.tuple #[.bool false])) w)
    (hMore : ∀ x v pre post w1, todo = pre ++ (x, v) :: post → Iter P kt enc w1 b r l (pre ++ post) → w.grownBy w1 (some r) → w1.heap.size = w.heap.size → (Instr.entry (.pointer (some ⟨r, 0, none⟩))).run P w1 = .ok (.tuple #[enc x, v]) w1 → wpList P ops Q rest (a.put o.dst (.tuple #[.bool true, enc x, v])) w1) : wpList P ops Q (o :: rest) a w := by
  refine wpList_plain hg fun K' hK' => ?_
  unfold Oper.wp
  rcases h.next o.type inj with ⟨h0, hrun⟩ | ⟨x, v, pre, post, w1, ob, h0, hw, hrun, hit', hen⟩
  · simp [execOp, hop, hit, hrun, Result.andThen]
    exact hK' _ _ (hDone h0)
  · simp [execOp, hop, hit, hrun, Result.andThen]
    refine hK' _ _ (hMore x v pre post _ h0 hit' (grown_drew hw (grown_set ob)) ?_ hen)
    rw [setBlock_size]
    rcases hw with rfl | rfl <;> rfl
theorem wp_next_nil (hg : o.guard = none) (it : Operand) (hop : o.op = Op.next it false) (inj : ∀ a b, enc a = enc b → a = b) {l : List (κ × Value)} {r : Nat} (h : Iter P kt enc w b r l []) (hit : a.eval it = .pointer (some ⟨r, 0, none⟩))
    (hDone : wpList P ops Q rest (a.put o.dst (.tuple #[.bool false])) w) : wpList P ops Q (o :: rest) a w :=
  wp_next hg it hop inj h hit (fun _ => hDone) (fun x v pre post w1 h0 => by cases pre <;> cases h0)
theorem wp_next_vals {β : Type} {g : β → Value} (hg : o.guard = none) (it : Operand) (hop : o.op = Op.next it false) (inj : ∀ a b, enc a = enc b → a = b) {l : List (κ × Value)} {td : List (κ × β)} {r : Nat} (h : Iter P kt enc w b r l (vals g td)) (hne : td ≠ []) (hit : a.eval it = .pointer (some ⟨r, 0, none⟩))
    (hMore : ∀ x u l1 l2 w1, td = l1 ++ (x, u) :: l2 → Iter P kt enc w1 b r l (vals g (l1 ++ l2)) → w.grownBy w1 (some r) → w1.heap.size = w.heap.size → (Instr.entry (.pointer (some ⟨r, 0, none⟩))).run P w1 = .ok (.tuple #[enc x, g u]) w1 → wpList P ops Q rest (a.put o.dst (.tuple #[.bool true, enc x, g u])) w1) : wpList P ops Q (o :: rest) a w :=
  wp_next hg it hop inj h hit (fun h0 => absurd (List.map_eq_nil_iff.1 h0) hne) (fun x v pre post w1 h0 hI hgr hs hen => by
    obtain ⟨l1, u, l2, h1, rfl, rfl, rfl⟩ := vals_split h0
    exact hMore x u l1 l2 w1 h1 (by rw [show vals g (l1 ++ l2) = vals g l1 ++ vals g l2 from List.map_append]; exact hI) hgr hs hen)
theorem wp_look_vals {β : Type} {g : β → Value} (z0 : β) (hg : o.guard = none) (m x : Operand) (t : TypeId) (hop : o.op = Op.lookup t m x false) {et : TypeId} (K : Keyed P kt) (inj : ∀ a b, enc a = enc b → a = b) (ht : P.underlying t = some (.map kt et)) (hz : (zeroValue et).run P w = .ok (g z0) w)
    {l : List (κ × β)} (h : At P kt enc w b (vals g l)) (y : κ) {ly : Lit} (hy : keyOf P kt (enc y) = some ly) (hm : a.eval m = .map (some b)) (hx : a.eval x = enc y)
    (hK : wpList P ops Q rest (a.put o.dst (g ((aget l y).getD z0))) w) : wpList P ops Q (o :: rest) a w :=
  wp_look hg m x t false hop K inj ht hz h y hy hm hx (by
    rw [aget_vals]
    have e : ((aget l y).map g).getD (g z0) = g ((aget l y).getD z0) := by cases aget l y <;> rfl
    rw [e]
    exact hK)
theorem wp_look_ok_vals {β : Type} {g : β → Value} (z0 : β) (hg : o.guard = none) (m x : Operand) (t : TypeId) (hop : o.op = Op.lookup t m x true) {et : TypeId} (K : Keyed P kt) (inj : ∀ a b, enc a = enc b → a = b) (ht : P.underlying t = some (.map kt et)) (hz : (zeroValue et).run P w = .ok (g z0) w)
    {l : List (κ × β)} (h : At P kt enc w b (vals g l)) (y : κ) {ly : Lit} (hy : keyOf P kt (enc y) = some ly) (hm : a.eval m = .map (some b)) (hx : a.eval x = enc y)
    (hK : wpList P ops Q rest (a.put o.dst (.tuple #[g ((aget l y).getD z0), .bool (aget l y).isSome])) w) : wpList P ops Q (o :: rest) a w :=
  wp_look hg m x t true hop K inj ht hz h y hy hm hx (by
    rw [aget_vals]
    have e : ((aget l y).map g).getD (g z0) = g ((aget l y).getD z0) := by cases aget l y <;> rfl
    have e' : ((aget l y).map g).isSome = (aget l y).isSome := by cases aget l y <;> rfl
    rw [e, e']
    exact hK)
end
end
end Go.Proofs.YtmonbhoeplmieaaDoor.Mp
