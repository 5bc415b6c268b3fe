/- A region that draws its order, shown operation by operation: whatever the order, each operation does its part, and what it leaves is kept. No condition. -/
import Derived.OrdersHeld
import Derived.RegionTactic
import Derived.Deep.RegionHeld3
set_option linter.unusedVariables false
set_option linter.unusedSimpArgs false
namespace Go.Proofs.Ythnnjfichkhdfaa.Rg
open Go

/-- what has come up so far, and what it left -/
abbrev Vs := Nat → Option Value
def upd (vs : Vs) (i : Nat) (v : Value) : Vs := fun j => if j = i then some v else vs j
theorem upd_same (vs : Vs) (i : Nat) (v : Value) : upd vs i v i = some v := if_pos rfl
theorem upd_other (vs : Vs) {i j : Nat} (v : Value) (h : j ≠ i) : upd vs i v j = vs j := if_neg h
def dstOf (ops : Array Oper) (i : Nat) : Option Tmp := (ops[i]?).bind (·.dst)
/-- one operation's doing -/
def Does (P : Program) (o : Oper) (ev : Operand → Value) (w : World) (G : Value → World → Prop) : Prop :=
  (∃ v w1, (execOp ev o).run P w = .ok (.value v) w1 ∧ G v w1) ∨ (∃ w1, (execOp ev o).run P w = .ok .skip w1 ∧ G undef w1) ∨
  (∃ f args w1, (execOp ev o).run P w = .ok (.enter f args) w1 ∧ Calls P f args w1 fun e w2 => ∃ v, e = .returned v ∧ G v w2)
/-- what an operation sees -/
structure Env (ops : Array Oper) (a0 : Act) (vs : Vs) (yl : Nat → Option Bool) (ev : Operand → Value) : Prop where
  new : ∀ i d v, dstOf ops i = some d → vs i = some v → ev (.tmp d) = v
  old : ∀ d, (∀ i, (vs i).isSome = true → dstOf ops i ≠ some d) → ev (.tmp d) = a0.eval (.tmp d)
  const : ∀ v, ev (.const v) = v
  func : ∀ f, ev (.func f) = .func (.func f) #[] #[]
  glob : ∀ g, ev (.global g) = .pointer (some ⟨g, 0, none⟩)
  yld : ∀ i d b, dstOf ops i = some d → vs i = some (.bool b) → yl i = some b
def unwrittenB (ops : Array Oper) (d : Tmp) : Bool := (List.range ops.size).all fun i => dstOf ops i != some d
theorem dstOf_lt {ops : Array Oper} {i : Nat} {d : Tmp} (h : dstOf ops i = some d) : i < ops.size := by
  unfold dstOf at h
  rcases Nat.lt_or_ge i ops.size with h1 | h1
  · exact h1
  · rw [Array.getElem?_eq_none h1] at h; cases h
theorem Env.keep {ops : Array Oper} {a0 : Act} {vs : Vs} {yl : Nat → Option Bool} {ev : Operand → Value} (E : Env ops a0 vs yl ev) (d : Tmp) (h : unwrittenB ops d = true) : ev (.tmp d) = a0.eval (.tmp d) :=
  E.old d (fun i _ hd => by
    have := List.all_eq_true.1 h i (List.mem_range.2 (dstOf_lt hd))
    rw [hd] at this
    simp at this)
/-- what lies in the slots -/
structure Fr (ops : Array Oper) (a0 a : Act) (listed : Array Bool) (vs : Vs) : Prop where
  lsz : listed.size = ops.size
  size : a.tmps.size = a0.tmps.size
  defers : a.defers = a0.defers
  lst : ∀ i, listed.getD i false = true ↔ (vs i).isSome = true
  old : ∀ d, (∀ i, (vs i).isSome = true → dstOf ops i ≠ some d) → a.tmps[d]? = a0.tmps[d]?
  new : ∀ i d v, dstOf ops i = some d → vs i = some v → a.tmps[d]? = some v
def dstsB (ops : Array Oper) (n : Nat) : Bool := (List.range ops.size).all fun i => match dstOf ops i with
  | none => true
  | some d => decide (d < n) && (List.range ops.size).all fun j => decide (j = i) || dstOf ops j != some d
theorem dstsB_spec {ops : Array Oper} {n : Nat} (h : dstsB ops n = true) : (∀ i d, dstOf ops i = some d → d < n) ∧ (∀ i j d, dstOf ops i = some d → dstOf ops j = some d → j = i) := by
  have key : ∀ i d, dstOf ops i = some d → d < n ∧ ∀ j, dstOf ops j = some d → j = i := by
    intro i d hd
    have h1 := List.all_eq_true.1 h i (List.mem_range.2 (dstOf_lt hd))
    rw [hd] at h1
    simp only [Bool.and_eq_true, decide_eq_true_eq] at h1
    refine ⟨h1.1, fun j hj => ?_⟩
    have h2 := List.all_eq_true.1 h1.2 j (List.mem_range.2 (dstOf_lt hj))
    rw [hj] at h2
    simpa using h2
  exact ⟨fun i d hd => (key i d hd).1, fun i j d hi hj => (key i d hi).2 j hj⟩
theorem Fr.step {ops : Array Oper} {a0 a : Act} {listed : Array Bool} {vs : Vs} (h : Fr ops a0 a listed vs) (hd : dstsB ops a0.tmps.size = true) {i : Nat} {o : Oper} (ho : ops[i]? = some o) (v : Value) :
    Fr ops a0 (a.put o.dst v) (listed.setIfInBounds i true) (upd vs i v) := by
  obtain ⟨hlt, hinj⟩ := dstsB_spec hd
  have hi : i < ops.size := (Array.getElem?_eq_some_iff.1 ho).1
  have hdo : dstOf ops i = o.dst := by unfold dstOf; rw [ho]; rfl
  refine ⟨by rw [Array.size_setIfInBounds]; exact h.lsz, ?_, ?_, ?_, ?_, ?_⟩
  · unfold Act.put; split
    · simp only [Array.size_setIfInBounds]; exact h.size
    · exact h.size
  · unfold Act.put; split
    · exact h.defers
    · exact h.defers
  · intro j
    by_cases hj : j = i
    · subst hj
      rw [upd_same]
      simp [h.lsz, hi]
    · rw [upd_other vs v hj, ← h.lst j]
      simp only [Array.getD_eq_getD_getElem?]
      rw [Array.getElem?_setIfInBounds_ne (Ne.symm hj)]
  · intro d hno
    have h1 : o.dst ≠ some d := hdo ▸ hno i (by rw [upd_same]; rfl)
    have h2 := h.old d (fun j hj => hno j (by
      by_cases hji : j = i
      · subst hji; rw [upd_same]; rfl
      · rw [upd_other vs v hji]; exact hj))
    rw [← h2]
    unfold Act.put; split
    · rename_i d' he
      have : d' ≠ d := fun e => h1 (by rw [he, e])
      simp only
      rw [Array.getElem?_setIfInBounds_ne this]
    · rfl
  · intro j d u hj hu
    by_cases hji : j = i
    · subst hji
      rw [upd_same] at hu
      obtain rfl := Option.some.inj hu
      rw [hdo] at hj
      unfold Act.put
      rw [hj]
      have := hlt j d (by rw [hdo]; exact hj)
      simp only
      rw [Array.getElem?_setIfInBounds_self_of_lt (by rw [h.size]; exact this)]
    · rw [upd_other vs v hji] at hu
      have h2 := h.new j d u hj hu
      rw [← h2]
      unfold Act.put; split
      · rename_i d' he
        have : d' ≠ d := fun e => hji (hinj i j d (by rw [hdo, he, e]) hj)
        simp only
        rw [Array.getElem?_setIfInBounds_ne this]
      · rfl
theorem Fr.env {ops : Array Oper} {a0 a : Act} {listed : Array Bool} {vs : Vs} (h : Fr ops a0 a listed vs) : Env ops a0 vs (yielded ops a.tmps) a.eval := by
  refine ⟨?_, ?_, fun _ => rfl, fun _ => rfl, fun _ => rfl, ?_⟩
  · intro i d v hd hv
    show a.tmps.getD d undef = v
    rw [Array.getD_eq_getD_getElem?, h.new i d v hd hv]; rfl
  · intro d hno
    show a.tmps.getD d undef = a0.tmps.getD d undef
    rw [Array.getD_eq_getD_getElem?, Array.getD_eq_getD_getElem?, h.old d hno]
  · intro i d b hd hv
    unfold yielded
    have h1 := h.new i d _ hd hv
    unfold dstOf at hd
    rw [hd]
    simp only [Option.bind_some]
    rw [h1]
/-- the frame behind it -/
def finsL : List Oper → Nat → Vs → Act → Act
  | [], _, _, a => a
  | o :: r, i, vs, a => finsL r (i + 1) vs (a.put o.dst ((vs i).getD undef))
theorem finsL_fr {ops : Array Oper} {a0 : Act} (hd : dstsB ops a0.tmps.size = true) (vs : Vs) : ∀ (l : List Oper) (i : Nat) (a : Act) (listed : Array Bool) (us : Vs), ops.toList.drop i = l → Fr ops a0 a listed us →
    (∀ j, us j = if j < i then some ((vs j).getD undef) else none) → ∃ listed', Fr ops a0 (finsL l i vs a) listed' (fun j => if j < ops.size then some ((vs j).getD undef) else none)
  | [], i, a, listed, us, hl, h, hu => by
    have : ops.size ≤ i := by have := List.drop_eq_nil_iff.1 hl; simpa using this
    refine ⟨listed, ?_⟩
    have e : us = fun j => if j < ops.size then some ((vs j).getD undef) else none := by
      funext j
      rw [hu j]
      by_cases h1 : j < ops.size
      · rw [if_pos h1, if_pos (by omega)]
      · by_cases h2 : j < i
        · exfalso
          have h3 := (h.lst j).2 (by rw [hu j, if_pos h2]; rfl)
          rw [Array.getD_eq_getD_getElem?, Array.getElem?_eq_none (by rw [h.lsz]; omega)] at h3
          cases h3
        · rw [if_neg h1, if_neg h2]
    rw [← e]; exact h
  | o :: r, i, a, listed, us, hl, h, hu => by
    have hi : i < ops.toList.length := by
      rcases Nat.lt_or_ge i ops.toList.length with h1 | h1
      · exact h1
      · rw [List.drop_eq_nil_of_le h1] at hl; cases hl
    rw [List.drop_eq_getElem_cons hi] at hl
    injection hl with h1 h2
    have ho : ops[i]? = some o := by
      rw [← Array.getElem?_toList, List.getElem?_eq_getElem hi, h1]
    have hs := h.step hd ho ((vs i).getD undef)
    exact finsL_fr hd vs r (i + 1) _ _ _ h2 hs (fun j => by
      by_cases hj : j = i
      · subst hj; rw [upd_same, if_pos (by omega)]
      · rw [upd_other _ _ hj, hu j]
        by_cases h3 : j < i
        · rw [if_pos h3, if_pos (by omega)]
        · rw [if_neg h3, if_neg (by omega)])
theorem Fr.unique {ops : Array Oper} {a0 a b : Act} {l1 l2 : Array Bool} {vs : Vs} (h : Fr ops a0 a l1 vs) (k : Fr ops a0 b l2 vs) : a = b := by
  have e : a.tmps = b.tmps := by
    apply Array.ext_getElem?
    intro d
    by_cases hd : ∃ i v, dstOf ops i = some d ∧ vs i = some v
    · obtain ⟨i, v, h1, h2⟩ := hd
      rw [h.new i d v h1 h2, k.new i d v h1 h2]
    · have hno : ∀ i, (vs i).isSome = true → dstOf ops i ≠ some d := fun i hs e => hd (by
        obtain ⟨v, hv⟩ := Option.isSome_iff_exists.1 hs
        exact ⟨i, v, e, hv⟩)
      rw [h.old d hno, k.old d hno]
  cases a; cases b
  simp only at e
  have := h.defers.trans k.defers.symm
  simp only at this
  rw [e, this]
theorem Fr.start (ops : Array Oper) (a0 : Act) : Fr ops a0 a0 (Array.replicate ops.size false) (fun _ => none) :=
  ⟨by simp, rfl, rfl, fun i => by
    simp only [Array.getD_eq_getD_getElem?, Option.isSome_none, Bool.false_eq_true, iff_false]
    rw [Array.getElem?_replicate]
    split <;> simp, fun d _ => rfl, fun i d v _ h => by cases h⟩
/-- the edges lead back -/
def backB (ops : Array Oper) : Bool := (List.range ops.size).all fun i => match ops[i]? with
  | none => true
  | some o => o.after.all fun e => !Region.binds .any e || decide (e.on < i)
theorem ready_of_left {ops : Array Oper} {listed : Array Bool} (hb : backB ops = true) (hl : listed.size = ops.size) : ∀ i, i < ops.size → listed.getD i false = false → Region.ready .any ops listed ≠ [] := by
  intro i
  induction i using Nat.strongRecOn with
  | _ i ih =>
    intro hi hn hr
    have hnot : i ∉ Region.ready .any ops listed := by rw [hr]; simp
    obtain ⟨o, ho⟩ : ∃ o, ops[i]? = some o := ⟨ops[i], Array.getElem?_eq_getElem hi⟩
    apply hnot
    refine mem_ready.2 ⟨?_, o, ho, fun e he hbd => ?_⟩
    · rw [Array.getD_eq_getD_getElem?] at hn ⊢
      rw [Array.getElem?_eq_getElem (by omega)] at hn ⊢
      exact hn
    · have h1 := List.all_eq_true.1 hb i (List.mem_range.2 hi)
      rw [ho] at h1
      have h2 := Array.all_eq_true_iff_forall_mem.1 h1 e he
      have h3 : e.on < i := by simpa [hbd] using h2
      cases h4 : listed.getD e.on false with
      | true => rfl
      | false => exact absurd hr (ih e.on h3 (by omega) h4)
section
variable {P : Program} {ops : Array Oper} {Q : Exit → Act → World → Prop} {a0 : Act} {S : World → Vs → Prop} {V : Nat → Value → Prop}
/-- what is to be shown of one operation -/
def Step (P : Program) (ops : Array Oper) (a0 : Act) (S : World → Vs → Prop) (V : Nat → Value → Prop) (i : Nat) (o : Oper) : Prop :=
  ∀ (vs : Vs) (yl : Nat → Option Bool) (ev : Operand → Value) (w' : World), S w' vs → vs i = none → (∀ j v, vs j = some v → V j v) → (∀ j, (o.after.any fun e => Region.binds .any e && e.on == j) = true → ∃ v, vs j = some v ∧ V j v) → Env ops a0 vs yl ev →
    if Region.wanted o yl = true then Does P o ev w' (fun v w2 => V i v ∧ S w2 (upd vs i v)) else V i undef ∧ S w' (upd vs i undef)
def Steps (P : Program) (ops : Array Oper) (a0 : Act) (S : World → Vs → Prop) (V : Nat → Value → Prop) (k : Nat) : Prop := ∀ i o, k ≤ i → ops[i]? = some o → Step P ops a0 S V i o
theorem Steps.nil (k : Nat) (h : ops.size = k) : Steps P ops a0 S V k := fun i o hk ho => by
  have := (Array.getElem?_eq_some_iff.1 ho).1
  omega
theorem Steps.cons {k : Nat} {o : Oper} (ho : ops[k]? = some o) (h : Step P ops a0 S V k o) (hs : Steps P ops a0 S V (k + 1)) : Steps P ops a0 S V k := fun i o' hk ho' => by
  rcases Nat.eq_or_lt_of_le hk with e | e
  · subst e
    rw [ho] at ho'
    obtain rfl := Option.some.inj ho'
    exact h
  · exact hs i o' e ho'
theorem does_wp {o : Oper} {a : Act} {w : World} {G : Value → World → Prop} {K : Act → World → Prop} (h : Does P o a.eval w G) (hK : ∀ v w', G v w' → K (a.put o.dst v) w') : Oper.wp P o a w K Q := by
  unfold Oper.wp
  rcases h with ⟨v, w1, hr, hg⟩ | ⟨w1, hr, hg⟩ | ⟨f, args, w1, hr, hc⟩
  · rw [hr]; exact hK _ _ hg
  · rw [hr]; exact hK _ _ hg
  · rw [hr, Oper.upon_enter]
    refine hc.mono fun e w2 he => ?_
    obtain ⟨v, rfl, hg⟩ := he
    exact hK _ _ hg
theorem go (hd : dstsB ops a0.tmps.size = true) (hb : backB ops = true) (steps : Steps P ops a0 S V 0)
    (fin : ∀ vs w', S w' vs → (∀ i, i < ops.size → ∃ v, vs i = some v ∧ V i v) → Q .normal (finsL ops.toList 0 vs a0) w') :
    ∀ (fuel : Nat) (listed : Array Bool) (a : Act) (w : World) (vs : Vs), Fr ops a0 a listed vs → S w vs → (∀ j v, vs j = some v → V j v) → (∀ i, i < ops.size → listed.getD i false = false → 0 < fuel) → listed.toList.count false ≤ fuel → wpAny P .any ops Q fuel listed a w := by
  have last : ∀ (listed : Array Bool) (a : Act) (w : World) (vs : Vs), Fr ops a0 a listed vs → S w vs → (∀ j v, vs j = some v → V j v) → Region.ready .any ops listed = [] → Q .normal a w := by
    intro listed a w vs hf hS hV hr
    have hall : ∀ i, i < ops.size → ∃ v, vs i = some v ∧ V i v := fun i hi => by
      cases h1 : listed.getD i false with
      | false => exact absurd hr (ready_of_left hb hf.lsz i hi h1)
      | true =>
        obtain ⟨v, hv⟩ := Option.isSome_iff_exists.1 ((hf.lst i).1 h1)
        exact ⟨v, hv, hV i v hv⟩
    obtain ⟨l', hf'⟩ := finsL_fr hd vs ops.toList 0 a0 _ _ rfl (Fr.start ops a0) (fun j => by rw [if_neg (by omega)])
    have e : (fun j => if j < ops.size then some ((vs j).getD undef) else none) = vs := by
      funext j
      by_cases hj : j < ops.size
      · rw [if_pos hj]
        obtain ⟨v, hv, _⟩ := hall j hj
        rw [hv]; rfl
      · rw [if_neg hj]
        cases hv : vs j with
        | none => rfl
        | some v =>
          have h3 := (hf.lst j).2 (by rw [hv]; rfl)
          rw [Array.getD_eq_getD_getElem?, Array.getElem?_eq_none (by rw [hf.lsz]; omega)] at h3
          cases h3
    rw [e] at hf'
    rw [hf.unique hf']
    exact fin vs w hS hall
  intro fuel
  induction fuel with
  | zero =>
    intro listed a w vs hf hS hV hpos hcnt
    have hr : Region.ready .any ops listed = [] := by
      rw [List.eq_nil_iff_forall_not_mem]
      intro i hi
      have h1 := (mem_ready.1 hi).1
      obtain ⟨_, o, ho, _⟩ := mem_ready.1 hi
      have hlt := (Array.getElem?_eq_some_iff.1 ho).1
      have := hpos i hlt (by
        rw [Array.getD_eq_getD_getElem?] at h1 ⊢
        rw [Array.getElem?_eq_getElem (by rw [hf.lsz]; exact hlt)] at h1 ⊢
        exact h1)
      omega
    exact ⟨hr, last listed a w vs hf hS hV hr⟩
  | succ fuel ih =>
    intro listed a w vs hf hS hV hpos hcnt
    refine ⟨last listed a w vs hf hS hV, fun i hi => ?_⟩
    obtain ⟨hun, o, ho, hall⟩ := mem_ready.1 hi
    have hlt := (Array.getElem?_eq_some_iff.1 ho).1
    have hll : i < listed.toList.length := by simpa [hf.lsz] using hlt
    have hun' : listed.toList[i] = false := by
      rw [Array.getD_eq_getD_getElem?, Array.getElem?_eq_getElem (by rw [hf.lsz]; exact hlt)] at hun
      simpa using hun
    have hnone : vs i = none := by
      cases hv : vs i with
      | none => rfl
      | some v =>
        have h3 := (hf.lst i).2 (by rw [hv]; rfl)
        rw [Array.getD_eq_getD_getElem?] at h3 hun
        rw [Array.getElem?_eq_getElem (by rw [hf.lsz]; exact hlt)] at h3 hun
        simp only [Option.getD_some] at h3 hun
        rw [hun] at h3; cases h3
    have hst := steps i o (Nat.zero_le _) ho vs (yielded ops a.tmps) a.eval w hS hnone hV (fun j hj => by
      obtain ⟨e, he, h1⟩ := Array.any_eq_true'.1 hj
      simp only [Bool.and_eq_true, beq_iff_eq] at h1
      have h2 := hall e he h1.1
      rw [h1.2] at h2
      obtain ⟨v, hv⟩ := Option.isSome_iff_exists.1 ((hf.lst j).1 h2)
      exact ⟨v, hv, hV j v hv⟩) hf.env
    have hset : (listed.setIfInBounds i true).toList.count false + 1 = listed.toList.count false := by
      rw [Array.toList_setIfInBounds, List.count_set hll, hun']
      have h9 : 0 < listed.toList.count false := List.count_pos_iff.2 (hun' ▸ List.getElem_mem hll)
      rw [if_pos (by rfl), if_neg (by decide)]
      omega
    have next : ∀ v w2, V i v ∧ S w2 (upd vs i v) → wpAny P .any ops Q fuel (listed.setIfInBounds i true) (a.put o.dst v) w2 := fun v w2 h => by
      have hf2 := hf.step hd ho v
      refine ih _ _ _ _ hf2 h.2 (fun j u hj => ?_) (fun j hj hn => ?_) (by omega)
      · by_cases e : j = i
        · subst e
          rw [upd_same] at hj
          obtain rfl := Option.some.inj hj
          exact h.1
        · rw [upd_other vs v e] at hj
          exact hV j u hj
      · have h1 : j < (listed.setIfInBounds i true).toList.length := by simpa [hf.lsz] using hj
        have h2 : (listed.setIfInBounds i true).toList[j] = false := by
          rw [Array.getD_eq_getD_getElem?, ← Array.getElem?_toList, List.getElem?_eq_getElem h1] at hn
          exact hn
        have : 0 < (listed.setIfInBounds i true).toList.count false := List.count_pos_iff.2 (h2 ▸ List.getElem_mem h1)
        omega
    refine wpOp_step ho fun K hK => ?_
    by_cases hw : Region.wanted o (yielded ops a.tmps) = true
    · rw [if_pos hw] at hst ⊢
      exact does_wp hst (fun v w2 hg => hK _ _ (next v w2 hg))
    · rw [if_neg hw] at hst ⊢
      exact hK _ _ (next _ _ hst)
/-- THE RULE: 'S' holds behind every operation, 'V i' of what operation i leaves. -/
theorem mods_ {id : Nat} {w : World} (S : World → Vs → Prop) (V : Nat → Value → Prop) (hm : P.follows .mixedOrders = true) (hd : dstsB ops a0.tmps.size = true) (hb : backB ops = true)
    (hS : S w.drew (fun _ => none)) (steps : Steps P ops a0 S V 0)
    (fin : ∀ vs w', S w' vs → (∀ i, i < ops.size → ∃ v, vs i = some v ∧ V i v) → ∀ a', finsL ops.toList 0 vs a0 = a' → Q .normal a' w') : (Code.region id ops true).wp P Q a0 w := by
  refine wp_region_any hm ?_
  refine go hd hb steps (fun vs w' h1 h2 => fin vs w' h1 h2 _ rfl) _ _ _ _ _ (Fr.start ops a0) hS (fun j v h => by cases h) (fun i hi _ => by omega) ?_
  simp
end
/-! ### the parts of a step -/
section
variable {P : Program} {o : Oper} {ev : Operand → Value} {w : World} {G : Value → World → Prop}
theorem does_value {v : Value} {w1 : World} (hr : (execOp ev o).run P w = .ok (.value v) w1) (h : G v w1) : Does P o ev w G := .inl ⟨v, w1, hr, h⟩
theorem does_skip {w1 : World} (hr : (execOp ev o).run P w = .ok .skip w1) (h : G undef w1) : Does P o ev w G := .inr (.inl ⟨w1, hr, h⟩)
theorem enters_ {f : FuncId} {fn : Func} (hf : P.funcs[f]? = some fn) (hname : (fn.name == "runtime.NumGoroutine") = false) (hb : fn.body.isSome = true) (args : Array Value) (w : World) : (callFunc f args).run P w = .ok (.enter f args) w := by
  have h1 : fn.name ≠ "runtime.NumGoroutine" := by simpa using hname
  obtain ⟨c, hc⟩ := Option.isSome_iff_exists.1 hb
  simp [callFunc, hf, h1, hc]
/-- a call of a Go function, by its contract -/
theorem does_call {f : FuncId} {fn : Func} {as : Array Operand} {ts : Array TypeId} (hf : P.funcs[f]? = some fn) (hname : (fn.name == "runtime.NumGoroutine") = false) (hb : fn.body.isSome = true) (args : Array Value)
    (hop : o.op = .call { callee := .value (.func f), args := as, argTypes := ts }) (hfv : ev (.func f) = .func (.func f) #[] #[]) (hargs : as.map ev = args)
    (h : Calls P f args w fun e w' => ∃ v, e = .returned v ∧ G v w') : Does P o ev w G := by
  refine .inr (.inr ⟨f, args, w, ?_, h⟩)
  have he := enters_ hf hname hb args w
  unfold execOp
  simp [hop, resolve, Deferred.ofValue, invoke, hfv, hargs, he]
end
end Go.Proofs.Ythnnjfichkhdfaa.Rg
