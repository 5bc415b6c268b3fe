/- What consistent events do to the presence of a file, and that merging keeps it. No condition. -/
import Derived.Test.YtgigbllohagfmaaFwhCs
import Derived.Test.YtgigbllohagfmaaFwhAp
import Derived.Test.YtgigbllohagfmaaFwhNb
set_option linter.unusedVariables false
set_option linter.unusedSimpArgs false
namespace Go.Proofs.Ytgigbllohagfmaa.Fw
open Go.RowKit Go.Proofs.YtgigbllohagfmaaW.PrintWords Go.Proofs.YtgigbllohagfmaaW.PrintLast Go.Proofs.YtgigbllohagfmaaW.PrintMore
open Go.Proofs.Ytgigbllohagfmaa

/-- one path: is it there, and may the event be -/
def step1 (b : Bool) (k : Int) : Option Bool := if b = (k == 1) then none else some (!(k == 3))
def run1 : Bool → List Int → Option Bool
  | b, [] => some b
  | b, k :: ks => (step1 b k).bind fun b' => run1 b' ks
def good (ks : List Int) : Prop := ∀ k ∈ ks, k = 1 ∨ k = 2 ∨ k = 3
theorem run1_append (b : Bool) (ks js : List Int) : run1 b (ks ++ js) = (run1 b ks).bind fun b' => run1 b' js := by
  induction ks generalizing b with
  | nil => rfl
  | cons k ks ih =>
    simp only [List.cons_append, run1]
    cases step1 b k with
    | none => rfl
    | some b' => simp only [Option.bind_some]; exact ih b'
/-- what a merged kind tells of the state ahead and behind -/
def tells (b : Bool) (K : Int) (c : Bool) : Prop := (K = 0 ∧ c = b) ∨ (K = 1 ∧ b = false ∧ c = true) ∨ (K = 2 ∧ b = true ∧ c = true) ∨ (K = 3 ∧ b = true ∧ c = false)
theorem tells_step {b c c' : Bool} {K k : Int} (h : tells b K c) (hk : k = 1 ∨ k = 2 ∨ k = 3) (hs : step1 c k = some c') : tells b (mg K k) c' := by
  rcases h with ⟨rfl, rfl⟩ | ⟨rfl, rfl, rfl⟩ | ⟨rfl, rfl, rfl⟩ | ⟨rfl, rfl, rfl⟩ <;> rcases hk with rfl | rfl | rfl <;> revert hs <;> (try cases c) <;> cases c' <;> simp [step1, tells, mg, vk]
theorem tells_fold {ks : List Int} : ∀ {b c c' : Bool} {K : Int}, tells b K c → good ks → run1 c ks = some c' → tells b (ks.foldl mg K) c' := by
  induction ks with
  | nil => intro b c c' K h _ hr; cases hr; exact h
  | cons k ks ih =>
    intro b c c' K h hg hr
    simp only [run1] at hr
    obtain ⟨d, hd, hr⟩ := Option.bind_eq_some_iff.1 hr
    exact ih (tells_step h (hg k List.mem_cons_self) hd) (fun j hj => hg j (List.mem_cons_of_mem _ hj)) hr
/-- the merged kind stands for the events that it was made of -/
theorem merged_runs {b c : Bool} {ks : List Int} (hg : good ks) (hr : run1 b ks = some c) : run1 b (if ks.foldl mg 0 ≠ 0 then [ks.foldl mg 0] else []) = some c ∧ (ks.foldl mg 0 = 0 ∨ ks.foldl mg 0 = 1 ∨ ks.foldl mg 0 = 2 ∨ ks.foldl mg 0 = 3) := by
  have h := tells_fold (b := b) (c := b) (K := 0) (.inl ⟨rfl, rfl⟩) hg hr
  rcases h with ⟨h, rfl⟩ | ⟨h, rfl, rfl⟩ | ⟨h, rfl, rfl⟩ | ⟨h, rfl, rfl⟩ <;> rw [h] <;> simp [run1, step1]

/-- a path's kinds -/
def kp (es : List S33) (p : ByteArray) : List Int := (es.filter fun e => decide (e.f1 = p)).map (·.f2)
theorem kp_cons (e : S33) (es : List S33) (p : ByteArray) : kp (e :: es) p = if e.f1 = p then e.f2 :: kp es p else kp es p := by
  unfold kp
  by_cases h : e.f1 = p <;> simp [h]
theorem kp_append (es fs : List S33) (p : ByteArray) : kp (es ++ fs) p = kp es p ++ kp fs p := by
  unfold kp
  rw [List.filter_append, List.map_append]
def pres (m : List (ByteArray × Int)) (p : ByteArray) : Bool := ((Mp.aget m p).getD 0 != 0)
theorem cons_iff (es : List S33) (hk : ∀ e ∈ es, e.f2 = 1 ∨ e.f2 = 2 ∨ e.f2 = 3) : ∀ m, cons es m = true ↔ ∀ p, (run1 (pres m p) (kp es p)).isSome = true := by
  induction es with
  | nil => intro m; exact ⟨fun _ p => rfl, fun _ => rfl⟩
  | cons e es ih =>
    intro m
    have hke := hk e List.mem_cons_self
    have hv : vk e.f2 = true := by rcases hke with h | h | h <;> rw [h] <;> rfl
    rw [cons_cons, if_pos hv]
    have hpres : ∀ p, pres (if e.f2 = 3 then Mp.aset (Mp.aset m e.f1 1) e.f1 0 else Mp.aset m e.f1 1) p = if e.f1 = p then !(e.f2 == 3) else pres m p := by
      intro p
      unfold pres
      by_cases h3 : e.f2 = 3
      · rw [if_pos h3, Mp.aget_aset, Mp.aget_aset]
        by_cases hp : e.f1 = p <;> simp [hp, h3]
      · rw [if_neg h3, Mp.aget_aset]
        by_cases hp : e.f1 = p <;> simp [hp, h3]
    have ihm := ih (fun x hx => hk x (List.mem_cons_of_mem _ hx)) (if e.f2 = 3 then Mp.aset (Mp.aset m e.f1 1) e.f1 0 else Mp.aset m e.f1 1)
    by_cases hc : ((Mp.aget m e.f1).getD 0 != 0) = (e.f2 == 1)
    · rw [if_pos hc]
      constructor
      · intro h; cases h
      · intro h
        have := h e.f1
        rw [kp_cons, if_pos rfl] at this
        simp only [run1, step1, pres, hc, if_true] at this
        cases this
    · have hc' : ¬ pres m e.f1 = (e.f2 == 1) := hc
      rw [if_neg hc, ihm]
      constructor
      · intro h p
        have := h p
        rw [hpres] at this
        rw [kp_cons]
        by_cases hp : e.f1 = p
        · rw [if_pos hp] at this ⊢
          subst hp
          simp only [run1, step1]
          rw [if_neg hc']
          exact this
        · rw [if_neg hp] at this ⊢
          exact this
      · intro h p
        have := h p
        rw [hpres]
        rw [kp_cons] at this
        by_cases hp : e.f1 = p
        · rw [if_pos hp] at this ⊢
          subst hp
          simp only [run1, step1] at this
          rw [if_neg hc'] at this
          exact this
        · rw [if_neg hp] at this ⊢
          exact this
/-- the tables of Apply: who stands in them -/
def has (m : List (ByteArray × Int)) (p : ByteArray) : Bool := (Mp.aget m p).isSome
theorem appl_has (es : List S33) (hk : ∀ e ∈ es, e.f2 = 1 ∨ e.f2 = 2 ∨ e.f2 = 3) (p : ByteArray) : ∀ m, has (appl es m) p = (kp es p).foldl (fun _ k => !(k == 3)) (has m p) := by
  induction es with
  | nil => intro m; rfl
  | cons e es ih =>
    intro m
    rw [appl_cons, ih (fun x hx => hk x (List.mem_cons_of_mem _ hx)), kp_cons]
    have e1 : has (if (e.f2 == 1) = true then Mp.aset m e.f1 1 else if (e.f2 == 2) = true then Mp.aset m e.f1 1 else if (e.f2 == 3) = true then Mp.adel m e.f1 else m) p = if e.f1 = p then !(e.f2 == 3) else has m p := by
      unfold has
      rcases hk e List.mem_cons_self with h | h | h <;> rw [h] <;> by_cases hp : e.f1 = p <;> simp [Mp.aget_aset, Mp.aget_adel, hp]
    rw [e1]
    by_cases hp : e.f1 = p
    · rw [if_pos hp, if_pos hp, List.foldl_cons]
    · rw [if_neg hp, if_neg hp]
theorem run_fold : ∀ (ks : List Int) (b c : Bool), run1 b ks = some c → ks.foldl (fun _ k => !(k == 3)) b = c
  | [], b, c, h => by cases h; rfl
  | k :: ks, b, c, h => by
    simp only [run1] at h
    obtain ⟨d, hd, h⟩ := Option.bind_eq_some_iff.1 h
    unfold step1 at hd
    split at hd
    · cases hd
    · rw [List.foldl_cons, Option.some.inj hd]
      exact run_fold ks d c h
end Go.Proofs.Ytgigbllohagfmaa.Fw
