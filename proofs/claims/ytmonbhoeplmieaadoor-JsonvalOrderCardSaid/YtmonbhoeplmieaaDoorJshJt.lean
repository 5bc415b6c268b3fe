/- A JSON value in memory: five cells (Kind, Num, Text, Names, Elems), the elements' row of such values again. kJ: the kind of such values, whatever their depth. -/
import Derived.Test.YtmonbhoeplmieaaDoorJsx0
namespace Go.Proofs.YtmonbhoeplmieaaDoor.Js
open Go.RowKit Go.Proofs.YtmonbhoeplmieaaDoorW.PrintWords
set_option linter.unusedVariables false
set_option linter.unusedSimpArgs false

inductive J where
  | mk (kind num : Int) (text : ByteArray) (names : List ByteArray) (elems : List J)
def J.kind : J → Int | .mk k _ _ _ _ => k
def J.num : J → Int | .mk _ n _ _ _ => n
def J.text : J → ByteArray | .mk _ _ t _ _ => t
def J.names : J → List ByteArray | .mk _ _ _ ns _ => ns
def J.elems : J → List J | .mk _ _ _ _ es => es

/-- no value at all -/
def never (α : Type) (n : Nat) : Kd α where
  sz := n
  E := []
  K := fun _ _ _ => False
  M := fun _ _ _ _ _ => False
  K_len := fun h => h.elim
  K_one := fun h => h.elim
  K_below := fun _ h => h
  K_of_M := fun h => h
  M_mono := fun _ h => h
  M_bound := fun h => h
  M_move := fun _ h => h
  M_lower := fun _ h => h

/-- values of a depth of at most d -/
def kJn : Nat → Kd J
  | 0 => never J 5
  | d + 1 => Kd.iso (Kd.pair (Kd.int .i64) (Kd.pair (Kd.int .i64) (Kd.pair Kd.string (Kd.pair (Kd.slice 9 Kd.string) (Kd.slice 25 (kJn d)))))) (fun x => (x.kind, x.num, x.text, x.names, x.elems))
theorem kJn_sz : ∀ d, (kJn d).sz = 5
  | 0 => rfl
  | _ + 1 => rfl
theorem kJn_E : ∀ d q, q ∈ (kJn d).E → q ∈ [9, 25]
  | 0, q, h => by cases h
  | d + 1, q, h => by
    have h1 : q ∈ ([] : List Nat) ++ ([] ++ ([] ++ ([9] ++ (25 :: (kJn d).E)))) := h
    simp only [List.nil_append, List.mem_append, List.mem_singleton, List.mem_cons] at h1
    rcases h1 with (rfl | h0) | rfl | h1
    · simp
    · cases h0
    · simp
    · exact kJn_E d q h1

/-- values of whatever depth -/
def kJ : Kd J where
  sz := 5
  E := [9, 25]
  K := fun w x cs => ∃ d, (kJn d).K w x cs
  M := fun w base ok x cs => ∃ d, (kJn d).M w base ok x cs
  K_len := fun {w x cs} h => by obtain ⟨d, h⟩ := h; rw [(kJn d).K_len h, kJn_sz]
  K_one := fun {w x cs} h => by obtain ⟨d, h⟩ := h; exact (kJn d).K_one h
  K_below := fun {w w1 x cs} hb h => by obtain ⟨d, h⟩ := h; exact ⟨d, (kJn d).K_below hb h⟩
  K_of_M := fun {w base ok x cs} h => by obtain ⟨d, h⟩ := h; exact ⟨d, (kJn d).K_of_M h⟩
  M_mono := fun {w base ok ok' x cs} hk h => by obtain ⟨d, h⟩ := h; exact ⟨d, (kJn d).M_mono hk h⟩
  M_bound := fun {w base ok x cs} h => by
    obtain ⟨d, h⟩ := h
    refine ⟨d, (kJn d).M_mono (fun k hk => ?_) ((kJn d).M_bound h)⟩
    obtain ⟨h1, h2, h3, q, hq, hc⟩ := hk
    exact ⟨h1, h2, h3, q, kJn_E d q hq, hc⟩
  M_move := fun {w w1 base ok x cs} hm h => by obtain ⟨d, h⟩ := h; exact ⟨d, (kJn d).M_move hm h⟩
  M_lower := fun {w base base' ok x cs} hb h => by obtain ⟨d, h⟩ := h; exact ⟨d, (kJn d).M_lower hb h⟩

/-! ## a value is of every greater depth -/
theorem reads_imp {R R' : J → List Value → Prop} {sz : Nat} {w : World} {A : Option Addr} {n : Nat} {xs : List J} (h : ReadsRow R sz w A n xs) (hi : ∀ x ∈ xs, ∀ cs, R x cs → R' x cs) : ReadsRow R' sz w A n xs := by
  obtain ⟨h1, h2, h3⟩ := h
  refine ⟨h1, h2, fun h0 => ?_⟩
  obtain ⟨a, ha, hx⟩ := h3 h0
  refine ⟨a, ha, fun j p hj => ?_⟩
  obtain ⟨cs, c1, c2, c3⟩ := hx j p hj
  exact ⟨cs, c1, hi p (List.mem_of_getElem? hj) cs c2, c3⟩
theorem kJn_succ : ∀ d w x cs, (kJn d).K w x cs → (kJn (d + 1)).K w x cs
  | 0, _, _, _, h => h.elim
  | d + 1, w, x, cs, h => by
    obtain ⟨c0, r0, rfl, h0, c1, r1, rfl, h1, c2, r2, rfl, h2, c3, c4, rfl, h3, A, c, rfl, hl, hr⟩ := h
    refine ⟨c0, _, rfl, h0, c1, _, rfl, h1, c2, _, rfl, h2, c3, _, rfl, h3, A, c, rfl, hl, ?_⟩
    unfold Kd.C at hr ⊢
    rw [kJn_sz] at hr ⊢
    exact reads_imp hr fun y _ cs hy => kJn_succ d w y cs hy
theorem kJn_le {d d' : Nat} (h : d ≤ d') {w : World} {x : J} {cs : List Value} (hk : (kJn d).K w x cs) : (kJn d').K w x cs := by
  induction h with
  | refl => exact hk
  | step _ ih => exact kJn_succ _ _ _ _ ih

/-! ## open and shut -/
theorem kJ_open {w : World} {x : J} {cs : List Value} (h : kJ.K w x cs) : ∃ An cn Ae ce, cs = [.int .i64 x.kind, .int .i64 x.num, .string x.text, .slice An x.names.length cn, .slice Ae x.elems.length ce] ∧ x.names.length ≤ cn ∧ Kd.string.C w An x.names.length x.names ∧ x.elems.length ≤ ce ∧ kJ.C w Ae x.elems.length x.elems := by
  obtain ⟨d, h⟩ := h
  cases d with
  | zero => exact h.elim
  | succ d =>
    obtain ⟨c0, r0, rfl, h0, c1, r1, rfl, h1, c2, r2, rfl, h2, c3, c4, rfl, ⟨An, cn, rfl, hln, hrn⟩, A, c, rfl, hl, hr⟩ := h
    refine ⟨An, cn, A, c, ?_, hln, hrn, hl, ?_⟩
    · rw [show c0 = [.int .i64 x.kind] from h0, show c1 = [.int .i64 x.num] from h1, show c2 = [.string x.text] from h2]
      rfl
    · unfold Kd.C at hr ⊢
      rw [kJn_sz] at hr
      exact reads_imp hr fun y _ cs hy => ⟨d, hy⟩
theorem kJ_shut {w : World} {x : J} {An Ae : Option Addr} {cn ce : Nat} (h1 : x.names.length ≤ cn) (h2 : Kd.string.C w An x.names.length x.names) (h3 : x.elems.length ≤ ce) (h4 : kJ.C w Ae x.elems.length x.elems) :
    kJ.K w x [.int .i64 x.kind, .int .i64 x.num, .string x.text, .slice An x.names.length cn, .slice Ae x.elems.length ce] := by
  -- one depth for all the elements
  have key : ∃ d, (kJn d).C w Ae x.elems.length x.elems := by
    obtain ⟨g1, g2, g3⟩ := h4
    by_cases h0 : 0 < x.elems.length
    · obtain ⟨a, ha, hx⟩ := g3 h0
      have all : ∀ n, n ≤ x.elems.length → ∃ d, ∀ j p, j < n → x.elems[j]? = some p → ∃ cs : List Value, cs.length = 5 ∧ (kJn d).K w p cs ∧ ∀ i u, cs[i]? = some u → w.cell? (a.add (j * 5 + i)) = some u := by
        intro n
        induction n with
        | zero => intro _; exact ⟨0, fun j p hj => absurd hj (Nat.not_lt_zero _)⟩
        | succ n ih =>
          intro hn
          obtain ⟨d, hd⟩ := ih (by omega)
          obtain ⟨cs, c1, ⟨d', c2⟩, c3⟩ := hx n (x.elems[n]'(by omega)) (List.getElem?_eq_getElem (by omega))
          refine ⟨max d d', fun j p hj hp => ?_⟩
          by_cases hjn : j = n
          · subst hjn
            rw [List.getElem?_eq_getElem (by omega)] at hp
            obtain rfl := Option.some.inj hp
            exact ⟨cs, c1, kJn_le (Nat.le_max_right _ _) c2, c3⟩
          · obtain ⟨cs', e1, e2, e3⟩ := hd j p (by omega) hp
            exact ⟨cs', e1, kJn_le (Nat.le_max_left _ _) e2, e3⟩
      obtain ⟨d, hd⟩ := all x.elems.length (Nat.le_refl _)
      refine ⟨d, g1, g2, fun _ => ⟨a, ha, fun j p hj => ?_⟩⟩
      rw [kJn_sz]
      exact hd j p (List.getElem?_eq_some_iff.1 hj).1 hj
    · exact ⟨0, g1, g2, fun hh => absurd hh h0⟩
  obtain ⟨d, hd⟩ := key
  exact ⟨d + 1, [_], _, rfl, rfl, [_], _, rfl, rfl, [_], _, rfl, rfl, [_], _, rfl, ⟨An, cn, rfl, h1, h2⟩, Ae, ce, rfl, h3, hd⟩
end Go.Proofs.YtmonbhoeplmieaaDoor.Js
