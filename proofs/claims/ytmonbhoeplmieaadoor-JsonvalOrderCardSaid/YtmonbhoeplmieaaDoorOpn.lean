/- What reads as data of a type is a value of its kind: integers, bools, strings, structs and slices of these, to any depth. No condition. -/
import Derived.Test.YtmonbhoeplmieaaDoorWWords
import Derived.Deep.Slices
import Derived.ChangeArms
set_option linter.unusedVariables false
set_option linter.unusedSimpArgs false
namespace Go.Proofs.YtmonbhoeplmieaaDoor.Opn
open Go.RowKit Go.Deep Go.ChangeShapes Go.WideShapes Go.Proofs.YtmonbhoeplmieaaDoorW.PrintWords

/-- whatever reads as data of type t is of kind k, and good -/
def Opn {α : Type} (P : Program) (t : TypeId) (k : Kd α) (good : α → Prop) : Prop :=
  P.cellsOf t = k.sz ∧ ∀ (H : Type) (enc : TypeId × Value → H) (w : World) (base : Nat) (spare : Nat → Bool) (held : Bool) (fuel : Nat) (cs : List Value) (x : DataW H × List MemPlace),
    DataW.trod enc P w base spare held fuel t cs = some x → ∃ a, k.K w a cs ∧ good a

theorem opn_int {P : Program} {t : TypeId} {k : IntKind} (hu : P.underlying t = some (.int k)) (hc : P.cellsOf t = 1) : Opn P t (Kd.int k) (fun n => (Lit.int k n).wf = true) :=
  ⟨hc, fun H enc w base spare held fuel cs x h => by
    obtain ⟨n, rfl, _, hw⟩ := DataW.trod_int hu h
    exact ⟨n, rfl, hw⟩⟩
theorem opn_bool {P : Program} {t : TypeId} (hu : P.underlying t = some .bool) (hc : P.cellsOf t = 1) : Opn P t Kd.bool (fun _ => True) :=
  ⟨hc, fun H enc w base spare held fuel cs x h => by
    obtain ⟨b, rfl, _⟩ := DataW.trod_bool hu h
    exact ⟨b, rfl, trivial⟩⟩
theorem opn_string {P : Program} {t : TypeId} (hu : P.underlying t = some .string) (hc : P.cellsOf t = 1) : Opn P t Kd.string (fun s => s.size ≤ 9223372036854775807) :=
  ⟨hc, fun H enc w base spare held fuel cs x h => by
    obtain ⟨s, rfl, _, hs⟩ := DataW.trod_string hu h
    exact ⟨s, rfl, hs⟩⟩

/-- a slice's elements -/
def GoodL {α : Type} (good : α → Prop) (xs : List α) : Prop := xs.length ≤ 9223372036854775807 ∧ ∀ x ∈ xs, good x

theorem opn_slice {α : Type} {P : Program} {t e : TypeId} {k : Kd α} {good : α → Prop} (hu : P.underlying t = some (.slice e)) (hc : P.cellsOf t = 1) (he : Opn P e k good) : Opn P t (Kd.slice e k) (GoodL good) :=
  ⟨hc, fun H enc w base spare held fuel cs x h => by
    rcases open_slice hu h with ⟨rfl, _⟩ | ⟨a, len, cap, m, n, D, Pl, rfl, _, hl, hm, hmm, _, hx⟩
    · exact ⟨[], ⟨none, 0, rfl, Nat.le_refl _, ⟨rfl, Nat.zero_le _, fun h0 => absurd h0 (Nat.lt_irrefl 0)⟩⟩, ⟨Nat.zero_le _, fun x hx => by cases hx⟩⟩
    · have hlm : len ≤ m := by rw [hmm]; split <;> omega
      have hel : ∀ i : Nat, i < len → ∃ (y : α) (cs' : List Value), w.cells? base (a.add (i * P.cellsOf e)) (P.cellsOf e) = some cs' ∧ k.K w y cs' ∧ good y := fun i hi => by
        obtain ⟨cs', h1, h2⟩ := hx i (Nat.lt_of_lt_of_le hi hlm)
        obtain ⟨y, hy, hg⟩ := he.2 H enc w base spare held n cs' _ h2
        exact ⟨y, cs', h1, hy, hg⟩
      classical
      let f : Fin len → α := fun i => Classical.choose (hel i.1 i.2)
      have hf : ∀ i : Fin len, ∃ cs' : List Value, w.cells? base (a.add (i.1 * P.cellsOf e)) (P.cellsOf e) = some cs' ∧ k.K w (f i) cs' ∧ good (f i) := fun i => Classical.choose_spec (hel i.1 i.2)
      have hlen : (List.ofFn f).length = len := List.length_ofFn
      refine ⟨List.ofFn f, ⟨some a, cap, by rw [hlen], by rw [hlen]; exact hl, ⟨rfl, ?_, fun _ => ⟨a, rfl, fun j p hj => ?_⟩⟩⟩, ⟨?_, fun y hy => ?_⟩⟩
      · rw [hlen]; exact Nat.le_trans hl hm
      · rw [List.getElem?_ofFn] at hj
        split at hj
        · rename_i hlt
          obtain rfl := Option.some.inj hj
          obtain ⟨cs', h1, h2, _⟩ := hf ⟨j, hlt⟩
          obtain ⟨_, h3, h4⟩ := World.cells?_some h1
          have hsz : P.cellsOf e = k.sz := he.1
          refine ⟨cs', by rw [h3, hsz], h2, fun i u hi => ?_⟩
          have hi' : i < P.cellsOf e := by rw [← h3]; exact (List.getElem?_eq_some_iff.1 hi).1
          have := h4 i hi'
          rw [hi] at this
          rw [← hsz, ← Go.Deep.add_add]
          exact this
        · cases hj
      · rw [hlen]; exact Nat.le_trans hl hm
      · rw [List.mem_ofFn] at hy
        obtain ⟨i, rfl⟩ := hy
        obtain ⟨_, _, _, hg⟩ := hf i
        exact hg⟩

/-- a struct's fields from a place on -/
def OpnFs {α : Type} (P : Program) (fs : List Field) (off : Nat) (k : Kd α) (good : α → Prop) : Prop :=
  ∀ (H : Type) (enc : TypeId × Value → H) (w : World) (base : Nat) (spare : Nat → Bool) (held : Bool) (fuel : Nat) (cs : List Value),
    cs.length = off + k.sz → (∀ f ∈ fs, ∃ x, DataW.trod enc P w base spare held fuel f.type ((cs.drop f.offset).take (P.cellsOf f.type)) = some x) → ∃ a, k.K w a (cs.drop off) ∧ good a

theorem opn_last {α : Type} {P : Program} {f : Field} {off : Nat} {k : Kd α} {good : α → Prop} (ho : f.offset = off) (h : Opn P f.type k good) : OpnFs P [f] off k good := by
  intro H enc w base spare held fuel cs hl hx
  obtain ⟨x, hx⟩ := hx f (List.mem_singleton.2 rfl)
  rw [ho, h.1, List.take_of_length_le (by rw [List.length_drop]; omega)] at hx
  exact h.2 H enc w base spare held fuel _ x hx

theorem opn_cons {α β : Type} {P : Program} {f : Field} {fs : List Field} {off : Nat} {k : Kd α} {k' : Kd β} {good : α → Prop} {good' : β → Prop} (ho : f.offset = off) (h : Opn P f.type k good) (h' : OpnFs P fs (off + k.sz) k' good') :
    OpnFs P (f :: fs) off (Kd.pair k k') (fun p => good p.1 ∧ good' p.2) := by
  intro H enc w base spare held fuel cs hl hx
  have hl' : cs.length = off + (k.sz + k'.sz) := hl
  obtain ⟨x, hf⟩ := hx f (List.mem_cons_self ..)
  rw [ho, h.1] at hf
  obtain ⟨a, ha, ga⟩ := h.2 H enc w base spare held fuel _ x hf
  obtain ⟨b, hb, gb⟩ := h' H enc w base spare held fuel cs (by omega) (fun g hg => hx g (List.mem_cons_of_mem _ hg))
  refine ⟨(a, b), ⟨(cs.drop off).take k.sz, cs.drop (off + k.sz), ?_, ha, hb⟩, ga, gb⟩
  rw [← List.drop_drop, List.take_append_drop]

theorem opn_struct {α : Type} {P : Program} {t : TypeId} {fs : Array Field} {k : Kd α} {good : α → Prop} (hu : P.underlying t = some (.struct fs)) (hc : P.cellsOf t = k.sz) (h : OpnFs P fs.toList 0 k good) : Opn P t k good :=
  ⟨hc, fun H enc w base spare held fuel cs x hx => by
    obtain ⟨xs, n, rfl, _, hl, hn, hf⟩ := DataW.trod_struct hu hx
    have := h H enc w base spare held n cs (by omega) (fun f hm => by
      obtain ⟨i, hi, rfl⟩ := List.getElem_of_mem hm
      have hi' : i < fs.size := by simpa using hi
      have e : fs[i]? = some fs.toList[i] := by rw [Array.getElem?_eq_getElem hi']; rfl
      rw [hf i _ e]
      exact ⟨_, List.getElem?_eq_getElem (by omega)⟩)
    simpa using this⟩

theorem opn_iso {α β : Type} {P : Program} {t : TypeId} {k : Kd α} {good : α → Prop} {good' : β → Prop} (f : β → α) (g : α → β) (hfg : ∀ a, f (g a) = a) (h : Opn P t k good) (hg : ∀ a, good a → good' (g a)) : Opn P t (Kd.iso k f) good' :=
  ⟨h.1, fun H enc w base spare held fuel cs x hx => by
    obtain ⟨a, ha, ga⟩ := h.2 H enc w base spare held fuel cs x hx
    refine ⟨g a, ?_, hg a ga⟩
    show k.K w (f (g a)) cs
    rw [hfg]
    exact ha⟩

/-! ### an argument of the law -/
theorem of_trod {α : Type} {P : Program} {t : TypeId} {k : Kd α} {good : α → Prop} (h : Opn P t k good) {H : Type} {enc : TypeId × Value → H} {w : World} {base : Nat} {spare : Nat → Bool} {held : Bool} {v : Value} {d : DataW H} {ps : List MemPlace}
    (ht : DataW.Trod enc P w base spare held t v d ps) : ∃ a, k.K w a v.cells.toList ∧ good a := by
  obtain ⟨fuel, hf⟩ := ht
  exact h.2 H enc w base spare held fuel _ _ hf
end Go.Proofs.YtmonbhoeplmieaaDoor.Opn
