/- What utf8's tables hold, out of the row's list; what reads as a JSON value is one. -/
import Derived.Test.YtmonbhoeplmieaaDoorJsPb
import Derived.Test.YtmonbhoeplmieaaDoorRows
import Derived.Test.YtmonbhoeplmieaaDoorOpn
import Derived.Lib.LaidU8T
import Derived.Shelf.Vars
import Derived.MakeChecks
import Derived.Deep.Slices
import Derived.ChangeArms
namespace Go.Proofs.YtmonbhoeplmieaaDoor.Js
open Go.Lib Go.Shelf Go.RowKit Go.Deep Go.ChangeShapes Go.WideShapes Go.Proofs.YtmonbhoeplmieaaDoor Go.Proofs.YtmonbhoeplmieaaDoor.Opn Go.Proofs.YtmonbhoeplmieaaDoorW.PrintWords
set_option linter.unusedVariables false
set_option linter.unusedSimpArgs false
theorem first_data : (Rows.laid_unicode_utf8_first : DataW Unit) = firstData := by kernel_rfl
theorem accept_data : (Rows.laid_unicode_utf8_acceptRanges : DataW Unit) = acceptData := by kernel_rfl
theorem u8x : U8Extra Tryd.prog YtmonbhoeplmieaaDoor.lays196_ren := ⟨by kernel_rfl, by kernel_rfl, by kernel_rfl, by kernel_rfl, by kernel_rfl, by kernel_rfl, by kernel_rfl⟩
theorem ts_of {laid : List (String × DataW Unit)} {W : World} (hp : (laid.all fun x => x.2.handleName?.isNone) = true) (hm1 : ("unicode/utf8.first", (Rows.laid_unicode_utf8_first : DataW Unit)) ∈ laid) (hm2 : ("unicode/utf8.acceptRanges", (Rows.laid_unicode_utf8_acceptRanges : DataW Unit)) ∈ laid) (hL : laidMetH Tryd.prog laid W) : Ts W := by
  rw [MakeChecks.laidMetH_plain _ _ _ hp] at hL
  have h1 := laidMet.reads hL hm1
  have h2 := laidMet.reads hL hm2
  rw [first_data] at h1
  rw [accept_data] at h2
  exact utf8Tabs_of_readsT (U8Types.of196 lays196) u8x h1 h2
/-- a slice's reading, its elements read with less fuel -/
theorem slice_at {α : Type} {P : Program} {t e : TypeId} {k : Kd α} {good : α → Prop} {H : Type} {enc : TypeId × Value → H} {w : World} {base : Nat} {spare : Nat → Bool} {held : Bool} {fuel : Nat} {cs : List Value} {x : DataW H × List MemPlace}
    (hu : P.underlying t = some (.slice e)) (hsz : P.cellsOf e = k.sz) (h : DataW.trod enc P w base spare held fuel t cs = some x)
    (he : ∀ n, n < fuel → ∀ cs' y, DataW.trod enc P w base spare held n e cs' = some y → ∃ a, k.K w a cs' ∧ good a) : ∃ a, (Kd.slice e k).K w a cs ∧ ∀ z ∈ a, good z := by
  rcases DataW.trod_slice hu h with ⟨rfl, _⟩ | ⟨a, len, cap, elems, rest, n, rfl, rfl, _, _, hl, hm, hlen, hel, _, _⟩
  · exact ⟨[], ⟨none, 0, rfl, Nat.le_refl _, ⟨rfl, Nat.zero_le _, fun h0 => absurd h0 (Nat.lt_irrefl 0)⟩⟩, fun x hx => by cases hx⟩
  · have hel2 : ∀ i : Nat, i < len → ∃ (y : α) (cs' : List Value), w.cells? base (a.add (i * P.cellsOf e)) (P.cellsOf e) = some cs' ∧ k.K w y cs' ∧ good y := fun i hi => by
      have h1 := hel i hi
      rw [List.getElem?_eq_getElem (by omega)] at h1
      obtain ⟨cs', h2, h3⟩ := Option.bind_eq_some_iff.1 h1
      obtain ⟨y, hy, hg⟩ := he n (Nat.lt_succ_self _) cs' _ h3
      exact ⟨y, cs', h2, hy, hg⟩
    classical
    let f : Fin len → α := fun i => Classical.choose (hel2 i.1 i.2)
    have hf : ∀ i : Fin len, ∃ cs' : List Value, w.cells? base (a.add (i.1 * P.cellsOf e)) (P.cellsOf e) = some cs' ∧ k.K w (f i) cs' ∧ good (f i) := fun i => Classical.choose_spec (hel2 i.1 i.2)
    have hlen2 : (List.ofFn f).length = len := List.length_ofFn
    refine ⟨List.ofFn f, ⟨some a, cap, by rw [hlen2], by rw [hlen2]; exact hl, ⟨rfl, ?_, fun _ => ⟨a, rfl, fun j p hj => ?_⟩⟩⟩, fun y hy => ?_⟩
    · rw [hlen2]; exact Nat.le_trans hl hm
    · rw [List.getElem?_ofFn] at hj
      split at hj
      · rename_i hlt
        obtain rfl := Option.some.inj hj
        obtain ⟨cs', h1, h2, _⟩ := hf ⟨j, hlt⟩
        obtain ⟨_, h3, h4⟩ := World.cells?_some h1
        refine ⟨cs', by rw [h3, hsz], h2, fun i u hi => ?_⟩
        have hi' : i < P.cellsOf e := by rw [← h3]; exact (List.getElem?_eq_some_iff.1 hi).1
        have := h4 i hi'
        rw [hi] at this
        rw [← hsz, ← Go.Deep.add_add]
        exact this
      · cases hj
    · rw [List.mem_ofFn] at hy
      obtain ⟨i, rfl⟩ := hy
      obtain ⟨_, _, _, hg⟩ := hf i
      exact hg
theorem opnI : Opn Tryd.prog 3 (Kd.int .i64) (fun n => (Lit.int .i64 n).wf = true) := opn_int Tryd.underlying3 (by kernel_rfl)
theorem opnS : Opn Tryd.prog 9 Kd.string (fun s => s.size ≤ 9223372036854775807) := opn_string Tryd.underlying9 (by kernel_rfl)
theorem opnN : Opn Tryd.prog 22 (Kd.slice 9 Kd.string) (GoodL (fun s => s.size ≤ 9223372036854775807)) := opn_slice Tryd.underlying22 (by kernel_rfl) opnS
set_option maxRecDepth 100000 in
theorem read_tree {H : Type} {enc : TypeId × Value → H} {w : World} {base : Nat} {spare : Nat → Bool} {held : Bool} : ∀ (F fuel : Nat) (cs : List Value) (x : DataW H × List MemPlace), fuel ≤ F → DataW.trod enc Tryd.prog w base spare held fuel 25 cs = some x → ∃ a : S25, k25.K w a cs ∧ szd a
  | 0, fuel, cs, x, hF, h => by
    obtain rfl : fuel = 0 := by omega
    rw [DataW.trod] at h
    cases h
  | F + 1, fuel, cs, x, hF, h => by
    obtain ⟨xs, n, rfl, _, hl, hn, hf⟩ := DataW.trod_struct Tryd.underlying25 h
    have hl5 : cs.length = 5 := hl.trans (by kernel_rfl)
    match cs, hl5 with
    | [c0, c1, c2, c3, c4], _ =>
      have len5 : xs.length = 5 := hn
      have get : ∀ (i : Nat) (f : Field), i < 5 → (#[{ name := "Kind", type := 3, offset := 0, embedded := false, tag := "", pkgPath := "", byteOffset := 0 }, { name := "Num", type := 3, offset := 1, embedded := false, tag := "", pkgPath := "", byteOffset := 8 }, { name := "Text", type := 9, offset := 2, embedded := false, tag := "", pkgPath := "", byteOffset := 16 }, { name := "Names", type := 22, offset := 3, embedded := false, tag := "", pkgPath := "", byteOffset := 32 }, { name := "Elems", type := 23, offset := 4, embedded := false, tag := "", pkgPath := "", byteOffset := 56 }] : Array Field)[i]? = some f → ∃ y, DataW.trod enc Tryd.prog w base spare held n f.type (([c0, c1, c2, c3, c4].drop f.offset).take (Tryd.prog.cellsOf f.type)) = some y := fun i f hi hfi => ⟨xs[i]'(by omega), by rw [hf i f hfi]; exact List.getElem?_eq_getElem (by omega)⟩
      have i1 : Tryd.prog.cellsOf 3 = 1 := by kernel_rfl
      have i2 : Tryd.prog.cellsOf 9 = 1 := by kernel_rfl
      have i3 : Tryd.prog.cellsOf 22 = 1 := by kernel_rfl
      have i4 : Tryd.prog.cellsOf 23 = 1 := by kernel_rfl
      obtain ⟨y0, t0⟩ := (show ∃ y, DataW.trod enc Tryd.prog w base spare held n 3 (([c0, c1, c2, c3, c4].drop 0).take (Tryd.prog.cellsOf 3)) = some y from get 0 { name := "Kind", type := 3, offset := 0, embedded := false, tag := "", pkgPath := "", byteOffset := 0 } (by decide) rfl)
      obtain ⟨y1, t1⟩ := (show ∃ y, DataW.trod enc Tryd.prog w base spare held n 3 (([c0, c1, c2, c3, c4].drop 1).take (Tryd.prog.cellsOf 3)) = some y from get 1 { name := "Num", type := 3, offset := 1, embedded := false, tag := "", pkgPath := "", byteOffset := 8 } (by decide) rfl)
      obtain ⟨y2, t2⟩ := (show ∃ y, DataW.trod enc Tryd.prog w base spare held n 9 (([c0, c1, c2, c3, c4].drop 2).take (Tryd.prog.cellsOf 9)) = some y from get 2 { name := "Text", type := 9, offset := 2, embedded := false, tag := "", pkgPath := "", byteOffset := 16 } (by decide) rfl)
      obtain ⟨y3, t3⟩ := (show ∃ y, DataW.trod enc Tryd.prog w base spare held n 22 (([c0, c1, c2, c3, c4].drop 3).take (Tryd.prog.cellsOf 22)) = some y from get 3 { name := "Names", type := 22, offset := 3, embedded := false, tag := "", pkgPath := "", byteOffset := 32 } (by decide) rfl)
      obtain ⟨y4, t4⟩ := (show ∃ y, DataW.trod enc Tryd.prog w base spare held n 23 (([c0, c1, c2, c3, c4].drop 4).take (Tryd.prog.cellsOf 23)) = some y from get 4 { name := "Elems", type := 23, offset := 4, embedded := false, tag := "", pkgPath := "", byteOffset := 56 } (by decide) rfl)
      rw [i1] at t0 t1
      rw [i2] at t2
      rw [i3] at t3
      rw [i4] at t4
      replace t0 : DataW.trod enc Tryd.prog w base spare held n 3 [c0] = some y0 := t0
      replace t1 : DataW.trod enc Tryd.prog w base spare held n 3 [c1] = some y1 := t1
      replace t2 : DataW.trod enc Tryd.prog w base spare held n 9 [c2] = some y2 := t2
      replace t3 : DataW.trod enc Tryd.prog w base spare held n 22 [c3] = some y3 := t3
      replace t4 : DataW.trod enc Tryd.prog w base spare held n 23 [c4] = some y4 := t4
      obtain ⟨a0, k0, _⟩ := opnI.2 H enc w base spare held n _ _ t0
      obtain ⟨a1, k1, _⟩ := opnI.2 H enc w base spare held n _ _ t1
      obtain ⟨a2, k2, g2⟩ := opnS.2 H enc w base spare held n _ _ t2
      obtain ⟨a3, k3, g3⟩ := opnN.2 H enc w base spare held n _ _ t3
      obtain ⟨a4, k4, g4⟩ := slice_at (k := k25) (good := szd) Tryd.underlying23 (by kernel_rfl) t4 (fun m hm cs' y hy => read_tree F m cs' y (by omega) hy)
      obtain ⟨A3, c3', e3, l3, r3⟩ := k3
      obtain ⟨A4, c4', e4, l4, r4⟩ := k4
      have e0 : [c0] = [Value.int .i64 a0] := k0
      have e1 : [c1] = [Value.int .i64 a1] := k1
      have e2 : [c2] = [Value.string a2] := k2
      simp only [List.cons.injEq, and_true] at e0 e1 e2 e3 e4
      subst e0 e1 e2 e3 e4
      exact ⟨S25.mk a0 a1 a2 a3 a4, k25_mk w (S25.mk a0 a1 a2 a3 a4) l3 r3 l4 r4, (szd_eq _).2 ⟨g2, g3.2, szds_of g4⟩⟩
theorem opnJ : Opn Tryd.prog 25 k25 szd := ⟨by kernel_rfl, fun H enc w base spare held fuel cs x h => read_tree fuel fuel cs x (Nat.le_refl _) h⟩
end Go.Proofs.YtmonbhoeplmieaaDoor.Js
