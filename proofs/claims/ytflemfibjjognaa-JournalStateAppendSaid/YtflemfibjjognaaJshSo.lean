/- The sort of records by key: what the call of slices.SortFunc leaves of a row of the call's own. Condition: fewer than 4611686018427387904 records. -/
import Derived.Test.YtflemfibjjognaaJsx0
import Derived.Test.YtflemfibjjognaaSo
import Derived.Test.YtflemfibjjognaaJshSl
import Derived.Test.YtflemfibjjognaaJsm
namespace Go.Proofs.Ytflemfibjjognaa.Js
open Go.RowKit Go.Sort Go.Proofs.YtflemfibjjognaaW.PrintWords Go.Proofs.YtflemfibjjognaaW.PrintLast Go.Proofs.YtflemfibjjognaaW.PrintMore
open Go.Proofs.Ytflemfibjjognaa
set_option linter.unusedVariables false
set_option linter.unusedSimpArgs false
def cellsR (r : S31) : List Value := [.string r.f0, .string r.f1, .bool r.f2]
instance inhR : Inhabited S31 := ⟨z31⟩
theorem isAgg31 (w : World) : (isAgg (sortR_ren.t 24)).run Try.prog w = .ok true w := by
  show (isAgg 31).run Try.prog w = _
  simp [isAgg, run_underlying Try.underlying31]
theorem sizeOf31 (w : World) : (Go.sizeOf (sortR_ren.t 24)).run Try.prog w = .ok 3 w := by
  show (Go.sizeOf 31).run Try.prog w = _
  simp [Go.sizeOf]
  rfl
set_option maxHeartbeats 1000000 in
theorem cmpR (x y : S31) (W : World) : Calls Try.prog 25 #[.agg (cellsR x).toArray, .agg (cellsR y).toArray] W fun e w' => e = .returned (.int .i64 (Cb.key keyR x y)) ∧ ∃ q os', w' = grow (W.drewN q) os' := by
  have hu31 := Try.underlying31
  have hcon := fun W' => Any.strings_Compare strCmp x.f0 y.f0 W'
  change ∀ W', Calls Try.prog 26 _ _ _ at hcon
  unfold Cb.key keyR cellsR
  generalize Lib.compareBytes x.f0.data.toList y.f0.data.toList = r at hcon ⊢
  go_enter Try.func25, Try.ntmps25
  go_wp2_with (go_at_call 26; refine (hcon _).mono ?_; rintro e w' ⟨rfl, rfl⟩)
  go_ret
  exact ⟨rfl, 0, _, by rw [alloc_eq_grow, alloc_eq_grow, grow_grow]; rfl⟩
theorem encM (w : World) (base : Nat) (ok : Nat → Prop) (x : S31) (cs : List Value) (h : k31.M w base ok x cs) : cs = cellsR x := k31_openM h
theorem sort_calls {W : World} {base : Nat} {ok : Nat → Prop} {v : Value} {xs : List S31} (h : k31.R 31 W base ok v xs) (hl : xs.length < 4611686018427387904) :
    Calls Try.prog 24 #[v, .func (.func 25) #[] #[]] W fun e w' => e = .returned (.tuple #[]) ∧ ∃ ys : List S31, ys.Perm xs ∧ ys.Pairwise (fun x y => Cb.key keyR x y ≤ 0) ∧ k31.R 31 w' base ok v ys ∧ W.grownBy w' v.ownBlock := by
  by_cases hne : xs = []
  · subst hne
    obtain ⟨A, c, hv⟩ := Kd.R_slice h
    have := AnyF.slices_SortFunc_none sortR A c (.func (.func 25) #[] #[]) W
    change Calls Try.prog 24 _ _ _ at this
    rw [hv]
    refine this.mono ?_
    rintro e w' ⟨rfl, rfl⟩
    exact ⟨rfl, [], List.Perm.refl _, List.Pairwise.nil, by rw [← hv]; exact h, ⟨rfl, rfl, rfl, Nat.le_refl _, fun _ _ _ => rfl⟩⟩
  · obtain ⟨g, cap, rfl, hb, hlt⟩ := So.shape h hne
    have hH := So.holds (enc := cellsR) (k := 3) encM (fun _ => rfl) rfl h
    have eg : ∀ args w, (callFunc 25 args).run Try.prog w = .ok (.enter 25 args) w := enters_of Try.func25 (by kernel_rfl) rfl
    have := AnyQ.slices_SortFunc sortR 3 isAgg31 sizeOf31 cellsR (fun _ => rfl) (fun x v hv => by simp [cellsR] at hv; rcases hv with rfl | rfl | rfl <;> rfl) (Cb.key keyR) (Cb.swo keyR) 25 #[] g 0 cap xs.toArray W eg (fun _ _ _ _ x y => cmpR x y _) hH hlt (by simpa using hl)
    change Calls Try.prog 24 _ _ _ at this
    simp only [List.size_toArray] at this
    refine this.mono ?_
    rintro e w' ⟨rfl, d', n, os, hp, hs, rfl⟩
    obtain ⟨p1, p2⟩ := Cb.lists keyR hp hs
    have hl' : d'.toList.length = xs.length := p1.length_eq
    have hR := So.sorted (enc := cellsR) (k := 3) (m := n) (fun w base ok x => k31_mkM w base ok x) (fun _ => rfl) rfl (by decide) h hl' os
    rw [Array.toArray_toList] at hR
    exact ⟨rfl, d'.toList, p1, p2, hR.1, hR.2⟩
end Go.Proofs.Ytflemfibjjognaa.Js
