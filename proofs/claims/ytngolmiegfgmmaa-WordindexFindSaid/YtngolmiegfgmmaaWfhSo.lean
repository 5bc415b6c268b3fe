/- slices.SortFunc of entries whose names increase already: nothing changes. Condition: at most 20 entries. -/
import Derived.Test.YtngolmiegfgmmaaWfhWd
import Derived.Test.YtngolmiegfgmmaaWfx1
import Derived.Test.YtngolmiegfgmmaaSo
import Derived.Test.YtngolmiegfgmmaaCb
import Derived.BigQuiet
namespace Go.Proofs.Ytngolmiegfgmmaa.Wf
open Go.RowKit Go.Sort Go.Proofs.YtngolmiegfgmmaaW.PrintWords Go.Proofs.YtngolmiegfgmmaaW.PrintLast Go.Proofs.YtngolmiegfgmmaaW.PrintMore
open Go.Proofs.Ytngolmiegfgmmaa
set_option linter.unusedVariables false
set_option linter.unusedSimpArgs false
attribute [local go_sem] Oper.semAt_some
/-- an element's cells, told -/
structure RC where
  n : ByteArray
  a : Int
  v : Value
  hv : v.oneCell' = true
instance : Inhabited RC := ⟨⟨⟨#[]⟩, 0, .slice none 0 0, rfl⟩⟩
def encR (x : RC) : List Value := [.string x.n, .int .u32 x.a, x.v]
theorem encR_len (x : RC) : (encR x).length = 3 := rfl
theorem encR_one (x : RC) : ∀ u ∈ encR x, u.oneCell' = true := by
  intro u hu
  simp only [encR, List.mem_cons, List.not_mem_nil, or_false] at hu
  rcases hu with rfl | rfl | rfl
  · rfl
  · rfl
  · exact x.hv
def kr : Kd RC where
  sz := 3
  E := []
  K := fun _ x c => c = encR x
  M := fun _ _ _ x c => c = encR x
  K_len := fun e => by rw [e]; rfl
  K_one := fun e => by rw [e]; exact encR_one _
  K_below := fun _ e => e
  K_of_M := fun e => e
  M_mono := fun _ e => e
  M_bound := fun e => e
  M_move := fun _ e => e
  M_lower := fun _ e => e
theorem isAgg43 (w : World) : (isAgg (Ytngolmiegfgmmaa.sortR_ren.t 24)).run Try.prog w = .ok true w := by
  show (isAgg 43).run Try.prog w = _
  simp [isAgg, run_underlying Try.underlying43]
theorem sizeOf43 (w : World) : (Go.sizeOf (Ytngolmiegfgmmaa.sortR_ren.t 24)).run Try.prog w = .ok 3 w := by
  show (Go.sizeOf 43).run Try.prog w = _
  simp [Go.sizeOf]
  rfl
set_option maxHeartbeats 1000000 in
theorem cmp23 (x y : RC) (W : World) : Calls Try.prog 23 #[.agg (encR x).toArray, .agg (encR y).toArray] W fun e w' => e = .returned (.int .i64 (Lib.compareBytes x.n.data.toList y.n.data.toList)) ∧ ∃ q os', w' = grow (W.drewN q) os' := by
  have hu43 := Try.underlying43
  have hcon := fun W' => Any.strings_Compare Ytngolmiegfgmmaa.strCmp x.n y.n W'
  change ∀ W', Calls Try.prog 37 _ _ _ at hcon
  generalize Lib.compareBytes x.n.data.toList y.n.data.toList = r at hcon ⊢
  obtain ⟨xn, xa, xv, xh⟩ := x
  obtain ⟨yn, ya, yv, yh⟩ := y
  unfold encR
  cases xv with
  | agg _ => cases xh
  | _ =>
    cases yv with
    | agg _ => cases yh
    | _ =>
      go_enter Try.func23, Try.ntmps23
      go_wp2_with (go_at_call 37; refine (hcon _).mono ?_; rintro e w' ⟨rfl, rfl⟩)
      go_ret
      exact ⟨rfl, 0, _, by rw [alloc_eq_grow, alloc_eq_grow, grow_grow]; rfl⟩
theorem raws (xs : List S43) (inner : List Value) {W : World} {base : Nat} {ok : Nat → Prop} (h : Reps (k43.M W base ok) 3 xs inner) : ∃ rs : List RC, rs.length = xs.length ∧ rs.map RC.n = xs.map S43.f0 ∧ Reps (fun x c => c = encR x) 3 rs inner := by
  have hx : ∀ j : Fin xs.length, ∃ r : RC, r.n = xs[j].f0 ∧ (inner.drop (j.val * 3)).take 3 = encR r := by
    intro j
    have hM := h.2 j.val _ (List.getElem?_eq_getElem j.isLt)
    have hone := k43.K_one (k43.K_of_M hM)
    obtain ⟨vw, hin, _⟩ := k43_openM hM
    exact ⟨⟨_, _, vw, hone vw (by rw [hin]; simp)⟩, rfl, hin⟩
  refine ⟨List.ofFn fun j => (hx j).choose, List.length_ofFn, ?_, ?_, ?_⟩
  · apply List.ext_getElem
    · simp
    · intro i h1 h2
      have := (hx ⟨i, by simpa using h2⟩).choose_spec.1
      simpa using this
  · rw [List.length_ofFn]; exact h.1
  · intro j p hj
    obtain ⟨hlt, rfl⟩ := List.getElem?_eq_some_iff.1 hj
    rw [List.getElem_ofFn]
    exact (hx ⟨j, by simpa using hlt⟩).choose_spec.2
set_option maxHeartbeats 1000000 in
theorem sortN {W : World} {base : Nat} {ok : Nat → Prop} {v : Value} {xs : List S43} (h : Kd.R k43 43 W base ok v xs) (hlen : xs.length ≤ 20) (hp : xs.Pairwise fun x y => Cb.key S43.f0 x y < 0) :
    Calls Try.prog 22 #[v, .func (.func 23) #[] #[]] W fun e w' => e = .returned (.tuple #[]) ∧ Below W.heap.size W w' := by
  by_cases hne : xs = []
  · subst hne
    obtain ⟨A, c, rfl⟩ := Kd.R_slice h
    have := AnyF.slices_SortFunc_none Ytngolmiegfgmmaa.sortR A c (.func (.func 23) #[] #[]) W
    change Calls Try.prog 22 _ _ _ at this
    refine this.mono ?_
    rintro e w' ⟨rfl, rfl⟩
    exact ⟨rfl, Below.refl _ _⟩
  · obtain ⟨g, cap, rfl, hb, hlt, _⟩ := Kd.R_form h (List.length_pos_iff.2 hne)
    obtain ⟨hok, inner, hown, hreps⟩ := h
    obtain ⟨rs, hl, hmap, hr⟩ := raws xs inner hreps
    have hRc : Kd.R kr 43 W base (fun _ => True) (.slice (some ⟨g, 0, none⟩) rs.length cap) rs := ⟨fun _ _ => trivial, inner, by rw [hl]; exact hown, hr⟩
    have hH := So.holds (enc := encR) (k := 3) (fun _ _ _ _ _ e => e) encR_len rfl hRc
    have eg : ∀ args w, (callFunc 23 args).run Try.prog w = .ok (.enter 23 args) w := enters_of Try.func23 (by kernel_rfl) rfl
    have := AnyQ.slices_SortFunc Ytngolmiegfgmmaa.sortR 3 isAgg43 sizeOf43 encR encR_len encR_one (Cb.key RC.n) (Cb.swo RC.n) 23 #[] g 0 cap rs.toArray W eg (fun _ _ _ _ _ _ => cmp23 _ _ _) hH hlt (by first | (simp; done) | (simp; omega))
    change Calls Try.prog 22 #[.slice (some ⟨g, 0, none⟩) rs.length cap, _] _ _ at this
    rw [hl] at this
    refine this.mono ?_
    rintro e w' ⟨rfl, d', n, os, hpm, hs, rfl⟩
    refine ⟨rfl, ?_⟩
    obtain ⟨q1, q2⟩ := Cb.lists RC.n hpm hs
    have q3 : (rs.map RC.n).Pairwise (fun a b => Lib.compareBytes a.data.toList b.data.toList < 0) := by
      rw [hmap]; exact List.pairwise_map.2 hp
    have q4 : rs.Pairwise fun x y => Cb.key RC.n x y < 0 := List.pairwise_map.1 q3
    have q5 : d'.toList = rs := (Cb.one RC.n rs d'.toList q1.symm (q4.imp fun h => Int.le_of_lt h) q2 (by
      refine List.Pairwise.imp ?_ q3
      intro a b hab he
      subst he
      rw [Cb.refl] at hab
      omega)).symm
    have q6 : d' = rs.toArray := by rw [← q5]
    subst q6
    have hheap : (sortWorldK encR 3 W g 0 n rs.toArray os).heap = W.heap.modify g (onCells (putCells id 0 (flatK encR 3 rs.toArray))) ++ os := rfl
    refine ⟨rfl, rfl, rfl, by rw [hheap]; simp, fun i hi => ?_⟩
    rw [hheap, Array.getElem?_append_left (by simpa using hi), Array.getElem?_modify]
    split
    · rename_i hgi
      subst hgi
      rcases hown.2 with ⟨h00, _⟩ | ⟨g', cap', cur, he, hb', hg, hnc, hcm, hcs, htk⟩
      · cases h00
      · injection he with he1 he2 he3
        injection he1 with he1
        injection he1 with he1
        subst he1
        rw [hg]
        have hi2 := So.reps_unique encR_len hr (So.reps_flat encR_len rs)
        have hcur : putCells id 0 (flatK encR 3 rs.toArray) cur = cur := by
          apply Array.ext_getElem?
          intro j
          rw [putCells, Array.getElem?_mapIdx]
          by_cases h2 : j < cur.size
          · rw [Array.getElem?_eq_getElem h2, Option.map_some]
            congr 1
            split
            · rename_i hj
              rw [Nat.sub_zero]
              have hF : j < (flatK encR 3 rs.toArray).size := by omega
              rw [getElem!_pos (flatK encR 3 rs.toArray) _ hF]
              have e1 : cur.toList[j]? = some ((flatK encR 3 rs.toArray)[j]) := by
                have e2 : (cur.toList.take (xs.length * 3))[j]? = cur.toList[j]? := by
                  rw [List.getElem?_take, if_pos (by rw [size_flatK, List.size_toArray, hl] at hF; exact hF)]
                have htk' : cur.toList.take (xs.length * 3) = inner := htk
                rw [← e2, htk', hi2, Array.getElem?_toList, Array.getElem?_eq_getElem hF]
              rw [Array.getElem?_toList, Array.getElem?_eq_getElem h2] at e1
              exact (Option.some.inj e1).symm
            · rfl
          · rw [Array.getElem?_eq_none (by omega)]
            rfl
        show some (Obj.cells (putCells id 0 (flatK encR 3 rs.toArray) cur) 43 (0, 0)) = _
        rw [hcur]
    · rfl
end Go.Proofs.Ytngolmiegfgmmaa.Wf
