/- slices.SortFunc and slices.Clone of rows of keys. Condition: fewer than a million keys. -/
import Derived.Test.YteekdkkfegcoeaaDghKp
import Derived.Test.YteekdkkfegcoeaaSo
import Derived.Test.YteekdkkfegcoeaaDghSl
import Derived.Lib.SliceRun
namespace Go.Proofs.Yteekdkkfegcoeaa.Dg
open Go.RowKit Go.Sort Go.Lib Go.Proofs.YteekdkkfegcoeaaW.PrintWords Go.Proofs.YteekdkkfegcoeaaW.PrintLast Go.Proofs.YteekdkkfegcoeaaW.PrintMore
open Go.Proofs.Yteekdkkfegcoeaa
set_option linter.unusedVariables false
set_option linter.unusedSimpArgs false
attribute [local go_sem] Oper.semAt_some
theorem ltOf_iff {x y : S24} : ltOf cmpK x y = true ↔ ltK x y := by simp [ltOf, cmpK_lt]
theorem nltOf_iff {x y : S24} : ltOf cmpK x y = false ↔ ¬ ltK x y := by
  rw [← ltOf_iff]; simp
theorem swoK : SWO (ltOf cmpK) where
  irrefl x := nltOf_iff.2 (ltK_irr x)
  trans x y z h1 h2 := ltOf_iff.2 (ltK_trans (ltOf_iff.1 h1) (ltOf_iff.1 h2))
  ntrans x y z h1 h2 := by
    rw [nltOf_iff] at *
    intro h3
    rcases ltK_tri x y with h | h | h
    · exact h1 h
    · subst h; exact h2 h3
    · exact h2 (ltK_trans h h3)
theorem listsK {xs : List S24} {d : Array S24} (hp : PermIn 0 xs.length xs.toArray d) (hs : SortedIn (ltOf cmpK) 0 xs.length d) : d.toList.Perm xs ∧ d.toList.Pairwise (fun x y => ¬ ltK y x) := by
  obtain ⟨h1, _, h3⟩ := hp
  have e : d.size = xs.length := by simpa using h1
  have e1 : d.extract 0 xs.length = d := by rw [← e]; simp
  have e2 : xs.toArray.extract 0 xs.length = xs.toArray := by simp
  rw [e1, e2] at h3
  refine ⟨h3, List.pairwise_iff_getElem.2 fun i j hi hj hij => ?_⟩
  have hi' : i < d.size := by simpa using hi
  have hj' : j < d.size := by simpa using hj
  have := hs i j (Nat.zero_le _) hij (by omega)
  rw [getElem!_pos d i hi', getElem!_pos d j hj', nltOf_iff] at this
  simpa using this
theorem isAgg24 (w : World) : (isAgg (sortR_ren.t 24)).run Try.prog w = .ok true w := by
  show (isAgg 24).run Try.prog w = _
  simp [isAgg, run_underlying Try.underlying24]
theorem sizeOf24 (w : World) : (Go.sizeOf (sortR_ren.t 24)).run Try.prog w = .ok 3 w := by
  show (Go.sizeOf 24).run Try.prog w = _
  simp [Go.sizeOf]
  rfl
theorem encM24 (w : World) (base : Nat) (ok : Nat → Prop) (x : S24) (cs : List Value) (h : k24.M w base ok x cs) : cs = cells3 x := k24_openM h
theorem sort_calls {W : World} {base : Nat} {ok : Nat → Prop} {v : Value} {xs : List S24} (h : k24.R 24 W base ok v xs) (hl : xs.length < 1000000) (hnd : xs.Nodup) :
    Calls Try.prog 28 #[v, .func (.func 29) #[] #[]] W fun e w' => e = .returned (.tuple #[]) ∧ ∃ ys : List S24, (∀ x, x ∈ ys ↔ x ∈ xs) ∧ ys.length = xs.length ∧ Srt ys ∧ k24.R 24 w' base ok v ys ∧ W.grownBy w' v.ownBlock := by
  by_cases hne : xs = []
  · subst hne
    obtain ⟨A, c, hv⟩ := Kd.R_slice h
    have := AnyF.slices_SortFunc_none sortR A c (.func (.func 29) #[] #[]) W
    change Calls Try.prog 28 _ _ _ at this
    rw [hv]
    refine this.mono ?_
    rintro e w' ⟨rfl, rfl⟩
    exact ⟨rfl, [], fun _ => Iff.rfl, rfl, List.Pairwise.nil, by rw [← hv]; exact h, ⟨rfl, rfl, rfl, Nat.le_refl _, fun _ _ _ => rfl⟩⟩
  · obtain ⟨g, cap, rfl, hb, hlt⟩ := So.shape h hne
    have hH := So.holds (enc := cells3) (k := 3) encM24 (fun _ => rfl) rfl h
    have eg : ∀ args w, (callFunc 29 args).run Try.prog w = .ok (.enter 29 args) w := enters_of Try.func29 (by kernel_rfl) rfl
    have := AnyQ.slices_SortFunc sortR 3 isAgg24 sizeOf24 cells3 (fun _ => rfl) (fun x v hv => by simp [cells3] at hv; rcases hv with rfl | rfl | rfl <;> rfl) cmpK swoK 29 #[] g 0 cap xs.toArray W eg (fun _ _ _ _ x y => cmp_calls x y _) hH hlt (by simp only [List.size_toArray]; omega)
    change Calls Try.prog 28 _ _ _ at this
    simp only [List.size_toArray] at this
    refine this.mono ?_
    rintro e w' ⟨rfl, d', n, os, hp, hs, rfl⟩
    obtain ⟨p1, p2⟩ := listsK hp hs
    have hl' : d'.toList.length = xs.length := p1.length_eq
    have hR := So.sorted (enc := cells3) (k := 3) (m := n) (fun w base ok x => k24_mkM w base ok x) (fun _ => rfl) rfl (by decide) h hl' os
    rw [Array.toArray_toList] at hR
    have hnd' : d'.toList.Nodup := p1.nodup_iff.2 hnd
    refine ⟨rfl, d'.toList, fun x => p1.mem_iff, hl', ?_, hR.1, hR.2⟩
    refine (p2.and hnd').imp ?_
    rintro x y ⟨h1, h2⟩
    rcases ltK_tri x y with h3 | h3 | h3
    · exact h3
    · exact absurd h3 h2
    · exact absurd h3 h1
set_option maxHeartbeats 8000000 in
set_option maxRecDepth 100000 in
theorem clone_calls (A : Option Addr) (c : Nat) (xs : List S24) (W : World) (hr : Kd.C k24 W A xs.length xs) (hc : xs.length ≤ c) (hl : xs.length < 1000000) :
    Calls Try.prog 27 #[.slice A xs.length c] W fun e W' => ∃ v, e = .returned v ∧ Kd.R k24 24 W' W.heap.size (fun _ => True) v xs ∧ Below W.heap.size W W' := by
  have hu26 := Try.underlying26
  have hu24 := Try.underlying24
  have HR := Aside0.mk hr
  have HL := Aside0.mk hl
  clear hr hl
  have HB := Aside0.mk (Below.refl W.heap.size W)
  cases A with
  | none =>
    have hq := fun w n c => Go.Lib.run_eql_slice_nil (P := Try.prog) w 26 24 none n c 0 0 hu26
    simp only [Option.isNone_none] at hq
    go_enter Try.func27, Try.ntmps27
    go_wp2
    go_ret
    have h0 : xs = [] := by
      have := HR.out
      cases xs with
      | nil => rfl
      | cons x r =>
        obtain ⟨ad, ea, _⟩ := at_T24 this 0 (by omega) (by simp)
        cases ea
    subst h0
    exact ⟨_, rfl, Kd.R_nil _ _ _ _ _, HB.out⟩
  | some ad =>
    have hq := fun w n c => Go.Lib.run_eql_slice_nil (P := Try.prog) w 26 24 (some ad) n c 0 0 hu26
    simp only [Option.isNone_some] at hq
    go_enter Try.func27, Try.ntmps27
    go_wp2_with (first | ((with_reducible refine gate_dst (N := 5) rfl ?_); refine Kd.R_lit k24 _ 24 ?hg (N := 5) ?hd (xs := ([] : List S24)) (inner := []) (ok := fun _ => True) (okp := fun _ => True) ?hr ?hp (fun _ hk => hk) trivial (Below.refl _ _) (Nat.le_refl _) (by simp) ?_; (case hd => rfl); (case hg => rfl); (case hr => first | (go_simp; done) | (go_simp; rfl)); (case hp => exact Reps.none _ _); intro v5 w5 ho hb hg_ hnew_; clear hg_ hnew_; have HO := Aside0.mk ho; have HB5 := Aside0.mk hb; have HR5 := Aside0.mk (Kd.C_below HR.out hb); clear ho hb) | (at_builtin; (refine Kd.R_append_rows k24 (w0 := W) W.heap.size rfl (.tmp 5) (.tmp 6) 26 24 (.agg #[.int .i64 0, .int .i64 0, .int .i64 0]) 24 rfl Try.underlying26 (by kernel_rfl) rfl (by decide) (by omega) v5 [] xs _ _ _ (fun _ => True) (fun _ => False) rfl rfl HO.out HR5.out (fun _ _ h => by obtain rfl := k24_open h; exact k24_mkM _ _ _ _) (fun _ h => h.elim) (fun _ _ => trivial) HB5.out HB5.out.size (by have := HL.out; simp only [List.length_nil]; omega) ?_; rintro v1 w1 hv hb _ _; have HV := Aside0.mk hv; have HBF := Aside0.mk hb; clear hv hb)))
    go_ret
    exact ⟨_, rfl, HV.out, HBF.out⟩
end Go.Proofs.Yteekdkkfegcoeaa.Dg
