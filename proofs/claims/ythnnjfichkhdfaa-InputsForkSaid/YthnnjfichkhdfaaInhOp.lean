/- inputs.Store: slices.Clone, clone, New, Revision, LastChange, Get. Condition: lists of fewer than 1000000 numbers. -/
import Derived.Test.YthnnjfichkhdfaaInx1
import Derived.Test.YthnnjfichkhdfaaMp
import Derived.Test.YthnnjfichkhdfaaRg
import Derived.Test.YthnnjfichkhdfaaInhTb
import Derived.Lib.SliceRun
import Derived.BigQuiet
import Derived.DeepKeys4
namespace Go.Proofs.Ythnnjfichkhdfaa.In
open Go.RowKit Go.Proofs.YthnnjfichkhdfaaW.PrintWords Go.Proofs.YthnnjfichkhdfaaW.PrintLast Go.Proofs.YthnnjfichkhdfaaW.PrintMore
open Go.Proofs.Ythnnjfichkhdfaa
set_option linter.unusedVariables false
set_option linter.unusedSimpArgs false
open Go.ChangeMaps (setBlock)

set_option maxHeartbeats 8000000 in
set_option maxRecDepth 100000 in
theorem sc_calls (A : Option Addr) (c : Nat) (xs : List Int) (W : World) (hr : Kd.C (Kd.int .i64) W A xs.length xs) (hc : xs.length ≤ c) (hl : xs.length < 1000000) :
    Calls Try.prog 19 #[.slice A xs.length c] W fun e W' => ∃ v, e = .returned v ∧ Kd.R (Kd.int .i64) 3 W' W.heap.size (fun _ => True) v xs ∧ Below W.heap.size W W' := by
  have hu35 := Try.underlying35
  have hu3 := Try.underlying3
  have HR := Aside0.mk hr
  have HL := Aside0.mk hl
  clear hr hl
  have HB := Aside0.mk (Below.refl W.heap.size W)
  cases A with
  | none =>
    have hq := fun w n c => Go.Lib.run_eql_slice_nil (P := Try.prog) w 35 3 none n c 0 0 hu35
    simp only [Option.isNone_none] at hq
    go_enter Try.func19, Try.ntmps19
    go_wp2
    go_ret
    have h0 : xs = [] := by
      have := HR.out
      cases xs with
      | nil => rfl
      | cons x r =>
        obtain ⟨ad, ea, _⟩ := Kd.at_int this 0 (by omega) (by simp)
        cases ea
    subst h0
    exact ⟨_, rfl, Kd.R_nil _ _ _ _ _, HB.out⟩
  | some ad =>
    have hq := fun w n c => Go.Lib.run_eql_slice_nil (P := Try.prog) w 35 3 (some ad) n c 0 0 hu35
    simp only [Option.isNone_some] at hq
    go_enter Try.func19, Try.ntmps19
    go_wp2_with (first | ((with_reducible refine gate_dst (N := 5) rfl ?_); refine Kd.R_lit (Kd.int .i64) _ 3 ?hg (N := 5) ?hd (xs := ([] : List Int)) (inner := []) (ok := fun _ => True) (okp := fun _ => True) ?hr ?hp (fun _ hk => hk) trivial (Below.refl _ _) (Nat.le_refl _) (by simp) ?_; (case hd => rfl); (case hg => rfl); (case hr => first | (go_simp; done) | (go_simp; rfl)); (case hp => exact Reps.none _ _); intro v5 w5 ho hb hg_ hnew_; clear hg_ hnew_; have HO := Aside0.mk ho; have HB5 := Aside0.mk hb; have HR5 := Aside0.mk (Kd.C_below HR.out hb); clear ho hb) | (at_builtin; (refine Kd.R_append_rows (Kd.int .i64) (w0 := W) W.heap.size rfl (.tmp 5) (.tmp 6) 35 3 _ _ rfl Try.underlying35 info3 rfl (by decide) (by omega) v5 [] xs _ _ _ (fun _ => True) (fun _ => False) rfl rfl HO.out HR5.out (fun _ _ h => h) (fun _ h => h.elim) (fun _ _ => trivial) HB5.out HB5.out.size (by have := HL.out; simp only [List.length_nil]; omega) ?_; rintro v1 w1 hv hb _ _; have HV := Aside0.mk hv; have HBF := Aside0.mk hb; clear hv hb)))
    go_ret
    exact ⟨_, rfl, HV.out, HBF.out⟩
set_option maxHeartbeats 8000000 in
set_option maxRecDepth 100000 in
theorem clone_calls (A : Option Addr) (c : Nat) (xs : List Int) (t : ByteArray) (W : World) (hr : Kd.C (Kd.int .i64) W A xs.length xs) (hc : xs.length ≤ c) (hl : xs.length < 1000000) :
    Calls Try.prog 16 #[.agg #[.slice A xs.length c, .string t]] W fun e W' => ∃ v, e = .returned (.agg #[v, .string t]) ∧ Kd.R (Kd.int .i64) 3 W' W.heap.size (fun _ => True) v xs ∧ Below W.heap.size W W' := by
  have hu35 := Try.underlying35
  have hu37 := Try.underlying37
  have HR := Aside0.mk hr
  have HL := Aside0.mk hl
  have HC := Aside0.mk hc
  clear hr hl hc
  have HB := Aside0.mk (Below.refl W.heap.size W)
  go_enter Try.func16, Try.ntmps16
  go_wp2_with (first | ((with_reducible refine gate_dst (N := 1) rfl ?_); refine box_event ?hg (N := 1) ?hd (cs := #[.slice A xs.length c, .string t]) (t := 37) ?hr ?_; (case hd => rfl); (case hg => rfl); (case hr => first | (go_simp; done) | (go_simp; rfl)); intro g1 hg w2 hbox hb; have BKg1 := Aside0.mk hbox; have GEg1 := Aside0.mk (show W.heap.size = g1 from hg.symm); have n1_ := Aside0.mk (below_step HB.out hb); clear HB; have HB := n1_; clear n1_; clear hbox hb hg) | ((with_reducible refine gate_dst (N := 2) rfl ?_); refine box_event ?hg (N := 2) ?hd (cs := #[.slice none 0 0, .string (⟨#[]⟩ : ByteArray)]) (t := 37) ?hr ?_; (case hd => rfl); (case hg => rfl); (case hr => first | (go_simp; done) | (go_simp; rfl)); intro g2 hg w3 hbox hb; have BKg2 := Aside0.mk hbox; have GEg2 := Aside0.mk (show w2.heap.size = g2 from hg.symm); have HB2 := HB; have n1_ := Aside0.mk (below_step HB.out hb); clear HB; have HB := n1_; clear n1_; have n2_ := Aside0.mk (blk_below BKg1.out hb); clear BKg1; have BKg1 := n2_; clear n2_; clear hbox hb hg))
  refine start_ (n := 7) (S := fun w' => w'.cell? ⟨g1, 0, none⟩ = some (.slice A xs.length c) ∧ w'.cell? ⟨g1, 1, none⟩ = some (.string t)) (ds := [6]) #[false, false, false, false, false, false, false] (by kernel_rfl) rfl rfl ⟨(blk_cell (blk_drew BKg1.out) 0).trans rfl, (blk_cell (blk_drew BKg1.out) 1).trans rfl⟩ (fun hHeld => ?_)
  generalize hwd : w3.drew = w4 at hHeld ⊢
  have n1_ := Aside0.mk (show Below W.heap.size W w4 from hwd ▸ below_drew1 HB.out)
  clear HB
  have HB := n1_
  clear n1_
  have n2_ := Aside0.mk (show w4.heap[g2]? = some (.cells #[.slice none 0 0, .string ⟨#[]⟩] 37 (0, 0)) from hwd ▸ blk_drew BKg2.out)
  have n3_ := Aside0.mk (show w4.heap[g1]? = some (.cells #[.slice A xs.length c, .string t] 37 (0, 0)) from hwd ▸ blk_drew BKg1.out)
  clear BKg2 BKg1 hwd
  have BKg2 := n2_
  have BKg1 := n3_
  clear n2_ n3_
  refine pure_ (i := 0) (N := some 3) (v := ?_) (a' := ?_) #[true, false, false, false, false, false, false] rfl rfl (by kernel_rfl) (fun _ _ _ h => h) (Or.inl ⟨by rfl, ?_⟩) ?_ ?_
  rotate_left
  · intro w'
    go_simp
    with_reducible rfl
  rotate_left
  · simp only [Act.put, List.setIfInBounds_toArray, List.set_cons_zero, List.set_cons_succ, i64_w, i32_w]
    rfl
  refine pure_ (i := 3) (N := some 6) (v := ?_) (a' := ?_) #[true, false, false, true, false, false, false] rfl rfl (by kernel_rfl) (fun _ _ _ h => h) (Or.inl ⟨by rfl, ?_⟩) ?_ ?_
  rotate_left
  · intro w'
    go_simp
    with_reducible rfl
  rotate_left
  · simp only [Act.put, List.setIfInBounds_toArray, List.set_cons_zero, List.set_cons_succ, i64_w, i32_w]
    rfl
  refine take_ (i := 1) (N := some 4) (v := ?_) (a' := ?_) #[true, true, false, true, false, false, false] rfl rfl (by kernel_rfl) (fun _ _ _ h => h) (Or.inl ⟨by rfl, ?_⟩) hHeld ?_ ?_
  rotate_left
  · rintro w' ⟨s0, s1⟩
    go_simp
    with_reducible rfl
  rotate_left
  · simp only [Act.put, List.setIfInBounds_toArray, List.set_cons_zero, List.set_cons_succ, i64_w, i32_w]
    rfl
  refine take_ (i := 4) (N := some 7) (v := ?_) (a' := ?_) #[true, true, false, true, true, false, false] rfl rfl (by kernel_rfl) (fun _ _ _ h => h) (Or.inl ⟨by rfl, ?_⟩) hHeld ?_ ?_
  rotate_left
  · rintro w' ⟨s0, s1⟩
    go_simp
    with_reducible rfl
  rotate_left
  · simp only [Act.put, List.setIfInBounds_toArray, List.set_cons_zero, List.set_cons_succ, i64_w, i32_w]
    rfl
  refine one_ (i := 2) (N := some 5) #[true, true, true, true, true, false, false] rfl rfl (by kernel_rfl) (by decide) (fun K hK => ?_)
  refine goes_ Try.func19 (by kernel_rfl) rfl #[.slice A xs.length c] (by rfl) rfl rfl (by (try simp only [List.map_toArray, List.map_cons, List.map_nil]); first | done | rfl) ?_
  refine (sc_calls A c xs _ (Kd.C_below HR.out HB.out) HC.out HL.out).mono ?_
  rintro e w5 ⟨v, rfl, hv, hb⟩
  refine ⟨_, rfl, ?_⟩
  obtain ⟨A5, c5, rfl⟩ := Kd.R_slice hv
  have HV := Aside0.mk (Kd.R_bound hv)
  have n1_ := Aside0.mk (below_step HB.out hb)
  have n2_ := Aside0.mk (blk_below BKg2.out hb)
  have n3_ := Aside0.mk (blk_below BKg1.out hb)
  have L4 := Aside0.mk (show g2 < w4.heap.size ∧ W.heap.size ≤ w4.heap.size from ⟨blk_lt BKg2.out, HB.out.size⟩)
  clear HB BKg2 BKg1 hv hb
  have HB := n1_
  have BKg2 := n2_
  have BKg1 := n3_
  clear n1_ n2_ n3_
  refine hK.out _ _ ⟨(blk_cell BKg1.out 0).trans rfl, (blk_cell BKg1.out 1).trans rfl⟩ (fun hHeld => ?_)
  clear hK K
  refine norm_ (a' := ?_) ?_ ?_
  rotate_left
  · show Act.put _ (some 5) _ = _
    simp only [Act.put, List.setIfInBounds_toArray, List.set_cons_zero, List.set_cons_succ, i64_w, i32_w]
    rfl
  refine pure_ (i := 5) (N := some 8) (v := ?_) (a' := ?_) #[true, true, true, true, true, true, false] rfl rfl (by kernel_rfl) (fun _ _ _ h => h) (Or.inl ⟨by rfl, ?_⟩) ?_ ?_
  rotate_left
  · intro w'
    go_simp
    with_reducible rfl
  rotate_left
  · simp only [Act.put, List.setIfInBounds_toArray, List.set_cons_zero, List.set_cons_succ, i64_w, i32_w]
    rfl
  refine last_ (i := 6) (N := none) #[true, true, true, true, true, true, true] rfl rfl (by kernel_rfl) (by decide) (fun K hK => ?_)
  refine skip_ (w1 := (w5.setCell ⟨g2, 0, none⟩ (.slice A5 xs.length c5)).setCell ⟨g2, 1, none⟩ (.string t)) (by rfl) rfl ?_ ?_
  · have c0 : w5.cell? ⟨g2, 0, none⟩ = some (.slice none 0 0) := (blk_cell BKg2.out 0).trans rfl
    have c1 : w5.cell? ⟨g2, 1, none⟩ = some (.string ⟨#[]⟩) := (blk_cell BKg2.out 1).trans rfl
    have d0 := blk_frozen BKg2.out 0
    have d1 := blk_frozen BKg2.out 1
    go_simp
    try rfl
  refine hK.out _ _ ?_
  clear hK K
  refine done_ (by kernel_rfl) ?_
  try go_wp2
  refine bodyPost_ret (results_cell_row rfl _ _ g2 37 #[.slice A5 xs.length c5, .string t] (0, 0) _ rfl (by refine blk_put (cs := #[.slice A5 xs.length c5, .string ⟨#[]⟩]) ?_ 1 _ rfl; refine blk_put (cs := #[.slice none 0 0, .string ⟨#[]⟩]) ?_ 0 _ rfl; exact BKg2.out) Try.underlying37 rfl (by kernel_rfl)) rfl ?_
  exact ⟨_, rfl, Kd.R_lower (Kd.R_mono (Kd.R_far (Kd.R_far HV.out (p := ⟨g2, 0, none⟩) (fun k hk e_ => by have e2_ : k = g2 := e_; have := hk.2.1; have := L4.out.1; omega) _) (p := ⟨g2, 1, none⟩) (fun k hk e_ => by have e2_ : k = g2 := e_; have := hk.2.1; have := L4.out.1; omega) _) (fun _ _ => trivial)) L4.out.2, below_set (below_set HB.out (Nat.le_trans HB2.out.size (Nat.le_of_eq GEg2.out))) (Nat.le_trans HB2.out.size (Nat.le_of_eq GEg2.out))⟩
def s0 : Sto := ⟨0, 0, 0, 0, []⟩
set_option maxHeartbeats 8000000 in
set_option maxRecDepth 100000 in
theorem new_calls (W : World) : Calls Try.prog 6 #[] W fun e W' => ∃ gs gm, e = .returned (.pointer (some ⟨gs, 0, none⟩)) ∧ Below W.heap.size W W' ∧ (∀ X : Nat → Prop, X gs → X gm → St X W.heap.size gs gm s0 W') ∧ W.heap.size ≤ gs ∧ W.heap.size ≤ gm ∧ gs < W'.heap.size ∧ gm < W'.heap.size := by
  have hu47 := Try.underlying47
  have hu50 := Try.underlying50
  go_enter Try.func6, Try.ntmps6
  go_wp2_with (first | (refine Mp.wp_make_at rfl 47 rfl (enc := enc3) Try.underlying47 ?_; intro w1 gm hgm hat hg hb hs; have HM := Aside0.mk hat; have HB := Aside0.mk hb; have GM := Aside0.mk (Nat.le_of_eq hgm.symm); clear hat hg hb hs hgm) | ((with_reducible refine gate_dst (N := 3) rfl ?_); refine box_event ?hg (N := 3) ?hd (cs := #[.int .i64 0, .int .i64 0, .int .i64 0, .int .i64 0, .map (some gm)]) (t := 50) ?hr ?_; (case hd => rfl); (case hg => rfl); (case hr => first | (go_simp; done) | (go_simp; rfl)); intro gs hg w3 hbox hb; have BKgs := Aside0.mk hbox; have GEgs := Aside0.mk (show w1.heap.size = gs from hg.symm); have GS := Aside0.mk (show W.heap.size ≤ gs from Nat.le_trans HB.out.size (Nat.le_of_eq hg.symm)); have n2_ := Aside0.mk (HM.out.below hb); clear HM; have HM := n2_; clear n2_; have n1_ := Aside0.mk (below_step HB.out hb); clear HB; have HB := n1_; clear n1_; clear hbox hb hg))
  go_ret
  exact ⟨gs, gm, rfl, HB.out, fun X h1 h2 => ⟨BKgs.out, ⟨[], rfl, HM.out, fun q hq => by cases hq⟩, ⟨h1, h2⟩, ⟨GS.out, GM.out⟩⟩, GS.out, GM.out, blk_lt BKgs.out, HM.out.lt⟩
section
variable (X : Nat → Prop) (base gs gm : Nat) (s : Sto) (W : World)
set_option maxHeartbeats 8000000 in
theorem rev_calls (h : St X base gs gm s W) : Calls Try.prog 11 #[.pointer (some ⟨gs, 0, none⟩)] W fun e W' => e = .returned (.int .i64 s.rev) ∧ Below W.heap.size W W' := by
  have hu50 := Try.underlying50
  have hx0 : W.cell? ⟨gs, 0, none⟩ = some (.int .i64 s.rev) := (blk_cell h.box 0).trans rfl
  clear h
  go_enter Try.func11, Try.ntmps11
  go_wp2
  try go_quiet (fail)
  try go_wp2
  go_ret
  exact ⟨rfl, by repeat (first | exact Below.refl _ _ | apply below_drew1 | apply pw_below_drewN)⟩
def lc (s : Sto) (d : Int) : Int := if d = 0 then s.a else if d = 1 then s.b else if d = 2 then s.c else 0
set_option maxHeartbeats 8000000 in
theorem lc_calls (h : St X base gs gm s W) (d : Int) (hd : d = 0 ∨ d = 1 ∨ d = 2) : Calls Try.prog 12 #[.pointer (some ⟨gs, 0, none⟩), .int .i64 d] W fun e W' => e = .returned (.int .i64 (lc s d)) ∧ Below W.heap.size W W' := by
  have hu50 := Try.underlying50
  have hu48 := Try.underlying48
  have hx0 : W.cell? ⟨gs, 1, none⟩ = some (.int .i64 s.a) := (blk_cell h.box 1).trans rfl
  have hx1 : W.cell? ⟨gs, 2, none⟩ = some (.int .i64 s.b) := (blk_cell h.box 2).trans rfl
  have hx2 : W.cell? ⟨gs, 3, none⟩ = some (.int .i64 s.c) := (blk_cell h.box 3).trans rfl
  clear h
  rcases hd with rfl | rfl | rfl
  all_goals
    go_enter Try.func12, Try.ntmps12
    go_wp2
    try go_quiet (fail)
    try go_wp2
    go_ret
    exact ⟨rfl, by repeat (first | exact Below.refl _ _ | apply below_drew1 | apply pw_below_drewN)⟩
end
end Go.Proofs.Ythnnjfichkhdfaa.In
