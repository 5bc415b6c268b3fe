/- inputs.Store: Fork. No condition. -/
import Derived.Test.YthnnjfichkhdfaaInx1
import Derived.Test.YthnnjfichkhdfaaMp
import Derived.Test.YthnnjfichkhdfaaRg
import Derived.Test.YthnnjfichkhdfaaInhPl
import Derived.Shelf.SlMaps.Clone
import Derived.Lib.SliceRun
import Derived.BigQuiet
import Derived.DeepKeys4
namespace Go.Proofs.Ythnnjfichkhdfaa.In
open Go.RowKit Go.Proofs.YthnnjfichkhdfaaW.PrintWords Go.Proofs.YthnnjfichkhdfaaW.PrintLast Go.Proofs.YthnnjfichkhdfaaW.PrintMore
open Go.Proofs.Ythnnjfichkhdfaa
set_option linter.unusedVariables false
set_option linter.unusedSimpArgs false
open Go.ChangeMaps (setBlock)
set_option maxHeartbeats 8000000 in
set_option maxRecDepth 100000 in
theorem mc_calls (gm : Nat) (l : List (K3 × Value)) (W : World) (h : Mp.At Try.prog 32 enc3 W gm l) : Calls Try.prog 17 #[.map (some gm)] W fun E W' => ∃ fm, E = .returned (.map (some fm)) ∧ W.heap.size ≤ fm ∧ Mp.At Try.prog 32 enc3 W' fm l ∧ Below W.heap.size W W' := by
  obtain ⟨es, clock, hI⟩ := h
  have hq := fun w => run_eql_map_nil_sl (P := Try.prog) w 47 _ _ (some gm) Try.underlying47
  have HI := Aside0.mk hI
  have hb := hI.blk
  go_enter Try.func17, Try.ntmps17
  go_wp2
  rw [run_callFunc_extern Try.func20 (by kernel_rfl) (by kernel_rfl) (by kernel_rfl) (e := Extern.MapsClone.clone) (by kernel_rfl), run_maps_clone_sl W 47 hb]
  simp only [Result.andThen]
  rw [Oper.upon_value]
  go_wp2
  rw [run_typeAssert_map_sl _ 47 20 _ _ _ Try.underlying47]
  simp only [Result.andThen]
  rw [Oper.upon_value]
  go_wp2
  go_ret
  exact ⟨_, rfl, Nat.le_refl _, ⟨es, clock, (MapKept.heap_alloc W _).1, HI.out.reads, HI.out.keys, HI.out.apart, HI.out.born, HI.out.nodup⟩, below_alloc (Below.refl _ _) _⟩
set_option maxHeartbeats 8000000 in
set_option maxRecDepth 100000 in
theorem fork_calls (X : Nat → Prop) (base gs gm : Nat) (s : Sto) (W : World) (h : St X base gs gm s W) : Calls Try.prog 14 #[.pointer (some ⟨gs, 0, none⟩)] W fun E W' => ∃ fs fm, E = .returned (.pointer (some ⟨fs, 0, none⟩)) ∧ Below W.heap.size W W' ∧ (W.heap.size ≤ fs ∧ W.heap.size ≤ fm) ∧ (fs < W'.heap.size ∧ fm < W'.heap.size) ∧
    ∀ X' : Nat → Prop, (∀ k, X k → X' k) → (∀ k, X' k → k < W.heap.size → X k) → X' fs → X' fm → St X' base fs fm s W' := by
  have hu50 := Try.underlying50
  have hu48 := Try.underlying48
  have HS := Aside0.mk h
  obtain ⟨l, hl0, hat, hrows⟩ := h.tab
  have HR := Aside0.mk hrows
  have HL := Aside0.mk hl0
  clear h hrows hl0
  go_enter Try.func14, Try.ntmps14
  go_wp2
  refine start_ (n := 16) (S := fun w' => w'.cell? ⟨gs, 0, none⟩ = some (.int .i64 s.rev) ∧ w'.cell? ⟨gs, 1, none⟩ = some (.int .i64 s.a) ∧ w'.cell? ⟨gs, 2, none⟩ = some (.int .i64 s.b) ∧ w'.cell? ⟨gs, 3, none⟩ = some (.int .i64 s.c) ∧ w'.cell? ⟨gs, 4, none⟩ = some (.map (some gm))) (ds := []) #[false, false, false, false, false, false, false, false, false, false, false, false, false, false, false, false] (by kernel_rfl) rfl rfl ⟨(blk_cell (blk_drew HS.out.box) 0).trans rfl, (blk_cell (blk_drew HS.out.box) 1).trans rfl, (blk_cell (blk_drew HS.out.box) 2).trans rfl, (blk_cell (blk_drew HS.out.box) 3).trans rfl, (blk_cell (blk_drew HS.out.box) 4).trans rfl⟩ (fun hHeld => ?_)
  have HB := Aside0.mk (show Below W.heap.size W W.drew from below_drew1 (Below.refl _ _))
  have HS4 := Aside0.mk (HS.out.below HB.out)
  have HAT4 := Aside0.mk (hat.below HB.out)
  generalize W.drew = w4 at hHeld HB HS4 HAT4 ⊢
  refine pure_ (i := 0) (N := some 3) (v := ?_) (a' := ?_) #[true, false, false, false, false, false, false, false, false, false, false, false, false, false, false, false] rfl rfl (by kernel_rfl) (fun _ _ _ h => h) (Or.inl ⟨by rfl, ?_⟩) ?_ ?_
  rotate_left
  · intro w'
    go_simp
    with_reducible rfl
  rotate_left
  · simp only [Act.put, List.setIfInBounds_toArray, List.set_cons_zero, List.set_cons_succ, i64_w, i32_w]
    rfl
  refine pure_ (i := 1) (N := some 4) (v := ?_) (a' := ?_) #[true, true, false, false, false, false, false, false, false, false, false, false, false, false, false, false] rfl rfl (by kernel_rfl) (fun _ _ _ h => h) (Or.inl ⟨by rfl, ?_⟩) ?_ ?_
  rotate_left
  · intro w'
    go_simp
    with_reducible rfl
  rotate_left
  · simp only [Act.put, List.setIfInBounds_toArray, List.set_cons_zero, List.set_cons_succ, i64_w, i32_w]
    rfl
  refine pure_ (i := 2) (N := some 5) (v := ?_) (a' := ?_) #[true, true, true, false, false, false, false, false, false, false, false, false, false, false, false, false] rfl rfl (by kernel_rfl) (fun _ _ _ h => h) (Or.inl ⟨by rfl, ?_⟩) ?_ ?_
  rotate_left
  · intro w'
    go_simp
    with_reducible rfl
  rotate_left
  · simp only [Act.put, List.setIfInBounds_toArray, List.set_cons_zero, List.set_cons_succ, i64_w, i32_w]
    rfl
  refine pure_ (i := 4) (N := some 7) (v := ?_) (a' := ?_) #[true, true, true, false, true, false, false, false, false, false, false, false, false, false, false, false] rfl rfl (by kernel_rfl) (fun _ _ _ h => h) (Or.inl ⟨by rfl, ?_⟩) ?_ ?_
  rotate_left
  · intro w'
    go_simp
    with_reducible rfl
  rotate_left
  · simp only [Act.put, List.setIfInBounds_toArray, List.set_cons_zero, List.set_cons_succ, i64_w, i32_w]
    rfl
  refine pure_ (i := 5) (N := some 8) (v := ?_) (a' := ?_) #[true, true, true, false, true, true, false, false, false, false, false, false, false, false, false, false] rfl rfl (by kernel_rfl) (fun _ _ _ h => h) (Or.inl ⟨by rfl, ?_⟩) ?_ ?_
  rotate_left
  · intro w'
    go_simp
    with_reducible rfl
  rotate_left
  · simp only [Act.put, List.setIfInBounds_toArray, List.set_cons_zero, List.set_cons_succ, i64_w, i32_w]
    rfl
  refine pure_ (i := 6) (N := some 9) (v := ?_) (a' := ?_) #[true, true, true, false, true, true, true, false, false, false, false, false, false, false, false, false] rfl rfl (by kernel_rfl) (fun _ _ _ h => h) (Or.inl ⟨by rfl, ?_⟩) ?_ ?_
  rotate_left
  · intro w'
    go_simp
    with_reducible rfl
  rotate_left
  · simp only [Act.put, List.setIfInBounds_toArray, List.set_cons_zero, List.set_cons_succ, i64_w, i32_w]
    rfl
  refine pure_ (i := 8) (N := some 11) (v := ?_) (a' := ?_) #[true, true, true, false, true, true, true, false, true, false, false, false, false, false, false, false] rfl rfl (by kernel_rfl) (fun _ _ _ h => h) (Or.inl ⟨by rfl, ?_⟩) ?_ ?_
  rotate_left
  · intro w'
    go_simp
    with_reducible rfl
  rotate_left
  · simp only [Act.put, List.setIfInBounds_toArray, List.set_cons_zero, List.set_cons_succ, i64_w, i32_w]
    rfl
  refine pure_ (i := 9) (N := some 12) (v := ?_) (a' := ?_) #[true, true, true, false, true, true, true, false, true, true, false, false, false, false, false, false] rfl rfl (by kernel_rfl) (fun _ _ _ h => h) (Or.inl ⟨by rfl, ?_⟩) ?_ ?_
  rotate_left
  · intro w'
    go_simp
    with_reducible rfl
  rotate_left
  · simp only [Act.put, List.setIfInBounds_toArray, List.set_cons_zero, List.set_cons_succ, i64_w, i32_w]
    rfl
  refine pure_ (i := 10) (N := some 13) (v := ?_) (a' := ?_) #[true, true, true, false, true, true, true, false, true, true, true, false, false, false, false, false] rfl rfl (by kernel_rfl) (fun _ _ _ h => h) (Or.inl ⟨by rfl, ?_⟩) ?_ ?_
  rotate_left
  · intro w'
    go_simp
    with_reducible rfl
  rotate_left
  · simp only [Act.put, List.setIfInBounds_toArray, List.set_cons_zero, List.set_cons_succ, i64_w, i32_w]
    rfl
  refine take_ (i := 3) (N := some 6) (v := ?_) (a' := ?_) #[true, true, true, true, true, true, true, false, true, true, true, false, false, false, false, false] rfl rfl (by kernel_rfl) (fun _ _ _ h => h) (Or.inl ⟨by rfl, ?_⟩) hHeld ?_ ?_
  rotate_left
  · rintro w' ⟨s0, s1, s2, s3, s4⟩
    go_simp
    with_reducible rfl
  rotate_left
  · simp only [Act.put, List.setIfInBounds_toArray, List.set_cons_zero, List.set_cons_succ, i64_w, i32_w]
    rfl
  refine take_ (i := 7) (N := some 10) (v := ?_) (a' := ?_) #[true, true, true, true, true, true, true, true, true, true, true, false, false, false, false, false] rfl rfl (by kernel_rfl) (fun _ _ _ h => h) (Or.inl ⟨by rfl, ?_⟩) hHeld ?_ ?_
  rotate_left
  · rintro w' ⟨s0, s1, s2, s3, s4⟩
    go_simp
    with_reducible rfl
  rotate_left
  · simp only [Act.put, List.setIfInBounds_toArray, List.set_cons_zero, List.set_cons_succ, i64_w, i32_w]
    rfl
  refine take_ (i := 11) (N := some 14) (v := ?_) (a' := ?_) #[true, true, true, true, true, true, true, true, true, true, true, true, false, false, false, false] rfl rfl (by kernel_rfl) (fun _ _ _ h => h) (Or.inl ⟨by rfl, ?_⟩) hHeld ?_ ?_
  rotate_left
  · rintro w' ⟨s0, s1, s2, s3, s4⟩
    go_simp
    with_reducible rfl
  rotate_left
  · simp only [Act.put, List.setIfInBounds_toArray, List.set_cons_zero, List.set_cons_succ, i64_w, i32_w]
    rfl
  refine one_ (i := 12) (N := some 15) #[true, true, true, true, true, true, true, true, true, true, true, true, true, false, false, false] rfl rfl (by kernel_rfl) (by decide) (fun K hK => ?_)
  refine goes_ Try.func17 (by kernel_rfl) rfl #[.map (some gm)] (by rfl) rfl rfl (by (try simp only [List.map_toArray, List.map_cons, List.map_nil]); first | done | rfl) ?_
  refine (mc_calls gm _ _ HAT4.out).mono ?_
  rintro e w5 ⟨fm, rfl, hfm, hatf, hb⟩
  refine ⟨_, rfl, ?_⟩
  have LM := Aside0.mk (Nat.le_trans HB.out.size hfm)
  have n1_ := Aside0.mk (below_step HB.out hb)
  have HS5 := Aside0.mk (HS4.out.below hb)
  have HAF := Aside0.mk hatf
  clear HB hb hfm hatf HS4 HAT4
  have HB := n1_
  clear n1_
  refine hK.out _ _ ⟨(blk_cell HS5.out.box 0).trans rfl, (blk_cell HS5.out.box 1).trans rfl, (blk_cell HS5.out.box 2).trans rfl, (blk_cell HS5.out.box 3).trans rfl, (blk_cell HS5.out.box 4).trans rfl⟩ (fun hHeld => ?_)
  clear hK K
  refine norm_ (a' := ?_) ?_ ?_
  rotate_left
  · show Act.put _ (some 15) _ = _
    simp only [Act.put, List.setIfInBounds_toArray, List.set_cons_zero, List.set_cons_succ, i64_w, i32_w]
    rfl
  refine pure_ (i := 13) (N := some 16) (v := ?_) (a' := ?_) #[true, true, true, true, true, true, true, true, true, true, true, true, true, true, false, false] rfl rfl (by kernel_rfl) (fun _ _ _ h => h) (Or.inl ⟨by rfl, ?_⟩) ?_ ?_
  rotate_left
  · intro w'
    go_simp
    with_reducible rfl
  rotate_left
  · simp only [Act.put, List.setIfInBounds_toArray, List.set_cons_zero, List.set_cons_succ, i64_w, i32_w]
    rfl
  refine one_ (i := 14) (N := some 17) #[true, true, true, true, true, true, true, true, true, true, true, true, true, true, true, false] rfl rfl (by kernel_rfl) (by decide) (fun K hK => ?_)
  refine value_ (w1 := w5.alloc (.cells #[.int .i64 s.rev, .int .i64 s.a, .int .i64 s.b, .int .i64 s.c, .map (some fm)] 50 (0, 0))) (v := .pointer (some ⟨w5.heap.size, 0, none⟩)) (by rfl) rfl ?_ ?_
  · go_simp
    try rfl
  have hb8 : Below w5.heap.size w5 (w5.alloc (.cells #[.int .i64 s.rev, .int .i64 s.a, .int .i64 s.b, .int .i64 s.c, .map (some fm)] 50 (0, 0))) := below_alloc (Below.refl _ _) _
  have BKF := Aside0.mk (show (w5.alloc (.cells #[.int .i64 s.rev, .int .i64 s.a, .int .i64 s.b, .int .i64 s.c, .map (some fm)] 50 (0, 0))).heap[w5.heap.size]? = some (.cells #[.int .i64 s.rev, .int .i64 s.a, .int .i64 s.b, .int .i64 s.c, .map (some fm)] 50 (0, 0)) from blk_new w5 _)
  have LF := Aside0.mk HB.out.size
  have n1_ := Aside0.mk (below_step HB.out hb8)
  have HS8 := Aside0.mk (HS5.out.below hb8)
  have n2_ := Aside0.mk (HAF.out.below hb8)
  clear HB HAF hb8
  generalize w5.heap.size = fs at BKF LF ⊢
  generalize (w5.alloc (.cells #[.int .i64 s.rev, .int .i64 s.a, .int .i64 s.b, .int .i64 s.c, .map (some fm)] 50 (0, 0))) = w8 at BKF n1_ n2_ HS8 ⊢
  have HB := n1_
  have HAF := n2_
  clear n1_ n2_
  refine hK.out _ _ ⟨(blk_cell HS8.out.box 0).trans rfl, (blk_cell HS8.out.box 1).trans rfl, (blk_cell HS8.out.box 2).trans rfl, (blk_cell HS8.out.box 3).trans rfl, (blk_cell HS8.out.box 4).trans rfl⟩ (fun hHeld => ?_)
  clear hK K
  refine norm_ (a' := ?_) ?_ ?_
  rotate_left
  · show Act.put _ (some 17) _ = _
    simp only [Act.put, List.setIfInBounds_toArray, List.set_cons_zero, List.set_cons_succ, i64_w, i32_w]
    rfl
  refine pure_ (i := 15) (N := some 2) (v := ?_) (a' := ?_) #[true, true, true, true, true, true, true, true, true, true, true, true, true, true, true, true] rfl rfl (by kernel_rfl) (fun _ _ _ h => h) (Or.inl ⟨by rfl, ?_⟩) ?_ ?_
  rotate_left
  · intro w'
    go_simp
    with_reducible rfl
  rotate_left
  · simp only [Act.put, List.setIfInBounds_toArray, List.set_cons_zero, List.set_cons_succ, i64_w, i32_w]
    rfl
  refine done_ (by kernel_rfl) ?_
  try go_wp2
  go_ret
  refine ⟨fs, fm, rfl, HB.out, ⟨LF.out, LM.out⟩, ⟨blk_lt BKF.out, HAF.out.lt⟩, fun X' h1 h2 h3 h4 => ⟨BKF.out, ⟨l, HL.out, HAF.out, fun q hq => Kd.R_below (Kd.R_mono (Kd.R_bound (HR.out q hq)) (fun k hk e => hk.1 (h2 k e hk.2.2.1))) HB.out⟩, ⟨h3, h4⟩, ?_⟩⟩
  have h5 := HS.out.lo.1
  have h6 := HS.out.lt.1
  exact ⟨by have := LF.out; omega, by have := LM.out; omega⟩
end Go.Proofs.Ythnnjfichkhdfaa.In
