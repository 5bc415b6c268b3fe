/- compareKeys: the order of keys. No condition. -/
import Derived.Test.YteekdkkfegcoeaaDgx3
import Derived.Test.YteekdkkfegcoeaaMp
import Derived.BigQuiet
import Derived.Lib.SliceRun
import Derived.Sort.Grow
import Derived.DeepKeys4
namespace Go.Proofs.Yteekdkkfegcoeaa.Dg
open Go.RowKit Go.Sort Go.Proofs.YteekdkkfegcoeaaW.PrintWords Go.Proofs.YteekdkkfegcoeaaW.PrintLast Go.Proofs.YteekdkkfegcoeaaW.PrintMore
open Go.Proofs.Yteekdkkfegcoeaa
set_option linter.unusedVariables false
set_option linter.unusedSimpArgs false
attribute [local go_sem] Oper.semAt_some
def cells3 (x : S24) : List Value := [.int .i64 x.f0, .int .i64 x.f1, .int .i64 x.f2]
def encK (x : S24) : Value := .agg #[.int .i64 x.f0, .int .i64 x.f1, .int .i64 x.f2]
theorem size_alloc1 (w : World) (o : Obj) : (w.alloc o).heap.size = w.heap.size + 1 := Array.size_push _
instance inhK : Inhabited S24 := ⟨z24⟩
/-- only made and drawn -/
def Gw (W W' : World) : Prop := ∃ q os, W' = grow (W.drewN q) os
theorem Gw.refl (W : World) : Gw W W := ⟨0, #[], by simp [World.drewN]⟩
theorem Gw.drewN {W W' : World} (h : Gw W W') (n : Nat) : Gw W (W'.drewN n) := by
  obtain ⟨q, os, rfl⟩ := h
  exact ⟨q + n, os, by simp [World.drewN, grow, Nat.add_assoc]⟩
theorem Gw.drew {W W' : World} (h : Gw W W') : Gw W W'.drew := h.drewN 1
theorem Gw.alloc {W W' : World} (h : Gw W W') (o : Obj) : Gw W (W'.alloc o) := by
  obtain ⟨q, os, rfl⟩ := h
  exact ⟨q, os ++ #[o], by rw [alloc_eq_grow, grow_grow]⟩
theorem Gw.below {W W' : World} (h : Gw W W') : Below W.heap.size W W' := by
  obtain ⟨q, os, rfl⟩ := h
  refine ⟨rfl, rfl, rfl, by simp [grow, World.drewN], fun k hk => ?_⟩
  show (W.heap ++ os)[k]? = _
  rw [Array.getElem?_append_left hk]
def cmpI (a b : Int) : Int := if a < b then -1 else if a > b then 1 else 0
theorem cmpI_is (a b : Int) : cmp_Compare_int.f a b = some (cmpI a b) := by
  unfold cmp_Compare_int.f cmp_isNaN_int.f cmpI
  simp
  split
  · rfl
  · split <;> rfl
/-- the order of keys -/
def cmpK (x y : S24) : Int := if cmpI x.f0 y.f0 ≠ 0 then cmpI x.f0 y.f0 else if cmpI x.f1 y.f1 ≠ 0 then cmpI x.f1 y.f1 else cmpI x.f2 y.f2
theorem or_is (a b c : Int) : cmp_Or_int.f 5 [a, b, c] = some (if a ≠ 0 then a else if b ≠ 0 then b else c) := by
  unfold cmp_Or_int.f
  simp only [cmp_Or_int.l0, List.length_cons, List.length_nil]
  by_cases ha : a = 0
  · by_cases hb : b = 0
    · by_cases hc : c = 0 <;> simp [ha, hb, hc, Go.Proofs.YteekdkkfegcoeaaW.PrintWords.rd, Go.Proofs.YteekdkkfegcoeaaW.PrintWords.rdOf, RowKit.wrap64]
    · simp [ha, hb, Go.Proofs.YteekdkkfegcoeaaW.PrintWords.rd, Go.Proofs.YteekdkkfegcoeaaW.PrintWords.rdOf, RowKit.wrap64]
  · simp [ha, Go.Proofs.YteekdkkfegcoeaaW.PrintWords.rd, Go.Proofs.YteekdkkfegcoeaaW.PrintWords.rdOf, RowKit.wrap64]
theorem row3 {w : World} {g : Nat} {a b c : Int} (h : w.heap[g]? = some (.cells #[.int .i64 a, .int .i64 b, .int .i64 c] 3 (0, 0))) : Kd.C (Kd.int .i64) w (some ⟨g, 0, none⟩) [a, b, c].length [a, b, c] := by
  refine ⟨rfl, (show (3 : Nat) ≤ 9223372036854775807 by decide), fun _ => ⟨_, rfl, fun j p hj => ?_⟩⟩
  have key : ∀ t : Nat, ∀ v : Int, (#[Value.int .i64 a, .int .i64 b, .int .i64 c] : Array Value)[t]? = some (.int .i64 v) → w.cell? ⟨g, t, none⟩ = some (.int .i64 v) := fun t v hv => (blk_cell h t).trans hv
  refine ⟨[.int .i64 p], rfl, rfl, fun i u hu => ?_⟩
  cases i with
  | zero =>
    obtain rfl : u = .int .i64 p := by simpa using hu.symm
    rw [add_plain]
    show w.cell? ⟨g, j * 1 + 0, none⟩ = _
    rw [Nat.mul_one, Nat.add_zero]
    refine key j p ?_
    match j, hj with
    | 0, hj => simpa using hj
    | 1, hj => simpa using hj
    | 2, hj => simpa using hj
    | j + 3, hj => simp at hj
  | succ i => simp at hu
set_option maxHeartbeats 8000000 in
set_option maxRecDepth 100000 in
theorem cmp_calls (x y : S24) (w : World) : Calls Try.prog 29 #[encK x, encK y] w fun e w' => e = .returned (.int .i64 (cmpK x y)) ∧ Gw w w' := by
  have hu24 := Try.underlying24
  unfold encK
  go_enter Try.func29, Try.ntmps29
  go_wp2
  have GW := Aside0.mk (((Gw.refl w).alloc (.cells #[.int .i64 x.f0, .int .i64 x.f1, .int .i64 x.f2] 24 (0, 0))).alloc (.cells #[.int .i64 y.f0, .int .i64 y.f1, .int .i64 y.f2] 24 (0, 0)))
  have BX := (show ((w.alloc (.cells #[.int .i64 x.f0, .int .i64 x.f1, .int .i64 x.f2] 24 (0, 0))).alloc (.cells #[.int .i64 y.f0, .int .i64 y.f1, .int .i64 y.f2] 24 (0, 0))).heap[w.heap.size]? = some (.cells #[.int .i64 x.f0, .int .i64 x.f1, .int .i64 x.f2] 24 (0, 0)) from blk_alloc (blk_new w _) _)
  have BY := (show ((w.alloc (.cells #[.int .i64 x.f0, .int .i64 x.f1, .int .i64 x.f2] 24 (0, 0))).alloc (.cells #[.int .i64 y.f0, .int .i64 y.f1, .int .i64 y.f2] 24 (0, 0))).heap[w.heap.size + 1]? = some (.cells #[.int .i64 y.f0, .int .i64 y.f1, .int .i64 y.f2] 24 (0, 0)) from by
    have h_ := blk_new (w.alloc (.cells #[.int .i64 x.f0, .int .i64 x.f1, .int .i64 x.f2] 24 (0, 0))) (.cells #[.int .i64 y.f0, .int .i64 y.f1, .int .i64 y.f2] 24 (0, 0))
    have e_ : (w.alloc (.cells #[.int .i64 x.f0, .int .i64 x.f1, .int .i64 x.f2] 24 (0, 0))).heap.size = w.heap.size + 1 := size_alloc1 _ _
    rw [e_] at h_
    exact h_)
  generalize w.heap.size + 1 = gy at BY ⊢
  generalize w.heap.size = gx at BX ⊢
  generalize ((w.alloc (.cells #[.int .i64 x.f0, .int .i64 x.f1, .int .i64 x.f2] 24 (0, 0))).alloc (.cells #[.int .i64 y.f0, .int .i64 y.f1, .int .i64 y.f2] 24 (0, 0))) = w2 at GW BX BY ⊢
  have HXY := Aside0.mk (show (fun w' => w'.cell? ⟨gx, 0, none⟩ = some (.int .i64 x.f0) ∧ w'.cell? ⟨gx, 1, none⟩ = some (.int .i64 x.f1) ∧ w'.cell? ⟨gx, 2, none⟩ = some (.int .i64 x.f2) ∧ w'.cell? ⟨gy, 0, none⟩ = some (.int .i64 y.f0) ∧ w'.cell? ⟨gy, 1, none⟩ = some (.int .i64 y.f1) ∧ w'.cell? ⟨gy, 2, none⟩ = some (.int .i64 y.f2)) w2 from ⟨(blk_cell BX 0).trans rfl, (blk_cell BX 1).trans rfl, (blk_cell BX 2).trans rfl, (blk_cell BY 0).trans rfl, (blk_cell BY 1).trans rfl, (blk_cell BY 2).trans rfl⟩)
  clear BX BY
  refine start_ (n := 18) (S := fun w' => w'.cell? ⟨gx, 0, none⟩ = some (.int .i64 x.f0) ∧ w'.cell? ⟨gx, 1, none⟩ = some (.int .i64 x.f1) ∧ w'.cell? ⟨gx, 2, none⟩ = some (.int .i64 x.f2) ∧ w'.cell? ⟨gy, 0, none⟩ = some (.int .i64 y.f0) ∧ w'.cell? ⟨gy, 1, none⟩ = some (.int .i64 y.f1) ∧ w'.cell? ⟨gy, 2, none⟩ = some (.int .i64 y.f2)) (ds := []) #[false, false, false, false, false, false, false, false, false, false, false, false, false, false, false, false, false, false] (by kernel_rfl) rfl rfl ⟨HXY.out.1, HXY.out.2.1, HXY.out.2.2.1, HXY.out.2.2.2.1, HXY.out.2.2.2.2.1, HXY.out.2.2.2.2.2⟩ (fun hHeld => ?_)
  have n0_ := Aside0.mk GW.out.drew
  clear GW
  have GW := n0_
  clear n0_
  have n1_ := Aside0.mk (show (fun w' => w'.cell? ⟨gx, 0, none⟩ = some (.int .i64 x.f0) ∧ w'.cell? ⟨gx, 1, none⟩ = some (.int .i64 x.f1) ∧ w'.cell? ⟨gx, 2, none⟩ = some (.int .i64 x.f2) ∧ w'.cell? ⟨gy, 0, none⟩ = some (.int .i64 y.f0) ∧ w'.cell? ⟨gy, 1, none⟩ = some (.int .i64 y.f1) ∧ w'.cell? ⟨gy, 2, none⟩ = some (.int .i64 y.f2)) w2.drew from HXY.out)
  clear HXY
  have HXY := n1_
  clear n1_
  generalize w2.drew = w3 at GW HXY hHeld ⊢
  refine pure_ (i := 0) (N := some 5) (v := ?_) (a' := ?_) #[true, false, false, false, false, false, false, false, false, false, false, false, false, false, false, false, false, false] rfl rfl (by kernel_rfl) (fun _ _ _ h => h) (Or.inl ⟨by rfl, ?_⟩) ?_ ?_
  rotate_left
  · intro w'
    go_simp
    with_reducible rfl
  rotate_left
  · simp only [Act.put, List.setIfInBounds_toArray, List.set_cons_zero, List.set_cons_succ, i64_w, i32_w]
    rfl
  refine take_ (i := 1) (N := some 6) (v := ?_) (a' := ?_) #[true, true, false, false, false, false, false, false, false, false, false, false, false, false, false, false, false, false] rfl rfl (by kernel_rfl) (fun _ _ _ h => h) (Or.inl ⟨by rfl, ?_⟩) hHeld ?_ ?_
  rotate_left
  · rintro w' ⟨s0, s1, s2, t0, t1, t2⟩
    go_simp
    with_reducible rfl
  rotate_left
  · simp only [Act.put, List.setIfInBounds_toArray, List.set_cons_zero, List.set_cons_succ, i64_w, i32_w]
    rfl
  refine pure_ (i := 2) (N := some 7) (v := ?_) (a' := ?_) #[true, true, true, false, false, false, false, false, false, false, false, false, false, false, false, false, false, false] rfl rfl (by kernel_rfl) (fun _ _ _ h => h) (Or.inl ⟨by rfl, ?_⟩) ?_ ?_
  rotate_left
  · intro w'
    go_simp
    with_reducible rfl
  rotate_left
  · simp only [Act.put, List.setIfInBounds_toArray, List.set_cons_zero, List.set_cons_succ, i64_w, i32_w]
    rfl
  refine take_ (i := 3) (N := some 8) (v := ?_) (a' := ?_) #[true, true, true, true, false, false, false, false, false, false, false, false, false, false, false, false, false, false] rfl rfl (by kernel_rfl) (fun _ _ _ h => h) (Or.inl ⟨by rfl, ?_⟩) hHeld ?_ ?_
  rotate_left
  · rintro w' ⟨s0, s1, s2, t0, t1, t2⟩
    go_simp
    with_reducible rfl
  rotate_left
  · simp only [Act.put, List.setIfInBounds_toArray, List.set_cons_zero, List.set_cons_succ, i64_w, i32_w]
    rfl
  refine pure_ (i := 5) (N := some 10) (v := ?_) (a' := ?_) #[true, true, true, true, false, true, false, false, false, false, false, false, false, false, false, false, false, false] rfl rfl (by kernel_rfl) (fun _ _ _ h => h) (Or.inl ⟨by rfl, ?_⟩) ?_ ?_
  rotate_left
  · intro w'
    go_simp
    with_reducible rfl
  rotate_left
  · simp only [Act.put, List.setIfInBounds_toArray, List.set_cons_zero, List.set_cons_succ, i64_w, i32_w]
    rfl
  refine take_ (i := 6) (N := some 11) (v := ?_) (a' := ?_) #[true, true, true, true, false, true, true, false, false, false, false, false, false, false, false, false, false, false] rfl rfl (by kernel_rfl) (fun _ _ _ h => h) (Or.inl ⟨by rfl, ?_⟩) hHeld ?_ ?_
  rotate_left
  · rintro w' ⟨s0, s1, s2, t0, t1, t2⟩
    go_simp
    with_reducible rfl
  rotate_left
  · simp only [Act.put, List.setIfInBounds_toArray, List.set_cons_zero, List.set_cons_succ, i64_w, i32_w]
    rfl
  refine pure_ (i := 7) (N := some 12) (v := ?_) (a' := ?_) #[true, true, true, true, false, true, true, true, false, false, false, false, false, false, false, false, false, false] rfl rfl (by kernel_rfl) (fun _ _ _ h => h) (Or.inl ⟨by rfl, ?_⟩) ?_ ?_
  rotate_left
  · intro w'
    go_simp
    with_reducible rfl
  rotate_left
  · simp only [Act.put, List.setIfInBounds_toArray, List.set_cons_zero, List.set_cons_succ, i64_w, i32_w]
    rfl
  refine take_ (i := 8) (N := some 13) (v := ?_) (a' := ?_) #[true, true, true, true, false, true, true, true, true, false, false, false, false, false, false, false, false, false] rfl rfl (by kernel_rfl) (fun _ _ _ h => h) (Or.inl ⟨by rfl, ?_⟩) hHeld ?_ ?_
  rotate_left
  · rintro w' ⟨s0, s1, s2, t0, t1, t2⟩
    go_simp
    with_reducible rfl
  rotate_left
  · simp only [Act.put, List.setIfInBounds_toArray, List.set_cons_zero, List.set_cons_succ, i64_w, i32_w]
    rfl
  refine pure_ (i := 10) (N := some 15) (v := ?_) (a' := ?_) #[true, true, true, true, false, true, true, true, true, false, true, false, false, false, false, false, false, false] rfl rfl (by kernel_rfl) (fun _ _ _ h => h) (Or.inl ⟨by rfl, ?_⟩) ?_ ?_
  rotate_left
  · intro w'
    go_simp
    with_reducible rfl
  rotate_left
  · simp only [Act.put, List.setIfInBounds_toArray, List.set_cons_zero, List.set_cons_succ, i64_w, i32_w]
    rfl
  refine take_ (i := 11) (N := some 16) (v := ?_) (a' := ?_) #[true, true, true, true, false, true, true, true, true, false, true, true, false, false, false, false, false, false] rfl rfl (by kernel_rfl) (fun _ _ _ h => h) (Or.inl ⟨by rfl, ?_⟩) hHeld ?_ ?_
  rotate_left
  · rintro w' ⟨s0, s1, s2, t0, t1, t2⟩
    go_simp
    with_reducible rfl
  rotate_left
  · simp only [Act.put, List.setIfInBounds_toArray, List.set_cons_zero, List.set_cons_succ, i64_w, i32_w]
    rfl
  refine pure_ (i := 12) (N := some 17) (v := ?_) (a' := ?_) #[true, true, true, true, false, true, true, true, true, false, true, true, true, false, false, false, false, false] rfl rfl (by kernel_rfl) (fun _ _ _ h => h) (Or.inl ⟨by rfl, ?_⟩) ?_ ?_
  rotate_left
  · intro w'
    go_simp
    with_reducible rfl
  rotate_left
  · simp only [Act.put, List.setIfInBounds_toArray, List.set_cons_zero, List.set_cons_succ, i64_w, i32_w]
    rfl
  refine take_ (i := 13) (N := some 18) (v := ?_) (a' := ?_) #[true, true, true, true, false, true, true, true, true, false, true, true, true, true, false, false, false, false] rfl rfl (by kernel_rfl) (fun _ _ _ h => h) (Or.inl ⟨by rfl, ?_⟩) hHeld ?_ ?_
  rotate_left
  · rintro w' ⟨s0, s1, s2, t0, t1, t2⟩
    go_simp
    with_reducible rfl
  rotate_left
  · simp only [Act.put, List.setIfInBounds_toArray, List.set_cons_zero, List.set_cons_succ, i64_w, i32_w]
    rfl
  refine one_ (i := 4) (N := some 9) #[true, true, true, true, true, true, true, true, true, false, true, true, true, true, false, false, false, false] rfl rfl (by kernel_rfl) (by decide) (fun K hK => ?_)
  refine goes_ Try.func38 (by kernel_rfl) rfl #[.int .i64 x.f0, .int .i64 y.f0] (by rfl) rfl rfl (by (try simp only [List.map_toArray, List.map_cons, List.map_nil]); first | done | rfl) ?_
  refine (cmp_Compare_int.calls x.f0 y.f0 (cmpI x.f0 y.f0) _ (cmpI_is x.f0 y.f0)).mono ?_
  rintro e_ w_ ⟨rfl, ⟨nd, rfl⟩⟩
  refine ⟨_, rfl, ?_⟩
  have n0_ := Aside0.mk (GW.out.drewN nd)
  have n1_ := Aside0.mk (show (fun w' => w'.cell? ⟨gx, 0, none⟩ = some (.int .i64 x.f0) ∧ w'.cell? ⟨gx, 1, none⟩ = some (.int .i64 x.f1) ∧ w'.cell? ⟨gx, 2, none⟩ = some (.int .i64 x.f2) ∧ w'.cell? ⟨gy, 0, none⟩ = some (.int .i64 y.f0) ∧ w'.cell? ⟨gy, 1, none⟩ = some (.int .i64 y.f1) ∧ w'.cell? ⟨gy, 2, none⟩ = some (.int .i64 y.f2)) (w3.drewN nd) from HXY.out)
  clear GW HXY
  have GW := n0_
  have HXY := n1_
  clear n0_ n1_
  refine hK.out _ _ ⟨HXY.out.1, HXY.out.2.1, HXY.out.2.2.1, HXY.out.2.2.2.1, HXY.out.2.2.2.2.1, HXY.out.2.2.2.2.2⟩ (fun hHeld => ?_)
  clear hK K
  refine norm_ (a' := ?_) ?_ ?_
  rotate_left
  · show Act.put _ (some 9) _ = _
    simp only [Act.put, List.setIfInBounds_toArray, List.set_cons_zero, List.set_cons_succ, i64_w, i32_w]
    rfl
  generalize w3.drewN nd = w4 at GW HXY hHeld ⊢
  refine one_ (i := 9) (N := some 14) #[true, true, true, true, true, true, true, true, true, true, true, true, true, true, false, false, false, false] rfl rfl (by kernel_rfl) (by decide) (fun K hK => ?_)
  refine goes_ Try.func38 (by kernel_rfl) rfl #[.int .i64 x.f1, .int .i64 y.f1] (by rfl) rfl rfl (by (try simp only [List.map_toArray, List.map_cons, List.map_nil]); first | done | rfl) ?_
  refine (cmp_Compare_int.calls x.f1 y.f1 (cmpI x.f1 y.f1) _ (cmpI_is x.f1 y.f1)).mono ?_
  rintro e_ w_ ⟨rfl, ⟨nd, rfl⟩⟩
  refine ⟨_, rfl, ?_⟩
  have n0_ := Aside0.mk (GW.out.drewN nd)
  have n1_ := Aside0.mk (show (fun w' => w'.cell? ⟨gx, 0, none⟩ = some (.int .i64 x.f0) ∧ w'.cell? ⟨gx, 1, none⟩ = some (.int .i64 x.f1) ∧ w'.cell? ⟨gx, 2, none⟩ = some (.int .i64 x.f2) ∧ w'.cell? ⟨gy, 0, none⟩ = some (.int .i64 y.f0) ∧ w'.cell? ⟨gy, 1, none⟩ = some (.int .i64 y.f1) ∧ w'.cell? ⟨gy, 2, none⟩ = some (.int .i64 y.f2)) (w4.drewN nd) from HXY.out)
  clear GW HXY
  have GW := n0_
  have HXY := n1_
  clear n0_ n1_
  refine hK.out _ _ ⟨HXY.out.1, HXY.out.2.1, HXY.out.2.2.1, HXY.out.2.2.2.1, HXY.out.2.2.2.2.1, HXY.out.2.2.2.2.2⟩ (fun hHeld => ?_)
  clear hK K
  refine norm_ (a' := ?_) ?_ ?_
  rotate_left
  · show Act.put _ (some 14) _ = _
    simp only [Act.put, List.setIfInBounds_toArray, List.set_cons_zero, List.set_cons_succ, i64_w, i32_w]
    rfl
  generalize w4.drewN nd = w5 at GW HXY hHeld ⊢
  refine one_ (i := 14) (N := some 19) #[true, true, true, true, true, true, true, true, true, true, true, true, true, true, true, false, false, false] rfl rfl (by kernel_rfl) (by decide) (fun K hK => ?_)
  refine goes_ Try.func38 (by kernel_rfl) rfl #[.int .i64 x.f2, .int .i64 y.f2] (by rfl) rfl rfl (by (try simp only [List.map_toArray, List.map_cons, List.map_nil]); first | done | rfl) ?_
  refine (cmp_Compare_int.calls x.f2 y.f2 (cmpI x.f2 y.f2) _ (cmpI_is x.f2 y.f2)).mono ?_
  rintro e_ w_ ⟨rfl, ⟨nd, rfl⟩⟩
  refine ⟨_, rfl, ?_⟩
  have n0_ := Aside0.mk (GW.out.drewN nd)
  have n1_ := Aside0.mk (show (fun w' => w'.cell? ⟨gx, 0, none⟩ = some (.int .i64 x.f0) ∧ w'.cell? ⟨gx, 1, none⟩ = some (.int .i64 x.f1) ∧ w'.cell? ⟨gx, 2, none⟩ = some (.int .i64 x.f2) ∧ w'.cell? ⟨gy, 0, none⟩ = some (.int .i64 y.f0) ∧ w'.cell? ⟨gy, 1, none⟩ = some (.int .i64 y.f1) ∧ w'.cell? ⟨gy, 2, none⟩ = some (.int .i64 y.f2)) (w5.drewN nd) from HXY.out)
  clear GW HXY
  have GW := n0_
  have HXY := n1_
  clear n0_ n1_
  refine hK.out _ _ ⟨HXY.out.1, HXY.out.2.1, HXY.out.2.2.1, HXY.out.2.2.2.1, HXY.out.2.2.2.2.1, HXY.out.2.2.2.2.2⟩ (fun hHeld => ?_)
  clear hK K
  refine norm_ (a' := ?_) ?_ ?_
  rotate_left
  · show Act.put _ (some 19) _ = _
    simp only [Act.put, List.setIfInBounds_toArray, List.set_cons_zero, List.set_cons_succ, i64_w, i32_w]
    rfl
  generalize w5.drewN nd = w6 at GW HXY hHeld ⊢
  refine one_ (i := 15) (N := some 20) #[true, true, true, true, true, true, true, true, true, true, true, true, true, true, true, true, false, false] rfl rfl (by kernel_rfl) (by decide) (fun K hK => ?_)
  refine value_ (w1 := w6.alloc (.cells #[.int .i64 (cmpI x.f0 y.f0), .int .i64 (cmpI x.f1 y.f1), .int .i64 (cmpI x.f2 y.f2)] 3 (0, 0))) (v := .slice (some ⟨w6.heap.size, 0, none⟩) 3 3) (by rfl) rfl ?_ ?_
  · go_simp
    try rfl
  have HBN := Aside0.mk (show (w6.alloc (.cells #[.int .i64 (cmpI x.f0 y.f0), .int .i64 (cmpI x.f1 y.f1), .int .i64 (cmpI x.f2 y.f2)] 3 (0, 0))).heap[w6.heap.size]? = some (.cells #[.int .i64 (cmpI x.f0 y.f0), .int .i64 (cmpI x.f1 y.f1), .int .i64 (cmpI x.f2 y.f2)] 3 (0, 0)) from blk_new w6 _)
  have n0_ := Aside0.mk (GW.out.alloc (.cells #[.int .i64 (cmpI x.f0 y.f0), .int .i64 (cmpI x.f1 y.f1), .int .i64 (cmpI x.f2 y.f2)] 3 (0, 0)))
  have n1_ := Aside0.mk (show (fun w' => w'.cell? ⟨gx, 0, none⟩ = some (.int .i64 x.f0) ∧ w'.cell? ⟨gx, 1, none⟩ = some (.int .i64 x.f1) ∧ w'.cell? ⟨gx, 2, none⟩ = some (.int .i64 x.f2) ∧ w'.cell? ⟨gy, 0, none⟩ = some (.int .i64 y.f0) ∧ w'.cell? ⟨gy, 1, none⟩ = some (.int .i64 y.f1) ∧ w'.cell? ⟨gy, 2, none⟩ = some (.int .i64 y.f2)) (w6.alloc (.cells #[.int .i64 (cmpI x.f0 y.f0), .int .i64 (cmpI x.f1 y.f1), .int .i64 (cmpI x.f2 y.f2)] 3 (0, 0))) from ⟨Go.Lib.cell?_alloc_some _ HXY.out.1, Go.Lib.cell?_alloc_some _ HXY.out.2.1, Go.Lib.cell?_alloc_some _ HXY.out.2.2.1, Go.Lib.cell?_alloc_some _ HXY.out.2.2.2.1, Go.Lib.cell?_alloc_some _ HXY.out.2.2.2.2.1, Go.Lib.cell?_alloc_some _ HXY.out.2.2.2.2.2⟩)
  clear GW HXY
  have GW := n0_
  have HXY := n1_
  clear n0_ n1_
  generalize w6.heap.size = gb at HBN ⊢
  generalize w6.alloc (.cells #[.int .i64 (cmpI x.f0 y.f0), .int .i64 (cmpI x.f1 y.f1), .int .i64 (cmpI x.f2 y.f2)] 3 (0, 0)) = w7 at GW HXY HBN ⊢
  refine hK.out _ _ ⟨HXY.out.1, HXY.out.2.1, HXY.out.2.2.1, HXY.out.2.2.2.1, HXY.out.2.2.2.2.1, HXY.out.2.2.2.2.2⟩ (fun hHeld => ?_)
  clear hK K
  refine norm_ (a' := ?_) ?_ ?_
  rotate_left
  · show Act.put _ (some 20) _ = _
    simp only [Act.put, List.setIfInBounds_toArray, List.set_cons_zero, List.set_cons_succ, i64_w, i32_w]
    rfl
  refine one_ (i := 16) (N := some 21) #[true, true, true, true, true, true, true, true, true, true, true, true, true, true, true, true, true, false] rfl rfl (by kernel_rfl) (by decide) (fun K hK => ?_)
  refine goes_ Try.func37 (by kernel_rfl) rfl #[.slice (some ⟨gb, 0, none⟩) 3 3] (by rfl) rfl rfl (by (try simp only [List.map_toArray, List.map_cons, List.map_nil]); first | done | rfl) ?_
  refine (cmp_Or_int.calls 5 (some ⟨gb, 0, none⟩) 3 [cmpI x.f0 y.f0, cmpI x.f1 y.f1, cmpI x.f2 y.f2] (cmpK x y) _ (row3 HBN.out) (Nat.le_refl _) (or_is _ _ _)).mono ?_
  rintro e_ w_ ⟨rfl, ⟨nd, rfl⟩⟩
  refine ⟨_, rfl, ?_⟩
  have n0_ := Aside0.mk (GW.out.drewN nd)
  have n1_ := Aside0.mk (show (fun w' => w'.cell? ⟨gx, 0, none⟩ = some (.int .i64 x.f0) ∧ w'.cell? ⟨gx, 1, none⟩ = some (.int .i64 x.f1) ∧ w'.cell? ⟨gx, 2, none⟩ = some (.int .i64 x.f2) ∧ w'.cell? ⟨gy, 0, none⟩ = some (.int .i64 y.f0) ∧ w'.cell? ⟨gy, 1, none⟩ = some (.int .i64 y.f1) ∧ w'.cell? ⟨gy, 2, none⟩ = some (.int .i64 y.f2)) (w7.drewN nd) from HXY.out)
  clear GW HXY HBN
  have GW := n0_
  have HXY := n1_
  clear n0_ n1_
  generalize w7.drewN nd = w8 at GW HXY ⊢
  refine hK.out _ _ ⟨HXY.out.1, HXY.out.2.1, HXY.out.2.2.1, HXY.out.2.2.2.1, HXY.out.2.2.2.2.1, HXY.out.2.2.2.2.2⟩ (fun hHeld => ?_)
  clear hK K
  refine norm_ (a' := ?_) ?_ ?_
  rotate_left
  · show Act.put _ (some 21) _ = _
    simp only [Act.put, List.setIfInBounds_toArray, List.set_cons_zero, List.set_cons_succ, i64_w, i32_w]
    rfl
  refine pure_ (i := 17) (N := some 4) (v := ?_) (a' := ?_) #[true, true, true, true, true, true, true, true, true, true, true, true, true, true, true, true, true, true] rfl rfl (by kernel_rfl) (fun _ _ _ h => h) (Or.inl ⟨by rfl, ?_⟩) ?_ ?_
  rotate_left
  · intro w'
    go_simp
    with_reducible rfl
  rotate_left
  · simp only [Act.put, List.setIfInBounds_toArray, List.set_cons_zero, List.set_cons_succ, i64_w, i32_w]
    rfl
  refine done_ (by kernel_rfl) ?_
  try clear hHeld
  go_wp2
  go_ret
  exact ⟨rfl, GW.out⟩
end Go.Proofs.Yteekdkkfegcoeaa.Dg
