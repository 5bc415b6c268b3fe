/- inputs.Store: Set. Condition: fewer than 1000000000 changes, lists of fewer than 1000000 numbers. -/
import Derived.Test.YthnnjfichkhdfaaInx1
import Derived.Test.YthnnjfichkhdfaaMp
import Derived.Test.YthnnjfichkhdfaaRg
import Derived.Test.YthnnjfichkhdfaaInhGt
import Derived.Lib.SliceRun
import Derived.BigQuiet
import Derived.DeepKeys4
namespace Go.Proofs.Ythnnjfichkhdfaa.In
open Go.RowKit Go.Proofs.YthnnjfichkhdfaaW.PrintWords Go.Proofs.YthnnjfichkhdfaaW.PrintLast Go.Proofs.YthnnjfichkhdfaaW.PrintMore
open Go.Proofs.Ythnnjfichkhdfaa
set_option linter.unusedVariables false
set_option linter.unusedSimpArgs false
open Go.ChangeMaps (setBlock)
/-- the store behind a change -/
def bump (s : Sto) (n : Nat) (m : List (K3 × Pc)) : Sto := ⟨s.rev + 1, if 0 < n then s.rev + 1 else s.a, if 1 < n then s.rev + 1 else s.b, if 2 < n then s.rev + 1 else s.c, m⟩
set_option maxHeartbeats 8000000 in
set_option maxRecDepth 100000 in
theorem set_same (X : Nat → Prop) (base gs gm : Nat) (s : Sto) (W : World) (h : St X base gs gm s W) (b d : Int) (hk : ∃ lk, keyOf Try.prog 32 (enc3 (0, b, d)) = some lk) (A1 : Option Addr) (c1 : Nat) (ys : List Int) (ty : ByteArray) (hr1 : Kd.C (Kd.int .i64) W A1 ys.length ys) (hc1 : ys.length ≤ c1) (e : Int) (he0 : 0 ≤ e) (he1 : e ≤ 2) (kk : Nat)
    (hdu : ((Mp.aget s.m (0, b, d)).getD z0).du = e) (heq : inputs_Equal.f kk ((Mp.aget s.m (0, b, d)).getD z0).xs ((Mp.aget s.m (0, b, d)).getD z0).t ys ty = some true) :
    Calls Try.prog 7 #[.pointer (some ⟨gs, 0, none⟩), .agg #[.int .i64 0, .int .i64 b, .int .i64 d], .agg #[.slice A1 ys.length c1, .string ty], .int .i64 e] W fun E W' => E = .returned (.tuple #[.bool false, .int .i64 0]) ∧ Below W.heap.size W W' := by
  have hu32 := Try.underlying32
  have hu50 := Try.underlying50
  have hu52 := Try.underlying52
  have hu37 := Try.underlying37
  have hu48 := Try.underlying48
  have HS := Aside0.mk h
  have HKEY := Aside0.mk hk
  obtain ⟨⟨v, xs, t, ch, du⟩, hp, hR, l, hl0, hat, hget, hrows⟩ := h.cell (0, b, d)
  simp only at hp hR
  obtain ⟨A, cc, rfl⟩ := Kd.R_slice hR
  have HR := Aside0.mk hR
  have HGET := Aside0.mk hget
  have HCC := Aside0.mk (Kd.R_reads' hR).2.1
  have HR1 := Aside0.mk hr1
  have HC1 := Aside0.mk hc1
  have f0 : decide (e < 0) = false := decide_eq_false (by omega)
  have f1 : decide (e ≥ 3) = false := decide_eq_false (by omega)
  have f1' : decide (3 ≤ e) = false := decide_eq_false (by omega)
  rw [← hp] at hdu heq
  simp only at hdu heq
  subst hdu
  have HEQ := Aside0.mk heq
  clear hR hp hget h hl0 hk hr1 hc1 heq hrows
  have HB := Aside0.mk (Below.refl W.heap.size W)
  go_enter Try.func7, Try.ntmps7
  go_wp2_with (first | ((with_reducible refine gate_dst (N := 5) rfl ?_); refine box_event ?hg (N := 5) ?hd (cs := #[.int .i64 0, .int .i64 b, .int .i64 d]) (t := 32) ?hr ?_; (case hd => rfl); (case hg => rfl); (case hr => first | (go_simp; done) | (go_simp; rfl)); intro g5 hg w2 hbox hb; have BKg5 := Aside0.mk hbox; have GEg5 := Aside0.mk (show W.heap.size = g5 from hg.symm); have hk0 : w2.cell? ⟨g5, 0, none⟩ = some (.int .i64 0) := (blk_cell hbox 0).trans rfl; have n2_ := Aside0.mk (HS.out.below hb); have HS2 := n2_; clear n2_; have n1_ := Aside0.mk (below_step HB.out hb); clear HB; have HB := n1_; clear n1_; clear hbox hb hg) | ((with_reducible refine gate_dst (N := 6) rfl ?_); refine box_event ?hg (N := 6) ?hd (cs := #[.slice A1 ys.length c1, .string ty]) (t := 37) ?hr ?_; (case hd => rfl); (case hg => rfl); (case hr => first | (go_simp; done) | (go_simp; rfl)); intro g6 hg w3 hbox hb; have BKg6 := Aside0.mk hbox; have GEg6 := Aside0.mk (show w2.heap.size = g6 from hg.symm); clear hk0; have HS3 := Aside0.mk (HS2.out.below hb); have n1_ := Aside0.mk (below_step HB.out hb); clear HB; have HB := n1_; clear n1_; have n2_ := Aside0.mk (blk_below BKg5.out hb); clear BKg5; have BKg5 := n2_; clear n2_; have HAT := Aside0.mk (hat.keep ((HB.out.block gm (St.lt HS.out).2))); have hk0 : w3.cell? ⟨g5, 0, none⟩ = some (.int .i64 0) := (blk_cell BKg5.out 0).trans rfl; clear hbox hb hg))
  refine start_ (n := 8) (S := fun w' => w'.cell? ⟨gs, 4, none⟩ = some (.map (some gm)) ∧ w'.cell? ⟨g5, 0, none⟩ = some (.int .i64 0) ∧ w'.cell? ⟨g5, 1, none⟩ = some (.int .i64 b) ∧ w'.cell? ⟨g5, 2, none⟩ = some (.int .i64 d) ∧ Mp.At Try.prog 32 enc3 w' gm (Mp.vals encC l)) (ds := [7]) #[false, false, false, false, false, false, false, false] (by kernel_rfl) rfl rfl ⟨(blk_cell (blk_drew HS3.out.box) 4).trans rfl, (blk_cell (blk_drew BKg5.out) 0).trans rfl, (blk_cell (blk_drew BKg5.out) 1).trans rfl, (blk_cell (blk_drew BKg5.out) 2).trans rfl, HAT.out.drew⟩ (fun hHeld => ?_)
  have HB4 := HB
  generalize hwd : w3.drew = w4 at hHeld ⊢
  have n1_ := Aside0.mk (show Below W.heap.size W w4 from hwd ▸ below_drew1 HB.out)
  clear HB
  have HB := n1_
  clear n1_
  have n2_ := Aside0.mk (show w4.heap[g6]? = some (.cells #[.slice A1 ys.length c1, .string ty] 37 (0, 0)) from hwd ▸ blk_drew BKg6.out)
  have n3_ := Aside0.mk (show St X base gs gm s w4 from hwd ▸ HS3.out.below (below_drew1 (Below.refl _ _)))
  have n4_ := Aside0.mk (show w4.heap[g5]? = some (.cells #[.int .i64 0, .int .i64 b, .int .i64 d] 32 (0, 0)) from hwd ▸ blk_drew BKg5.out)
  have n5_ := Aside0.mk (show Mp.At Try.prog 32 enc3 w4 gm (Mp.vals encC l) from hwd ▸ HAT.out.drew)
  have HB4 := HB
  clear BKg6 BKg5 HS3 hwd HAT
  have BKg6 := n2_
  have HS3 := n3_
  have BKg5 := n4_
  have HAT := n5_
  clear n2_ n3_ n4_ n5_
  refine pure_ (i := 0) (N := some 21) (v := ?_) (a' := ?_) #[true, false, false, false, false, false, false, false] rfl rfl (by kernel_rfl) (fun _ _ _ h => h) (Or.inl ⟨by rfl, ?_⟩) ?_ ?_
  rotate_left
  · intro w'
    go_simp
    with_reducible rfl
  rotate_left
  · simp only [Act.put, List.setIfInBounds_toArray, List.set_cons_zero, List.set_cons_succ, i64_w, i32_w]
    rfl
  refine pure_ (i := 1) (N := some 22) (v := ?_) (a' := ?_) #[true, true, false, false, false, false, false, false] rfl rfl (by kernel_rfl) (fun _ _ _ h => h) (Or.inl ⟨by rfl, ?_⟩) ?_ ?_
  rotate_left
  · intro w'
    go_simp
    with_reducible rfl
  rotate_left
  · simp only [Act.put, List.setIfInBounds_toArray, List.set_cons_zero, List.set_cons_succ, i64_w, i32_w]
    rfl
  refine pure_ (i := 2) (N := some 23) (v := ?_) (a' := ?_) #[true, true, true, false, false, false, false, false] rfl rfl (by kernel_rfl) (fun _ _ _ h => h) (Or.inl ⟨by rfl, ?_⟩) ?_ ?_
  rotate_left
  · intro w'
    go_simp
    with_reducible rfl
  rotate_left
  · simp only [Act.put, List.setIfInBounds_toArray, List.set_cons_zero, List.set_cons_succ, i64_w, i32_w]
    rfl
  refine take_ (i := 3) (N := some 24) (v := ?_) (a' := ?_) #[true, true, true, true, false, false, false, false] rfl rfl (by kernel_rfl) (fun _ _ _ h => h) (Or.inl ⟨by rfl, ?_⟩) hHeld ?_ ?_
  rotate_left
  · rintro w' ⟨s0, s1, s2, s3, s4⟩
    go_simp
    with_reducible rfl
  rotate_left
  · simp only [Act.put, List.setIfInBounds_toArray, List.set_cons_zero, List.set_cons_succ, i64_w, i32_w]
    rfl
  refine take_ (i := 4) (N := some 25) (v := ?_) (a' := ?_) #[true, true, true, true, true, false, false, false] rfl rfl (by kernel_rfl) (fun _ _ _ h => h) (Or.inl ⟨by rfl, ?_⟩) hHeld ?_ ?_
  rotate_left
  · rintro w' ⟨s0, s1, s2, s3, s4⟩
    go_simp
    with_reducible rfl
  rotate_left
  · simp only [Act.put, List.setIfInBounds_toArray, List.set_cons_zero, List.set_cons_succ, i64_w, i32_w]
    rfl
  refine take_ (i := 5) (N := some 26) (v := .agg #[.slice A xs.length cc, .string t, .int .i64 ch, .int .i64 du]) (a' := ?_) #[true, true, true, true, true, true, false, false] rfl rfl (by kernel_rfl) (fun _ _ _ h => h) (Or.inl ⟨by rfl, ?_⟩) hHeld ?_ ?_
  · rintro w' ⟨s0, s1, s2, s3, s4⟩
    obtain ⟨lk, hlk⟩ := HKEY.out
    have hrun := look w' gm l (0, b, d) _ s4 HGET.out hlk
    simp only [enc3, encC] at hrun
    go_simp
    all_goals first | (rw [hrun]; done) | (rw [hrun]; rfl) | (simp [hrun]; done) | exact hrun
  rotate_left
  · simp only [Act.put, List.setIfInBounds_toArray, List.set_cons_zero, List.set_cons_succ, i64_w, i32_w]
    rfl
  refine one_ (i := 6) (N := some 10) #[true, true, true, true, true, true, true, false] rfl rfl (by kernel_rfl) (by decide) (fun K hK => ?_)
  refine value_ (w1 := w4.alloc (.cells #[.slice none 0 0, .string ⟨#[]⟩, .int .i64 0, .int .i64 0] 52 (0, 0))) (v := .pointer (some ⟨w4.heap.size, 0, none⟩)) (by rfl) rfl ?_ ?_
  · go_simp
    try rfl
  have hb8 : Below w4.heap.size w4 (w4.alloc (.cells #[.slice none 0 0, .string ⟨#[]⟩, .int .i64 0, .int .i64 0] 52 (0, 0))) := below_alloc (Below.refl _ _) _
  have hx8 : (w4.alloc (.cells #[.slice none 0 0, .string ⟨#[]⟩, .int .i64 0, .int .i64 0] 52 (0, 0))).heap[w4.heap.size]? = some (.cells #[.slice none 0 0, .string ⟨#[]⟩, .int .i64 0, .int .i64 0] 52 (0, 0)) := blk_new w4 _
  have n1_ := Aside0.mk (below_step HB.out hb8)
  have LE7 := Aside0.mk (Nat.le_refl w4.heap.size)
  clear HB
  generalize hg7 : w4.heap.size = g7 at hx8 LE7 ⊢
  generalize (w4.alloc (.cells #[.slice none 0 0, .string ⟨#[]⟩, .int .i64 0, .int .i64 0] 52 (0, 0))) = w5 at hb8 hx8 n1_ ⊢
  have HB := n1_
  have BK7 := Aside0.mk hx8
  have HB8 := Aside0.mk hb8
  have G7 := Aside0.mk hg7
  clear n1_ hx8 hb8 hg7
  refine hK.out _ _ ⟨(blk_cell (blk_below HS3.out.box HB8.out) 4).trans rfl, (blk_cell (blk_below BKg5.out HB8.out) 0).trans rfl, (blk_cell (blk_below BKg5.out HB8.out) 1).trans rfl, (blk_cell (blk_below BKg5.out HB8.out) 2).trans rfl, hHeld.2.2.2.2.below HB8.out⟩ (fun hHeld => ?_)
  clear hK K
  refine norm_ (a' := ?_) ?_ ?_
  rotate_left
  · show Act.put _ (some 10) _ = _
    simp only [Act.put, List.setIfInBounds_toArray, List.set_cons_zero, List.set_cons_succ, i64_w, i32_w]
    rfl
  refine last_ (i := 7) (N := none) #[true, true, true, true, true, true, true, true] rfl rfl (by kernel_rfl) (by decide) (fun K hK => ?_)
  refine skip_ (w1 := ((((w5.setCell ⟨g7, 0, none⟩ (.slice A xs.length cc)).setCell ⟨g7, 1, none⟩ (.string t)).setCell ⟨g7, 2, none⟩ (.int .i64 ch)).setCell ⟨g7, 3, none⟩ (.int .i64 du))) (by rfl) rfl ?_ ?_
  · have c0 : w5.cell? ⟨g7, 0, none⟩ = some (.slice none 0 0) := (blk_cell BK7.out 0).trans rfl
    have c1 : w5.cell? ⟨g7, 1, none⟩ = some (.string ⟨#[]⟩) := (blk_cell BK7.out 1).trans rfl
    have c2 : w5.cell? ⟨g7, 2, none⟩ = some (.int .i64 0) := (blk_cell BK7.out 2).trans rfl
    have c3 : w5.cell? ⟨g7, 3, none⟩ = some (.int .i64 0) := (blk_cell BK7.out 3).trans rfl
    have d0 := blk_frozen BK7.out 0
    have d1 := blk_frozen BK7.out 1
    have d2 := blk_frozen BK7.out 2
    have d3 := blk_frozen BK7.out 3
    go_simp
    try rfl
  refine hK.out _ _ ?_
  clear hK K
  refine done_ (by kernel_rfl) ?_
  have n0_ := Aside0.mk (show Below w4.heap.size w4 ((((w5.setCell ⟨g7, 0, none⟩ (.slice A xs.length cc)).setCell ⟨g7, 1, none⟩ (.string t)).setCell ⟨g7, 2, none⟩ (.int .i64 ch)).setCell ⟨g7, 3, none⟩ (.int .i64 du)) from below_set (below_set (below_set (below_set HB8.out (Nat.le_of_eq G7.out)) (Nat.le_of_eq G7.out)) (Nat.le_of_eq G7.out)) (Nat.le_of_eq G7.out))
  have n1_ := Aside0.mk (show ((((w5.setCell ⟨g7, 0, none⟩ (.slice A xs.length cc)).setCell ⟨g7, 1, none⟩ (.string t)).setCell ⟨g7, 2, none⟩ (.int .i64 ch)).setCell ⟨g7, 3, none⟩ (.int .i64 du)).heap[g7]? = some (.cells #[.slice A xs.length cc, .string t, .int .i64 ch, .int .i64 du] 52 (0, 0)) from by refine blk_put (cs := #[.slice A xs.length cc, .string t, .int .i64 ch, .int .i64 0]) ?_ 3 _ rfl; refine blk_put (cs := #[.slice A xs.length cc, .string t, .int .i64 0, .int .i64 0]) ?_ 2 _ rfl; refine blk_put (cs := #[.slice A xs.length cc, .string ⟨#[]⟩, .int .i64 0, .int .i64 0]) ?_ 1 _ rfl; refine blk_put (cs := #[.slice none 0 0, .string ⟨#[]⟩, .int .i64 0, .int .i64 0]) ?_ 0 _ rfl; exact BK7.out)
  have n2_ := Aside0.mk (HS3.out.below n0_.out)
  have n4_ := Aside0.mk (below_step HB4.out n0_.out)
  have n5_ := Aside0.mk (HAT.out.below n0_.out)
  have n6_ := Aside0.mk (blk_below BKg6.out n0_.out)
  have n7_ := Aside0.mk (blk_below BKg5.out n0_.out)
  clear BKg6 BKg5 HAT
  clear HB HB8 BK7 HS3 HB4 hHeld G7
  generalize ((((w5.setCell ⟨g7, 0, none⟩ (.slice A xs.length cc)).setCell ⟨g7, 1, none⟩ (.string t)).setCell ⟨g7, 2, none⟩ (.int .i64 ch)).setCell ⟨g7, 3, none⟩ (.int .i64 du)) = w6 at n0_ n1_ n2_ n4_ n5_ n6_ n7_ ⊢
  have BK7 := n1_
  have HS6 := n2_
  have HB := n4_
  have HAT := n5_
  have BKg6 := n6_
  have BKg5 := n7_
  clear n5_ n6_ n7_
  clear n0_ n1_ n2_ n4_
  have hc7_0 : w6.cell? ⟨g7, 0, none⟩ = some (.slice A xs.length cc) := (blk_cell BK7.out 0).trans rfl
  have hc7_1 : w6.cell? ⟨g7, 1, none⟩ = some (.string t) := (blk_cell BK7.out 1).trans rfl
  have hc7_3 : w6.cell? ⟨g7, 3, none⟩ = some (.int .i64 du) := (blk_cell BK7.out 3).trans rfl
  have hc6_0 : w6.cell? ⟨g6, 0, none⟩ = some (.slice A1 ys.length c1) := (blk_cell BKg6.out 0).trans rfl
  have hc6_1 : w6.cell? ⟨g6, 1, none⟩ = some (.string ty) := (blk_cell BKg6.out 1).trans rfl
  go_wp2_with ((go_at_call 15; refine (inputs_Equal.calls kk A cc xs t A1 c1 ys ty true _ (Kd.C_below (Kd.R_reads' HR.out).2.2 HB.out) HCC.out (Kd.C_below HR1.out HB.out) HC1.out HEQ.out).mono ?_; rintro e_ w7 ⟨rfl, hb⟩; have n1_ := Aside0.mk (below_step HB.out hb); have n2_ := Aside0.mk (HS6.out.below hb); have n3_ := Aside0.mk (HAT.out.below hb); have n4_ := Aside0.mk (blk_below BKg5.out hb); have n5_ := Aside0.mk (blk_below BKg6.out hb); have n6_ := Aside0.mk (blk_below BK7.out hb); clear HB HS6 HAT BKg5 BKg6 BK7 hb hc7_0 hc7_1 hc7_3 hc6_0 hc6_1; have HB := n1_; have HS6 := n2_; have HAT := n3_; have BKg5 := n4_; have BKg6 := n5_; have BK7 := n6_; clear n1_ n2_ n3_ n4_ n5_ n6_))
  go_ret2
  exact ⟨rfl, HB.out⟩
set_option maxHeartbeats 8000000 in
set_option maxRecDepth 100000 in
theorem set_new (X : Nat → Prop) (base gs gm : Nat) (s : Sto) (W : World) (h : St X base gs gm s W) (b d : Int) (hk : ∃ lk, keyOf Try.prog 32 (enc3 (0, b, d)) = some lk) (A1 : Option Addr) (c1 : Nat) (ys : List Int) (ty : ByteArray) (hR1 : Kd.R (Kd.int .i64) 3 W 0 (fun k => k ≠ gs) (.slice A1 ys.length c1) ys) (e : Int) (he0 : 0 ≤ e) (he1 : e ≤ 2) (kk : Nat)
    (hX : ∀ k, W.heap.size ≤ k → ¬ X k) (hs : -1 ≤ s.rev ∧ s.rev ≤ 1000000000) (hdr : 0 ≤ ((Mp.aget s.m (0, b, d)).getD z0).du ∧ ((Mp.aget s.m (0, b, d)).getD z0).du ≤ 2) (hl1 : ys.length < 1000000) (hne : ((Mp.aget s.m (0, b, d)).getD z0).du ≠ e ∨ inputs_Equal.f kk ((Mp.aget s.m (0, b, d)).getD z0).xs ((Mp.aget s.m (0, b, d)).getD z0).t ys ty = some false) :
    Calls Try.prog 7 #[.pointer (some ⟨gs, 0, none⟩), .agg #[.int .i64 0, .int .i64 b, .int .i64 d], .agg #[.slice A1 ys.length c1, .string ty], .int .i64 e] W fun E W' => E = .returned (.tuple #[.bool true, .int .i64 0]) ∧ St X base gs gm (bump s ((max ((Mp.aget s.m (0, b, d)).getD z0).du e + 1).toNat) (Mp.aset s.m (0, b, d) ⟨ys, ty, s.rev + 1, e⟩)) W' ∧ Kp W W' (fun k => k = gs ∨ k = gm) := by
  have hr1 := (Kd.R_reads' hR1).2.2
  have hc1 := (Kd.R_reads' hR1).2.1
  have HRA := Aside0.mk hR1
  have hu32 := Try.underlying32
  have hu50 := Try.underlying50
  have hu52 := Try.underlying52
  have hu37 := Try.underlying37
  have hu48 := Try.underlying48
  have HS := Aside0.mk h
  have HKEY := Aside0.mk hk
  obtain ⟨⟨v, xs, t, ch, du⟩, hp, hR, l, hl0, hat, hget, hrows⟩ := h.cell (0, b, d)
  simp only at hp hR
  obtain ⟨A, cc, rfl⟩ := Kd.R_slice hR
  have HR := Aside0.mk hR
  have HGET := Aside0.mk hget
  have HCC := Aside0.mk (Kd.R_reads' hR).2.1
  have HR1 := Aside0.mk hr1
  have HC1 := Aside0.mk hc1
  have f0 : decide (e < 0) = false := decide_eq_false (by omega)
  have f1 : decide (e ≥ 3) = false := decide_eq_false (by omega)
  have f1' : decide (3 ≤ e) = false := decide_eq_false (by omega)
  have HROWS := Aside0.mk hrows
  rw [← hp] at hdr hne
  rw [← hp]
  simp only at hdr hne
  simp only
  have HSR := Aside0.mk hs
  have HDR := Aside0.mk (show (0 ≤ du ∧ du ≤ 2) ∧ 0 ≤ e ∧ e ≤ 2 from ⟨hdr, he0, he1⟩)
  have HL1 := Aside0.mk hl1
  have HXX := Aside0.mk hX
  have HL0 := Aside0.mk hl0
  clear hs hdr he0 he1 hl1 hX
  have HB := Aside0.mk (Below.refl W.heap.size W)
  by_cases hm : du < e
  · have hmx : max du e = e := Int.max_eq_right (Int.le_of_lt hm)
    rw [hmx]
    have hmd : decide (du < e) = true := decide_eq_true hm
    by_cases hdu : du = e
    · have heq : inputs_Equal.f kk xs t ys ty = some false := hne.elim (fun h => absurd hdu h) id
      have g0 : (du == e) = true := beq_iff_eq.mpr hdu
      have g1 : decide (du = e) = true := decide_eq_true hdu
      have HEQ := Aside0.mk heq
      clear hR hp hget h hl0 hk hr1 hc1 heq hne hdu hR1 hrows
      go_enter Try.func7, Try.ntmps7
      go_wp2_with (first | ((with_reducible refine gate_dst (N := 5) rfl ?_); refine box_event ?hg (N := 5) ?hd (cs := #[.int .i64 0, .int .i64 b, .int .i64 d]) (t := 32) ?hr ?_; (case hd => rfl); (case hg => rfl); (case hr => first | (go_simp; done) | (go_simp; rfl)); intro g5 hg w2 hbox hb; have BKg5 := Aside0.mk hbox; have GEg5 := Aside0.mk (show W.heap.size = g5 from hg.symm); have hk0 : w2.cell? ⟨g5, 0, none⟩ = some (.int .i64 0) := (blk_cell hbox 0).trans rfl; have n2_ := Aside0.mk (HS.out.below hb); have HS2 := n2_; clear n2_; have n1_ := Aside0.mk (below_step HB.out hb); clear HB; have HB := n1_; clear n1_; clear hbox hb hg) | ((with_reducible refine gate_dst (N := 6) rfl ?_); refine box_event ?hg (N := 6) ?hd (cs := #[.slice A1 ys.length c1, .string ty]) (t := 37) ?hr ?_; (case hd => rfl); (case hg => rfl); (case hr => first | (go_simp; done) | (go_simp; rfl)); intro g6 hg w3 hbox hb; have BKg6 := Aside0.mk hbox; have GEg6 := Aside0.mk (show w2.heap.size = g6 from hg.symm); clear hk0; have HS3 := Aside0.mk (HS2.out.below hb); have n1_ := Aside0.mk (below_step HB.out hb); clear HB; have HB := n1_; clear n1_; have n2_ := Aside0.mk (blk_below BKg5.out hb); clear BKg5; have BKg5 := n2_; clear n2_; have HAT := Aside0.mk (hat.keep ((HB.out.block gm (St.lt HS.out).2))); have hk0 : w3.cell? ⟨g5, 0, none⟩ = some (.int .i64 0) := (blk_cell BKg5.out 0).trans rfl; clear hbox hb hg))
      refine start_ (n := 8) (S := fun w' => w'.cell? ⟨gs, 4, none⟩ = some (.map (some gm)) ∧ w'.cell? ⟨g5, 0, none⟩ = some (.int .i64 0) ∧ w'.cell? ⟨g5, 1, none⟩ = some (.int .i64 b) ∧ w'.cell? ⟨g5, 2, none⟩ = some (.int .i64 d) ∧ Mp.At Try.prog 32 enc3 w' gm (Mp.vals encC l)) (ds := [7]) #[false, false, false, false, false, false, false, false] (by kernel_rfl) rfl rfl ⟨(blk_cell (blk_drew HS3.out.box) 4).trans rfl, (blk_cell (blk_drew BKg5.out) 0).trans rfl, (blk_cell (blk_drew BKg5.out) 1).trans rfl, (blk_cell (blk_drew BKg5.out) 2).trans rfl, HAT.out.drew⟩ (fun hHeld => ?_)
      have HB4 := HB
      generalize hwd : w3.drew = w4 at hHeld ⊢
      have n1_ := Aside0.mk (show Below W.heap.size W w4 from hwd ▸ below_drew1 HB.out)
      clear HB
      have HB := n1_
      clear n1_
      have n2_ := Aside0.mk (show w4.heap[g6]? = some (.cells #[.slice A1 ys.length c1, .string ty] 37 (0, 0)) from hwd ▸ blk_drew BKg6.out)
      have n3_ := Aside0.mk (show St X base gs gm s w4 from hwd ▸ HS3.out.below (below_drew1 (Below.refl _ _)))
      have n4_ := Aside0.mk (show w4.heap[g5]? = some (.cells #[.int .i64 0, .int .i64 b, .int .i64 d] 32 (0, 0)) from hwd ▸ blk_drew BKg5.out)
      have n5_ := Aside0.mk (show Mp.At Try.prog 32 enc3 w4 gm (Mp.vals encC l) from hwd ▸ HAT.out.drew)
      have HB4 := HB
      clear BKg6 BKg5 HS3 hwd HAT
      have BKg6 := n2_
      have HS3 := n3_
      have BKg5 := n4_
      have HAT := n5_
      clear n2_ n3_ n4_ n5_
      refine pure_ (i := 0) (N := some 21) (v := ?_) (a' := ?_) #[true, false, false, false, false, false, false, false] rfl rfl (by kernel_rfl) (fun _ _ _ h => h) (Or.inl ⟨by rfl, ?_⟩) ?_ ?_
      rotate_left
      · intro w'
        go_simp
        with_reducible rfl
      rotate_left
      · simp only [Act.put, List.setIfInBounds_toArray, List.set_cons_zero, List.set_cons_succ, i64_w, i32_w]
        rfl
      refine pure_ (i := 1) (N := some 22) (v := ?_) (a' := ?_) #[true, true, false, false, false, false, false, false] rfl rfl (by kernel_rfl) (fun _ _ _ h => h) (Or.inl ⟨by rfl, ?_⟩) ?_ ?_
      rotate_left
      · intro w'
        go_simp
        with_reducible rfl
      rotate_left
      · simp only [Act.put, List.setIfInBounds_toArray, List.set_cons_zero, List.set_cons_succ, i64_w, i32_w]
        rfl
      refine pure_ (i := 2) (N := some 23) (v := ?_) (a' := ?_) #[true, true, true, false, false, false, false, false] rfl rfl (by kernel_rfl) (fun _ _ _ h => h) (Or.inl ⟨by rfl, ?_⟩) ?_ ?_
      rotate_left
      · intro w'
        go_simp
        with_reducible rfl
      rotate_left
      · simp only [Act.put, List.setIfInBounds_toArray, List.set_cons_zero, List.set_cons_succ, i64_w, i32_w]
        rfl
      refine take_ (i := 3) (N := some 24) (v := ?_) (a' := ?_) #[true, true, true, true, false, false, false, false] rfl rfl (by kernel_rfl) (fun _ _ _ h => h) (Or.inl ⟨by rfl, ?_⟩) hHeld ?_ ?_
      rotate_left
      · rintro w' ⟨s0, s1, s2, s3, s4⟩
        go_simp
        with_reducible rfl
      rotate_left
      · simp only [Act.put, List.setIfInBounds_toArray, List.set_cons_zero, List.set_cons_succ, i64_w, i32_w]
        rfl
      refine take_ (i := 4) (N := some 25) (v := ?_) (a' := ?_) #[true, true, true, true, true, false, false, false] rfl rfl (by kernel_rfl) (fun _ _ _ h => h) (Or.inl ⟨by rfl, ?_⟩) hHeld ?_ ?_
      rotate_left
      · rintro w' ⟨s0, s1, s2, s3, s4⟩
        go_simp
        with_reducible rfl
      rotate_left
      · simp only [Act.put, List.setIfInBounds_toArray, List.set_cons_zero, List.set_cons_succ, i64_w, i32_w]
        rfl
      refine take_ (i := 5) (N := some 26) (v := .agg #[.slice A xs.length cc, .string t, .int .i64 ch, .int .i64 du]) (a' := ?_) #[true, true, true, true, true, true, false, false] rfl rfl (by kernel_rfl) (fun _ _ _ h => h) (Or.inl ⟨by rfl, ?_⟩) hHeld ?_ ?_
      · rintro w' ⟨s0, s1, s2, s3, s4⟩
        obtain ⟨lk, hlk⟩ := HKEY.out
        have hrun := look w' gm l (0, b, d) _ s4 HGET.out hlk
        simp only [enc3, encC] at hrun
        go_simp
        all_goals first | (rw [hrun]; done) | (rw [hrun]; rfl) | (simp [hrun]; done) | exact hrun
      rotate_left
      · simp only [Act.put, List.setIfInBounds_toArray, List.set_cons_zero, List.set_cons_succ, i64_w, i32_w]
        rfl
      refine one_ (i := 6) (N := some 10) #[true, true, true, true, true, true, true, false] rfl rfl (by kernel_rfl) (by decide) (fun K hK => ?_)
      refine value_ (w1 := w4.alloc (.cells #[.slice none 0 0, .string ⟨#[]⟩, .int .i64 0, .int .i64 0] 52 (0, 0))) (v := .pointer (some ⟨w4.heap.size, 0, none⟩)) (by rfl) rfl ?_ ?_
      · go_simp
        try rfl
      have hb8 : Below w4.heap.size w4 (w4.alloc (.cells #[.slice none 0 0, .string ⟨#[]⟩, .int .i64 0, .int .i64 0] 52 (0, 0))) := below_alloc (Below.refl _ _) _
      have hx8 : (w4.alloc (.cells #[.slice none 0 0, .string ⟨#[]⟩, .int .i64 0, .int .i64 0] 52 (0, 0))).heap[w4.heap.size]? = some (.cells #[.slice none 0 0, .string ⟨#[]⟩, .int .i64 0, .int .i64 0] 52 (0, 0)) := blk_new w4 _
      have n1_ := Aside0.mk (below_step HB.out hb8)
      have LE7 := Aside0.mk (Nat.le_refl w4.heap.size)
      clear HB
      generalize hg7 : w4.heap.size = g7 at hx8 LE7 ⊢
      generalize (w4.alloc (.cells #[.slice none 0 0, .string ⟨#[]⟩, .int .i64 0, .int .i64 0] 52 (0, 0))) = w5 at hb8 hx8 n1_ ⊢
      have HB := n1_
      have BK7 := Aside0.mk hx8
      have HB8 := Aside0.mk hb8
      have G7 := Aside0.mk hg7
      clear n1_ hx8 hb8 hg7
      refine hK.out _ _ ⟨(blk_cell (blk_below HS3.out.box HB8.out) 4).trans rfl, (blk_cell (blk_below BKg5.out HB8.out) 0).trans rfl, (blk_cell (blk_below BKg5.out HB8.out) 1).trans rfl, (blk_cell (blk_below BKg5.out HB8.out) 2).trans rfl, hHeld.2.2.2.2.below HB8.out⟩ (fun hHeld => ?_)
      clear hK K
      refine norm_ (a' := ?_) ?_ ?_
      rotate_left
      · show Act.put _ (some 10) _ = _
        simp only [Act.put, List.setIfInBounds_toArray, List.set_cons_zero, List.set_cons_succ, i64_w, i32_w]
        rfl
      refine last_ (i := 7) (N := none) #[true, true, true, true, true, true, true, true] rfl rfl (by kernel_rfl) (by decide) (fun K hK => ?_)
      refine skip_ (w1 := ((((w5.setCell ⟨g7, 0, none⟩ (.slice A xs.length cc)).setCell ⟨g7, 1, none⟩ (.string t)).setCell ⟨g7, 2, none⟩ (.int .i64 ch)).setCell ⟨g7, 3, none⟩ (.int .i64 du))) (by rfl) rfl ?_ ?_
      · have c0 : w5.cell? ⟨g7, 0, none⟩ = some (.slice none 0 0) := (blk_cell BK7.out 0).trans rfl
        have c1 : w5.cell? ⟨g7, 1, none⟩ = some (.string ⟨#[]⟩) := (blk_cell BK7.out 1).trans rfl
        have c2 : w5.cell? ⟨g7, 2, none⟩ = some (.int .i64 0) := (blk_cell BK7.out 2).trans rfl
        have c3 : w5.cell? ⟨g7, 3, none⟩ = some (.int .i64 0) := (blk_cell BK7.out 3).trans rfl
        have d0 := blk_frozen BK7.out 0
        have d1 := blk_frozen BK7.out 1
        have d2 := blk_frozen BK7.out 2
        have d3 := blk_frozen BK7.out 3
        go_simp
        try rfl
      refine hK.out _ _ ?_
      clear hK K
      refine done_ (by kernel_rfl) ?_
      have n0_ := Aside0.mk (show Below w4.heap.size w4 ((((w5.setCell ⟨g7, 0, none⟩ (.slice A xs.length cc)).setCell ⟨g7, 1, none⟩ (.string t)).setCell ⟨g7, 2, none⟩ (.int .i64 ch)).setCell ⟨g7, 3, none⟩ (.int .i64 du)) from below_set (below_set (below_set (below_set HB8.out (Nat.le_of_eq G7.out)) (Nat.le_of_eq G7.out)) (Nat.le_of_eq G7.out)) (Nat.le_of_eq G7.out))
      have n1_ := Aside0.mk (show ((((w5.setCell ⟨g7, 0, none⟩ (.slice A xs.length cc)).setCell ⟨g7, 1, none⟩ (.string t)).setCell ⟨g7, 2, none⟩ (.int .i64 ch)).setCell ⟨g7, 3, none⟩ (.int .i64 du)).heap[g7]? = some (.cells #[.slice A xs.length cc, .string t, .int .i64 ch, .int .i64 du] 52 (0, 0)) from by refine blk_put (cs := #[.slice A xs.length cc, .string t, .int .i64 ch, .int .i64 0]) ?_ 3 _ rfl; refine blk_put (cs := #[.slice A xs.length cc, .string t, .int .i64 0, .int .i64 0]) ?_ 2 _ rfl; refine blk_put (cs := #[.slice A xs.length cc, .string ⟨#[]⟩, .int .i64 0, .int .i64 0]) ?_ 1 _ rfl; refine blk_put (cs := #[.slice none 0 0, .string ⟨#[]⟩, .int .i64 0, .int .i64 0]) ?_ 0 _ rfl; exact BK7.out)
      have n2_ := Aside0.mk (HS3.out.below n0_.out)
      have n4_ := Aside0.mk (below_step HB4.out n0_.out)
      have n5_ := Aside0.mk (HAT.out.below n0_.out)
      have n6_ := Aside0.mk (blk_below BKg6.out n0_.out)
      have n7_ := Aside0.mk (blk_below BKg5.out n0_.out)
      clear BKg6 BKg5 HAT
      clear HB HB8 BK7 HS3 HB4 hHeld G7
      generalize ((((w5.setCell ⟨g7, 0, none⟩ (.slice A xs.length cc)).setCell ⟨g7, 1, none⟩ (.string t)).setCell ⟨g7, 2, none⟩ (.int .i64 ch)).setCell ⟨g7, 3, none⟩ (.int .i64 du)) = w6 at n0_ n1_ n2_ n4_ n5_ n6_ n7_ ⊢
      have BK7 := n1_
      have HS6 := n2_
      have HB := n4_
      have HAT := n5_
      have BKg6 := n6_
      have BKg5 := n7_
      clear n5_ n6_ n7_
      clear n0_ n1_ n2_ n4_
      have hc7_0 : w6.cell? ⟨g7, 0, none⟩ = some (.slice A xs.length cc) := (blk_cell BK7.out 0).trans rfl
      have hc7_1 : w6.cell? ⟨g7, 1, none⟩ = some (.string t) := (blk_cell BK7.out 1).trans rfl
      have hc7_3 : w6.cell? ⟨g7, 3, none⟩ = some (.int .i64 du) := (blk_cell BK7.out 3).trans rfl
      have hc6_0 : w6.cell? ⟨g6, 0, none⟩ = some (.slice A1 ys.length c1) := (blk_cell BKg6.out 0).trans rfl
      have hc6_1 : w6.cell? ⟨g6, 1, none⟩ = some (.string ty) := (blk_cell BKg6.out 1).trans rfl
      go_wp2_with ((go_at_call 15; refine (inputs_Equal.calls kk A cc xs t A1 c1 ys ty false _ (Kd.C_below (Kd.R_reads' HR.out).2.2 HB.out) HCC.out (Kd.C_below HR1.out HB.out) HC1.out HEQ.out).mono ?_; rintro e_ w7 ⟨rfl, hb⟩; have n1_ := Aside0.mk (below_step HB.out hb); have n2_ := Aside0.mk (HS6.out.below hb); have n3_ := Aside0.mk (HAT.out.below hb); have n4_ := Aside0.mk (blk_below BKg5.out hb); have n5_ := Aside0.mk (blk_below BKg6.out hb); have n6_ := Aside0.mk (blk_below BK7.out hb); clear HB HS6 HAT BKg5 BKg6 BK7 hb hc7_0 hc7_1 hc7_3 hc6_0 hc6_1; have HB := n1_; have HS6 := n2_; have HAT := n3_; have BKg5 := n4_; have BKg6 := n5_; have BK7 := n6_; clear n1_ n2_ n3_ n4_ n5_ n6_; have hs0 : w7.cell? ⟨gs, 0, none⟩ = some (.int .i64 s.rev) := (blk_cell HS6.out.box 0).trans rfl; have hsf := blk_frozen HS6.out.box 0; have hc7_3 : w7.cell? ⟨g7, 3, none⟩ = some (.int .i64 du) := (blk_cell BK7.out 3).trans rfl; have NEG := Aside0.mk (show g5 ≠ gs ∧ g6 ≠ gs ∧ g7 ≠ gs from ⟨blk_ne BKg5.out HS6.out.box (by decide), blk_ne BKg6.out HS6.out.box (by decide), blk_ne BK7.out HS6.out.box (by decide)⟩); have a1_ : (g7 = gs) = False := eq_false NEG.out.2.2; have a2_ : (gs = g7) = False := eq_false NEG.out.2.2.symm; have hw1 : wrap64 (s.rev + 1) = s.rev + 1 := w64_id (by have := HSR.out; omega) (by have := HSR.out; omega); have hw1b : IntKind.i64.wrap (s.rev + 1) = s.rev + 1 := (i64_w _).trans hw1; have hw2 : wrap64 (e + 1) = e + 1 := w64_id (by have := HDR.out; omega) (by have := HDR.out; omega); have hw2b : IntKind.i64.wrap (e + 1) = e + 1 := (i64_w _).trans hw2))
      have HB7 := HB
      have q1_ := Aside0.mk (show ((w7.setCell ⟨gs, 0, none⟩ (.int .i64 (s.rev + 1)))).heap[gs]? = some (.cells #[.int .i64 (s.rev + 1), .int .i64 (if 0 < 0 then s.rev + 1 else s.a), .int .i64 (if 1 < 0 then s.rev + 1 else s.b), .int .i64 (if 2 < 0 then s.rev + 1 else s.c), .map (some gm)] 50 (0, 0)) from by rw [if_neg (by omega), if_neg (by omega), if_neg (by omega)]; exact blk_put (cs := #[.int .i64 s.rev, .int .i64 s.a, .int .i64 s.b, .int .i64 s.c, .map (some gm)]) HS6.out.box 0 _ rfl)
      have q2_ := Aside0.mk (show Kp w7 ((w7.setCell ⟨gs, 0, none⟩ (.int .i64 (s.rev + 1)))) (fun k => k = gs) from Kp.of_set w7 gs 0 _)
      generalize (w7.setCell ⟨gs, 0, none⟩ (.int .i64 (s.rev + 1))) = w8 at q1_ q2_ ⊢
      clear hs0 hsf hc7_3 a1_ a2_ hw1b hw2b hw2
      go_loopg [49, 11] (e + 1).toNat (fun kq v49 v11 w' => ∃ i : Nat, v49 = .int .i64 i ∧ Aside0 (i + kq = (e + 1).toNat ∧ w'.heap[gs]? = some (.cells #[.int .i64 (s.rev + 1), .int .i64 (if 0 < i then s.rev + 1 else s.a), .int .i64 (if 1 < i then s.rev + 1 else s.b), .int .i64 (if 2 < i then s.rev + 1 else s.c), .map (some gm)] 50 (0, 0)) ∧ Kp w7 w' (fun k => k = gs)))
      case atStart => exact ⟨0, rfl, ⟨by omega, q1_.out, q2_.out⟩⟩
      case round =>
        clear q1_ q2_
        obtain ⟨i, rfl, HX⟩ := hrel
        obtain ⟨hik, hbx0, hkp0⟩ := HX.out
        have hbx := Aside0.mk hbx0
        have hkp := Aside0.mk hkp0
        clear HX hbx0 hkp0
        by_cases c_ : i < (e + 1).toNat
        · obtain ⟨k1, rfl⟩ : ∃ k1, gk = k1 + 1 := ⟨gk - 1, by omega⟩
          have cz_ : decide ((i : Int) < e + 1) = true := decide_eq_true (by have := HDR.out; omega)
          have hi3 : i < 3 := by have := HDR.out; omega
          obtain rfl | rfl | rfl : i = 0 ∨ i = 1 ∨ i = 2 := by omega
          · go_wp2
            refine start_ (n := 10) (S := fun w' => w'.cell? ⟨gs, 0, none⟩ = some (.int .i64 (s.rev + 1))) (ds := [9]) #[false, false, false, false, false, false, false, false, false, false] (by kernel_rfl) rfl rfl (show _ = _ from (blk_cell (blk_drew hbx.out) 0).trans rfl) (fun hHeld => ?_)
            have q1_ := Aside0.mk (show wr.drew.heap[gs]? = some (.cells #[.int .i64 (s.rev + 1), .int .i64 (if 0 < 0 then s.rev + 1 else s.a), .int .i64 (if 1 < 0 then s.rev + 1 else s.b), .int .i64 (if 2 < 0 then s.rev + 1 else s.c), .map (some gm)] 50 (0, 0)) from blk_drew hbx.out)
            have q2_ := Aside0.mk (show Kp w7 wr.drew (fun k => k = gs) from hkp.out.then_ (Kp.of_below (below_drew1 (Below.refl _ _)) (fun _ => False)) (fun _ hk => hk.elim))
            clear hbx hkp
            generalize wr.drew = w11 at q1_ q2_ hHeld ⊢
            refine pure_ (i := 0) (N := some 52) (v := ?_) (a' := ?_) #[true, false, false, false, false, false, false, false, false, false] rfl rfl (by kernel_rfl) (fun _ _ _ h => h) (Or.inl ⟨by rfl, ?_⟩) ?_ ?_
            rotate_left
            · intro w'
              go_simp
              with_reducible rfl
            rotate_left
            · simp only [Act.put, List.setIfInBounds_toArray, List.set_cons_zero, List.set_cons_succ, i64_w, i32_w]
              rfl
            refine pure_ (i := 1) (N := some 53) (v := ?_) (a' := ?_) #[true, true, false, false, false, false, false, false, false, false] rfl rfl (by kernel_rfl) (fun _ _ _ h => h) (Or.inl ⟨by rfl, ?_⟩) ?_ ?_
            rotate_left
            · intro w'
              go_simp
              with_reducible rfl
            rotate_left
            · simp only [Act.put, List.setIfInBounds_toArray, List.set_cons_zero, List.set_cons_succ, i64_w, i32_w]
              rfl
            refine pure_ (i := 2) (N := some 54) (v := ?_) (a' := ?_) #[true, true, true, false, false, false, false, false, false, false] rfl rfl (by kernel_rfl) (fun _ _ _ h => h) (Or.inl ⟨by rfl, ?_⟩) ?_ ?_
            rotate_left
            · intro w'
              go_simp
              with_reducible rfl
            rotate_left
            · simp only [Act.put, List.setIfInBounds_toArray, List.set_cons_zero, List.set_cons_succ, i64_w, i32_w]
              rfl
            refine pure_ (i := 3) (N := some 55) (v := ?_) (a' := ?_) #[true, true, true, true, false, false, false, false, false, false] rfl rfl (by kernel_rfl) (fun _ _ _ h => h) (Or.inl ⟨by rfl, ?_⟩) ?_ ?_
            rotate_left
            · intro w'
              go_simp
              with_reducible rfl
            rotate_left
            · simp only [Act.put, List.setIfInBounds_toArray, List.set_cons_zero, List.set_cons_succ, i64_w, i32_w]
              rfl
            refine pure_ (i := 4) (N := some 56) (v := ?_) (a' := ?_) #[true, true, true, true, true, false, false, false, false, false] rfl rfl (by kernel_rfl) (fun _ _ _ h => h) (Or.inl ⟨by rfl, ?_⟩) ?_ ?_
            rotate_left
            · intro w'
              go_simp
              with_reducible rfl
            rotate_left
            · simp only [Act.put, List.setIfInBounds_toArray, List.set_cons_zero, List.set_cons_succ, i64_w, i32_w]
              rfl
            refine pure_ (i := 6) (N := some 58) (v := ?_) (a' := ?_) #[true, true, true, true, true, false, true, false, false, false] rfl rfl (by kernel_rfl) (fun _ _ _ h => h) (Or.inl ⟨by rfl, ?_⟩) ?_ ?_
            rotate_left
            · intro w'
              go_simp
              with_reducible rfl
            rotate_left
            · simp only [Act.put, List.setIfInBounds_toArray, List.set_cons_zero, List.set_cons_succ, i64_w, i32_w]
              rfl
            refine pure_ (i := 7) (N := some 59) (v := ?_) (a' := ?_) #[true, true, true, true, true, false, true, true, false, false] rfl rfl (by kernel_rfl) (fun _ _ _ h => h) (Or.inl ⟨by rfl, ?_⟩) ?_ ?_
            rotate_left
            · intro w'
              go_simp
              with_reducible rfl
            rotate_left
            · simp only [Act.put, List.setIfInBounds_toArray, List.set_cons_zero, List.set_cons_succ, i64_w, i32_w]
              rfl
            refine take_ (i := 5) (N := some 57) (v := ?_) (a' := ?_) #[true, true, true, true, true, true, true, true, false, false] rfl rfl (by kernel_rfl) (fun _ _ _ h => h) (Or.inl ⟨by rfl, ?_⟩) hHeld ?_ ?_
            rotate_left
            · rintro w' s0
              go_simp
              with_reducible rfl
            rotate_left
            · simp only [Act.put, List.setIfInBounds_toArray, List.set_cons_zero, List.set_cons_succ, i64_w, i32_w]
              rfl
            refine pure_ (i := 8) (N := some 60) (v := ?_) (a' := ?_) #[true, true, true, true, true, true, true, true, true, false] rfl rfl (by kernel_rfl) (fun _ _ _ h => h) (Or.inl ⟨by rfl, ?_⟩) ?_ ?_
            rotate_left
            · intro w'
              go_simp
              with_reducible rfl
            rotate_left
            · simp only [Act.put, List.setIfInBounds_toArray, List.set_cons_zero, List.set_cons_succ, i64_w, i32_w]
              rfl
            refine last_ (i := 9) (N := none) #[true, true, true, true, true, true, true, true, true, true] rfl rfl (by kernel_rfl) (by decide) (fun K hK => ?_)
            refine skip_ (w1 := w11.setCell ⟨gs, 1, none⟩ (.int .i64 (s.rev + 1))) (by rfl) rfl ?_ ?_
            · have c0 : w11.cell? ⟨gs, 1, none⟩ = some (.int .i64 s.a) := (blk_cell q1_.out 1).trans rfl
              have d0 := blk_frozen q1_.out 1
              go_simp
              try rfl
            refine hK.out _ _ ?_
            clear hK K
            refine done_ (by kernel_rfl) ?_
            try go_wp2
            go_roundg k1
            case measure => omega
            case rel => exact ⟨1, rfl, ⟨by omega, by refine (blk_put (cs := #[.int .i64 (s.rev + 1), .int .i64 (if 0 < 0 then s.rev + 1 else s.a), .int .i64 (if 1 < 0 then s.rev + 1 else s.b), .int .i64 (if 2 < 0 then s.rev + 1 else s.c), .map (some gm)]) q1_.out 1 _ ?_); simp, q2_.out.then_ (Kp.of_set w11 gs 1 _) (fun k hk => .inl hk)⟩⟩

          · go_wp2
            refine start_ (n := 10) (S := fun w' => w'.cell? ⟨gs, 0, none⟩ = some (.int .i64 (s.rev + 1))) (ds := [9]) #[false, false, false, false, false, false, false, false, false, false] (by kernel_rfl) rfl rfl (show _ = _ from (blk_cell (blk_drew hbx.out) 0).trans rfl) (fun hHeld => ?_)
            have q1_ := Aside0.mk (show wr.drew.heap[gs]? = some (.cells #[.int .i64 (s.rev + 1), .int .i64 (if 0 < 1 then s.rev + 1 else s.a), .int .i64 (if 1 < 1 then s.rev + 1 else s.b), .int .i64 (if 2 < 1 then s.rev + 1 else s.c), .map (some gm)] 50 (0, 0)) from blk_drew hbx.out)
            have q2_ := Aside0.mk (show Kp w7 wr.drew (fun k => k = gs) from hkp.out.then_ (Kp.of_below (below_drew1 (Below.refl _ _)) (fun _ => False)) (fun _ hk => hk.elim))
            clear hbx hkp
            generalize wr.drew = w11 at q1_ q2_ hHeld ⊢
            refine pure_ (i := 0) (N := some 52) (v := ?_) (a' := ?_) #[true, false, false, false, false, false, false, false, false, false] rfl rfl (by kernel_rfl) (fun _ _ _ h => h) (Or.inl ⟨by rfl, ?_⟩) ?_ ?_
            rotate_left
            · intro w'
              go_simp
              with_reducible rfl
            rotate_left
            · simp only [Act.put, List.setIfInBounds_toArray, List.set_cons_zero, List.set_cons_succ, i64_w, i32_w]
              rfl
            refine pure_ (i := 1) (N := some 53) (v := ?_) (a' := ?_) #[true, true, false, false, false, false, false, false, false, false] rfl rfl (by kernel_rfl) (fun _ _ _ h => h) (Or.inl ⟨by rfl, ?_⟩) ?_ ?_
            rotate_left
            · intro w'
              go_simp
              with_reducible rfl
            rotate_left
            · simp only [Act.put, List.setIfInBounds_toArray, List.set_cons_zero, List.set_cons_succ, i64_w, i32_w]
              rfl
            refine pure_ (i := 2) (N := some 54) (v := ?_) (a' := ?_) #[true, true, true, false, false, false, false, false, false, false] rfl rfl (by kernel_rfl) (fun _ _ _ h => h) (Or.inl ⟨by rfl, ?_⟩) ?_ ?_
            rotate_left
            · intro w'
              go_simp
              with_reducible rfl
            rotate_left
            · simp only [Act.put, List.setIfInBounds_toArray, List.set_cons_zero, List.set_cons_succ, i64_w, i32_w]
              rfl
            refine pure_ (i := 3) (N := some 55) (v := ?_) (a' := ?_) #[true, true, true, true, false, false, false, false, false, false] rfl rfl (by kernel_rfl) (fun _ _ _ h => h) (Or.inl ⟨by rfl, ?_⟩) ?_ ?_
            rotate_left
            · intro w'
              go_simp
              with_reducible rfl
            rotate_left
            · simp only [Act.put, List.setIfInBounds_toArray, List.set_cons_zero, List.set_cons_succ, i64_w, i32_w]
              rfl
            refine pure_ (i := 4) (N := some 56) (v := ?_) (a' := ?_) #[true, true, true, true, true, false, false, false, false, false] rfl rfl (by kernel_rfl) (fun _ _ _ h => h) (Or.inl ⟨by rfl, ?_⟩) ?_ ?_
            rotate_left
            · intro w'
              go_simp
              with_reducible rfl
            rotate_left
            · simp only [Act.put, List.setIfInBounds_toArray, List.set_cons_zero, List.set_cons_succ, i64_w, i32_w]
              rfl
            refine pure_ (i := 6) (N := some 58) (v := ?_) (a' := ?_) #[true, true, true, true, true, false, true, false, false, false] rfl rfl (by kernel_rfl) (fun _ _ _ h => h) (Or.inl ⟨by rfl, ?_⟩) ?_ ?_
            rotate_left
            · intro w'
              go_simp
              with_reducible rfl
            rotate_left
            · simp only [Act.put, List.setIfInBounds_toArray, List.set_cons_zero, List.set_cons_succ, i64_w, i32_w]
              rfl
            refine pure_ (i := 7) (N := some 59) (v := ?_) (a' := ?_) #[true, true, true, true, true, false, true, true, false, false] rfl rfl (by kernel_rfl) (fun _ _ _ h => h) (Or.inl ⟨by rfl, ?_⟩) ?_ ?_
            rotate_left
            · intro w'
              go_simp
              with_reducible rfl
            rotate_left
            · simp only [Act.put, List.setIfInBounds_toArray, List.set_cons_zero, List.set_cons_succ, i64_w, i32_w]
              rfl
            refine take_ (i := 5) (N := some 57) (v := ?_) (a' := ?_) #[true, true, true, true, true, true, true, true, false, false] rfl rfl (by kernel_rfl) (fun _ _ _ h => h) (Or.inl ⟨by rfl, ?_⟩) hHeld ?_ ?_
            rotate_left
            · rintro w' s0
              go_simp
              with_reducible rfl
            rotate_left
            · simp only [Act.put, List.setIfInBounds_toArray, List.set_cons_zero, List.set_cons_succ, i64_w, i32_w]
              rfl
            refine pure_ (i := 8) (N := some 60) (v := ?_) (a' := ?_) #[true, true, true, true, true, true, true, true, true, false] rfl rfl (by kernel_rfl) (fun _ _ _ h => h) (Or.inl ⟨by rfl, ?_⟩) ?_ ?_
            rotate_left
            · intro w'
              go_simp
              with_reducible rfl
            rotate_left
            · simp only [Act.put, List.setIfInBounds_toArray, List.set_cons_zero, List.set_cons_succ, i64_w, i32_w]
              rfl
            refine last_ (i := 9) (N := none) #[true, true, true, true, true, true, true, true, true, true] rfl rfl (by kernel_rfl) (by decide) (fun K hK => ?_)
            refine skip_ (w1 := w11.setCell ⟨gs, 2, none⟩ (.int .i64 (s.rev + 1))) (by rfl) rfl ?_ ?_
            · have c0 : w11.cell? ⟨gs, 2, none⟩ = some (.int .i64 s.b) := (blk_cell q1_.out 2).trans rfl
              have d0 := blk_frozen q1_.out 2
              go_simp
              try rfl
            refine hK.out _ _ ?_
            clear hK K
            refine done_ (by kernel_rfl) ?_
            try go_wp2
            go_roundg k1
            case measure => omega
            case rel => exact ⟨2, rfl, ⟨by omega, by refine (blk_put (cs := #[.int .i64 (s.rev + 1), .int .i64 (if 0 < 1 then s.rev + 1 else s.a), .int .i64 (if 1 < 1 then s.rev + 1 else s.b), .int .i64 (if 2 < 1 then s.rev + 1 else s.c), .map (some gm)]) q1_.out 2 _ ?_); simp, q2_.out.then_ (Kp.of_set w11 gs 2 _) (fun k hk => .inl hk)⟩⟩

          · go_wp2
            refine start_ (n := 10) (S := fun w' => w'.cell? ⟨gs, 0, none⟩ = some (.int .i64 (s.rev + 1))) (ds := [9]) #[false, false, false, false, false, false, false, false, false, false] (by kernel_rfl) rfl rfl (show _ = _ from (blk_cell (blk_drew hbx.out) 0).trans rfl) (fun hHeld => ?_)
            have q1_ := Aside0.mk (show wr.drew.heap[gs]? = some (.cells #[.int .i64 (s.rev + 1), .int .i64 (if 0 < 2 then s.rev + 1 else s.a), .int .i64 (if 1 < 2 then s.rev + 1 else s.b), .int .i64 (if 2 < 2 then s.rev + 1 else s.c), .map (some gm)] 50 (0, 0)) from blk_drew hbx.out)
            have q2_ := Aside0.mk (show Kp w7 wr.drew (fun k => k = gs) from hkp.out.then_ (Kp.of_below (below_drew1 (Below.refl _ _)) (fun _ => False)) (fun _ hk => hk.elim))
            clear hbx hkp
            generalize wr.drew = w11 at q1_ q2_ hHeld ⊢
            refine pure_ (i := 0) (N := some 52) (v := ?_) (a' := ?_) #[true, false, false, false, false, false, false, false, false, false] rfl rfl (by kernel_rfl) (fun _ _ _ h => h) (Or.inl ⟨by rfl, ?_⟩) ?_ ?_
            rotate_left
            · intro w'
              go_simp
              with_reducible rfl
            rotate_left
            · simp only [Act.put, List.setIfInBounds_toArray, List.set_cons_zero, List.set_cons_succ, i64_w, i32_w]
              rfl
            refine pure_ (i := 1) (N := some 53) (v := ?_) (a' := ?_) #[true, true, false, false, false, false, false, false, false, false] rfl rfl (by kernel_rfl) (fun _ _ _ h => h) (Or.inl ⟨by rfl, ?_⟩) ?_ ?_
            rotate_left
            · intro w'
              go_simp
              with_reducible rfl
            rotate_left
            · simp only [Act.put, List.setIfInBounds_toArray, List.set_cons_zero, List.set_cons_succ, i64_w, i32_w]
              rfl
            refine pure_ (i := 2) (N := some 54) (v := ?_) (a' := ?_) #[true, true, true, false, false, false, false, false, false, false] rfl rfl (by kernel_rfl) (fun _ _ _ h => h) (Or.inl ⟨by rfl, ?_⟩) ?_ ?_
            rotate_left
            · intro w'
              go_simp
              with_reducible rfl
            rotate_left
            · simp only [Act.put, List.setIfInBounds_toArray, List.set_cons_zero, List.set_cons_succ, i64_w, i32_w]
              rfl
            refine pure_ (i := 3) (N := some 55) (v := ?_) (a' := ?_) #[true, true, true, true, false, false, false, false, false, false] rfl rfl (by kernel_rfl) (fun _ _ _ h => h) (Or.inl ⟨by rfl, ?_⟩) ?_ ?_
            rotate_left
            · intro w'
              go_simp
              with_reducible rfl
            rotate_left
            · simp only [Act.put, List.setIfInBounds_toArray, List.set_cons_zero, List.set_cons_succ, i64_w, i32_w]
              rfl
            refine pure_ (i := 4) (N := some 56) (v := ?_) (a' := ?_) #[true, true, true, true, true, false, false, false, false, false] rfl rfl (by kernel_rfl) (fun _ _ _ h => h) (Or.inl ⟨by rfl, ?_⟩) ?_ ?_
            rotate_left
            · intro w'
              go_simp
              with_reducible rfl
            rotate_left
            · simp only [Act.put, List.setIfInBounds_toArray, List.set_cons_zero, List.set_cons_succ, i64_w, i32_w]
              rfl
            refine pure_ (i := 6) (N := some 58) (v := ?_) (a' := ?_) #[true, true, true, true, true, false, true, false, false, false] rfl rfl (by kernel_rfl) (fun _ _ _ h => h) (Or.inl ⟨by rfl, ?_⟩) ?_ ?_
            rotate_left
            · intro w'
              go_simp
              with_reducible rfl
            rotate_left
            · simp only [Act.put, List.setIfInBounds_toArray, List.set_cons_zero, List.set_cons_succ, i64_w, i32_w]
              rfl
            refine pure_ (i := 7) (N := some 59) (v := ?_) (a' := ?_) #[true, true, true, true, true, false, true, true, false, false] rfl rfl (by kernel_rfl) (fun _ _ _ h => h) (Or.inl ⟨by rfl, ?_⟩) ?_ ?_
            rotate_left
            · intro w'
              go_simp
              with_reducible rfl
            rotate_left
            · simp only [Act.put, List.setIfInBounds_toArray, List.set_cons_zero, List.set_cons_succ, i64_w, i32_w]
              rfl
            refine take_ (i := 5) (N := some 57) (v := ?_) (a' := ?_) #[true, true, true, true, true, true, true, true, false, false] rfl rfl (by kernel_rfl) (fun _ _ _ h => h) (Or.inl ⟨by rfl, ?_⟩) hHeld ?_ ?_
            rotate_left
            · rintro w' s0
              go_simp
              with_reducible rfl
            rotate_left
            · simp only [Act.put, List.setIfInBounds_toArray, List.set_cons_zero, List.set_cons_succ, i64_w, i32_w]
              rfl
            refine pure_ (i := 8) (N := some 60) (v := ?_) (a' := ?_) #[true, true, true, true, true, true, true, true, true, false] rfl rfl (by kernel_rfl) (fun _ _ _ h => h) (Or.inl ⟨by rfl, ?_⟩) ?_ ?_
            rotate_left
            · intro w'
              go_simp
              with_reducible rfl
            rotate_left
            · simp only [Act.put, List.setIfInBounds_toArray, List.set_cons_zero, List.set_cons_succ, i64_w, i32_w]
              rfl
            refine last_ (i := 9) (N := none) #[true, true, true, true, true, true, true, true, true, true] rfl rfl (by kernel_rfl) (by decide) (fun K hK => ?_)
            refine skip_ (w1 := w11.setCell ⟨gs, 3, none⟩ (.int .i64 (s.rev + 1))) (by rfl) rfl ?_ ?_
            · have c0 : w11.cell? ⟨gs, 3, none⟩ = some (.int .i64 s.c) := (blk_cell q1_.out 3).trans rfl
              have d0 := blk_frozen q1_.out 3
              go_simp
              try rfl
            refine hK.out _ _ ?_
            clear hK K
            refine done_ (by kernel_rfl) ?_
            try go_wp2
            go_roundg k1
            case measure => omega
            case rel => exact ⟨3, rfl, ⟨by omega, by refine (blk_put (cs := #[.int .i64 (s.rev + 1), .int .i64 (if 0 < 2 then s.rev + 1 else s.a), .int .i64 (if 1 < 2 then s.rev + 1 else s.b), .int .i64 (if 2 < 2 then s.rev + 1 else s.c), .map (some gm)]) q1_.out 3 _ ?_); simp, q2_.out.then_ (Kp.of_set w11 gs 3 _) (fun k hk => .inl hk)⟩⟩

        · have cz_ : decide ((i : Int) < e + 1) = false := decide_eq_false (by have := HDR.out; omega)
          obtain rfl : i = (e + 1).toNat := by omega
          have HK5 := Aside0.mk ((hkp.out.block g5 (blk_lt BKg5.out) NEG.out.1).trans BKg5.out)
          have HK6 := Aside0.mk ((hkp.out.block g6 (blk_lt BKg6.out) NEG.out.2.1).trans BKg6.out)
          go_wp2
          refine start_ (n := 14) (S := fun w' => w'.cell? ⟨gs, 4, none⟩ = some (.map (some gm)) ∧ w'.cell? ⟨gs, 0, none⟩ = some (.int .i64 (s.rev + 1)) ∧ w'.cell? ⟨g5, 0, none⟩ = some (.int .i64 0) ∧ w'.cell? ⟨g5, 1, none⟩ = some (.int .i64 b) ∧ w'.cell? ⟨g5, 2, none⟩ = some (.int .i64 d) ∧ w'.cell? ⟨g6, 0, none⟩ = some (.slice A1 ys.length c1) ∧ w'.cell? ⟨g6, 1, none⟩ = some (.string ty)) (ds := [13]) #[false, false, false, false, false, false, false, false, false, false, false, false, false, false] (by kernel_rfl) rfl rfl ⟨(blk_cell (blk_drew hbx.out) 4).trans rfl, (blk_cell (blk_drew hbx.out) 0).trans rfl, (blk_cell (blk_drew HK5.out) 0).trans rfl, (blk_cell (blk_drew HK5.out) 1).trans rfl, (blk_cell (blk_drew HK5.out) 2).trans rfl, (blk_cell (blk_drew HK6.out) 0).trans rfl, (blk_cell (blk_drew HK6.out) 1).trans rfl⟩ (fun hHeld => ?_)
          have q1_ := Aside0.mk (show wr.drew.heap[gs]? = some (.cells #[.int .i64 (s.rev + 1), .int .i64 (if 0 < (e + 1).toNat then s.rev + 1 else s.a), .int .i64 (if 1 < (e + 1).toNat then s.rev + 1 else s.b), .int .i64 (if 2 < (e + 1).toNat then s.rev + 1 else s.c), .map (some gm)] 50 (0, 0)) from blk_drew hbx.out)
          have q2_ := Aside0.mk (show Kp w7 wr.drew (fun k => k = gs) from hkp.out.then_ (Kp.of_below (below_drew1 (Below.refl _ _)) (fun _ => False)) (fun _ hk => hk.elim))
          have q3_ := Aside0.mk (show wr.drew.heap[g5]? = some (.cells #[.int .i64 0, .int .i64 b, .int .i64 d] 32 (0, 0)) from blk_drew HK5.out)
          have q4_ := Aside0.mk (show wr.drew.heap[g6]? = some (.cells #[.slice A1 ys.length c1, .string ty] 37 (0, 0)) from blk_drew HK6.out)
          clear hbx hkp HK5 HK6
          generalize wr.drew = w11 at q1_ q2_ q3_ q4_ hHeld ⊢
          refine pure_ (i := 0) (N := some 62) (v := ?_) (a' := ?_) #[true, false, false, false, false, false, false, false, false, false, false, false, false, false] rfl rfl (by kernel_rfl) (fun _ _ _ h => h) (Or.inl ⟨by rfl, ?_⟩) ?_ ?_
          rotate_left
          · intro w'
            go_simp
            with_reducible rfl
          rotate_left
          · simp only [Act.put, List.setIfInBounds_toArray, List.set_cons_zero, List.set_cons_succ, i64_w, i32_w]
            rfl
          refine pure_ (i := 1) (N := some 63) (v := ?_) (a' := ?_) #[true, true, false, false, false, false, false, false, false, false, false, false, false, false] rfl rfl (by kernel_rfl) (fun _ _ _ h => h) (Or.inl ⟨by rfl, ?_⟩) ?_ ?_
          rotate_left
          · intro w'
            go_simp
            with_reducible rfl
          rotate_left
          · simp only [Act.put, List.setIfInBounds_toArray, List.set_cons_zero, List.set_cons_succ, i64_w, i32_w]
            rfl
          refine pure_ (i := 2) (N := some 64) (v := ?_) (a' := ?_) #[true, true, true, false, false, false, false, false, false, false, false, false, false, false] rfl rfl (by kernel_rfl) (fun _ _ _ h => h) (Or.inl ⟨by rfl, ?_⟩) ?_ ?_
          rotate_left
          · intro w'
            go_simp
            with_reducible rfl
          rotate_left
          · simp only [Act.put, List.setIfInBounds_toArray, List.set_cons_zero, List.set_cons_succ, i64_w, i32_w]
            rfl
          refine pure_ (i := 7) (N := some 69) (v := ?_) (a' := ?_) #[true, true, true, false, false, false, false, true, false, false, false, false, false, false] rfl rfl (by kernel_rfl) (fun _ _ _ h => h) (Or.inl ⟨by rfl, ?_⟩) ?_ ?_
          rotate_left
          · intro w'
            go_simp
            with_reducible rfl
          rotate_left
          · simp only [Act.put, List.setIfInBounds_toArray, List.set_cons_zero, List.set_cons_succ, i64_w, i32_w]
            rfl
          refine pure_ (i := 8) (N := some 70) (v := ?_) (a' := ?_) #[true, true, true, false, false, false, false, true, true, false, false, false, false, false] rfl rfl (by kernel_rfl) (fun _ _ _ h => h) (Or.inl ⟨by rfl, ?_⟩) ?_ ?_
          rotate_left
          · intro w'
            go_simp
            with_reducible rfl
          rotate_left
          · simp only [Act.put, List.setIfInBounds_toArray, List.set_cons_zero, List.set_cons_succ, i64_w, i32_w]
            rfl
          refine pure_ (i := 9) (N := some 71) (v := ?_) (a' := ?_) #[true, true, true, false, false, false, false, true, true, true, false, false, false, false] rfl rfl (by kernel_rfl) (fun _ _ _ h => h) (Or.inl ⟨by rfl, ?_⟩) ?_ ?_
          rotate_left
          · intro w'
            go_simp
            with_reducible rfl
          rotate_left
          · simp only [Act.put, List.setIfInBounds_toArray, List.set_cons_zero, List.set_cons_succ, i64_w, i32_w]
            rfl
          refine pure_ (i := 11) (N := some 73) (v := ?_) (a' := ?_) #[true, true, true, false, false, false, false, true, true, true, false, true, false, false] rfl rfl (by kernel_rfl) (fun _ _ _ h => h) (Or.inl ⟨by rfl, ?_⟩) ?_ ?_
          rotate_left
          · intro w'
            go_simp
            with_reducible rfl
          rotate_left
          · simp only [Act.put, List.setIfInBounds_toArray, List.set_cons_zero, List.set_cons_succ, i64_w, i32_w]
            rfl
          refine take_ (i := 3) (N := some 65) (v := ?_) (a' := ?_) #[true, true, true, true, false, false, false, true, true, true, false, true, false, false] rfl rfl (by kernel_rfl) (fun _ _ _ h => h) (Or.inl ⟨by rfl, ?_⟩) hHeld ?_ ?_
          rotate_left
          · rintro w' ⟨s0, s1, s2, s3, s4, s5, s6⟩
            go_simp
            with_reducible rfl
          rotate_left
          · simp only [Act.put, List.setIfInBounds_toArray, List.set_cons_zero, List.set_cons_succ, i64_w, i32_w]
            rfl
          refine take_ (i := 4) (N := some 66) (v := ?_) (a' := ?_) #[true, true, true, true, true, false, false, true, true, true, false, true, false, false] rfl rfl (by kernel_rfl) (fun _ _ _ h => h) (Or.inl ⟨by rfl, ?_⟩) hHeld ?_ ?_
          rotate_left
          · rintro w' ⟨s0, s1, s2, s3, s4, s5, s6⟩
            go_simp
            with_reducible rfl
          rotate_left
          · simp only [Act.put, List.setIfInBounds_toArray, List.set_cons_zero, List.set_cons_succ, i64_w, i32_w]
            rfl
          refine take_ (i := 5) (N := some 67) (v := ?_) (a' := ?_) #[true, true, true, true, true, true, false, true, true, true, false, true, false, false] rfl rfl (by kernel_rfl) (fun _ _ _ h => h) (Or.inl ⟨by rfl, ?_⟩) hHeld ?_ ?_
          rotate_left
          · rintro w' ⟨s0, s1, s2, s3, s4, s5, s6⟩
            go_simp
            with_reducible rfl
          rotate_left
          · simp only [Act.put, List.setIfInBounds_toArray, List.set_cons_zero, List.set_cons_succ, i64_w, i32_w]
            rfl
          refine take_ (i := 10) (N := some 72) (v := ?_) (a' := ?_) #[true, true, true, true, true, true, false, true, true, true, true, true, false, false] rfl rfl (by kernel_rfl) (fun _ _ _ h => h) (Or.inl ⟨by rfl, ?_⟩) hHeld ?_ ?_
          rotate_left
          · rintro w' ⟨s0, s1, s2, s3, s4, s5, s6⟩
            go_simp
            with_reducible rfl
          rotate_left
          · simp only [Act.put, List.setIfInBounds_toArray, List.set_cons_zero, List.set_cons_succ, i64_w, i32_w]
            rfl
          refine one_ (i := 6) (N := some 68) #[true, true, true, true, true, true, true, true, true, true, true, true, false, false] rfl rfl (by kernel_rfl) (by decide) (fun K hK => ?_)
          refine goes_ Try.func16 (by kernel_rfl) rfl #[.agg #[.slice A1 ys.length c1, .string ty]] (by rfl) rfl rfl (by (try simp only [List.map_toArray, List.map_cons, List.map_nil]); first | done | rfl) ?_
          have HC11 := Aside0.mk (show Kd.C (Kd.int .i64) w11 A1 ys.length ys from (Kd.R_reads' (Kd.R_step (Kd.R_below HRA.out HB7.out) (fun k hk hlt => q2_.out.block k hlt hk))).2.2)
          refine (clone_calls A1 c1 ys ty _ HC11.out HC1.out HL1.out).mono ?_
          rintro e_ w12 ⟨v12, rfl, hv, hb⟩
          refine ⟨_, rfl, ?_⟩
          obtain ⟨A12, c12, rfl⟩ := Kd.R_slice hv
          have HV := Aside0.mk (Kd.R_bound hv)
          have p1_ := Aside0.mk (blk_below q1_.out hb)
          have p2_ := Aside0.mk (q2_.out.then_ (Kp.of_below hb (fun _ => False)) (fun _ hk => hk.elim))
          have p3_ := Aside0.mk (blk_below q3_.out hb)
          have p4_ := Aside0.mk (blk_below q4_.out hb)
          have LW := Aside0.mk (show w7.heap.size ≤ w11.heap.size from q2_.out.size)
          clear hv hb q1_ q2_ q3_ q4_
          refine hK.out _ _ ⟨(blk_cell p1_.out 4).trans rfl, (blk_cell p1_.out 0).trans rfl, (blk_cell p3_.out 0).trans rfl, (blk_cell p3_.out 1).trans rfl, (blk_cell p3_.out 2).trans rfl, (blk_cell p4_.out 0).trans rfl, (blk_cell p4_.out 1).trans rfl⟩ (fun hHeld => ?_)
          clear hK K
          refine norm_ (a' := ?_) ?_ ?_
          rotate_left
          · show Act.put _ (some 68) _ = _
            simp only [Act.put, List.setIfInBounds_toArray, List.set_cons_zero, List.set_cons_succ, i64_w, i32_w]
            rfl
          refine pure_ (i := 12) (N := some 74) (v := ?_) (a' := ?_) #[true, true, true, true, true, true, true, true, true, true, true, true, true, false] rfl rfl (by kernel_rfl) (fun _ _ _ h => h) (Or.inl ⟨by rfl, ?_⟩) ?_ ?_
          rotate_left
          · intro w'
            go_simp
            with_reducible rfl
          rotate_left
          · simp only [Act.put, List.setIfInBounds_toArray, List.set_cons_zero, List.set_cons_succ, i64_w, i32_w]
            rfl
          refine last_ (i := 13) (N := none) #[true, true, true, true, true, true, true, true, true, true, true, true, true, true] rfl rfl (by kernel_rfl) (by decide) (fun K hK => ?_)
          have hat12 : Mp.At Try.prog 32 enc3 w12 gm (Mp.vals encC l) := HAT.out.keep (p2_.out.block gm HAT.out.lt HS6.out.ne.symm)
          obtain ⟨lk, hlk⟩ := HKEY.out
          obtain ⟨ob, hrun, hat3⟩ := Mp.At.store (T := 47) KK inj3 Try.underlying47 hat12 hlk (encC ⟨.slice A12 ys.length c12, ⟨ys, ty, s.rev + 1, e⟩⟩)
          rw [Mp.aset_vals] at hat3
          have HAT3 := Aside0.mk hat3
          have KPF := Aside0.mk (setBlock_kp w12 gm ob)
          clear hat3 hat12
          refine skip_ (w1 := setBlock w12 gm ob) (by rfl) rfl ?_ ?_
          · simp only [enc3, encC] at hrun
            go_simp
            all_goals first | (rw [hrun]; done) | (rw [hrun]; rfl) | (simp [hrun]; done) | exact hrun
          refine hK.out _ _ ?_
          clear hK K
          refine done_ (by kernel_rfl) ?_

          go_wp2
          go_ret2
          have KPW := (Kp.of_below HB7.out (fun k => k = gs ∨ k = gm)).then_ p2_.out (fun k hk => .inl (.inl hk))
          refine ⟨rfl, ⟨(KPF.out.block gs (blk_lt p1_.out) HS6.out.ne).trans p1_.out, ⟨_, ?_, HAT3.out, ?_⟩, HS6.out.xs, HS6.out.lo⟩, KPW.then_ KPF.out (fun k hk => .inl (.inr hk))⟩
          · rw [← HL0.out]
            exact (Mp.aset_vals Cel.p l (0, b, d) ⟨.slice A12 ys.length c12, ⟨ys, ty, s.rev + 1, e⟩⟩).symm
          · intro q hq
            rcases aset_sub hq with hq | rfl
            · exact Kd.R_step (HROWS.out q hq) (fun k ho hlt => (KPW.then_ KPF.out (fun k hk => .inl (.inr hk))).block k hlt (fun e_ => ho (by rcases e_ with rfl | rfl; exact HS6.out.xs.1; exact HS6.out.xs.2)))
            · refine Kd.R_lower (Kd.R_mono (Kd.R_step HV.out (fun k ho hlt => KPF.out.block k hlt (fun e_ => ?_))) (fun k ho => HXX.out k ?_)) ?_
              · have h1_ := HS6.out.lt.2
                have h2_ := ho.2.1
                have h3_ := LW.out
                omega
              · have h2_ := ho.2.1
                have h3_ := LW.out
                have h4_ := HB7.out.size
                omega
              · have h1_ := HS6.out.lo.1
                have h2_ := HS6.out.lt.1
                have h3_ := LW.out
                omega
    · have g0 : (du == e) = false := beq_eq_false_iff_ne.mpr hdu
      have g1 : decide (du = e) = false := decide_eq_false hdu
      clear hR hp hget h hl0 hk hr1 hc1 hne hdu hR1 hrows
      go_enter Try.func7, Try.ntmps7
      go_wp2_with (first | ((with_reducible refine gate_dst (N := 5) rfl ?_); refine box_event ?hg (N := 5) ?hd (cs := #[.int .i64 0, .int .i64 b, .int .i64 d]) (t := 32) ?hr ?_; (case hd => rfl); (case hg => rfl); (case hr => first | (go_simp; done) | (go_simp; rfl)); intro g5 hg w2 hbox hb; have BKg5 := Aside0.mk hbox; have GEg5 := Aside0.mk (show W.heap.size = g5 from hg.symm); have hk0 : w2.cell? ⟨g5, 0, none⟩ = some (.int .i64 0) := (blk_cell hbox 0).trans rfl; have n2_ := Aside0.mk (HS.out.below hb); have HS2 := n2_; clear n2_; have n1_ := Aside0.mk (below_step HB.out hb); clear HB; have HB := n1_; clear n1_; clear hbox hb hg) | ((with_reducible refine gate_dst (N := 6) rfl ?_); refine box_event ?hg (N := 6) ?hd (cs := #[.slice A1 ys.length c1, .string ty]) (t := 37) ?hr ?_; (case hd => rfl); (case hg => rfl); (case hr => first | (go_simp; done) | (go_simp; rfl)); intro g6 hg w3 hbox hb; have BKg6 := Aside0.mk hbox; have GEg6 := Aside0.mk (show w2.heap.size = g6 from hg.symm); clear hk0; have HS3 := Aside0.mk (HS2.out.below hb); have n1_ := Aside0.mk (below_step HB.out hb); clear HB; have HB := n1_; clear n1_; have n2_ := Aside0.mk (blk_below BKg5.out hb); clear BKg5; have BKg5 := n2_; clear n2_; have HAT := Aside0.mk (hat.keep ((HB.out.block gm (St.lt HS.out).2))); have hk0 : w3.cell? ⟨g5, 0, none⟩ = some (.int .i64 0) := (blk_cell BKg5.out 0).trans rfl; clear hbox hb hg))
      refine start_ (n := 8) (S := fun w' => w'.cell? ⟨gs, 4, none⟩ = some (.map (some gm)) ∧ w'.cell? ⟨g5, 0, none⟩ = some (.int .i64 0) ∧ w'.cell? ⟨g5, 1, none⟩ = some (.int .i64 b) ∧ w'.cell? ⟨g5, 2, none⟩ = some (.int .i64 d) ∧ Mp.At Try.prog 32 enc3 w' gm (Mp.vals encC l)) (ds := [7]) #[false, false, false, false, false, false, false, false] (by kernel_rfl) rfl rfl ⟨(blk_cell (blk_drew HS3.out.box) 4).trans rfl, (blk_cell (blk_drew BKg5.out) 0).trans rfl, (blk_cell (blk_drew BKg5.out) 1).trans rfl, (blk_cell (blk_drew BKg5.out) 2).trans rfl, HAT.out.drew⟩ (fun hHeld => ?_)
      have HB4 := HB
      generalize hwd : w3.drew = w4 at hHeld ⊢
      have n1_ := Aside0.mk (show Below W.heap.size W w4 from hwd ▸ below_drew1 HB.out)
      clear HB
      have HB := n1_
      clear n1_
      have n2_ := Aside0.mk (show w4.heap[g6]? = some (.cells #[.slice A1 ys.length c1, .string ty] 37 (0, 0)) from hwd ▸ blk_drew BKg6.out)
      have n3_ := Aside0.mk (show St X base gs gm s w4 from hwd ▸ HS3.out.below (below_drew1 (Below.refl _ _)))
      have n4_ := Aside0.mk (show w4.heap[g5]? = some (.cells #[.int .i64 0, .int .i64 b, .int .i64 d] 32 (0, 0)) from hwd ▸ blk_drew BKg5.out)
      have n5_ := Aside0.mk (show Mp.At Try.prog 32 enc3 w4 gm (Mp.vals encC l) from hwd ▸ HAT.out.drew)
      have HB4 := HB
      clear BKg6 BKg5 HS3 hwd HAT
      have BKg6 := n2_
      have HS3 := n3_
      have BKg5 := n4_
      have HAT := n5_
      clear n2_ n3_ n4_ n5_
      refine pure_ (i := 0) (N := some 21) (v := ?_) (a' := ?_) #[true, false, false, false, false, false, false, false] rfl rfl (by kernel_rfl) (fun _ _ _ h => h) (Or.inl ⟨by rfl, ?_⟩) ?_ ?_
      rotate_left
      · intro w'
        go_simp
        with_reducible rfl
      rotate_left
      · simp only [Act.put, List.setIfInBounds_toArray, List.set_cons_zero, List.set_cons_succ, i64_w, i32_w]
        rfl
      refine pure_ (i := 1) (N := some 22) (v := ?_) (a' := ?_) #[true, true, false, false, false, false, false, false] rfl rfl (by kernel_rfl) (fun _ _ _ h => h) (Or.inl ⟨by rfl, ?_⟩) ?_ ?_
      rotate_left
      · intro w'
        go_simp
        with_reducible rfl
      rotate_left
      · simp only [Act.put, List.setIfInBounds_toArray, List.set_cons_zero, List.set_cons_succ, i64_w, i32_w]
        rfl
      refine pure_ (i := 2) (N := some 23) (v := ?_) (a' := ?_) #[true, true, true, false, false, false, false, false] rfl rfl (by kernel_rfl) (fun _ _ _ h => h) (Or.inl ⟨by rfl, ?_⟩) ?_ ?_
      rotate_left
      · intro w'
        go_simp
        with_reducible rfl
      rotate_left
      · simp only [Act.put, List.setIfInBounds_toArray, List.set_cons_zero, List.set_cons_succ, i64_w, i32_w]
        rfl
      refine take_ (i := 3) (N := some 24) (v := ?_) (a' := ?_) #[true, true, true, true, false, false, false, false] rfl rfl (by kernel_rfl) (fun _ _ _ h => h) (Or.inl ⟨by rfl, ?_⟩) hHeld ?_ ?_
      rotate_left
      · rintro w' ⟨s0, s1, s2, s3, s4⟩
        go_simp
        with_reducible rfl
      rotate_left
      · simp only [Act.put, List.setIfInBounds_toArray, List.set_cons_zero, List.set_cons_succ, i64_w, i32_w]
        rfl
      refine take_ (i := 4) (N := some 25) (v := ?_) (a' := ?_) #[true, true, true, true, true, false, false, false] rfl rfl (by kernel_rfl) (fun _ _ _ h => h) (Or.inl ⟨by rfl, ?_⟩) hHeld ?_ ?_
      rotate_left
      · rintro w' ⟨s0, s1, s2, s3, s4⟩
        go_simp
        with_reducible rfl
      rotate_left
      · simp only [Act.put, List.setIfInBounds_toArray, List.set_cons_zero, List.set_cons_succ, i64_w, i32_w]
        rfl
      refine take_ (i := 5) (N := some 26) (v := .agg #[.slice A xs.length cc, .string t, .int .i64 ch, .int .i64 du]) (a' := ?_) #[true, true, true, true, true, true, false, false] rfl rfl (by kernel_rfl) (fun _ _ _ h => h) (Or.inl ⟨by rfl, ?_⟩) hHeld ?_ ?_
      · rintro w' ⟨s0, s1, s2, s3, s4⟩
        obtain ⟨lk, hlk⟩ := HKEY.out
        have hrun := look w' gm l (0, b, d) _ s4 HGET.out hlk
        simp only [enc3, encC] at hrun
        go_simp
        all_goals first | (rw [hrun]; done) | (rw [hrun]; rfl) | (simp [hrun]; done) | exact hrun
      rotate_left
      · simp only [Act.put, List.setIfInBounds_toArray, List.set_cons_zero, List.set_cons_succ, i64_w, i32_w]
        rfl
      refine one_ (i := 6) (N := some 10) #[true, true, true, true, true, true, true, false] rfl rfl (by kernel_rfl) (by decide) (fun K hK => ?_)
      refine value_ (w1 := w4.alloc (.cells #[.slice none 0 0, .string ⟨#[]⟩, .int .i64 0, .int .i64 0] 52 (0, 0))) (v := .pointer (some ⟨w4.heap.size, 0, none⟩)) (by rfl) rfl ?_ ?_
      · go_simp
        try rfl
      have hb8 : Below w4.heap.size w4 (w4.alloc (.cells #[.slice none 0 0, .string ⟨#[]⟩, .int .i64 0, .int .i64 0] 52 (0, 0))) := below_alloc (Below.refl _ _) _
      have hx8 : (w4.alloc (.cells #[.slice none 0 0, .string ⟨#[]⟩, .int .i64 0, .int .i64 0] 52 (0, 0))).heap[w4.heap.size]? = some (.cells #[.slice none 0 0, .string ⟨#[]⟩, .int .i64 0, .int .i64 0] 52 (0, 0)) := blk_new w4 _
      have n1_ := Aside0.mk (below_step HB.out hb8)
      have LE7 := Aside0.mk (Nat.le_refl w4.heap.size)
      clear HB
      generalize hg7 : w4.heap.size = g7 at hx8 LE7 ⊢
      generalize (w4.alloc (.cells #[.slice none 0 0, .string ⟨#[]⟩, .int .i64 0, .int .i64 0] 52 (0, 0))) = w5 at hb8 hx8 n1_ ⊢
      have HB := n1_
      have BK7 := Aside0.mk hx8
      have HB8 := Aside0.mk hb8
      have G7 := Aside0.mk hg7
      clear n1_ hx8 hb8 hg7
      refine hK.out _ _ ⟨(blk_cell (blk_below HS3.out.box HB8.out) 4).trans rfl, (blk_cell (blk_below BKg5.out HB8.out) 0).trans rfl, (blk_cell (blk_below BKg5.out HB8.out) 1).trans rfl, (blk_cell (blk_below BKg5.out HB8.out) 2).trans rfl, hHeld.2.2.2.2.below HB8.out⟩ (fun hHeld => ?_)
      clear hK K
      refine norm_ (a' := ?_) ?_ ?_
      rotate_left
      · show Act.put _ (some 10) _ = _
        simp only [Act.put, List.setIfInBounds_toArray, List.set_cons_zero, List.set_cons_succ, i64_w, i32_w]
        rfl
      refine last_ (i := 7) (N := none) #[true, true, true, true, true, true, true, true] rfl rfl (by kernel_rfl) (by decide) (fun K hK => ?_)
      refine skip_ (w1 := ((((w5.setCell ⟨g7, 0, none⟩ (.slice A xs.length cc)).setCell ⟨g7, 1, none⟩ (.string t)).setCell ⟨g7, 2, none⟩ (.int .i64 ch)).setCell ⟨g7, 3, none⟩ (.int .i64 du))) (by rfl) rfl ?_ ?_
      · have c0 : w5.cell? ⟨g7, 0, none⟩ = some (.slice none 0 0) := (blk_cell BK7.out 0).trans rfl
        have c1 : w5.cell? ⟨g7, 1, none⟩ = some (.string ⟨#[]⟩) := (blk_cell BK7.out 1).trans rfl
        have c2 : w5.cell? ⟨g7, 2, none⟩ = some (.int .i64 0) := (blk_cell BK7.out 2).trans rfl
        have c3 : w5.cell? ⟨g7, 3, none⟩ = some (.int .i64 0) := (blk_cell BK7.out 3).trans rfl
        have d0 := blk_frozen BK7.out 0
        have d1 := blk_frozen BK7.out 1
        have d2 := blk_frozen BK7.out 2
        have d3 := blk_frozen BK7.out 3
        go_simp
        try rfl
      refine hK.out _ _ ?_
      clear hK K
      refine done_ (by kernel_rfl) ?_
      have n0_ := Aside0.mk (show Below w4.heap.size w4 ((((w5.setCell ⟨g7, 0, none⟩ (.slice A xs.length cc)).setCell ⟨g7, 1, none⟩ (.string t)).setCell ⟨g7, 2, none⟩ (.int .i64 ch)).setCell ⟨g7, 3, none⟩ (.int .i64 du)) from below_set (below_set (below_set (below_set HB8.out (Nat.le_of_eq G7.out)) (Nat.le_of_eq G7.out)) (Nat.le_of_eq G7.out)) (Nat.le_of_eq G7.out))
      have n1_ := Aside0.mk (show ((((w5.setCell ⟨g7, 0, none⟩ (.slice A xs.length cc)).setCell ⟨g7, 1, none⟩ (.string t)).setCell ⟨g7, 2, none⟩ (.int .i64 ch)).setCell ⟨g7, 3, none⟩ (.int .i64 du)).heap[g7]? = some (.cells #[.slice A xs.length cc, .string t, .int .i64 ch, .int .i64 du] 52 (0, 0)) from by refine blk_put (cs := #[.slice A xs.length cc, .string t, .int .i64 ch, .int .i64 0]) ?_ 3 _ rfl; refine blk_put (cs := #[.slice A xs.length cc, .string t, .int .i64 0, .int .i64 0]) ?_ 2 _ rfl; refine blk_put (cs := #[.slice A xs.length cc, .string ⟨#[]⟩, .int .i64 0, .int .i64 0]) ?_ 1 _ rfl; refine blk_put (cs := #[.slice none 0 0, .string ⟨#[]⟩, .int .i64 0, .int .i64 0]) ?_ 0 _ rfl; exact BK7.out)
      have n2_ := Aside0.mk (HS3.out.below n0_.out)
      have n4_ := Aside0.mk (below_step HB4.out n0_.out)
      have n5_ := Aside0.mk (HAT.out.below n0_.out)
      have n6_ := Aside0.mk (blk_below BKg6.out n0_.out)
      have n7_ := Aside0.mk (blk_below BKg5.out n0_.out)
      clear BKg6 BKg5 HAT
      clear HB HB8 BK7 HS3 HB4 hHeld G7
      generalize ((((w5.setCell ⟨g7, 0, none⟩ (.slice A xs.length cc)).setCell ⟨g7, 1, none⟩ (.string t)).setCell ⟨g7, 2, none⟩ (.int .i64 ch)).setCell ⟨g7, 3, none⟩ (.int .i64 du)) = w7 at n0_ n1_ n2_ n4_ n5_ n6_ n7_ ⊢
      have BK7 := n1_
      have HS6 := n2_
      have HB := n4_
      have HAT := n5_
      have BKg6 := n6_
      have BKg5 := n7_
      clear n5_ n6_ n7_
      clear n0_ n1_ n2_ n4_
      have hc7_0 : w7.cell? ⟨g7, 0, none⟩ = some (.slice A xs.length cc) := (blk_cell BK7.out 0).trans rfl
      have hc7_1 : w7.cell? ⟨g7, 1, none⟩ = some (.string t) := (blk_cell BK7.out 1).trans rfl
      have hc7_3x : w7.cell? ⟨g7, 3, none⟩ = some (.int .i64 du) := (blk_cell BK7.out 3).trans rfl
      have hc6_0 : w7.cell? ⟨g6, 0, none⟩ = some (.slice A1 ys.length c1) := (blk_cell BKg6.out 0).trans rfl
      have hc6_1 : w7.cell? ⟨g6, 1, none⟩ = some (.string ty) := (blk_cell BKg6.out 1).trans rfl
      have hs0 : w7.cell? ⟨gs, 0, none⟩ = some (.int .i64 s.rev) := (blk_cell HS6.out.box 0).trans rfl
      have hsf := blk_frozen HS6.out.box 0
      have hc7_3 : w7.cell? ⟨g7, 3, none⟩ = some (.int .i64 du) := (blk_cell BK7.out 3).trans rfl
      have NEG := Aside0.mk (show g5 ≠ gs ∧ g6 ≠ gs ∧ g7 ≠ gs from ⟨blk_ne BKg5.out HS6.out.box (by decide), blk_ne BKg6.out HS6.out.box (by decide), blk_ne BK7.out HS6.out.box (by decide)⟩)
      have a1_ : (g7 = gs) = False := eq_false NEG.out.2.2
      have a2_ : (gs = g7) = False := eq_false NEG.out.2.2.symm
      have hw1 : wrap64 (s.rev + 1) = s.rev + 1 := w64_id (by have := HSR.out; omega) (by have := HSR.out; omega)
      have hw1b : IntKind.i64.wrap (s.rev + 1) = s.rev + 1 := (i64_w _).trans hw1
      have hw2 : wrap64 (e + 1) = e + 1 := w64_id (by have := HDR.out; omega) (by have := HDR.out; omega)
      have hw2b : IntKind.i64.wrap (e + 1) = e + 1 := (i64_w _).trans hw2
      go_wp2
      have HB7 := HB
      have q1_ := Aside0.mk (show ((w7.setCell ⟨gs, 0, none⟩ (.int .i64 (s.rev + 1)))).heap[gs]? = some (.cells #[.int .i64 (s.rev + 1), .int .i64 (if 0 < 0 then s.rev + 1 else s.a), .int .i64 (if 1 < 0 then s.rev + 1 else s.b), .int .i64 (if 2 < 0 then s.rev + 1 else s.c), .map (some gm)] 50 (0, 0)) from by rw [if_neg (by omega), if_neg (by omega), if_neg (by omega)]; exact blk_put (cs := #[.int .i64 s.rev, .int .i64 s.a, .int .i64 s.b, .int .i64 s.c, .map (some gm)]) HS6.out.box 0 _ rfl)
      have q2_ := Aside0.mk (show Kp w7 ((w7.setCell ⟨gs, 0, none⟩ (.int .i64 (s.rev + 1)))) (fun k => k = gs) from Kp.of_set w7 gs 0 _)
      generalize (w7.setCell ⟨gs, 0, none⟩ (.int .i64 (s.rev + 1))) = w8 at q1_ q2_ ⊢
      clear hs0 hsf hc7_3 a1_ a2_ hw1b hw2b hw2
      go_loopg [49, 11] (e + 1).toNat (fun kq v49 v11 w' => ∃ i : Nat, v49 = .int .i64 i ∧ Aside0 (i + kq = (e + 1).toNat ∧ w'.heap[gs]? = some (.cells #[.int .i64 (s.rev + 1), .int .i64 (if 0 < i then s.rev + 1 else s.a), .int .i64 (if 1 < i then s.rev + 1 else s.b), .int .i64 (if 2 < i then s.rev + 1 else s.c), .map (some gm)] 50 (0, 0)) ∧ Kp w7 w' (fun k => k = gs)))
      case atStart => exact ⟨0, rfl, ⟨by omega, q1_.out, q2_.out⟩⟩
      case round =>
        clear q1_ q2_
        obtain ⟨i, rfl, HX⟩ := hrel
        obtain ⟨hik, hbx0, hkp0⟩ := HX.out
        have hbx := Aside0.mk hbx0
        have hkp := Aside0.mk hkp0
        clear HX hbx0 hkp0
        by_cases c_ : i < (e + 1).toNat
        · obtain ⟨k1, rfl⟩ : ∃ k1, gk = k1 + 1 := ⟨gk - 1, by omega⟩
          have cz_ : decide ((i : Int) < e + 1) = true := decide_eq_true (by have := HDR.out; omega)
          have hi3 : i < 3 := by have := HDR.out; omega
          obtain rfl | rfl | rfl : i = 0 ∨ i = 1 ∨ i = 2 := by omega
          · go_wp2
            refine start_ (n := 10) (S := fun w' => w'.cell? ⟨gs, 0, none⟩ = some (.int .i64 (s.rev + 1))) (ds := [9]) #[false, false, false, false, false, false, false, false, false, false] (by kernel_rfl) rfl rfl (show _ = _ from (blk_cell (blk_drew hbx.out) 0).trans rfl) (fun hHeld => ?_)
            have q1_ := Aside0.mk (show wr.drew.heap[gs]? = some (.cells #[.int .i64 (s.rev + 1), .int .i64 (if 0 < 0 then s.rev + 1 else s.a), .int .i64 (if 1 < 0 then s.rev + 1 else s.b), .int .i64 (if 2 < 0 then s.rev + 1 else s.c), .map (some gm)] 50 (0, 0)) from blk_drew hbx.out)
            have q2_ := Aside0.mk (show Kp w7 wr.drew (fun k => k = gs) from hkp.out.then_ (Kp.of_below (below_drew1 (Below.refl _ _)) (fun _ => False)) (fun _ hk => hk.elim))
            clear hbx hkp
            generalize wr.drew = w11 at q1_ q2_ hHeld ⊢
            refine pure_ (i := 0) (N := some 52) (v := ?_) (a' := ?_) #[true, false, false, false, false, false, false, false, false, false] rfl rfl (by kernel_rfl) (fun _ _ _ h => h) (Or.inl ⟨by rfl, ?_⟩) ?_ ?_
            rotate_left
            · intro w'
              go_simp
              with_reducible rfl
            rotate_left
            · simp only [Act.put, List.setIfInBounds_toArray, List.set_cons_zero, List.set_cons_succ, i64_w, i32_w]
              rfl
            refine pure_ (i := 1) (N := some 53) (v := ?_) (a' := ?_) #[true, true, false, false, false, false, false, false, false, false] rfl rfl (by kernel_rfl) (fun _ _ _ h => h) (Or.inl ⟨by rfl, ?_⟩) ?_ ?_
            rotate_left
            · intro w'
              go_simp
              with_reducible rfl
            rotate_left
            · simp only [Act.put, List.setIfInBounds_toArray, List.set_cons_zero, List.set_cons_succ, i64_w, i32_w]
              rfl
            refine pure_ (i := 2) (N := some 54) (v := ?_) (a' := ?_) #[true, true, true, false, false, false, false, false, false, false] rfl rfl (by kernel_rfl) (fun _ _ _ h => h) (Or.inl ⟨by rfl, ?_⟩) ?_ ?_
            rotate_left
            · intro w'
              go_simp
              with_reducible rfl
            rotate_left
            · simp only [Act.put, List.setIfInBounds_toArray, List.set_cons_zero, List.set_cons_succ, i64_w, i32_w]
              rfl
            refine pure_ (i := 3) (N := some 55) (v := ?_) (a' := ?_) #[true, true, true, true, false, false, false, false, false, false] rfl rfl (by kernel_rfl) (fun _ _ _ h => h) (Or.inl ⟨by rfl, ?_⟩) ?_ ?_
            rotate_left
            · intro w'
              go_simp
              with_reducible rfl
            rotate_left
            · simp only [Act.put, List.setIfInBounds_toArray, List.set_cons_zero, List.set_cons_succ, i64_w, i32_w]
              rfl
            refine pure_ (i := 4) (N := some 56) (v := ?_) (a' := ?_) #[true, true, true, true, true, false, false, false, false, false] rfl rfl (by kernel_rfl) (fun _ _ _ h => h) (Or.inl ⟨by rfl, ?_⟩) ?_ ?_
            rotate_left
            · intro w'
              go_simp
              with_reducible rfl
            rotate_left
            · simp only [Act.put, List.setIfInBounds_toArray, List.set_cons_zero, List.set_cons_succ, i64_w, i32_w]
              rfl
            refine pure_ (i := 6) (N := some 58) (v := ?_) (a' := ?_) #[true, true, true, true, true, false, true, false, false, false] rfl rfl (by kernel_rfl) (fun _ _ _ h => h) (Or.inl ⟨by rfl, ?_⟩) ?_ ?_
            rotate_left
            · intro w'
              go_simp
              with_reducible rfl
            rotate_left
            · simp only [Act.put, List.setIfInBounds_toArray, List.set_cons_zero, List.set_cons_succ, i64_w, i32_w]
              rfl
            refine pure_ (i := 7) (N := some 59) (v := ?_) (a' := ?_) #[true, true, true, true, true, false, true, true, false, false] rfl rfl (by kernel_rfl) (fun _ _ _ h => h) (Or.inl ⟨by rfl, ?_⟩) ?_ ?_
            rotate_left
            · intro w'
              go_simp
              with_reducible rfl
            rotate_left
            · simp only [Act.put, List.setIfInBounds_toArray, List.set_cons_zero, List.set_cons_succ, i64_w, i32_w]
              rfl
            refine take_ (i := 5) (N := some 57) (v := ?_) (a' := ?_) #[true, true, true, true, true, true, true, true, false, false] rfl rfl (by kernel_rfl) (fun _ _ _ h => h) (Or.inl ⟨by rfl, ?_⟩) hHeld ?_ ?_
            rotate_left
            · rintro w' s0
              go_simp
              with_reducible rfl
            rotate_left
            · simp only [Act.put, List.setIfInBounds_toArray, List.set_cons_zero, List.set_cons_succ, i64_w, i32_w]
              rfl
            refine pure_ (i := 8) (N := some 60) (v := ?_) (a' := ?_) #[true, true, true, true, true, true, true, true, true, false] rfl rfl (by kernel_rfl) (fun _ _ _ h => h) (Or.inl ⟨by rfl, ?_⟩) ?_ ?_
            rotate_left
            · intro w'
              go_simp
              with_reducible rfl
            rotate_left
            · simp only [Act.put, List.setIfInBounds_toArray, List.set_cons_zero, List.set_cons_succ, i64_w, i32_w]
              rfl
            refine last_ (i := 9) (N := none) #[true, true, true, true, true, true, true, true, true, true] rfl rfl (by kernel_rfl) (by decide) (fun K hK => ?_)
            refine skip_ (w1 := w11.setCell ⟨gs, 1, none⟩ (.int .i64 (s.rev + 1))) (by rfl) rfl ?_ ?_
            · have c0 : w11.cell? ⟨gs, 1, none⟩ = some (.int .i64 s.a) := (blk_cell q1_.out 1).trans rfl
              have d0 := blk_frozen q1_.out 1
              go_simp
              try rfl
            refine hK.out _ _ ?_
            clear hK K
            refine done_ (by kernel_rfl) ?_
            try go_wp2
            go_roundg k1
            case measure => omega
            case rel => exact ⟨1, rfl, ⟨by omega, by refine (blk_put (cs := #[.int .i64 (s.rev + 1), .int .i64 (if 0 < 0 then s.rev + 1 else s.a), .int .i64 (if 1 < 0 then s.rev + 1 else s.b), .int .i64 (if 2 < 0 then s.rev + 1 else s.c), .map (some gm)]) q1_.out 1 _ ?_); simp, q2_.out.then_ (Kp.of_set w11 gs 1 _) (fun k hk => .inl hk)⟩⟩

          · go_wp2
            refine start_ (n := 10) (S := fun w' => w'.cell? ⟨gs, 0, none⟩ = some (.int .i64 (s.rev + 1))) (ds := [9]) #[false, false, false, false, false, false, false, false, false, false] (by kernel_rfl) rfl rfl (show _ = _ from (blk_cell (blk_drew hbx.out) 0).trans rfl) (fun hHeld => ?_)
            have q1_ := Aside0.mk (show wr.drew.heap[gs]? = some (.cells #[.int .i64 (s.rev + 1), .int .i64 (if 0 < 1 then s.rev + 1 else s.a), .int .i64 (if 1 < 1 then s.rev + 1 else s.b), .int .i64 (if 2 < 1 then s.rev + 1 else s.c), .map (some gm)] 50 (0, 0)) from blk_drew hbx.out)
            have q2_ := Aside0.mk (show Kp w7 wr.drew (fun k => k = gs) from hkp.out.then_ (Kp.of_below (below_drew1 (Below.refl _ _)) (fun _ => False)) (fun _ hk => hk.elim))
            clear hbx hkp
            generalize wr.drew = w11 at q1_ q2_ hHeld ⊢
            refine pure_ (i := 0) (N := some 52) (v := ?_) (a' := ?_) #[true, false, false, false, false, false, false, false, false, false] rfl rfl (by kernel_rfl) (fun _ _ _ h => h) (Or.inl ⟨by rfl, ?_⟩) ?_ ?_
            rotate_left
            · intro w'
              go_simp
              with_reducible rfl
            rotate_left
            · simp only [Act.put, List.setIfInBounds_toArray, List.set_cons_zero, List.set_cons_succ, i64_w, i32_w]
              rfl
            refine pure_ (i := 1) (N := some 53) (v := ?_) (a' := ?_) #[true, true, false, false, false, false, false, false, false, false] rfl rfl (by kernel_rfl) (fun _ _ _ h => h) (Or.inl ⟨by rfl, ?_⟩) ?_ ?_
            rotate_left
            · intro w'
              go_simp
              with_reducible rfl
            rotate_left
            · simp only [Act.put, List.setIfInBounds_toArray, List.set_cons_zero, List.set_cons_succ, i64_w, i32_w]
              rfl
            refine pure_ (i := 2) (N := some 54) (v := ?_) (a' := ?_) #[true, true, true, false, false, false, false, false, false, false] rfl rfl (by kernel_rfl) (fun _ _ _ h => h) (Or.inl ⟨by rfl, ?_⟩) ?_ ?_
            rotate_left
            · intro w'
              go_simp
              with_reducible rfl
            rotate_left
            · simp only [Act.put, List.setIfInBounds_toArray, List.set_cons_zero, List.set_cons_succ, i64_w, i32_w]
              rfl
            refine pure_ (i := 3) (N := some 55) (v := ?_) (a' := ?_) #[true, true, true, true, false, false, false, false, false, false] rfl rfl (by kernel_rfl) (fun _ _ _ h => h) (Or.inl ⟨by rfl, ?_⟩) ?_ ?_
            rotate_left
            · intro w'
              go_simp
              with_reducible rfl
            rotate_left
            · simp only [Act.put, List.setIfInBounds_toArray, List.set_cons_zero, List.set_cons_succ, i64_w, i32_w]
              rfl
            refine pure_ (i := 4) (N := some 56) (v := ?_) (a' := ?_) #[true, true, true, true, true, false, false, false, false, false] rfl rfl (by kernel_rfl) (fun _ _ _ h => h) (Or.inl ⟨by rfl, ?_⟩) ?_ ?_
            rotate_left
            · intro w'
              go_simp
              with_reducible rfl
            rotate_left
            · simp only [Act.put, List.setIfInBounds_toArray, List.set_cons_zero, List.set_cons_succ, i64_w, i32_w]
              rfl
            refine pure_ (i := 6) (N := some 58) (v := ?_) (a' := ?_) #[true, true, true, true, true, false, true, false, false, false] rfl rfl (by kernel_rfl) (fun _ _ _ h => h) (Or.inl ⟨by rfl, ?_⟩) ?_ ?_
            rotate_left
            · intro w'
              go_simp
              with_reducible rfl
            rotate_left
            · simp only [Act.put, List.setIfInBounds_toArray, List.set_cons_zero, List.set_cons_succ, i64_w, i32_w]
              rfl
            refine pure_ (i := 7) (N := some 59) (v := ?_) (a' := ?_) #[true, true, true, true, true, false, true, true, false, false] rfl rfl (by kernel_rfl) (fun _ _ _ h => h) (Or.inl ⟨by rfl, ?_⟩) ?_ ?_
            rotate_left
            · intro w'
              go_simp
              with_reducible rfl
            rotate_left
            · simp only [Act.put, List.setIfInBounds_toArray, List.set_cons_zero, List.set_cons_succ, i64_w, i32_w]
              rfl
            refine take_ (i := 5) (N := some 57) (v := ?_) (a' := ?_) #[true, true, true, true, true, true, true, true, false, false] rfl rfl (by kernel_rfl) (fun _ _ _ h => h) (Or.inl ⟨by rfl, ?_⟩) hHeld ?_ ?_
            rotate_left
            · rintro w' s0
              go_simp
              with_reducible rfl
            rotate_left
            · simp only [Act.put, List.setIfInBounds_toArray, List.set_cons_zero, List.set_cons_succ, i64_w, i32_w]
              rfl
            refine pure_ (i := 8) (N := some 60) (v := ?_) (a' := ?_) #[true, true, true, true, true, true, true, true, true, false] rfl rfl (by kernel_rfl) (fun _ _ _ h => h) (Or.inl ⟨by rfl, ?_⟩) ?_ ?_
            rotate_left
            · intro w'
              go_simp
              with_reducible rfl
            rotate_left
            · simp only [Act.put, List.setIfInBounds_toArray, List.set_cons_zero, List.set_cons_succ, i64_w, i32_w]
              rfl
            refine last_ (i := 9) (N := none) #[true, true, true, true, true, true, true, true, true, true] rfl rfl (by kernel_rfl) (by decide) (fun K hK => ?_)
            refine skip_ (w1 := w11.setCell ⟨gs, 2, none⟩ (.int .i64 (s.rev + 1))) (by rfl) rfl ?_ ?_
            · have c0 : w11.cell? ⟨gs, 2, none⟩ = some (.int .i64 s.b) := (blk_cell q1_.out 2).trans rfl
              have d0 := blk_frozen q1_.out 2
              go_simp
              try rfl
            refine hK.out _ _ ?_
            clear hK K
            refine done_ (by kernel_rfl) ?_
            try go_wp2
            go_roundg k1
            case measure => omega
            case rel => exact ⟨2, rfl, ⟨by omega, by refine (blk_put (cs := #[.int .i64 (s.rev + 1), .int .i64 (if 0 < 1 then s.rev + 1 else s.a), .int .i64 (if 1 < 1 then s.rev + 1 else s.b), .int .i64 (if 2 < 1 then s.rev + 1 else s.c), .map (some gm)]) q1_.out 2 _ ?_); simp, q2_.out.then_ (Kp.of_set w11 gs 2 _) (fun k hk => .inl hk)⟩⟩

          · go_wp2
            refine start_ (n := 10) (S := fun w' => w'.cell? ⟨gs, 0, none⟩ = some (.int .i64 (s.rev + 1))) (ds := [9]) #[false, false, false, false, false, false, false, false, false, false] (by kernel_rfl) rfl rfl (show _ = _ from (blk_cell (blk_drew hbx.out) 0).trans rfl) (fun hHeld => ?_)
            have q1_ := Aside0.mk (show wr.drew.heap[gs]? = some (.cells #[.int .i64 (s.rev + 1), .int .i64 (if 0 < 2 then s.rev + 1 else s.a), .int .i64 (if 1 < 2 then s.rev + 1 else s.b), .int .i64 (if 2 < 2 then s.rev + 1 else s.c), .map (some gm)] 50 (0, 0)) from blk_drew hbx.out)
            have q2_ := Aside0.mk (show Kp w7 wr.drew (fun k => k = gs) from hkp.out.then_ (Kp.of_below (below_drew1 (Below.refl _ _)) (fun _ => False)) (fun _ hk => hk.elim))
            clear hbx hkp
            generalize wr.drew = w11 at q1_ q2_ hHeld ⊢
            refine pure_ (i := 0) (N := some 52) (v := ?_) (a' := ?_) #[true, false, false, false, false, false, false, false, false, false] rfl rfl (by kernel_rfl) (fun _ _ _ h => h) (Or.inl ⟨by rfl, ?_⟩) ?_ ?_
            rotate_left
            · intro w'
              go_simp
              with_reducible rfl
            rotate_left
            · simp only [Act.put, List.setIfInBounds_toArray, List.set_cons_zero, List.set_cons_succ, i64_w, i32_w]
              rfl
            refine pure_ (i := 1) (N := some 53) (v := ?_) (a' := ?_) #[true, true, false, false, false, false, false, false, false, false] rfl rfl (by kernel_rfl) (fun _ _ _ h => h) (Or.inl ⟨by rfl, ?_⟩) ?_ ?_
            rotate_left
            · intro w'
              go_simp
              with_reducible rfl
            rotate_left
            · simp only [Act.put, List.setIfInBounds_toArray, List.set_cons_zero, List.set_cons_succ, i64_w, i32_w]
              rfl
            refine pure_ (i := 2) (N := some 54) (v := ?_) (a' := ?_) #[true, true, true, false, false, false, false, false, false, false] rfl rfl (by kernel_rfl) (fun _ _ _ h => h) (Or.inl ⟨by rfl, ?_⟩) ?_ ?_
            rotate_left
            · intro w'
              go_simp
              with_reducible rfl
            rotate_left
            · simp only [Act.put, List.setIfInBounds_toArray, List.set_cons_zero, List.set_cons_succ, i64_w, i32_w]
              rfl
            refine pure_ (i := 3) (N := some 55) (v := ?_) (a' := ?_) #[true, true, true, true, false, false, false, false, false, false] rfl rfl (by kernel_rfl) (fun _ _ _ h => h) (Or.inl ⟨by rfl, ?_⟩) ?_ ?_
            rotate_left
            · intro w'
              go_simp
              with_reducible rfl
            rotate_left
            · simp only [Act.put, List.setIfInBounds_toArray, List.set_cons_zero, List.set_cons_succ, i64_w, i32_w]
              rfl
            refine pure_ (i := 4) (N := some 56) (v := ?_) (a' := ?_) #[true, true, true, true, true, false, false, false, false, false] rfl rfl (by kernel_rfl) (fun _ _ _ h => h) (Or.inl ⟨by rfl, ?_⟩) ?_ ?_
            rotate_left
            · intro w'
              go_simp
              with_reducible rfl
            rotate_left
            · simp only [Act.put, List.setIfInBounds_toArray, List.set_cons_zero, List.set_cons_succ, i64_w, i32_w]
              rfl
            refine pure_ (i := 6) (N := some 58) (v := ?_) (a' := ?_) #[true, true, true, true, true, false, true, false, false, false] rfl rfl (by kernel_rfl) (fun _ _ _ h => h) (Or.inl ⟨by rfl, ?_⟩) ?_ ?_
            rotate_left
            · intro w'
              go_simp
              with_reducible rfl
            rotate_left
            · simp only [Act.put, List.setIfInBounds_toArray, List.set_cons_zero, List.set_cons_succ, i64_w, i32_w]
              rfl
            refine pure_ (i := 7) (N := some 59) (v := ?_) (a' := ?_) #[true, true, true, true, true, false, true, true, false, false] rfl rfl (by kernel_rfl) (fun _ _ _ h => h) (Or.inl ⟨by rfl, ?_⟩) ?_ ?_
            rotate_left
            · intro w'
              go_simp
              with_reducible rfl
            rotate_left
            · simp only [Act.put, List.setIfInBounds_toArray, List.set_cons_zero, List.set_cons_succ, i64_w, i32_w]
              rfl
            refine take_ (i := 5) (N := some 57) (v := ?_) (a' := ?_) #[true, true, true, true, true, true, true, true, false, false] rfl rfl (by kernel_rfl) (fun _ _ _ h => h) (Or.inl ⟨by rfl, ?_⟩) hHeld ?_ ?_
            rotate_left
            · rintro w' s0
              go_simp
              with_reducible rfl
            rotate_left
            · simp only [Act.put, List.setIfInBounds_toArray, List.set_cons_zero, List.set_cons_succ, i64_w, i32_w]
              rfl
            refine pure_ (i := 8) (N := some 60) (v := ?_) (a' := ?_) #[true, true, true, true, true, true, true, true, true, false] rfl rfl (by kernel_rfl) (fun _ _ _ h => h) (Or.inl ⟨by rfl, ?_⟩) ?_ ?_
            rotate_left
            · intro w'
              go_simp
              with_reducible rfl
            rotate_left
            · simp only [Act.put, List.setIfInBounds_toArray, List.set_cons_zero, List.set_cons_succ, i64_w, i32_w]
              rfl
            refine last_ (i := 9) (N := none) #[true, true, true, true, true, true, true, true, true, true] rfl rfl (by kernel_rfl) (by decide) (fun K hK => ?_)
            refine skip_ (w1 := w11.setCell ⟨gs, 3, none⟩ (.int .i64 (s.rev + 1))) (by rfl) rfl ?_ ?_
            · have c0 : w11.cell? ⟨gs, 3, none⟩ = some (.int .i64 s.c) := (blk_cell q1_.out 3).trans rfl
              have d0 := blk_frozen q1_.out 3
              go_simp
              try rfl
            refine hK.out _ _ ?_
            clear hK K
            refine done_ (by kernel_rfl) ?_
            try go_wp2
            go_roundg k1
            case measure => omega
            case rel => exact ⟨3, rfl, ⟨by omega, by refine (blk_put (cs := #[.int .i64 (s.rev + 1), .int .i64 (if 0 < 2 then s.rev + 1 else s.a), .int .i64 (if 1 < 2 then s.rev + 1 else s.b), .int .i64 (if 2 < 2 then s.rev + 1 else s.c), .map (some gm)]) q1_.out 3 _ ?_); simp, q2_.out.then_ (Kp.of_set w11 gs 3 _) (fun k hk => .inl hk)⟩⟩

        · have cz_ : decide ((i : Int) < e + 1) = false := decide_eq_false (by have := HDR.out; omega)
          obtain rfl : i = (e + 1).toNat := by omega
          have HK5 := Aside0.mk ((hkp.out.block g5 (blk_lt BKg5.out) NEG.out.1).trans BKg5.out)
          have HK6 := Aside0.mk ((hkp.out.block g6 (blk_lt BKg6.out) NEG.out.2.1).trans BKg6.out)
          go_wp2
          refine start_ (n := 14) (S := fun w' => w'.cell? ⟨gs, 4, none⟩ = some (.map (some gm)) ∧ w'.cell? ⟨gs, 0, none⟩ = some (.int .i64 (s.rev + 1)) ∧ w'.cell? ⟨g5, 0, none⟩ = some (.int .i64 0) ∧ w'.cell? ⟨g5, 1, none⟩ = some (.int .i64 b) ∧ w'.cell? ⟨g5, 2, none⟩ = some (.int .i64 d) ∧ w'.cell? ⟨g6, 0, none⟩ = some (.slice A1 ys.length c1) ∧ w'.cell? ⟨g6, 1, none⟩ = some (.string ty)) (ds := [13]) #[false, false, false, false, false, false, false, false, false, false, false, false, false, false] (by kernel_rfl) rfl rfl ⟨(blk_cell (blk_drew hbx.out) 4).trans rfl, (blk_cell (blk_drew hbx.out) 0).trans rfl, (blk_cell (blk_drew HK5.out) 0).trans rfl, (blk_cell (blk_drew HK5.out) 1).trans rfl, (blk_cell (blk_drew HK5.out) 2).trans rfl, (blk_cell (blk_drew HK6.out) 0).trans rfl, (blk_cell (blk_drew HK6.out) 1).trans rfl⟩ (fun hHeld => ?_)
          have q1_ := Aside0.mk (show wr.drew.heap[gs]? = some (.cells #[.int .i64 (s.rev + 1), .int .i64 (if 0 < (e + 1).toNat then s.rev + 1 else s.a), .int .i64 (if 1 < (e + 1).toNat then s.rev + 1 else s.b), .int .i64 (if 2 < (e + 1).toNat then s.rev + 1 else s.c), .map (some gm)] 50 (0, 0)) from blk_drew hbx.out)
          have q2_ := Aside0.mk (show Kp w7 wr.drew (fun k => k = gs) from hkp.out.then_ (Kp.of_below (below_drew1 (Below.refl _ _)) (fun _ => False)) (fun _ hk => hk.elim))
          have q3_ := Aside0.mk (show wr.drew.heap[g5]? = some (.cells #[.int .i64 0, .int .i64 b, .int .i64 d] 32 (0, 0)) from blk_drew HK5.out)
          have q4_ := Aside0.mk (show wr.drew.heap[g6]? = some (.cells #[.slice A1 ys.length c1, .string ty] 37 (0, 0)) from blk_drew HK6.out)
          clear hbx hkp HK5 HK6
          generalize wr.drew = w11 at q1_ q2_ q3_ q4_ hHeld ⊢
          refine pure_ (i := 0) (N := some 62) (v := ?_) (a' := ?_) #[true, false, false, false, false, false, false, false, false, false, false, false, false, false] rfl rfl (by kernel_rfl) (fun _ _ _ h => h) (Or.inl ⟨by rfl, ?_⟩) ?_ ?_
          rotate_left
          · intro w'
            go_simp
            with_reducible rfl
          rotate_left
          · simp only [Act.put, List.setIfInBounds_toArray, List.set_cons_zero, List.set_cons_succ, i64_w, i32_w]
            rfl
          refine pure_ (i := 1) (N := some 63) (v := ?_) (a' := ?_) #[true, true, false, false, false, false, false, false, false, false, false, false, false, false] rfl rfl (by kernel_rfl) (fun _ _ _ h => h) (Or.inl ⟨by rfl, ?_⟩) ?_ ?_
          rotate_left
          · intro w'
            go_simp
            with_reducible rfl
          rotate_left
          · simp only [Act.put, List.setIfInBounds_toArray, List.set_cons_zero, List.set_cons_succ, i64_w, i32_w]
            rfl
          refine pure_ (i := 2) (N := some 64) (v := ?_) (a' := ?_) #[true, true, true, false, false, false, false, false, false, false, false, false, false, false] rfl rfl (by kernel_rfl) (fun _ _ _ h => h) (Or.inl ⟨by rfl, ?_⟩) ?_ ?_
          rotate_left
          · intro w'
            go_simp
            with_reducible rfl
          rotate_left
          · simp only [Act.put, List.setIfInBounds_toArray, List.set_cons_zero, List.set_cons_succ, i64_w, i32_w]
            rfl
          refine pure_ (i := 7) (N := some 69) (v := ?_) (a' := ?_) #[true, true, true, false, false, false, false, true, false, false, false, false, false, false] rfl rfl (by kernel_rfl) (fun _ _ _ h => h) (Or.inl ⟨by rfl, ?_⟩) ?_ ?_
          rotate_left
          · intro w'
            go_simp
            with_reducible rfl
          rotate_left
          · simp only [Act.put, List.setIfInBounds_toArray, List.set_cons_zero, List.set_cons_succ, i64_w, i32_w]
            rfl
          refine pure_ (i := 8) (N := some 70) (v := ?_) (a' := ?_) #[true, true, true, false, false, false, false, true, true, false, false, false, false, false] rfl rfl (by kernel_rfl) (fun _ _ _ h => h) (Or.inl ⟨by rfl, ?_⟩) ?_ ?_
          rotate_left
          · intro w'
            go_simp
            with_reducible rfl
          rotate_left
          · simp only [Act.put, List.setIfInBounds_toArray, List.set_cons_zero, List.set_cons_succ, i64_w, i32_w]
            rfl
          refine pure_ (i := 9) (N := some 71) (v := ?_) (a' := ?_) #[true, true, true, false, false, false, false, true, true, true, false, false, false, false] rfl rfl (by kernel_rfl) (fun _ _ _ h => h) (Or.inl ⟨by rfl, ?_⟩) ?_ ?_
          rotate_left
          · intro w'
            go_simp
            with_reducible rfl
          rotate_left
          · simp only [Act.put, List.setIfInBounds_toArray, List.set_cons_zero, List.set_cons_succ, i64_w, i32_w]
            rfl
          refine pure_ (i := 11) (N := some 73) (v := ?_) (a' := ?_) #[true, true, true, false, false, false, false, true, true, true, false, true, false, false] rfl rfl (by kernel_rfl) (fun _ _ _ h => h) (Or.inl ⟨by rfl, ?_⟩) ?_ ?_
          rotate_left
          · intro w'
            go_simp
            with_reducible rfl
          rotate_left
          · simp only [Act.put, List.setIfInBounds_toArray, List.set_cons_zero, List.set_cons_succ, i64_w, i32_w]
            rfl
          refine take_ (i := 3) (N := some 65) (v := ?_) (a' := ?_) #[true, true, true, true, false, false, false, true, true, true, false, true, false, false] rfl rfl (by kernel_rfl) (fun _ _ _ h => h) (Or.inl ⟨by rfl, ?_⟩) hHeld ?_ ?_
          rotate_left
          · rintro w' ⟨s0, s1, s2, s3, s4, s5, s6⟩
            go_simp
            with_reducible rfl
          rotate_left
          · simp only [Act.put, List.setIfInBounds_toArray, List.set_cons_zero, List.set_cons_succ, i64_w, i32_w]
            rfl
          refine take_ (i := 4) (N := some 66) (v := ?_) (a' := ?_) #[true, true, true, true, true, false, false, true, true, true, false, true, false, false] rfl rfl (by kernel_rfl) (fun _ _ _ h => h) (Or.inl ⟨by rfl, ?_⟩) hHeld ?_ ?_
          rotate_left
          · rintro w' ⟨s0, s1, s2, s3, s4, s5, s6⟩
            go_simp
            with_reducible rfl
          rotate_left
          · simp only [Act.put, List.setIfInBounds_toArray, List.set_cons_zero, List.set_cons_succ, i64_w, i32_w]
            rfl
          refine take_ (i := 5) (N := some 67) (v := ?_) (a' := ?_) #[true, true, true, true, true, true, false, true, true, true, false, true, false, false] rfl rfl (by kernel_rfl) (fun _ _ _ h => h) (Or.inl ⟨by rfl, ?_⟩) hHeld ?_ ?_
          rotate_left
          · rintro w' ⟨s0, s1, s2, s3, s4, s5, s6⟩
            go_simp
            with_reducible rfl
          rotate_left
          · simp only [Act.put, List.setIfInBounds_toArray, List.set_cons_zero, List.set_cons_succ, i64_w, i32_w]
            rfl
          refine take_ (i := 10) (N := some 72) (v := ?_) (a' := ?_) #[true, true, true, true, true, true, false, true, true, true, true, true, false, false] rfl rfl (by kernel_rfl) (fun _ _ _ h => h) (Or.inl ⟨by rfl, ?_⟩) hHeld ?_ ?_
          rotate_left
          · rintro w' ⟨s0, s1, s2, s3, s4, s5, s6⟩
            go_simp
            with_reducible rfl
          rotate_left
          · simp only [Act.put, List.setIfInBounds_toArray, List.set_cons_zero, List.set_cons_succ, i64_w, i32_w]
            rfl
          refine one_ (i := 6) (N := some 68) #[true, true, true, true, true, true, true, true, true, true, true, true, false, false] rfl rfl (by kernel_rfl) (by decide) (fun K hK => ?_)
          refine goes_ Try.func16 (by kernel_rfl) rfl #[.agg #[.slice A1 ys.length c1, .string ty]] (by rfl) rfl rfl (by (try simp only [List.map_toArray, List.map_cons, List.map_nil]); first | done | rfl) ?_
          have HC11 := Aside0.mk (show Kd.C (Kd.int .i64) w11 A1 ys.length ys from (Kd.R_reads' (Kd.R_step (Kd.R_below HRA.out HB7.out) (fun k hk hlt => q2_.out.block k hlt hk))).2.2)
          refine (clone_calls A1 c1 ys ty _ HC11.out HC1.out HL1.out).mono ?_
          rintro e_ w12 ⟨v12, rfl, hv, hb⟩
          refine ⟨_, rfl, ?_⟩
          obtain ⟨A12, c12, rfl⟩ := Kd.R_slice hv
          have HV := Aside0.mk (Kd.R_bound hv)
          have p1_ := Aside0.mk (blk_below q1_.out hb)
          have p2_ := Aside0.mk (q2_.out.then_ (Kp.of_below hb (fun _ => False)) (fun _ hk => hk.elim))
          have p3_ := Aside0.mk (blk_below q3_.out hb)
          have p4_ := Aside0.mk (blk_below q4_.out hb)
          have LW := Aside0.mk (show w7.heap.size ≤ w11.heap.size from q2_.out.size)
          clear hv hb q1_ q2_ q3_ q4_
          refine hK.out _ _ ⟨(blk_cell p1_.out 4).trans rfl, (blk_cell p1_.out 0).trans rfl, (blk_cell p3_.out 0).trans rfl, (blk_cell p3_.out 1).trans rfl, (blk_cell p3_.out 2).trans rfl, (blk_cell p4_.out 0).trans rfl, (blk_cell p4_.out 1).trans rfl⟩ (fun hHeld => ?_)
          clear hK K
          refine norm_ (a' := ?_) ?_ ?_
          rotate_left
          · show Act.put _ (some 68) _ = _
            simp only [Act.put, List.setIfInBounds_toArray, List.set_cons_zero, List.set_cons_succ, i64_w, i32_w]
            rfl
          refine pure_ (i := 12) (N := some 74) (v := ?_) (a' := ?_) #[true, true, true, true, true, true, true, true, true, true, true, true, true, false] rfl rfl (by kernel_rfl) (fun _ _ _ h => h) (Or.inl ⟨by rfl, ?_⟩) ?_ ?_
          rotate_left
          · intro w'
            go_simp
            with_reducible rfl
          rotate_left
          · simp only [Act.put, List.setIfInBounds_toArray, List.set_cons_zero, List.set_cons_succ, i64_w, i32_w]
            rfl
          refine last_ (i := 13) (N := none) #[true, true, true, true, true, true, true, true, true, true, true, true, true, true] rfl rfl (by kernel_rfl) (by decide) (fun K hK => ?_)
          have hat12 : Mp.At Try.prog 32 enc3 w12 gm (Mp.vals encC l) := HAT.out.keep (p2_.out.block gm HAT.out.lt HS6.out.ne.symm)
          obtain ⟨lk, hlk⟩ := HKEY.out
          obtain ⟨ob, hrun, hat3⟩ := Mp.At.store (T := 47) KK inj3 Try.underlying47 hat12 hlk (encC ⟨.slice A12 ys.length c12, ⟨ys, ty, s.rev + 1, e⟩⟩)
          rw [Mp.aset_vals] at hat3
          have HAT3 := Aside0.mk hat3
          have KPF := Aside0.mk (setBlock_kp w12 gm ob)
          clear hat3 hat12
          refine skip_ (w1 := setBlock w12 gm ob) (by rfl) rfl ?_ ?_
          · simp only [enc3, encC] at hrun
            go_simp
            all_goals first | (rw [hrun]; done) | (rw [hrun]; rfl) | (simp [hrun]; done) | exact hrun
          refine hK.out _ _ ?_
          clear hK K
          refine done_ (by kernel_rfl) ?_

          go_wp2
          go_ret2
          have KPW := (Kp.of_below HB7.out (fun k => k = gs ∨ k = gm)).then_ p2_.out (fun k hk => .inl (.inl hk))
          refine ⟨rfl, ⟨(KPF.out.block gs (blk_lt p1_.out) HS6.out.ne).trans p1_.out, ⟨_, ?_, HAT3.out, ?_⟩, HS6.out.xs, HS6.out.lo⟩, KPW.then_ KPF.out (fun k hk => .inl (.inr hk))⟩
          · rw [← HL0.out]
            exact (Mp.aset_vals Cel.p l (0, b, d) ⟨.slice A12 ys.length c12, ⟨ys, ty, s.rev + 1, e⟩⟩).symm
          · intro q hq
            rcases aset_sub hq with hq | rfl
            · exact Kd.R_step (HROWS.out q hq) (fun k ho hlt => (KPW.then_ KPF.out (fun k hk => .inl (.inr hk))).block k hlt (fun e_ => ho (by rcases e_ with rfl | rfl; exact HS6.out.xs.1; exact HS6.out.xs.2)))
            · refine Kd.R_lower (Kd.R_mono (Kd.R_step HV.out (fun k ho hlt => KPF.out.block k hlt (fun e_ => ?_))) (fun k ho => HXX.out k ?_)) ?_
              · have h1_ := HS6.out.lt.2
                have h2_ := ho.2.1
                have h3_ := LW.out
                omega
              · have h2_ := ho.2.1
                have h3_ := LW.out
                have h4_ := HB7.out.size
                omega
              · have h1_ := HS6.out.lo.1
                have h2_ := HS6.out.lt.1
                have h3_ := LW.out
                omega
  · have hmx : max du e = du := Int.max_eq_left (by omega)
    rw [hmx]
    have hmd : decide (du < e) = false := decide_eq_false hm
    have hm2 : e ≤ du := by omega
    by_cases hdu : du = e
    · have heq : inputs_Equal.f kk xs t ys ty = some false := hne.elim (fun h => absurd hdu h) id
      have g0 : (du == e) = true := beq_iff_eq.mpr hdu
      have g1 : decide (du = e) = true := decide_eq_true hdu
      have HEQ := Aside0.mk heq
      clear hR hp hget h hl0 hk hr1 hc1 heq hne hdu hR1 hrows
      go_enter Try.func7, Try.ntmps7
      go_wp2_with (first | ((with_reducible refine gate_dst (N := 5) rfl ?_); refine box_event ?hg (N := 5) ?hd (cs := #[.int .i64 0, .int .i64 b, .int .i64 d]) (t := 32) ?hr ?_; (case hd => rfl); (case hg => rfl); (case hr => first | (go_simp; done) | (go_simp; rfl)); intro g5 hg w2 hbox hb; have BKg5 := Aside0.mk hbox; have GEg5 := Aside0.mk (show W.heap.size = g5 from hg.symm); have hk0 : w2.cell? ⟨g5, 0, none⟩ = some (.int .i64 0) := (blk_cell hbox 0).trans rfl; have n2_ := Aside0.mk (HS.out.below hb); have HS2 := n2_; clear n2_; have n1_ := Aside0.mk (below_step HB.out hb); clear HB; have HB := n1_; clear n1_; clear hbox hb hg) | ((with_reducible refine gate_dst (N := 6) rfl ?_); refine box_event ?hg (N := 6) ?hd (cs := #[.slice A1 ys.length c1, .string ty]) (t := 37) ?hr ?_; (case hd => rfl); (case hg => rfl); (case hr => first | (go_simp; done) | (go_simp; rfl)); intro g6 hg w3 hbox hb; have BKg6 := Aside0.mk hbox; have GEg6 := Aside0.mk (show w2.heap.size = g6 from hg.symm); clear hk0; have HS3 := Aside0.mk (HS2.out.below hb); have n1_ := Aside0.mk (below_step HB.out hb); clear HB; have HB := n1_; clear n1_; have n2_ := Aside0.mk (blk_below BKg5.out hb); clear BKg5; have BKg5 := n2_; clear n2_; have HAT := Aside0.mk (hat.keep ((HB.out.block gm (St.lt HS.out).2))); have hk0 : w3.cell? ⟨g5, 0, none⟩ = some (.int .i64 0) := (blk_cell BKg5.out 0).trans rfl; clear hbox hb hg))
      refine start_ (n := 8) (S := fun w' => w'.cell? ⟨gs, 4, none⟩ = some (.map (some gm)) ∧ w'.cell? ⟨g5, 0, none⟩ = some (.int .i64 0) ∧ w'.cell? ⟨g5, 1, none⟩ = some (.int .i64 b) ∧ w'.cell? ⟨g5, 2, none⟩ = some (.int .i64 d) ∧ Mp.At Try.prog 32 enc3 w' gm (Mp.vals encC l)) (ds := [7]) #[false, false, false, false, false, false, false, false] (by kernel_rfl) rfl rfl ⟨(blk_cell (blk_drew HS3.out.box) 4).trans rfl, (blk_cell (blk_drew BKg5.out) 0).trans rfl, (blk_cell (blk_drew BKg5.out) 1).trans rfl, (blk_cell (blk_drew BKg5.out) 2).trans rfl, HAT.out.drew⟩ (fun hHeld => ?_)
      have HB4 := HB
      generalize hwd : w3.drew = w4 at hHeld ⊢
      have n1_ := Aside0.mk (show Below W.heap.size W w4 from hwd ▸ below_drew1 HB.out)
      clear HB
      have HB := n1_
      clear n1_
      have n2_ := Aside0.mk (show w4.heap[g6]? = some (.cells #[.slice A1 ys.length c1, .string ty] 37 (0, 0)) from hwd ▸ blk_drew BKg6.out)
      have n3_ := Aside0.mk (show St X base gs gm s w4 from hwd ▸ HS3.out.below (below_drew1 (Below.refl _ _)))
      have n4_ := Aside0.mk (show w4.heap[g5]? = some (.cells #[.int .i64 0, .int .i64 b, .int .i64 d] 32 (0, 0)) from hwd ▸ blk_drew BKg5.out)
      have n5_ := Aside0.mk (show Mp.At Try.prog 32 enc3 w4 gm (Mp.vals encC l) from hwd ▸ HAT.out.drew)
      have HB4 := HB
      clear BKg6 BKg5 HS3 hwd HAT
      have BKg6 := n2_
      have HS3 := n3_
      have BKg5 := n4_
      have HAT := n5_
      clear n2_ n3_ n4_ n5_
      refine pure_ (i := 0) (N := some 21) (v := ?_) (a' := ?_) #[true, false, false, false, false, false, false, false] rfl rfl (by kernel_rfl) (fun _ _ _ h => h) (Or.inl ⟨by rfl, ?_⟩) ?_ ?_
      rotate_left
      · intro w'
        go_simp
        with_reducible rfl
      rotate_left
      · simp only [Act.put, List.setIfInBounds_toArray, List.set_cons_zero, List.set_cons_succ, i64_w, i32_w]
        rfl
      refine pure_ (i := 1) (N := some 22) (v := ?_) (a' := ?_) #[true, true, false, false, false, false, false, false] rfl rfl (by kernel_rfl) (fun _ _ _ h => h) (Or.inl ⟨by rfl, ?_⟩) ?_ ?_
      rotate_left
      · intro w'
        go_simp
        with_reducible rfl
      rotate_left
      · simp only [Act.put, List.setIfInBounds_toArray, List.set_cons_zero, List.set_cons_succ, i64_w, i32_w]
        rfl
      refine pure_ (i := 2) (N := some 23) (v := ?_) (a' := ?_) #[true, true, true, false, false, false, false, false] rfl rfl (by kernel_rfl) (fun _ _ _ h => h) (Or.inl ⟨by rfl, ?_⟩) ?_ ?_
      rotate_left
      · intro w'
        go_simp
        with_reducible rfl
      rotate_left
      · simp only [Act.put, List.setIfInBounds_toArray, List.set_cons_zero, List.set_cons_succ, i64_w, i32_w]
        rfl
      refine take_ (i := 3) (N := some 24) (v := ?_) (a' := ?_) #[true, true, true, true, false, false, false, false] rfl rfl (by kernel_rfl) (fun _ _ _ h => h) (Or.inl ⟨by rfl, ?_⟩) hHeld ?_ ?_
      rotate_left
      · rintro w' ⟨s0, s1, s2, s3, s4⟩
        go_simp
        with_reducible rfl
      rotate_left
      · simp only [Act.put, List.setIfInBounds_toArray, List.set_cons_zero, List.set_cons_succ, i64_w, i32_w]
        rfl
      refine take_ (i := 4) (N := some 25) (v := ?_) (a' := ?_) #[true, true, true, true, true, false, false, false] rfl rfl (by kernel_rfl) (fun _ _ _ h => h) (Or.inl ⟨by rfl, ?_⟩) hHeld ?_ ?_
      rotate_left
      · rintro w' ⟨s0, s1, s2, s3, s4⟩
        go_simp
        with_reducible rfl
      rotate_left
      · simp only [Act.put, List.setIfInBounds_toArray, List.set_cons_zero, List.set_cons_succ, i64_w, i32_w]
        rfl
      refine take_ (i := 5) (N := some 26) (v := .agg #[.slice A xs.length cc, .string t, .int .i64 ch, .int .i64 du]) (a' := ?_) #[true, true, true, true, true, true, false, false] rfl rfl (by kernel_rfl) (fun _ _ _ h => h) (Or.inl ⟨by rfl, ?_⟩) hHeld ?_ ?_
      · rintro w' ⟨s0, s1, s2, s3, s4⟩
        obtain ⟨lk, hlk⟩ := HKEY.out
        have hrun := look w' gm l (0, b, d) _ s4 HGET.out hlk
        simp only [enc3, encC] at hrun
        go_simp
        all_goals first | (rw [hrun]; done) | (rw [hrun]; rfl) | (simp [hrun]; done) | exact hrun
      rotate_left
      · simp only [Act.put, List.setIfInBounds_toArray, List.set_cons_zero, List.set_cons_succ, i64_w, i32_w]
        rfl
      refine one_ (i := 6) (N := some 10) #[true, true, true, true, true, true, true, false] rfl rfl (by kernel_rfl) (by decide) (fun K hK => ?_)
      refine value_ (w1 := w4.alloc (.cells #[.slice none 0 0, .string ⟨#[]⟩, .int .i64 0, .int .i64 0] 52 (0, 0))) (v := .pointer (some ⟨w4.heap.size, 0, none⟩)) (by rfl) rfl ?_ ?_
      · go_simp
        try rfl
      have hb8 : Below w4.heap.size w4 (w4.alloc (.cells #[.slice none 0 0, .string ⟨#[]⟩, .int .i64 0, .int .i64 0] 52 (0, 0))) := below_alloc (Below.refl _ _) _
      have hx8 : (w4.alloc (.cells #[.slice none 0 0, .string ⟨#[]⟩, .int .i64 0, .int .i64 0] 52 (0, 0))).heap[w4.heap.size]? = some (.cells #[.slice none 0 0, .string ⟨#[]⟩, .int .i64 0, .int .i64 0] 52 (0, 0)) := blk_new w4 _
      have n1_ := Aside0.mk (below_step HB.out hb8)
      have LE7 := Aside0.mk (Nat.le_refl w4.heap.size)
      clear HB
      generalize hg7 : w4.heap.size = g7 at hx8 LE7 ⊢
      generalize (w4.alloc (.cells #[.slice none 0 0, .string ⟨#[]⟩, .int .i64 0, .int .i64 0] 52 (0, 0))) = w5 at hb8 hx8 n1_ ⊢
      have HB := n1_
      have BK7 := Aside0.mk hx8
      have HB8 := Aside0.mk hb8
      have G7 := Aside0.mk hg7
      clear n1_ hx8 hb8 hg7
      refine hK.out _ _ ⟨(blk_cell (blk_below HS3.out.box HB8.out) 4).trans rfl, (blk_cell (blk_below BKg5.out HB8.out) 0).trans rfl, (blk_cell (blk_below BKg5.out HB8.out) 1).trans rfl, (blk_cell (blk_below BKg5.out HB8.out) 2).trans rfl, hHeld.2.2.2.2.below HB8.out⟩ (fun hHeld => ?_)
      clear hK K
      refine norm_ (a' := ?_) ?_ ?_
      rotate_left
      · show Act.put _ (some 10) _ = _
        simp only [Act.put, List.setIfInBounds_toArray, List.set_cons_zero, List.set_cons_succ, i64_w, i32_w]
        rfl
      refine last_ (i := 7) (N := none) #[true, true, true, true, true, true, true, true] rfl rfl (by kernel_rfl) (by decide) (fun K hK => ?_)
      refine skip_ (w1 := ((((w5.setCell ⟨g7, 0, none⟩ (.slice A xs.length cc)).setCell ⟨g7, 1, none⟩ (.string t)).setCell ⟨g7, 2, none⟩ (.int .i64 ch)).setCell ⟨g7, 3, none⟩ (.int .i64 du))) (by rfl) rfl ?_ ?_
      · have c0 : w5.cell? ⟨g7, 0, none⟩ = some (.slice none 0 0) := (blk_cell BK7.out 0).trans rfl
        have c1 : w5.cell? ⟨g7, 1, none⟩ = some (.string ⟨#[]⟩) := (blk_cell BK7.out 1).trans rfl
        have c2 : w5.cell? ⟨g7, 2, none⟩ = some (.int .i64 0) := (blk_cell BK7.out 2).trans rfl
        have c3 : w5.cell? ⟨g7, 3, none⟩ = some (.int .i64 0) := (blk_cell BK7.out 3).trans rfl
        have d0 := blk_frozen BK7.out 0
        have d1 := blk_frozen BK7.out 1
        have d2 := blk_frozen BK7.out 2
        have d3 := blk_frozen BK7.out 3
        go_simp
        try rfl
      refine hK.out _ _ ?_
      clear hK K
      refine done_ (by kernel_rfl) ?_
      have n0_ := Aside0.mk (show Below w4.heap.size w4 ((((w5.setCell ⟨g7, 0, none⟩ (.slice A xs.length cc)).setCell ⟨g7, 1, none⟩ (.string t)).setCell ⟨g7, 2, none⟩ (.int .i64 ch)).setCell ⟨g7, 3, none⟩ (.int .i64 du)) from below_set (below_set (below_set (below_set HB8.out (Nat.le_of_eq G7.out)) (Nat.le_of_eq G7.out)) (Nat.le_of_eq G7.out)) (Nat.le_of_eq G7.out))
      have n1_ := Aside0.mk (show ((((w5.setCell ⟨g7, 0, none⟩ (.slice A xs.length cc)).setCell ⟨g7, 1, none⟩ (.string t)).setCell ⟨g7, 2, none⟩ (.int .i64 ch)).setCell ⟨g7, 3, none⟩ (.int .i64 du)).heap[g7]? = some (.cells #[.slice A xs.length cc, .string t, .int .i64 ch, .int .i64 du] 52 (0, 0)) from by refine blk_put (cs := #[.slice A xs.length cc, .string t, .int .i64 ch, .int .i64 0]) ?_ 3 _ rfl; refine blk_put (cs := #[.slice A xs.length cc, .string t, .int .i64 0, .int .i64 0]) ?_ 2 _ rfl; refine blk_put (cs := #[.slice A xs.length cc, .string ⟨#[]⟩, .int .i64 0, .int .i64 0]) ?_ 1 _ rfl; refine blk_put (cs := #[.slice none 0 0, .string ⟨#[]⟩, .int .i64 0, .int .i64 0]) ?_ 0 _ rfl; exact BK7.out)
      have n2_ := Aside0.mk (HS3.out.below n0_.out)
      have n4_ := Aside0.mk (below_step HB4.out n0_.out)
      have n5_ := Aside0.mk (HAT.out.below n0_.out)
      have n6_ := Aside0.mk (blk_below BKg6.out n0_.out)
      have n7_ := Aside0.mk (blk_below BKg5.out n0_.out)
      clear BKg6 BKg5 HAT
      clear HB HB8 BK7 HS3 HB4 hHeld G7
      generalize ((((w5.setCell ⟨g7, 0, none⟩ (.slice A xs.length cc)).setCell ⟨g7, 1, none⟩ (.string t)).setCell ⟨g7, 2, none⟩ (.int .i64 ch)).setCell ⟨g7, 3, none⟩ (.int .i64 du)) = w6 at n0_ n1_ n2_ n4_ n5_ n6_ n7_ ⊢
      have BK7 := n1_
      have HS6 := n2_
      have HB := n4_
      have HAT := n5_
      have BKg6 := n6_
      have BKg5 := n7_
      clear n5_ n6_ n7_
      clear n0_ n1_ n2_ n4_
      have hc7_0 : w6.cell? ⟨g7, 0, none⟩ = some (.slice A xs.length cc) := (blk_cell BK7.out 0).trans rfl
      have hc7_1 : w6.cell? ⟨g7, 1, none⟩ = some (.string t) := (blk_cell BK7.out 1).trans rfl
      have hc7_3 : w6.cell? ⟨g7, 3, none⟩ = some (.int .i64 du) := (blk_cell BK7.out 3).trans rfl
      have hc6_0 : w6.cell? ⟨g6, 0, none⟩ = some (.slice A1 ys.length c1) := (blk_cell BKg6.out 0).trans rfl
      have hc6_1 : w6.cell? ⟨g6, 1, none⟩ = some (.string ty) := (blk_cell BKg6.out 1).trans rfl
      go_wp2_with ((go_at_call 15; refine (inputs_Equal.calls kk A cc xs t A1 c1 ys ty false _ (Kd.C_below (Kd.R_reads' HR.out).2.2 HB.out) HCC.out (Kd.C_below HR1.out HB.out) HC1.out HEQ.out).mono ?_; rintro e_ w7 ⟨rfl, hb⟩; have n1_ := Aside0.mk (below_step HB.out hb); have n2_ := Aside0.mk (HS6.out.below hb); have n3_ := Aside0.mk (HAT.out.below hb); have n4_ := Aside0.mk (blk_below BKg5.out hb); have n5_ := Aside0.mk (blk_below BKg6.out hb); have n6_ := Aside0.mk (blk_below BK7.out hb); clear HB HS6 HAT BKg5 BKg6 BK7 hb hc7_0 hc7_1 hc7_3 hc6_0 hc6_1; have HB := n1_; have HS6 := n2_; have HAT := n3_; have BKg5 := n4_; have BKg6 := n5_; have BK7 := n6_; clear n1_ n2_ n3_ n4_ n5_ n6_; have hs0 : w7.cell? ⟨gs, 0, none⟩ = some (.int .i64 s.rev) := (blk_cell HS6.out.box 0).trans rfl; have hsf := blk_frozen HS6.out.box 0; have hc7_3 : w7.cell? ⟨g7, 3, none⟩ = some (.int .i64 du) := (blk_cell BK7.out 3).trans rfl; have NEG := Aside0.mk (show g5 ≠ gs ∧ g6 ≠ gs ∧ g7 ≠ gs from ⟨blk_ne BKg5.out HS6.out.box (by decide), blk_ne BKg6.out HS6.out.box (by decide), blk_ne BK7.out HS6.out.box (by decide)⟩); have a1_ : (g7 = gs) = False := eq_false NEG.out.2.2; have a2_ : (gs = g7) = False := eq_false NEG.out.2.2.symm; have hw1 : wrap64 (s.rev + 1) = s.rev + 1 := w64_id (by have := HSR.out; omega) (by have := HSR.out; omega); have hw1b : IntKind.i64.wrap (s.rev + 1) = s.rev + 1 := (i64_w _).trans hw1; have hw2 : wrap64 (du + 1) = du + 1 := w64_id (by have := HDR.out; omega) (by have := HDR.out; omega); have hw2b : IntKind.i64.wrap (du + 1) = du + 1 := (i64_w _).trans hw2))
      have HB7 := HB
      have q1_ := Aside0.mk (show ((w7.setCell ⟨gs, 0, none⟩ (.int .i64 (s.rev + 1)))).heap[gs]? = some (.cells #[.int .i64 (s.rev + 1), .int .i64 (if 0 < 0 then s.rev + 1 else s.a), .int .i64 (if 1 < 0 then s.rev + 1 else s.b), .int .i64 (if 2 < 0 then s.rev + 1 else s.c), .map (some gm)] 50 (0, 0)) from by rw [if_neg (by omega), if_neg (by omega), if_neg (by omega)]; exact blk_put (cs := #[.int .i64 s.rev, .int .i64 s.a, .int .i64 s.b, .int .i64 s.c, .map (some gm)]) HS6.out.box 0 _ rfl)
      have q2_ := Aside0.mk (show Kp w7 ((w7.setCell ⟨gs, 0, none⟩ (.int .i64 (s.rev + 1)))) (fun k => k = gs) from Kp.of_set w7 gs 0 _)
      generalize (w7.setCell ⟨gs, 0, none⟩ (.int .i64 (s.rev + 1))) = w8 at q1_ q2_ ⊢
      clear hs0 hsf hc7_3 a1_ a2_ hw1b hw2b hw2
      go_loopg [49, 11] (du + 1).toNat (fun kq v49 v11 w' => ∃ i : Nat, v49 = .int .i64 i ∧ Aside0 (i + kq = (du + 1).toNat ∧ w'.heap[gs]? = some (.cells #[.int .i64 (s.rev + 1), .int .i64 (if 0 < i then s.rev + 1 else s.a), .int .i64 (if 1 < i then s.rev + 1 else s.b), .int .i64 (if 2 < i then s.rev + 1 else s.c), .map (some gm)] 50 (0, 0)) ∧ Kp w7 w' (fun k => k = gs)))
      case atStart => exact ⟨0, rfl, ⟨by omega, q1_.out, q2_.out⟩⟩
      case round =>
        clear q1_ q2_
        obtain ⟨i, rfl, HX⟩ := hrel
        obtain ⟨hik, hbx0, hkp0⟩ := HX.out
        have hbx := Aside0.mk hbx0
        have hkp := Aside0.mk hkp0
        clear HX hbx0 hkp0
        by_cases c_ : i < (du + 1).toNat
        · obtain ⟨k1, rfl⟩ : ∃ k1, gk = k1 + 1 := ⟨gk - 1, by omega⟩
          have cz_ : decide ((i : Int) < du + 1) = true := decide_eq_true (by have := HDR.out; omega)
          have hi3 : i < 3 := by have := HDR.out; omega
          obtain rfl | rfl | rfl : i = 0 ∨ i = 1 ∨ i = 2 := by omega
          · go_wp2
            refine start_ (n := 10) (S := fun w' => w'.cell? ⟨gs, 0, none⟩ = some (.int .i64 (s.rev + 1))) (ds := [9]) #[false, false, false, false, false, false, false, false, false, false] (by kernel_rfl) rfl rfl (show _ = _ from (blk_cell (blk_drew hbx.out) 0).trans rfl) (fun hHeld => ?_)
            have q1_ := Aside0.mk (show wr.drew.heap[gs]? = some (.cells #[.int .i64 (s.rev + 1), .int .i64 (if 0 < 0 then s.rev + 1 else s.a), .int .i64 (if 1 < 0 then s.rev + 1 else s.b), .int .i64 (if 2 < 0 then s.rev + 1 else s.c), .map (some gm)] 50 (0, 0)) from blk_drew hbx.out)
            have q2_ := Aside0.mk (show Kp w7 wr.drew (fun k => k = gs) from hkp.out.then_ (Kp.of_below (below_drew1 (Below.refl _ _)) (fun _ => False)) (fun _ hk => hk.elim))
            clear hbx hkp
            generalize wr.drew = w11 at q1_ q2_ hHeld ⊢
            refine pure_ (i := 0) (N := some 52) (v := ?_) (a' := ?_) #[true, false, false, false, false, false, false, false, false, false] rfl rfl (by kernel_rfl) (fun _ _ _ h => h) (Or.inl ⟨by rfl, ?_⟩) ?_ ?_
            rotate_left
            · intro w'
              go_simp
              with_reducible rfl
            rotate_left
            · simp only [Act.put, List.setIfInBounds_toArray, List.set_cons_zero, List.set_cons_succ, i64_w, i32_w]
              rfl
            refine pure_ (i := 1) (N := some 53) (v := ?_) (a' := ?_) #[true, true, false, false, false, false, false, false, false, false] rfl rfl (by kernel_rfl) (fun _ _ _ h => h) (Or.inl ⟨by rfl, ?_⟩) ?_ ?_
            rotate_left
            · intro w'
              go_simp
              with_reducible rfl
            rotate_left
            · simp only [Act.put, List.setIfInBounds_toArray, List.set_cons_zero, List.set_cons_succ, i64_w, i32_w]
              rfl
            refine pure_ (i := 2) (N := some 54) (v := ?_) (a' := ?_) #[true, true, true, false, false, false, false, false, false, false] rfl rfl (by kernel_rfl) (fun _ _ _ h => h) (Or.inl ⟨by rfl, ?_⟩) ?_ ?_
            rotate_left
            · intro w'
              go_simp
              with_reducible rfl
            rotate_left
            · simp only [Act.put, List.setIfInBounds_toArray, List.set_cons_zero, List.set_cons_succ, i64_w, i32_w]
              rfl
            refine pure_ (i := 3) (N := some 55) (v := ?_) (a' := ?_) #[true, true, true, true, false, false, false, false, false, false] rfl rfl (by kernel_rfl) (fun _ _ _ h => h) (Or.inl ⟨by rfl, ?_⟩) ?_ ?_
            rotate_left
            · intro w'
              go_simp
              with_reducible rfl
            rotate_left
            · simp only [Act.put, List.setIfInBounds_toArray, List.set_cons_zero, List.set_cons_succ, i64_w, i32_w]
              rfl
            refine pure_ (i := 4) (N := some 56) (v := ?_) (a' := ?_) #[true, true, true, true, true, false, false, false, false, false] rfl rfl (by kernel_rfl) (fun _ _ _ h => h) (Or.inl ⟨by rfl, ?_⟩) ?_ ?_
            rotate_left
            · intro w'
              go_simp
              with_reducible rfl
            rotate_left
            · simp only [Act.put, List.setIfInBounds_toArray, List.set_cons_zero, List.set_cons_succ, i64_w, i32_w]
              rfl
            refine pure_ (i := 6) (N := some 58) (v := ?_) (a' := ?_) #[true, true, true, true, true, false, true, false, false, false] rfl rfl (by kernel_rfl) (fun _ _ _ h => h) (Or.inl ⟨by rfl, ?_⟩) ?_ ?_
            rotate_left
            · intro w'
              go_simp
              with_reducible rfl
            rotate_left
            · simp only [Act.put, List.setIfInBounds_toArray, List.set_cons_zero, List.set_cons_succ, i64_w, i32_w]
              rfl
            refine pure_ (i := 7) (N := some 59) (v := ?_) (a' := ?_) #[true, true, true, true, true, false, true, true, false, false] rfl rfl (by kernel_rfl) (fun _ _ _ h => h) (Or.inl ⟨by rfl, ?_⟩) ?_ ?_
            rotate_left
            · intro w'
              go_simp
              with_reducible rfl
            rotate_left
            · simp only [Act.put, List.setIfInBounds_toArray, List.set_cons_zero, List.set_cons_succ, i64_w, i32_w]
              rfl
            refine take_ (i := 5) (N := some 57) (v := ?_) (a' := ?_) #[true, true, true, true, true, true, true, true, false, false] rfl rfl (by kernel_rfl) (fun _ _ _ h => h) (Or.inl ⟨by rfl, ?_⟩) hHeld ?_ ?_
            rotate_left
            · rintro w' s0
              go_simp
              with_reducible rfl
            rotate_left
            · simp only [Act.put, List.setIfInBounds_toArray, List.set_cons_zero, List.set_cons_succ, i64_w, i32_w]
              rfl
            refine pure_ (i := 8) (N := some 60) (v := ?_) (a' := ?_) #[true, true, true, true, true, true, true, true, true, false] rfl rfl (by kernel_rfl) (fun _ _ _ h => h) (Or.inl ⟨by rfl, ?_⟩) ?_ ?_
            rotate_left
            · intro w'
              go_simp
              with_reducible rfl
            rotate_left
            · simp only [Act.put, List.setIfInBounds_toArray, List.set_cons_zero, List.set_cons_succ, i64_w, i32_w]
              rfl
            refine last_ (i := 9) (N := none) #[true, true, true, true, true, true, true, true, true, true] rfl rfl (by kernel_rfl) (by decide) (fun K hK => ?_)
            refine skip_ (w1 := w11.setCell ⟨gs, 1, none⟩ (.int .i64 (s.rev + 1))) (by rfl) rfl ?_ ?_
            · have c0 : w11.cell? ⟨gs, 1, none⟩ = some (.int .i64 s.a) := (blk_cell q1_.out 1).trans rfl
              have d0 := blk_frozen q1_.out 1
              go_simp
              try rfl
            refine hK.out _ _ ?_
            clear hK K
            refine done_ (by kernel_rfl) ?_
            try go_wp2
            go_roundg k1
            case measure => omega
            case rel => exact ⟨1, rfl, ⟨by omega, by refine (blk_put (cs := #[.int .i64 (s.rev + 1), .int .i64 (if 0 < 0 then s.rev + 1 else s.a), .int .i64 (if 1 < 0 then s.rev + 1 else s.b), .int .i64 (if 2 < 0 then s.rev + 1 else s.c), .map (some gm)]) q1_.out 1 _ ?_); simp, q2_.out.then_ (Kp.of_set w11 gs 1 _) (fun k hk => .inl hk)⟩⟩

          · go_wp2
            refine start_ (n := 10) (S := fun w' => w'.cell? ⟨gs, 0, none⟩ = some (.int .i64 (s.rev + 1))) (ds := [9]) #[false, false, false, false, false, false, false, false, false, false] (by kernel_rfl) rfl rfl (show _ = _ from (blk_cell (blk_drew hbx.out) 0).trans rfl) (fun hHeld => ?_)
            have q1_ := Aside0.mk (show wr.drew.heap[gs]? = some (.cells #[.int .i64 (s.rev + 1), .int .i64 (if 0 < 1 then s.rev + 1 else s.a), .int .i64 (if 1 < 1 then s.rev + 1 else s.b), .int .i64 (if 2 < 1 then s.rev + 1 else s.c), .map (some gm)] 50 (0, 0)) from blk_drew hbx.out)
            have q2_ := Aside0.mk (show Kp w7 wr.drew (fun k => k = gs) from hkp.out.then_ (Kp.of_below (below_drew1 (Below.refl _ _)) (fun _ => False)) (fun _ hk => hk.elim))
            clear hbx hkp
            generalize wr.drew = w11 at q1_ q2_ hHeld ⊢
            refine pure_ (i := 0) (N := some 52) (v := ?_) (a' := ?_) #[true, false, false, false, false, false, false, false, false, false] rfl rfl (by kernel_rfl) (fun _ _ _ h => h) (Or.inl ⟨by rfl, ?_⟩) ?_ ?_
            rotate_left
            · intro w'
              go_simp
              with_reducible rfl
            rotate_left
            · simp only [Act.put, List.setIfInBounds_toArray, List.set_cons_zero, List.set_cons_succ, i64_w, i32_w]
              rfl
            refine pure_ (i := 1) (N := some 53) (v := ?_) (a' := ?_) #[true, true, false, false, false, false, false, false, false, false] rfl rfl (by kernel_rfl) (fun _ _ _ h => h) (Or.inl ⟨by rfl, ?_⟩) ?_ ?_
            rotate_left
            · intro w'
              go_simp
              with_reducible rfl
            rotate_left
            · simp only [Act.put, List.setIfInBounds_toArray, List.set_cons_zero, List.set_cons_succ, i64_w, i32_w]
              rfl
            refine pure_ (i := 2) (N := some 54) (v := ?_) (a' := ?_) #[true, true, true, false, false, false, false, false, false, false] rfl rfl (by kernel_rfl) (fun _ _ _ h => h) (Or.inl ⟨by rfl, ?_⟩) ?_ ?_
            rotate_left
            · intro w'
              go_simp
              with_reducible rfl
            rotate_left
            · simp only [Act.put, List.setIfInBounds_toArray, List.set_cons_zero, List.set_cons_succ, i64_w, i32_w]
              rfl
            refine pure_ (i := 3) (N := some 55) (v := ?_) (a' := ?_) #[true, true, true, true, false, false, false, false, false, false] rfl rfl (by kernel_rfl) (fun _ _ _ h => h) (Or.inl ⟨by rfl, ?_⟩) ?_ ?_
            rotate_left
            · intro w'
              go_simp
              with_reducible rfl
            rotate_left
            · simp only [Act.put, List.setIfInBounds_toArray, List.set_cons_zero, List.set_cons_succ, i64_w, i32_w]
              rfl
            refine pure_ (i := 4) (N := some 56) (v := ?_) (a' := ?_) #[true, true, true, true, true, false, false, false, false, false] rfl rfl (by kernel_rfl) (fun _ _ _ h => h) (Or.inl ⟨by rfl, ?_⟩) ?_ ?_
            rotate_left
            · intro w'
              go_simp
              with_reducible rfl
            rotate_left
            · simp only [Act.put, List.setIfInBounds_toArray, List.set_cons_zero, List.set_cons_succ, i64_w, i32_w]
              rfl
            refine pure_ (i := 6) (N := some 58) (v := ?_) (a' := ?_) #[true, true, true, true, true, false, true, false, false, false] rfl rfl (by kernel_rfl) (fun _ _ _ h => h) (Or.inl ⟨by rfl, ?_⟩) ?_ ?_
            rotate_left
            · intro w'
              go_simp
              with_reducible rfl
            rotate_left
            · simp only [Act.put, List.setIfInBounds_toArray, List.set_cons_zero, List.set_cons_succ, i64_w, i32_w]
              rfl
            refine pure_ (i := 7) (N := some 59) (v := ?_) (a' := ?_) #[true, true, true, true, true, false, true, true, false, false] rfl rfl (by kernel_rfl) (fun _ _ _ h => h) (Or.inl ⟨by rfl, ?_⟩) ?_ ?_
            rotate_left
            · intro w'
              go_simp
              with_reducible rfl
            rotate_left
            · simp only [Act.put, List.setIfInBounds_toArray, List.set_cons_zero, List.set_cons_succ, i64_w, i32_w]
              rfl
            refine take_ (i := 5) (N := some 57) (v := ?_) (a' := ?_) #[true, true, true, true, true, true, true, true, false, false] rfl rfl (by kernel_rfl) (fun _ _ _ h => h) (Or.inl ⟨by rfl, ?_⟩) hHeld ?_ ?_
            rotate_left
            · rintro w' s0
              go_simp
              with_reducible rfl
            rotate_left
            · simp only [Act.put, List.setIfInBounds_toArray, List.set_cons_zero, List.set_cons_succ, i64_w, i32_w]
              rfl
            refine pure_ (i := 8) (N := some 60) (v := ?_) (a' := ?_) #[true, true, true, true, true, true, true, true, true, false] rfl rfl (by kernel_rfl) (fun _ _ _ h => h) (Or.inl ⟨by rfl, ?_⟩) ?_ ?_
            rotate_left
            · intro w'
              go_simp
              with_reducible rfl
            rotate_left
            · simp only [Act.put, List.setIfInBounds_toArray, List.set_cons_zero, List.set_cons_succ, i64_w, i32_w]
              rfl
            refine last_ (i := 9) (N := none) #[true, true, true, true, true, true, true, true, true, true] rfl rfl (by kernel_rfl) (by decide) (fun K hK => ?_)
            refine skip_ (w1 := w11.setCell ⟨gs, 2, none⟩ (.int .i64 (s.rev + 1))) (by rfl) rfl ?_ ?_
            · have c0 : w11.cell? ⟨gs, 2, none⟩ = some (.int .i64 s.b) := (blk_cell q1_.out 2).trans rfl
              have d0 := blk_frozen q1_.out 2
              go_simp
              try rfl
            refine hK.out _ _ ?_
            clear hK K
            refine done_ (by kernel_rfl) ?_
            try go_wp2
            go_roundg k1
            case measure => omega
            case rel => exact ⟨2, rfl, ⟨by omega, by refine (blk_put (cs := #[.int .i64 (s.rev + 1), .int .i64 (if 0 < 1 then s.rev + 1 else s.a), .int .i64 (if 1 < 1 then s.rev + 1 else s.b), .int .i64 (if 2 < 1 then s.rev + 1 else s.c), .map (some gm)]) q1_.out 2 _ ?_); simp, q2_.out.then_ (Kp.of_set w11 gs 2 _) (fun k hk => .inl hk)⟩⟩

          · go_wp2
            refine start_ (n := 10) (S := fun w' => w'.cell? ⟨gs, 0, none⟩ = some (.int .i64 (s.rev + 1))) (ds := [9]) #[false, false, false, false, false, false, false, false, false, false] (by kernel_rfl) rfl rfl (show _ = _ from (blk_cell (blk_drew hbx.out) 0).trans rfl) (fun hHeld => ?_)
            have q1_ := Aside0.mk (show wr.drew.heap[gs]? = some (.cells #[.int .i64 (s.rev + 1), .int .i64 (if 0 < 2 then s.rev + 1 else s.a), .int .i64 (if 1 < 2 then s.rev + 1 else s.b), .int .i64 (if 2 < 2 then s.rev + 1 else s.c), .map (some gm)] 50 (0, 0)) from blk_drew hbx.out)
            have q2_ := Aside0.mk (show Kp w7 wr.drew (fun k => k = gs) from hkp.out.then_ (Kp.of_below (below_drew1 (Below.refl _ _)) (fun _ => False)) (fun _ hk => hk.elim))
            clear hbx hkp
            generalize wr.drew = w11 at q1_ q2_ hHeld ⊢
            refine pure_ (i := 0) (N := some 52) (v := ?_) (a' := ?_) #[true, false, false, false, false, false, false, false, false, false] rfl rfl (by kernel_rfl) (fun _ _ _ h => h) (Or.inl ⟨by rfl, ?_⟩) ?_ ?_
            rotate_left
            · intro w'
              go_simp
              with_reducible rfl
            rotate_left
            · simp only [Act.put, List.setIfInBounds_toArray, List.set_cons_zero, List.set_cons_succ, i64_w, i32_w]
              rfl
            refine pure_ (i := 1) (N := some 53) (v := ?_) (a' := ?_) #[true, true, false, false, false, false, false, false, false, false] rfl rfl (by kernel_rfl) (fun _ _ _ h => h) (Or.inl ⟨by rfl, ?_⟩) ?_ ?_
            rotate_left
            · intro w'
              go_simp
              with_reducible rfl
            rotate_left
            · simp only [Act.put, List.setIfInBounds_toArray, List.set_cons_zero, List.set_cons_succ, i64_w, i32_w]
              rfl
            refine pure_ (i := 2) (N := some 54) (v := ?_) (a' := ?_) #[true, true, true, false, false, false, false, false, false, false] rfl rfl (by kernel_rfl) (fun _ _ _ h => h) (Or.inl ⟨by rfl, ?_⟩) ?_ ?_
            rotate_left
            · intro w'
              go_simp
              with_reducible rfl
            rotate_left
            · simp only [Act.put, List.setIfInBounds_toArray, List.set_cons_zero, List.set_cons_succ, i64_w, i32_w]
              rfl
            refine pure_ (i := 3) (N := some 55) (v := ?_) (a' := ?_) #[true, true, true, true, false, false, false, false, false, false] rfl rfl (by kernel_rfl) (fun _ _ _ h => h) (Or.inl ⟨by rfl, ?_⟩) ?_ ?_
            rotate_left
            · intro w'
              go_simp
              with_reducible rfl
            rotate_left
            · simp only [Act.put, List.setIfInBounds_toArray, List.set_cons_zero, List.set_cons_succ, i64_w, i32_w]
              rfl
            refine pure_ (i := 4) (N := some 56) (v := ?_) (a' := ?_) #[true, true, true, true, true, false, false, false, false, false] rfl rfl (by kernel_rfl) (fun _ _ _ h => h) (Or.inl ⟨by rfl, ?_⟩) ?_ ?_
            rotate_left
            · intro w'
              go_simp
              with_reducible rfl
            rotate_left
            · simp only [Act.put, List.setIfInBounds_toArray, List.set_cons_zero, List.set_cons_succ, i64_w, i32_w]
              rfl
            refine pure_ (i := 6) (N := some 58) (v := ?_) (a' := ?_) #[true, true, true, true, true, false, true, false, false, false] rfl rfl (by kernel_rfl) (fun _ _ _ h => h) (Or.inl ⟨by rfl, ?_⟩) ?_ ?_
            rotate_left
            · intro w'
              go_simp
              with_reducible rfl
            rotate_left
            · simp only [Act.put, List.setIfInBounds_toArray, List.set_cons_zero, List.set_cons_succ, i64_w, i32_w]
              rfl
            refine pure_ (i := 7) (N := some 59) (v := ?_) (a' := ?_) #[true, true, true, true, true, false, true, true, false, false] rfl rfl (by kernel_rfl) (fun _ _ _ h => h) (Or.inl ⟨by rfl, ?_⟩) ?_ ?_
            rotate_left
            · intro w'
              go_simp
              with_reducible rfl
            rotate_left
            · simp only [Act.put, List.setIfInBounds_toArray, List.set_cons_zero, List.set_cons_succ, i64_w, i32_w]
              rfl
            refine take_ (i := 5) (N := some 57) (v := ?_) (a' := ?_) #[true, true, true, true, true, true, true, true, false, false] rfl rfl (by kernel_rfl) (fun _ _ _ h => h) (Or.inl ⟨by rfl, ?_⟩) hHeld ?_ ?_
            rotate_left
            · rintro w' s0
              go_simp
              with_reducible rfl
            rotate_left
            · simp only [Act.put, List.setIfInBounds_toArray, List.set_cons_zero, List.set_cons_succ, i64_w, i32_w]
              rfl
            refine pure_ (i := 8) (N := some 60) (v := ?_) (a' := ?_) #[true, true, true, true, true, true, true, true, true, false] rfl rfl (by kernel_rfl) (fun _ _ _ h => h) (Or.inl ⟨by rfl, ?_⟩) ?_ ?_
            rotate_left
            · intro w'
              go_simp
              with_reducible rfl
            rotate_left
            · simp only [Act.put, List.setIfInBounds_toArray, List.set_cons_zero, List.set_cons_succ, i64_w, i32_w]
              rfl
            refine last_ (i := 9) (N := none) #[true, true, true, true, true, true, true, true, true, true] rfl rfl (by kernel_rfl) (by decide) (fun K hK => ?_)
            refine skip_ (w1 := w11.setCell ⟨gs, 3, none⟩ (.int .i64 (s.rev + 1))) (by rfl) rfl ?_ ?_
            · have c0 : w11.cell? ⟨gs, 3, none⟩ = some (.int .i64 s.c) := (blk_cell q1_.out 3).trans rfl
              have d0 := blk_frozen q1_.out 3
              go_simp
              try rfl
            refine hK.out _ _ ?_
            clear hK K
            refine done_ (by kernel_rfl) ?_
            try go_wp2
            go_roundg k1
            case measure => omega
            case rel => exact ⟨3, rfl, ⟨by omega, by refine (blk_put (cs := #[.int .i64 (s.rev + 1), .int .i64 (if 0 < 2 then s.rev + 1 else s.a), .int .i64 (if 1 < 2 then s.rev + 1 else s.b), .int .i64 (if 2 < 2 then s.rev + 1 else s.c), .map (some gm)]) q1_.out 3 _ ?_); simp, q2_.out.then_ (Kp.of_set w11 gs 3 _) (fun k hk => .inl hk)⟩⟩

        · have cz_ : decide ((i : Int) < du + 1) = false := decide_eq_false (by have := HDR.out; omega)
          obtain rfl : i = (du + 1).toNat := by omega
          have HK5 := Aside0.mk ((hkp.out.block g5 (blk_lt BKg5.out) NEG.out.1).trans BKg5.out)
          have HK6 := Aside0.mk ((hkp.out.block g6 (blk_lt BKg6.out) NEG.out.2.1).trans BKg6.out)
          go_wp2
          refine start_ (n := 14) (S := fun w' => w'.cell? ⟨gs, 4, none⟩ = some (.map (some gm)) ∧ w'.cell? ⟨gs, 0, none⟩ = some (.int .i64 (s.rev + 1)) ∧ w'.cell? ⟨g5, 0, none⟩ = some (.int .i64 0) ∧ w'.cell? ⟨g5, 1, none⟩ = some (.int .i64 b) ∧ w'.cell? ⟨g5, 2, none⟩ = some (.int .i64 d) ∧ w'.cell? ⟨g6, 0, none⟩ = some (.slice A1 ys.length c1) ∧ w'.cell? ⟨g6, 1, none⟩ = some (.string ty)) (ds := [13]) #[false, false, false, false, false, false, false, false, false, false, false, false, false, false] (by kernel_rfl) rfl rfl ⟨(blk_cell (blk_drew hbx.out) 4).trans rfl, (blk_cell (blk_drew hbx.out) 0).trans rfl, (blk_cell (blk_drew HK5.out) 0).trans rfl, (blk_cell (blk_drew HK5.out) 1).trans rfl, (blk_cell (blk_drew HK5.out) 2).trans rfl, (blk_cell (blk_drew HK6.out) 0).trans rfl, (blk_cell (blk_drew HK6.out) 1).trans rfl⟩ (fun hHeld => ?_)
          have q1_ := Aside0.mk (show wr.drew.heap[gs]? = some (.cells #[.int .i64 (s.rev + 1), .int .i64 (if 0 < (du + 1).toNat then s.rev + 1 else s.a), .int .i64 (if 1 < (du + 1).toNat then s.rev + 1 else s.b), .int .i64 (if 2 < (du + 1).toNat then s.rev + 1 else s.c), .map (some gm)] 50 (0, 0)) from blk_drew hbx.out)
          have q2_ := Aside0.mk (show Kp w7 wr.drew (fun k => k = gs) from hkp.out.then_ (Kp.of_below (below_drew1 (Below.refl _ _)) (fun _ => False)) (fun _ hk => hk.elim))
          have q3_ := Aside0.mk (show wr.drew.heap[g5]? = some (.cells #[.int .i64 0, .int .i64 b, .int .i64 d] 32 (0, 0)) from blk_drew HK5.out)
          have q4_ := Aside0.mk (show wr.drew.heap[g6]? = some (.cells #[.slice A1 ys.length c1, .string ty] 37 (0, 0)) from blk_drew HK6.out)
          clear hbx hkp HK5 HK6
          generalize wr.drew = w11 at q1_ q2_ q3_ q4_ hHeld ⊢
          refine pure_ (i := 0) (N := some 62) (v := ?_) (a' := ?_) #[true, false, false, false, false, false, false, false, false, false, false, false, false, false] rfl rfl (by kernel_rfl) (fun _ _ _ h => h) (Or.inl ⟨by rfl, ?_⟩) ?_ ?_
          rotate_left
          · intro w'
            go_simp
            with_reducible rfl
          rotate_left
          · simp only [Act.put, List.setIfInBounds_toArray, List.set_cons_zero, List.set_cons_succ, i64_w, i32_w]
            rfl
          refine pure_ (i := 1) (N := some 63) (v := ?_) (a' := ?_) #[true, true, false, false, false, false, false, false, false, false, false, false, false, false] rfl rfl (by kernel_rfl) (fun _ _ _ h => h) (Or.inl ⟨by rfl, ?_⟩) ?_ ?_
          rotate_left
          · intro w'
            go_simp
            with_reducible rfl
          rotate_left
          · simp only [Act.put, List.setIfInBounds_toArray, List.set_cons_zero, List.set_cons_succ, i64_w, i32_w]
            rfl
          refine pure_ (i := 2) (N := some 64) (v := ?_) (a' := ?_) #[true, true, true, false, false, false, false, false, false, false, false, false, false, false] rfl rfl (by kernel_rfl) (fun _ _ _ h => h) (Or.inl ⟨by rfl, ?_⟩) ?_ ?_
          rotate_left
          · intro w'
            go_simp
            with_reducible rfl
          rotate_left
          · simp only [Act.put, List.setIfInBounds_toArray, List.set_cons_zero, List.set_cons_succ, i64_w, i32_w]
            rfl
          refine pure_ (i := 7) (N := some 69) (v := ?_) (a' := ?_) #[true, true, true, false, false, false, false, true, false, false, false, false, false, false] rfl rfl (by kernel_rfl) (fun _ _ _ h => h) (Or.inl ⟨by rfl, ?_⟩) ?_ ?_
          rotate_left
          · intro w'
            go_simp
            with_reducible rfl
          rotate_left
          · simp only [Act.put, List.setIfInBounds_toArray, List.set_cons_zero, List.set_cons_succ, i64_w, i32_w]
            rfl
          refine pure_ (i := 8) (N := some 70) (v := ?_) (a' := ?_) #[true, true, true, false, false, false, false, true, true, false, false, false, false, false] rfl rfl (by kernel_rfl) (fun _ _ _ h => h) (Or.inl ⟨by rfl, ?_⟩) ?_ ?_
          rotate_left
          · intro w'
            go_simp
            with_reducible rfl
          rotate_left
          · simp only [Act.put, List.setIfInBounds_toArray, List.set_cons_zero, List.set_cons_succ, i64_w, i32_w]
            rfl
          refine pure_ (i := 9) (N := some 71) (v := ?_) (a' := ?_) #[true, true, true, false, false, false, false, true, true, true, false, false, false, false] rfl rfl (by kernel_rfl) (fun _ _ _ h => h) (Or.inl ⟨by rfl, ?_⟩) ?_ ?_
          rotate_left
          · intro w'
            go_simp
            with_reducible rfl
          rotate_left
          · simp only [Act.put, List.setIfInBounds_toArray, List.set_cons_zero, List.set_cons_succ, i64_w, i32_w]
            rfl
          refine pure_ (i := 11) (N := some 73) (v := ?_) (a' := ?_) #[true, true, true, false, false, false, false, true, true, true, false, true, false, false] rfl rfl (by kernel_rfl) (fun _ _ _ h => h) (Or.inl ⟨by rfl, ?_⟩) ?_ ?_
          rotate_left
          · intro w'
            go_simp
            with_reducible rfl
          rotate_left
          · simp only [Act.put, List.setIfInBounds_toArray, List.set_cons_zero, List.set_cons_succ, i64_w, i32_w]
            rfl
          refine take_ (i := 3) (N := some 65) (v := ?_) (a' := ?_) #[true, true, true, true, false, false, false, true, true, true, false, true, false, false] rfl rfl (by kernel_rfl) (fun _ _ _ h => h) (Or.inl ⟨by rfl, ?_⟩) hHeld ?_ ?_
          rotate_left
          · rintro w' ⟨s0, s1, s2, s3, s4, s5, s6⟩
            go_simp
            with_reducible rfl
          rotate_left
          · simp only [Act.put, List.setIfInBounds_toArray, List.set_cons_zero, List.set_cons_succ, i64_w, i32_w]
            rfl
          refine take_ (i := 4) (N := some 66) (v := ?_) (a' := ?_) #[true, true, true, true, true, false, false, true, true, true, false, true, false, false] rfl rfl (by kernel_rfl) (fun _ _ _ h => h) (Or.inl ⟨by rfl, ?_⟩) hHeld ?_ ?_
          rotate_left
          · rintro w' ⟨s0, s1, s2, s3, s4, s5, s6⟩
            go_simp
            with_reducible rfl
          rotate_left
          · simp only [Act.put, List.setIfInBounds_toArray, List.set_cons_zero, List.set_cons_succ, i64_w, i32_w]
            rfl
          refine take_ (i := 5) (N := some 67) (v := ?_) (a' := ?_) #[true, true, true, true, true, true, false, true, true, true, false, true, false, false] rfl rfl (by kernel_rfl) (fun _ _ _ h => h) (Or.inl ⟨by rfl, ?_⟩) hHeld ?_ ?_
          rotate_left
          · rintro w' ⟨s0, s1, s2, s3, s4, s5, s6⟩
            go_simp
            with_reducible rfl
          rotate_left
          · simp only [Act.put, List.setIfInBounds_toArray, List.set_cons_zero, List.set_cons_succ, i64_w, i32_w]
            rfl
          refine take_ (i := 10) (N := some 72) (v := ?_) (a' := ?_) #[true, true, true, true, true, true, false, true, true, true, true, true, false, false] rfl rfl (by kernel_rfl) (fun _ _ _ h => h) (Or.inl ⟨by rfl, ?_⟩) hHeld ?_ ?_
          rotate_left
          · rintro w' ⟨s0, s1, s2, s3, s4, s5, s6⟩
            go_simp
            with_reducible rfl
          rotate_left
          · simp only [Act.put, List.setIfInBounds_toArray, List.set_cons_zero, List.set_cons_succ, i64_w, i32_w]
            rfl
          refine one_ (i := 6) (N := some 68) #[true, true, true, true, true, true, true, true, true, true, true, true, false, false] rfl rfl (by kernel_rfl) (by decide) (fun K hK => ?_)
          refine goes_ Try.func16 (by kernel_rfl) rfl #[.agg #[.slice A1 ys.length c1, .string ty]] (by rfl) rfl rfl (by (try simp only [List.map_toArray, List.map_cons, List.map_nil]); first | done | rfl) ?_
          have HC11 := Aside0.mk (show Kd.C (Kd.int .i64) w11 A1 ys.length ys from (Kd.R_reads' (Kd.R_step (Kd.R_below HRA.out HB7.out) (fun k hk hlt => q2_.out.block k hlt hk))).2.2)
          refine (clone_calls A1 c1 ys ty _ HC11.out HC1.out HL1.out).mono ?_
          rintro e_ w12 ⟨v12, rfl, hv, hb⟩
          refine ⟨_, rfl, ?_⟩
          obtain ⟨A12, c12, rfl⟩ := Kd.R_slice hv
          have HV := Aside0.mk (Kd.R_bound hv)
          have p1_ := Aside0.mk (blk_below q1_.out hb)
          have p2_ := Aside0.mk (q2_.out.then_ (Kp.of_below hb (fun _ => False)) (fun _ hk => hk.elim))
          have p3_ := Aside0.mk (blk_below q3_.out hb)
          have p4_ := Aside0.mk (blk_below q4_.out hb)
          have LW := Aside0.mk (show w7.heap.size ≤ w11.heap.size from q2_.out.size)
          clear hv hb q1_ q2_ q3_ q4_
          refine hK.out _ _ ⟨(blk_cell p1_.out 4).trans rfl, (blk_cell p1_.out 0).trans rfl, (blk_cell p3_.out 0).trans rfl, (blk_cell p3_.out 1).trans rfl, (blk_cell p3_.out 2).trans rfl, (blk_cell p4_.out 0).trans rfl, (blk_cell p4_.out 1).trans rfl⟩ (fun hHeld => ?_)
          clear hK K
          refine norm_ (a' := ?_) ?_ ?_
          rotate_left
          · show Act.put _ (some 68) _ = _
            simp only [Act.put, List.setIfInBounds_toArray, List.set_cons_zero, List.set_cons_succ, i64_w, i32_w]
            rfl
          refine pure_ (i := 12) (N := some 74) (v := ?_) (a' := ?_) #[true, true, true, true, true, true, true, true, true, true, true, true, true, false] rfl rfl (by kernel_rfl) (fun _ _ _ h => h) (Or.inl ⟨by rfl, ?_⟩) ?_ ?_
          rotate_left
          · intro w'
            go_simp
            with_reducible rfl
          rotate_left
          · simp only [Act.put, List.setIfInBounds_toArray, List.set_cons_zero, List.set_cons_succ, i64_w, i32_w]
            rfl
          refine last_ (i := 13) (N := none) #[true, true, true, true, true, true, true, true, true, true, true, true, true, true] rfl rfl (by kernel_rfl) (by decide) (fun K hK => ?_)
          have hat12 : Mp.At Try.prog 32 enc3 w12 gm (Mp.vals encC l) := HAT.out.keep (p2_.out.block gm HAT.out.lt HS6.out.ne.symm)
          obtain ⟨lk, hlk⟩ := HKEY.out
          obtain ⟨ob, hrun, hat3⟩ := Mp.At.store (T := 47) KK inj3 Try.underlying47 hat12 hlk (encC ⟨.slice A12 ys.length c12, ⟨ys, ty, s.rev + 1, e⟩⟩)
          rw [Mp.aset_vals] at hat3
          have HAT3 := Aside0.mk hat3
          have KPF := Aside0.mk (setBlock_kp w12 gm ob)
          clear hat3 hat12
          refine skip_ (w1 := setBlock w12 gm ob) (by rfl) rfl ?_ ?_
          · simp only [enc3, encC] at hrun
            go_simp
            all_goals first | (rw [hrun]; done) | (rw [hrun]; rfl) | (simp [hrun]; done) | exact hrun
          refine hK.out _ _ ?_
          clear hK K
          refine done_ (by kernel_rfl) ?_

          go_wp2
          go_ret2
          have KPW := (Kp.of_below HB7.out (fun k => k = gs ∨ k = gm)).then_ p2_.out (fun k hk => .inl (.inl hk))
          refine ⟨rfl, ⟨(KPF.out.block gs (blk_lt p1_.out) HS6.out.ne).trans p1_.out, ⟨_, ?_, HAT3.out, ?_⟩, HS6.out.xs, HS6.out.lo⟩, KPW.then_ KPF.out (fun k hk => .inl (.inr hk))⟩
          · rw [← HL0.out]
            exact (Mp.aset_vals Cel.p l (0, b, d) ⟨.slice A12 ys.length c12, ⟨ys, ty, s.rev + 1, e⟩⟩).symm
          · intro q hq
            rcases aset_sub hq with hq | rfl
            · exact Kd.R_step (HROWS.out q hq) (fun k ho hlt => (KPW.then_ KPF.out (fun k hk => .inl (.inr hk))).block k hlt (fun e_ => ho (by rcases e_ with rfl | rfl; exact HS6.out.xs.1; exact HS6.out.xs.2)))
            · refine Kd.R_lower (Kd.R_mono (Kd.R_step HV.out (fun k ho hlt => KPF.out.block k hlt (fun e_ => ?_))) (fun k ho => HXX.out k ?_)) ?_
              · have h1_ := HS6.out.lt.2
                have h2_ := ho.2.1
                have h3_ := LW.out
                omega
              · have h2_ := ho.2.1
                have h3_ := LW.out
                have h4_ := HB7.out.size
                omega
              · have h1_ := HS6.out.lo.1
                have h2_ := HS6.out.lt.1
                have h3_ := LW.out
                omega
    · have g0 : (du == e) = false := beq_eq_false_iff_ne.mpr hdu
      have g1 : decide (du = e) = false := decide_eq_false hdu
      clear hR hp hget h hl0 hk hr1 hc1 hne hdu hR1 hrows
      go_enter Try.func7, Try.ntmps7
      go_wp2_with (first | ((with_reducible refine gate_dst (N := 5) rfl ?_); refine box_event ?hg (N := 5) ?hd (cs := #[.int .i64 0, .int .i64 b, .int .i64 d]) (t := 32) ?hr ?_; (case hd => rfl); (case hg => rfl); (case hr => first | (go_simp; done) | (go_simp; rfl)); intro g5 hg w2 hbox hb; have BKg5 := Aside0.mk hbox; have GEg5 := Aside0.mk (show W.heap.size = g5 from hg.symm); have hk0 : w2.cell? ⟨g5, 0, none⟩ = some (.int .i64 0) := (blk_cell hbox 0).trans rfl; have n2_ := Aside0.mk (HS.out.below hb); have HS2 := n2_; clear n2_; have n1_ := Aside0.mk (below_step HB.out hb); clear HB; have HB := n1_; clear n1_; clear hbox hb hg) | ((with_reducible refine gate_dst (N := 6) rfl ?_); refine box_event ?hg (N := 6) ?hd (cs := #[.slice A1 ys.length c1, .string ty]) (t := 37) ?hr ?_; (case hd => rfl); (case hg => rfl); (case hr => first | (go_simp; done) | (go_simp; rfl)); intro g6 hg w3 hbox hb; have BKg6 := Aside0.mk hbox; have GEg6 := Aside0.mk (show w2.heap.size = g6 from hg.symm); clear hk0; have HS3 := Aside0.mk (HS2.out.below hb); have n1_ := Aside0.mk (below_step HB.out hb); clear HB; have HB := n1_; clear n1_; have n2_ := Aside0.mk (blk_below BKg5.out hb); clear BKg5; have BKg5 := n2_; clear n2_; have HAT := Aside0.mk (hat.keep ((HB.out.block gm (St.lt HS.out).2))); have hk0 : w3.cell? ⟨g5, 0, none⟩ = some (.int .i64 0) := (blk_cell BKg5.out 0).trans rfl; clear hbox hb hg))
      refine start_ (n := 8) (S := fun w' => w'.cell? ⟨gs, 4, none⟩ = some (.map (some gm)) ∧ w'.cell? ⟨g5, 0, none⟩ = some (.int .i64 0) ∧ w'.cell? ⟨g5, 1, none⟩ = some (.int .i64 b) ∧ w'.cell? ⟨g5, 2, none⟩ = some (.int .i64 d) ∧ Mp.At Try.prog 32 enc3 w' gm (Mp.vals encC l)) (ds := [7]) #[false, false, false, false, false, false, false, false] (by kernel_rfl) rfl rfl ⟨(blk_cell (blk_drew HS3.out.box) 4).trans rfl, (blk_cell (blk_drew BKg5.out) 0).trans rfl, (blk_cell (blk_drew BKg5.out) 1).trans rfl, (blk_cell (blk_drew BKg5.out) 2).trans rfl, HAT.out.drew⟩ (fun hHeld => ?_)
      have HB4 := HB
      generalize hwd : w3.drew = w4 at hHeld ⊢
      have n1_ := Aside0.mk (show Below W.heap.size W w4 from hwd ▸ below_drew1 HB.out)
      clear HB
      have HB := n1_
      clear n1_
      have n2_ := Aside0.mk (show w4.heap[g6]? = some (.cells #[.slice A1 ys.length c1, .string ty] 37 (0, 0)) from hwd ▸ blk_drew BKg6.out)
      have n3_ := Aside0.mk (show St X base gs gm s w4 from hwd ▸ HS3.out.below (below_drew1 (Below.refl _ _)))
      have n4_ := Aside0.mk (show w4.heap[g5]? = some (.cells #[.int .i64 0, .int .i64 b, .int .i64 d] 32 (0, 0)) from hwd ▸ blk_drew BKg5.out)
      have n5_ := Aside0.mk (show Mp.At Try.prog 32 enc3 w4 gm (Mp.vals encC l) from hwd ▸ HAT.out.drew)
      have HB4 := HB
      clear BKg6 BKg5 HS3 hwd HAT
      have BKg6 := n2_
      have HS3 := n3_
      have BKg5 := n4_
      have HAT := n5_
      clear n2_ n3_ n4_ n5_
      refine pure_ (i := 0) (N := some 21) (v := ?_) (a' := ?_) #[true, false, false, false, false, false, false, false] rfl rfl (by kernel_rfl) (fun _ _ _ h => h) (Or.inl ⟨by rfl, ?_⟩) ?_ ?_
      rotate_left
      · intro w'
        go_simp
        with_reducible rfl
      rotate_left
      · simp only [Act.put, List.setIfInBounds_toArray, List.set_cons_zero, List.set_cons_succ, i64_w, i32_w]
        rfl
      refine pure_ (i := 1) (N := some 22) (v := ?_) (a' := ?_) #[true, true, false, false, false, false, false, false] rfl rfl (by kernel_rfl) (fun _ _ _ h => h) (Or.inl ⟨by rfl, ?_⟩) ?_ ?_
      rotate_left
      · intro w'
        go_simp
        with_reducible rfl
      rotate_left
      · simp only [Act.put, List.setIfInBounds_toArray, List.set_cons_zero, List.set_cons_succ, i64_w, i32_w]
        rfl
      refine pure_ (i := 2) (N := some 23) (v := ?_) (a' := ?_) #[true, true, true, false, false, false, false, false] rfl rfl (by kernel_rfl) (fun _ _ _ h => h) (Or.inl ⟨by rfl, ?_⟩) ?_ ?_
      rotate_left
      · intro w'
        go_simp
        with_reducible rfl
      rotate_left
      · simp only [Act.put, List.setIfInBounds_toArray, List.set_cons_zero, List.set_cons_succ, i64_w, i32_w]
        rfl
      refine take_ (i := 3) (N := some 24) (v := ?_) (a' := ?_) #[true, true, true, true, false, false, false, false] rfl rfl (by kernel_rfl) (fun _ _ _ h => h) (Or.inl ⟨by rfl, ?_⟩) hHeld ?_ ?_
      rotate_left
      · rintro w' ⟨s0, s1, s2, s3, s4⟩
        go_simp
        with_reducible rfl
      rotate_left
      · simp only [Act.put, List.setIfInBounds_toArray, List.set_cons_zero, List.set_cons_succ, i64_w, i32_w]
        rfl
      refine take_ (i := 4) (N := some 25) (v := ?_) (a' := ?_) #[true, true, true, true, true, false, false, false] rfl rfl (by kernel_rfl) (fun _ _ _ h => h) (Or.inl ⟨by rfl, ?_⟩) hHeld ?_ ?_
      rotate_left
      · rintro w' ⟨s0, s1, s2, s3, s4⟩
        go_simp
        with_reducible rfl
      rotate_left
      · simp only [Act.put, List.setIfInBounds_toArray, List.set_cons_zero, List.set_cons_succ, i64_w, i32_w]
        rfl
      refine take_ (i := 5) (N := some 26) (v := .agg #[.slice A xs.length cc, .string t, .int .i64 ch, .int .i64 du]) (a' := ?_) #[true, true, true, true, true, true, false, false] rfl rfl (by kernel_rfl) (fun _ _ _ h => h) (Or.inl ⟨by rfl, ?_⟩) hHeld ?_ ?_
      · rintro w' ⟨s0, s1, s2, s3, s4⟩
        obtain ⟨lk, hlk⟩ := HKEY.out
        have hrun := look w' gm l (0, b, d) _ s4 HGET.out hlk
        simp only [enc3, encC] at hrun
        go_simp
        all_goals first | (rw [hrun]; done) | (rw [hrun]; rfl) | (simp [hrun]; done) | exact hrun
      rotate_left
      · simp only [Act.put, List.setIfInBounds_toArray, List.set_cons_zero, List.set_cons_succ, i64_w, i32_w]
        rfl
      refine one_ (i := 6) (N := some 10) #[true, true, true, true, true, true, true, false] rfl rfl (by kernel_rfl) (by decide) (fun K hK => ?_)
      refine value_ (w1 := w4.alloc (.cells #[.slice none 0 0, .string ⟨#[]⟩, .int .i64 0, .int .i64 0] 52 (0, 0))) (v := .pointer (some ⟨w4.heap.size, 0, none⟩)) (by rfl) rfl ?_ ?_
      · go_simp
        try rfl
      have hb8 : Below w4.heap.size w4 (w4.alloc (.cells #[.slice none 0 0, .string ⟨#[]⟩, .int .i64 0, .int .i64 0] 52 (0, 0))) := below_alloc (Below.refl _ _) _
      have hx8 : (w4.alloc (.cells #[.slice none 0 0, .string ⟨#[]⟩, .int .i64 0, .int .i64 0] 52 (0, 0))).heap[w4.heap.size]? = some (.cells #[.slice none 0 0, .string ⟨#[]⟩, .int .i64 0, .int .i64 0] 52 (0, 0)) := blk_new w4 _
      have n1_ := Aside0.mk (below_step HB.out hb8)
      have LE7 := Aside0.mk (Nat.le_refl w4.heap.size)
      clear HB
      generalize hg7 : w4.heap.size = g7 at hx8 LE7 ⊢
      generalize (w4.alloc (.cells #[.slice none 0 0, .string ⟨#[]⟩, .int .i64 0, .int .i64 0] 52 (0, 0))) = w5 at hb8 hx8 n1_ ⊢
      have HB := n1_
      have BK7 := Aside0.mk hx8
      have HB8 := Aside0.mk hb8
      have G7 := Aside0.mk hg7
      clear n1_ hx8 hb8 hg7
      refine hK.out _ _ ⟨(blk_cell (blk_below HS3.out.box HB8.out) 4).trans rfl, (blk_cell (blk_below BKg5.out HB8.out) 0).trans rfl, (blk_cell (blk_below BKg5.out HB8.out) 1).trans rfl, (blk_cell (blk_below BKg5.out HB8.out) 2).trans rfl, hHeld.2.2.2.2.below HB8.out⟩ (fun hHeld => ?_)
      clear hK K
      refine norm_ (a' := ?_) ?_ ?_
      rotate_left
      · show Act.put _ (some 10) _ = _
        simp only [Act.put, List.setIfInBounds_toArray, List.set_cons_zero, List.set_cons_succ, i64_w, i32_w]
        rfl
      refine last_ (i := 7) (N := none) #[true, true, true, true, true, true, true, true] rfl rfl (by kernel_rfl) (by decide) (fun K hK => ?_)
      refine skip_ (w1 := ((((w5.setCell ⟨g7, 0, none⟩ (.slice A xs.length cc)).setCell ⟨g7, 1, none⟩ (.string t)).setCell ⟨g7, 2, none⟩ (.int .i64 ch)).setCell ⟨g7, 3, none⟩ (.int .i64 du))) (by rfl) rfl ?_ ?_
      · have c0 : w5.cell? ⟨g7, 0, none⟩ = some (.slice none 0 0) := (blk_cell BK7.out 0).trans rfl
        have c1 : w5.cell? ⟨g7, 1, none⟩ = some (.string ⟨#[]⟩) := (blk_cell BK7.out 1).trans rfl
        have c2 : w5.cell? ⟨g7, 2, none⟩ = some (.int .i64 0) := (blk_cell BK7.out 2).trans rfl
        have c3 : w5.cell? ⟨g7, 3, none⟩ = some (.int .i64 0) := (blk_cell BK7.out 3).trans rfl
        have d0 := blk_frozen BK7.out 0
        have d1 := blk_frozen BK7.out 1
        have d2 := blk_frozen BK7.out 2
        have d3 := blk_frozen BK7.out 3
        go_simp
        try rfl
      refine hK.out _ _ ?_
      clear hK K
      refine done_ (by kernel_rfl) ?_
      have n0_ := Aside0.mk (show Below w4.heap.size w4 ((((w5.setCell ⟨g7, 0, none⟩ (.slice A xs.length cc)).setCell ⟨g7, 1, none⟩ (.string t)).setCell ⟨g7, 2, none⟩ (.int .i64 ch)).setCell ⟨g7, 3, none⟩ (.int .i64 du)) from below_set (below_set (below_set (below_set HB8.out (Nat.le_of_eq G7.out)) (Nat.le_of_eq G7.out)) (Nat.le_of_eq G7.out)) (Nat.le_of_eq G7.out))
      have n1_ := Aside0.mk (show ((((w5.setCell ⟨g7, 0, none⟩ (.slice A xs.length cc)).setCell ⟨g7, 1, none⟩ (.string t)).setCell ⟨g7, 2, none⟩ (.int .i64 ch)).setCell ⟨g7, 3, none⟩ (.int .i64 du)).heap[g7]? = some (.cells #[.slice A xs.length cc, .string t, .int .i64 ch, .int .i64 du] 52 (0, 0)) from by refine blk_put (cs := #[.slice A xs.length cc, .string t, .int .i64 ch, .int .i64 0]) ?_ 3 _ rfl; refine blk_put (cs := #[.slice A xs.length cc, .string t, .int .i64 0, .int .i64 0]) ?_ 2 _ rfl; refine blk_put (cs := #[.slice A xs.length cc, .string ⟨#[]⟩, .int .i64 0, .int .i64 0]) ?_ 1 _ rfl; refine blk_put (cs := #[.slice none 0 0, .string ⟨#[]⟩, .int .i64 0, .int .i64 0]) ?_ 0 _ rfl; exact BK7.out)
      have n2_ := Aside0.mk (HS3.out.below n0_.out)
      have n4_ := Aside0.mk (below_step HB4.out n0_.out)
      have n5_ := Aside0.mk (HAT.out.below n0_.out)
      have n6_ := Aside0.mk (blk_below BKg6.out n0_.out)
      have n7_ := Aside0.mk (blk_below BKg5.out n0_.out)
      clear BKg6 BKg5 HAT
      clear HB HB8 BK7 HS3 HB4 hHeld G7
      generalize ((((w5.setCell ⟨g7, 0, none⟩ (.slice A xs.length cc)).setCell ⟨g7, 1, none⟩ (.string t)).setCell ⟨g7, 2, none⟩ (.int .i64 ch)).setCell ⟨g7, 3, none⟩ (.int .i64 du)) = w7 at n0_ n1_ n2_ n4_ n5_ n6_ n7_ ⊢
      have BK7 := n1_
      have HS6 := n2_
      have HB := n4_
      have HAT := n5_
      have BKg6 := n6_
      have BKg5 := n7_
      clear n5_ n6_ n7_
      clear n0_ n1_ n2_ n4_
      have hc7_0 : w7.cell? ⟨g7, 0, none⟩ = some (.slice A xs.length cc) := (blk_cell BK7.out 0).trans rfl
      have hc7_1 : w7.cell? ⟨g7, 1, none⟩ = some (.string t) := (blk_cell BK7.out 1).trans rfl
      have hc7_3x : w7.cell? ⟨g7, 3, none⟩ = some (.int .i64 du) := (blk_cell BK7.out 3).trans rfl
      have hc6_0 : w7.cell? ⟨g6, 0, none⟩ = some (.slice A1 ys.length c1) := (blk_cell BKg6.out 0).trans rfl
      have hc6_1 : w7.cell? ⟨g6, 1, none⟩ = some (.string ty) := (blk_cell BKg6.out 1).trans rfl
      have hs0 : w7.cell? ⟨gs, 0, none⟩ = some (.int .i64 s.rev) := (blk_cell HS6.out.box 0).trans rfl
      have hsf := blk_frozen HS6.out.box 0
      have hc7_3 : w7.cell? ⟨g7, 3, none⟩ = some (.int .i64 du) := (blk_cell BK7.out 3).trans rfl
      have NEG := Aside0.mk (show g5 ≠ gs ∧ g6 ≠ gs ∧ g7 ≠ gs from ⟨blk_ne BKg5.out HS6.out.box (by decide), blk_ne BKg6.out HS6.out.box (by decide), blk_ne BK7.out HS6.out.box (by decide)⟩)
      have a1_ : (g7 = gs) = False := eq_false NEG.out.2.2
      have a2_ : (gs = g7) = False := eq_false NEG.out.2.2.symm
      have hw1 : wrap64 (s.rev + 1) = s.rev + 1 := w64_id (by have := HSR.out; omega) (by have := HSR.out; omega)
      have hw1b : IntKind.i64.wrap (s.rev + 1) = s.rev + 1 := (i64_w _).trans hw1
      have hw2 : wrap64 (du + 1) = du + 1 := w64_id (by have := HDR.out; omega) (by have := HDR.out; omega)
      have hw2b : IntKind.i64.wrap (du + 1) = du + 1 := (i64_w _).trans hw2
      go_wp2
      have HB7 := HB
      have q1_ := Aside0.mk (show ((w7.setCell ⟨gs, 0, none⟩ (.int .i64 (s.rev + 1)))).heap[gs]? = some (.cells #[.int .i64 (s.rev + 1), .int .i64 (if 0 < 0 then s.rev + 1 else s.a), .int .i64 (if 1 < 0 then s.rev + 1 else s.b), .int .i64 (if 2 < 0 then s.rev + 1 else s.c), .map (some gm)] 50 (0, 0)) from by rw [if_neg (by omega), if_neg (by omega), if_neg (by omega)]; exact blk_put (cs := #[.int .i64 s.rev, .int .i64 s.a, .int .i64 s.b, .int .i64 s.c, .map (some gm)]) HS6.out.box 0 _ rfl)
      have q2_ := Aside0.mk (show Kp w7 ((w7.setCell ⟨gs, 0, none⟩ (.int .i64 (s.rev + 1)))) (fun k => k = gs) from Kp.of_set w7 gs 0 _)
      generalize (w7.setCell ⟨gs, 0, none⟩ (.int .i64 (s.rev + 1))) = w8 at q1_ q2_ ⊢
      clear hs0 hsf hc7_3 a1_ a2_ hw1b hw2b hw2
      go_loopg [49, 11] (du + 1).toNat (fun kq v49 v11 w' => ∃ i : Nat, v49 = .int .i64 i ∧ Aside0 (i + kq = (du + 1).toNat ∧ w'.heap[gs]? = some (.cells #[.int .i64 (s.rev + 1), .int .i64 (if 0 < i then s.rev + 1 else s.a), .int .i64 (if 1 < i then s.rev + 1 else s.b), .int .i64 (if 2 < i then s.rev + 1 else s.c), .map (some gm)] 50 (0, 0)) ∧ Kp w7 w' (fun k => k = gs)))
      case atStart => exact ⟨0, rfl, ⟨by omega, q1_.out, q2_.out⟩⟩
      case round =>
        clear q1_ q2_
        obtain ⟨i, rfl, HX⟩ := hrel
        obtain ⟨hik, hbx0, hkp0⟩ := HX.out
        have hbx := Aside0.mk hbx0
        have hkp := Aside0.mk hkp0
        clear HX hbx0 hkp0
        by_cases c_ : i < (du + 1).toNat
        · obtain ⟨k1, rfl⟩ : ∃ k1, gk = k1 + 1 := ⟨gk - 1, by omega⟩
          have cz_ : decide ((i : Int) < du + 1) = true := decide_eq_true (by have := HDR.out; omega)
          have hi3 : i < 3 := by have := HDR.out; omega
          obtain rfl | rfl | rfl : i = 0 ∨ i = 1 ∨ i = 2 := by omega
          · go_wp2
            refine start_ (n := 10) (S := fun w' => w'.cell? ⟨gs, 0, none⟩ = some (.int .i64 (s.rev + 1))) (ds := [9]) #[false, false, false, false, false, false, false, false, false, false] (by kernel_rfl) rfl rfl (show _ = _ from (blk_cell (blk_drew hbx.out) 0).trans rfl) (fun hHeld => ?_)
            have q1_ := Aside0.mk (show wr.drew.heap[gs]? = some (.cells #[.int .i64 (s.rev + 1), .int .i64 (if 0 < 0 then s.rev + 1 else s.a), .int .i64 (if 1 < 0 then s.rev + 1 else s.b), .int .i64 (if 2 < 0 then s.rev + 1 else s.c), .map (some gm)] 50 (0, 0)) from blk_drew hbx.out)
            have q2_ := Aside0.mk (show Kp w7 wr.drew (fun k => k = gs) from hkp.out.then_ (Kp.of_below (below_drew1 (Below.refl _ _)) (fun _ => False)) (fun _ hk => hk.elim))
            clear hbx hkp
            generalize wr.drew = w11 at q1_ q2_ hHeld ⊢
            refine pure_ (i := 0) (N := some 52) (v := ?_) (a' := ?_) #[true, false, false, false, false, false, false, false, false, false] rfl rfl (by kernel_rfl) (fun _ _ _ h => h) (Or.inl ⟨by rfl, ?_⟩) ?_ ?_
            rotate_left
            · intro w'
              go_simp
              with_reducible rfl
            rotate_left
            · simp only [Act.put, List.setIfInBounds_toArray, List.set_cons_zero, List.set_cons_succ, i64_w, i32_w]
              rfl
            refine pure_ (i := 1) (N := some 53) (v := ?_) (a' := ?_) #[true, true, false, false, false, false, false, false, false, false] rfl rfl (by kernel_rfl) (fun _ _ _ h => h) (Or.inl ⟨by rfl, ?_⟩) ?_ ?_
            rotate_left
            · intro w'
              go_simp
              with_reducible rfl
            rotate_left
            · simp only [Act.put, List.setIfInBounds_toArray, List.set_cons_zero, List.set_cons_succ, i64_w, i32_w]
              rfl
            refine pure_ (i := 2) (N := some 54) (v := ?_) (a' := ?_) #[true, true, true, false, false, false, false, false, false, false] rfl rfl (by kernel_rfl) (fun _ _ _ h => h) (Or.inl ⟨by rfl, ?_⟩) ?_ ?_
            rotate_left
            · intro w'
              go_simp
              with_reducible rfl
            rotate_left
            · simp only [Act.put, List.setIfInBounds_toArray, List.set_cons_zero, List.set_cons_succ, i64_w, i32_w]
              rfl
            refine pure_ (i := 3) (N := some 55) (v := ?_) (a' := ?_) #[true, true, true, true, false, false, false, false, false, false] rfl rfl (by kernel_rfl) (fun _ _ _ h => h) (Or.inl ⟨by rfl, ?_⟩) ?_ ?_
            rotate_left
            · intro w'
              go_simp
              with_reducible rfl
            rotate_left
            · simp only [Act.put, List.setIfInBounds_toArray, List.set_cons_zero, List.set_cons_succ, i64_w, i32_w]
              rfl
            refine pure_ (i := 4) (N := some 56) (v := ?_) (a' := ?_) #[true, true, true, true, true, false, false, false, false, false] rfl rfl (by kernel_rfl) (fun _ _ _ h => h) (Or.inl ⟨by rfl, ?_⟩) ?_ ?_
            rotate_left
            · intro w'
              go_simp
              with_reducible rfl
            rotate_left
            · simp only [Act.put, List.setIfInBounds_toArray, List.set_cons_zero, List.set_cons_succ, i64_w, i32_w]
              rfl
            refine pure_ (i := 6) (N := some 58) (v := ?_) (a' := ?_) #[true, true, true, true, true, false, true, false, false, false] rfl rfl (by kernel_rfl) (fun _ _ _ h => h) (Or.inl ⟨by rfl, ?_⟩) ?_ ?_
            rotate_left
            · intro w'
              go_simp
              with_reducible rfl
            rotate_left
            · simp only [Act.put, List.setIfInBounds_toArray, List.set_cons_zero, List.set_cons_succ, i64_w, i32_w]
              rfl
            refine pure_ (i := 7) (N := some 59) (v := ?_) (a' := ?_) #[true, true, true, true, true, false, true, true, false, false] rfl rfl (by kernel_rfl) (fun _ _ _ h => h) (Or.inl ⟨by rfl, ?_⟩) ?_ ?_
            rotate_left
            · intro w'
              go_simp
              with_reducible rfl
            rotate_left
            · simp only [Act.put, List.setIfInBounds_toArray, List.set_cons_zero, List.set_cons_succ, i64_w, i32_w]
              rfl
            refine take_ (i := 5) (N := some 57) (v := ?_) (a' := ?_) #[true, true, true, true, true, true, true, true, false, false] rfl rfl (by kernel_rfl) (fun _ _ _ h => h) (Or.inl ⟨by rfl, ?_⟩) hHeld ?_ ?_
            rotate_left
            · rintro w' s0
              go_simp
              with_reducible rfl
            rotate_left
            · simp only [Act.put, List.setIfInBounds_toArray, List.set_cons_zero, List.set_cons_succ, i64_w, i32_w]
              rfl
            refine pure_ (i := 8) (N := some 60) (v := ?_) (a' := ?_) #[true, true, true, true, true, true, true, true, true, false] rfl rfl (by kernel_rfl) (fun _ _ _ h => h) (Or.inl ⟨by rfl, ?_⟩) ?_ ?_
            rotate_left
            · intro w'
              go_simp
              with_reducible rfl
            rotate_left
            · simp only [Act.put, List.setIfInBounds_toArray, List.set_cons_zero, List.set_cons_succ, i64_w, i32_w]
              rfl
            refine last_ (i := 9) (N := none) #[true, true, true, true, true, true, true, true, true, true] rfl rfl (by kernel_rfl) (by decide) (fun K hK => ?_)
            refine skip_ (w1 := w11.setCell ⟨gs, 1, none⟩ (.int .i64 (s.rev + 1))) (by rfl) rfl ?_ ?_
            · have c0 : w11.cell? ⟨gs, 1, none⟩ = some (.int .i64 s.a) := (blk_cell q1_.out 1).trans rfl
              have d0 := blk_frozen q1_.out 1
              go_simp
              try rfl
            refine hK.out _ _ ?_
            clear hK K
            refine done_ (by kernel_rfl) ?_
            try go_wp2
            go_roundg k1
            case measure => omega
            case rel => exact ⟨1, rfl, ⟨by omega, by refine (blk_put (cs := #[.int .i64 (s.rev + 1), .int .i64 (if 0 < 0 then s.rev + 1 else s.a), .int .i64 (if 1 < 0 then s.rev + 1 else s.b), .int .i64 (if 2 < 0 then s.rev + 1 else s.c), .map (some gm)]) q1_.out 1 _ ?_); simp, q2_.out.then_ (Kp.of_set w11 gs 1 _) (fun k hk => .inl hk)⟩⟩

          · go_wp2
            refine start_ (n := 10) (S := fun w' => w'.cell? ⟨gs, 0, none⟩ = some (.int .i64 (s.rev + 1))) (ds := [9]) #[false, false, false, false, false, false, false, false, false, false] (by kernel_rfl) rfl rfl (show _ = _ from (blk_cell (blk_drew hbx.out) 0).trans rfl) (fun hHeld => ?_)
            have q1_ := Aside0.mk (show wr.drew.heap[gs]? = some (.cells #[.int .i64 (s.rev + 1), .int .i64 (if 0 < 1 then s.rev + 1 else s.a), .int .i64 (if 1 < 1 then s.rev + 1 else s.b), .int .i64 (if 2 < 1 then s.rev + 1 else s.c), .map (some gm)] 50 (0, 0)) from blk_drew hbx.out)
            have q2_ := Aside0.mk (show Kp w7 wr.drew (fun k => k = gs) from hkp.out.then_ (Kp.of_below (below_drew1 (Below.refl _ _)) (fun _ => False)) (fun _ hk => hk.elim))
            clear hbx hkp
            generalize wr.drew = w11 at q1_ q2_ hHeld ⊢
            refine pure_ (i := 0) (N := some 52) (v := ?_) (a' := ?_) #[true, false, false, false, false, false, false, false, false, false] rfl rfl (by kernel_rfl) (fun _ _ _ h => h) (Or.inl ⟨by rfl, ?_⟩) ?_ ?_
            rotate_left
            · intro w'
              go_simp
              with_reducible rfl
            rotate_left
            · simp only [Act.put, List.setIfInBounds_toArray, List.set_cons_zero, List.set_cons_succ, i64_w, i32_w]
              rfl
            refine pure_ (i := 1) (N := some 53) (v := ?_) (a' := ?_) #[true, true, false, false, false, false, false, false, false, false] rfl rfl (by kernel_rfl) (fun _ _ _ h => h) (Or.inl ⟨by rfl, ?_⟩) ?_ ?_
            rotate_left
            · intro w'
              go_simp
              with_reducible rfl
            rotate_left
            · simp only [Act.put, List.setIfInBounds_toArray, List.set_cons_zero, List.set_cons_succ, i64_w, i32_w]
              rfl
            refine pure_ (i := 2) (N := some 54) (v := ?_) (a' := ?_) #[true, true, true, false, false, false, false, false, false, false] rfl rfl (by kernel_rfl) (fun _ _ _ h => h) (Or.inl ⟨by rfl, ?_⟩) ?_ ?_
            rotate_left
            · intro w'
              go_simp
              with_reducible rfl
            rotate_left
            · simp only [Act.put, List.setIfInBounds_toArray, List.set_cons_zero, List.set_cons_succ, i64_w, i32_w]
              rfl
            refine pure_ (i := 3) (N := some 55) (v := ?_) (a' := ?_) #[true, true, true, true, false, false, false, false, false, false] rfl rfl (by kernel_rfl) (fun _ _ _ h => h) (Or.inl ⟨by rfl, ?_⟩) ?_ ?_
            rotate_left
            · intro w'
              go_simp
              with_reducible rfl
            rotate_left
            · simp only [Act.put, List.setIfInBounds_toArray, List.set_cons_zero, List.set_cons_succ, i64_w, i32_w]
              rfl
            refine pure_ (i := 4) (N := some 56) (v := ?_) (a' := ?_) #[true, true, true, true, true, false, false, false, false, false] rfl rfl (by kernel_rfl) (fun _ _ _ h => h) (Or.inl ⟨by rfl, ?_⟩) ?_ ?_
            rotate_left
            · intro w'
              go_simp
              with_reducible rfl
            rotate_left
            · simp only [Act.put, List.setIfInBounds_toArray, List.set_cons_zero, List.set_cons_succ, i64_w, i32_w]
              rfl
            refine pure_ (i := 6) (N := some 58) (v := ?_) (a' := ?_) #[true, true, true, true, true, false, true, false, false, false] rfl rfl (by kernel_rfl) (fun _ _ _ h => h) (Or.inl ⟨by rfl, ?_⟩) ?_ ?_
            rotate_left
            · intro w'
              go_simp
              with_reducible rfl
            rotate_left
            · simp only [Act.put, List.setIfInBounds_toArray, List.set_cons_zero, List.set_cons_succ, i64_w, i32_w]
              rfl
            refine pure_ (i := 7) (N := some 59) (v := ?_) (a' := ?_) #[true, true, true, true, true, false, true, true, false, false] rfl rfl (by kernel_rfl) (fun _ _ _ h => h) (Or.inl ⟨by rfl, ?_⟩) ?_ ?_
            rotate_left
            · intro w'
              go_simp
              with_reducible rfl
            rotate_left
            · simp only [Act.put, List.setIfInBounds_toArray, List.set_cons_zero, List.set_cons_succ, i64_w, i32_w]
              rfl
            refine take_ (i := 5) (N := some 57) (v := ?_) (a' := ?_) #[true, true, true, true, true, true, true, true, false, false] rfl rfl (by kernel_rfl) (fun _ _ _ h => h) (Or.inl ⟨by rfl, ?_⟩) hHeld ?_ ?_
            rotate_left
            · rintro w' s0
              go_simp
              with_reducible rfl
            rotate_left
            · simp only [Act.put, List.setIfInBounds_toArray, List.set_cons_zero, List.set_cons_succ, i64_w, i32_w]
              rfl
            refine pure_ (i := 8) (N := some 60) (v := ?_) (a' := ?_) #[true, true, true, true, true, true, true, true, true, false] rfl rfl (by kernel_rfl) (fun _ _ _ h => h) (Or.inl ⟨by rfl, ?_⟩) ?_ ?_
            rotate_left
            · intro w'
              go_simp
              with_reducible rfl
            rotate_left
            · simp only [Act.put, List.setIfInBounds_toArray, List.set_cons_zero, List.set_cons_succ, i64_w, i32_w]
              rfl
            refine last_ (i := 9) (N := none) #[true, true, true, true, true, true, true, true, true, true] rfl rfl (by kernel_rfl) (by decide) (fun K hK => ?_)
            refine skip_ (w1 := w11.setCell ⟨gs, 2, none⟩ (.int .i64 (s.rev + 1))) (by rfl) rfl ?_ ?_
            · have c0 : w11.cell? ⟨gs, 2, none⟩ = some (.int .i64 s.b) := (blk_cell q1_.out 2).trans rfl
              have d0 := blk_frozen q1_.out 2
              go_simp
              try rfl
            refine hK.out _ _ ?_
            clear hK K
            refine done_ (by kernel_rfl) ?_
            try go_wp2
            go_roundg k1
            case measure => omega
            case rel => exact ⟨2, rfl, ⟨by omega, by refine (blk_put (cs := #[.int .i64 (s.rev + 1), .int .i64 (if 0 < 1 then s.rev + 1 else s.a), .int .i64 (if 1 < 1 then s.rev + 1 else s.b), .int .i64 (if 2 < 1 then s.rev + 1 else s.c), .map (some gm)]) q1_.out 2 _ ?_); simp, q2_.out.then_ (Kp.of_set w11 gs 2 _) (fun k hk => .inl hk)⟩⟩

          · go_wp2
            refine start_ (n := 10) (S := fun w' => w'.cell? ⟨gs, 0, none⟩ = some (.int .i64 (s.rev + 1))) (ds := [9]) #[false, false, false, false, false, false, false, false, false, false] (by kernel_rfl) rfl rfl (show _ = _ from (blk_cell (blk_drew hbx.out) 0).trans rfl) (fun hHeld => ?_)
            have q1_ := Aside0.mk (show wr.drew.heap[gs]? = some (.cells #[.int .i64 (s.rev + 1), .int .i64 (if 0 < 2 then s.rev + 1 else s.a), .int .i64 (if 1 < 2 then s.rev + 1 else s.b), .int .i64 (if 2 < 2 then s.rev + 1 else s.c), .map (some gm)] 50 (0, 0)) from blk_drew hbx.out)
            have q2_ := Aside0.mk (show Kp w7 wr.drew (fun k => k = gs) from hkp.out.then_ (Kp.of_below (below_drew1 (Below.refl _ _)) (fun _ => False)) (fun _ hk => hk.elim))
            clear hbx hkp
            generalize wr.drew = w11 at q1_ q2_ hHeld ⊢
            refine pure_ (i := 0) (N := some 52) (v := ?_) (a' := ?_) #[true, false, false, false, false, false, false, false, false, false] rfl rfl (by kernel_rfl) (fun _ _ _ h => h) (Or.inl ⟨by rfl, ?_⟩) ?_ ?_
            rotate_left
            · intro w'
              go_simp
              with_reducible rfl
            rotate_left
            · simp only [Act.put, List.setIfInBounds_toArray, List.set_cons_zero, List.set_cons_succ, i64_w, i32_w]
              rfl
            refine pure_ (i := 1) (N := some 53) (v := ?_) (a' := ?_) #[true, true, false, false, false, false, false, false, false, false] rfl rfl (by kernel_rfl) (fun _ _ _ h => h) (Or.inl ⟨by rfl, ?_⟩) ?_ ?_
            rotate_left
            · intro w'
              go_simp
              with_reducible rfl
            rotate_left
            · simp only [Act.put, List.setIfInBounds_toArray, List.set_cons_zero, List.set_cons_succ, i64_w, i32_w]
              rfl
            refine pure_ (i := 2) (N := some 54) (v := ?_) (a' := ?_) #[true, true, true, false, false, false, false, false, false, false] rfl rfl (by kernel_rfl) (fun _ _ _ h => h) (Or.inl ⟨by rfl, ?_⟩) ?_ ?_
            rotate_left
            · intro w'
              go_simp
              with_reducible rfl
            rotate_left
            · simp only [Act.put, List.setIfInBounds_toArray, List.set_cons_zero, List.set_cons_succ, i64_w, i32_w]
              rfl
            refine pure_ (i := 3) (N := some 55) (v := ?_) (a' := ?_) #[true, true, true, true, false, false, false, false, false, false] rfl rfl (by kernel_rfl) (fun _ _ _ h => h) (Or.inl ⟨by rfl, ?_⟩) ?_ ?_
            rotate_left
            · intro w'
              go_simp
              with_reducible rfl
            rotate_left
            · simp only [Act.put, List.setIfInBounds_toArray, List.set_cons_zero, List.set_cons_succ, i64_w, i32_w]
              rfl
            refine pure_ (i := 4) (N := some 56) (v := ?_) (a' := ?_) #[true, true, true, true, true, false, false, false, false, false] rfl rfl (by kernel_rfl) (fun _ _ _ h => h) (Or.inl ⟨by rfl, ?_⟩) ?_ ?_
            rotate_left
            · intro w'
              go_simp
              with_reducible rfl
            rotate_left
            · simp only [Act.put, List.setIfInBounds_toArray, List.set_cons_zero, List.set_cons_succ, i64_w, i32_w]
              rfl
            refine pure_ (i := 6) (N := some 58) (v := ?_) (a' := ?_) #[true, true, true, true, true, false, true, false, false, false] rfl rfl (by kernel_rfl) (fun _ _ _ h => h) (Or.inl ⟨by rfl, ?_⟩) ?_ ?_
            rotate_left
            · intro w'
              go_simp
              with_reducible rfl
            rotate_left
            · simp only [Act.put, List.setIfInBounds_toArray, List.set_cons_zero, List.set_cons_succ, i64_w, i32_w]
              rfl
            refine pure_ (i := 7) (N := some 59) (v := ?_) (a' := ?_) #[true, true, true, true, true, false, true, true, false, false] rfl rfl (by kernel_rfl) (fun _ _ _ h => h) (Or.inl ⟨by rfl, ?_⟩) ?_ ?_
            rotate_left
            · intro w'
              go_simp
              with_reducible rfl
            rotate_left
            · simp only [Act.put, List.setIfInBounds_toArray, List.set_cons_zero, List.set_cons_succ, i64_w, i32_w]
              rfl
            refine take_ (i := 5) (N := some 57) (v := ?_) (a' := ?_) #[true, true, true, true, true, true, true, true, false, false] rfl rfl (by kernel_rfl) (fun _ _ _ h => h) (Or.inl ⟨by rfl, ?_⟩) hHeld ?_ ?_
            rotate_left
            · rintro w' s0
              go_simp
              with_reducible rfl
            rotate_left
            · simp only [Act.put, List.setIfInBounds_toArray, List.set_cons_zero, List.set_cons_succ, i64_w, i32_w]
              rfl
            refine pure_ (i := 8) (N := some 60) (v := ?_) (a' := ?_) #[true, true, true, true, true, true, true, true, true, false] rfl rfl (by kernel_rfl) (fun _ _ _ h => h) (Or.inl ⟨by rfl, ?_⟩) ?_ ?_
            rotate_left
            · intro w'
              go_simp
              with_reducible rfl
            rotate_left
            · simp only [Act.put, List.setIfInBounds_toArray, List.set_cons_zero, List.set_cons_succ, i64_w, i32_w]
              rfl
            refine last_ (i := 9) (N := none) #[true, true, true, true, true, true, true, true, true, true] rfl rfl (by kernel_rfl) (by decide) (fun K hK => ?_)
            refine skip_ (w1 := w11.setCell ⟨gs, 3, none⟩ (.int .i64 (s.rev + 1))) (by rfl) rfl ?_ ?_
            · have c0 : w11.cell? ⟨gs, 3, none⟩ = some (.int .i64 s.c) := (blk_cell q1_.out 3).trans rfl
              have d0 := blk_frozen q1_.out 3
              go_simp
              try rfl
            refine hK.out _ _ ?_
            clear hK K
            refine done_ (by kernel_rfl) ?_
            try go_wp2
            go_roundg k1
            case measure => omega
            case rel => exact ⟨3, rfl, ⟨by omega, by refine (blk_put (cs := #[.int .i64 (s.rev + 1), .int .i64 (if 0 < 2 then s.rev + 1 else s.a), .int .i64 (if 1 < 2 then s.rev + 1 else s.b), .int .i64 (if 2 < 2 then s.rev + 1 else s.c), .map (some gm)]) q1_.out 3 _ ?_); simp, q2_.out.then_ (Kp.of_set w11 gs 3 _) (fun k hk => .inl hk)⟩⟩

        · have cz_ : decide ((i : Int) < du + 1) = false := decide_eq_false (by have := HDR.out; omega)
          obtain rfl : i = (du + 1).toNat := by omega
          have HK5 := Aside0.mk ((hkp.out.block g5 (blk_lt BKg5.out) NEG.out.1).trans BKg5.out)
          have HK6 := Aside0.mk ((hkp.out.block g6 (blk_lt BKg6.out) NEG.out.2.1).trans BKg6.out)
          go_wp2
          refine start_ (n := 14) (S := fun w' => w'.cell? ⟨gs, 4, none⟩ = some (.map (some gm)) ∧ w'.cell? ⟨gs, 0, none⟩ = some (.int .i64 (s.rev + 1)) ∧ w'.cell? ⟨g5, 0, none⟩ = some (.int .i64 0) ∧ w'.cell? ⟨g5, 1, none⟩ = some (.int .i64 b) ∧ w'.cell? ⟨g5, 2, none⟩ = some (.int .i64 d) ∧ w'.cell? ⟨g6, 0, none⟩ = some (.slice A1 ys.length c1) ∧ w'.cell? ⟨g6, 1, none⟩ = some (.string ty)) (ds := [13]) #[false, false, false, false, false, false, false, false, false, false, false, false, false, false] (by kernel_rfl) rfl rfl ⟨(blk_cell (blk_drew hbx.out) 4).trans rfl, (blk_cell (blk_drew hbx.out) 0).trans rfl, (blk_cell (blk_drew HK5.out) 0).trans rfl, (blk_cell (blk_drew HK5.out) 1).trans rfl, (blk_cell (blk_drew HK5.out) 2).trans rfl, (blk_cell (blk_drew HK6.out) 0).trans rfl, (blk_cell (blk_drew HK6.out) 1).trans rfl⟩ (fun hHeld => ?_)
          have q1_ := Aside0.mk (show wr.drew.heap[gs]? = some (.cells #[.int .i64 (s.rev + 1), .int .i64 (if 0 < (du + 1).toNat then s.rev + 1 else s.a), .int .i64 (if 1 < (du + 1).toNat then s.rev + 1 else s.b), .int .i64 (if 2 < (du + 1).toNat then s.rev + 1 else s.c), .map (some gm)] 50 (0, 0)) from blk_drew hbx.out)
          have q2_ := Aside0.mk (show Kp w7 wr.drew (fun k => k = gs) from hkp.out.then_ (Kp.of_below (below_drew1 (Below.refl _ _)) (fun _ => False)) (fun _ hk => hk.elim))
          have q3_ := Aside0.mk (show wr.drew.heap[g5]? = some (.cells #[.int .i64 0, .int .i64 b, .int .i64 d] 32 (0, 0)) from blk_drew HK5.out)
          have q4_ := Aside0.mk (show wr.drew.heap[g6]? = some (.cells #[.slice A1 ys.length c1, .string ty] 37 (0, 0)) from blk_drew HK6.out)
          clear hbx hkp HK5 HK6
          generalize wr.drew = w11 at q1_ q2_ q3_ q4_ hHeld ⊢
          refine pure_ (i := 0) (N := some 62) (v := ?_) (a' := ?_) #[true, false, false, false, false, false, false, false, false, false, false, false, false, false] rfl rfl (by kernel_rfl) (fun _ _ _ h => h) (Or.inl ⟨by rfl, ?_⟩) ?_ ?_
          rotate_left
          · intro w'
            go_simp
            with_reducible rfl
          rotate_left
          · simp only [Act.put, List.setIfInBounds_toArray, List.set_cons_zero, List.set_cons_succ, i64_w, i32_w]
            rfl
          refine pure_ (i := 1) (N := some 63) (v := ?_) (a' := ?_) #[true, true, false, false, false, false, false, false, false, false, false, false, false, false] rfl rfl (by kernel_rfl) (fun _ _ _ h => h) (Or.inl ⟨by rfl, ?_⟩) ?_ ?_
          rotate_left
          · intro w'
            go_simp
            with_reducible rfl
          rotate_left
          · simp only [Act.put, List.setIfInBounds_toArray, List.set_cons_zero, List.set_cons_succ, i64_w, i32_w]
            rfl
          refine pure_ (i := 2) (N := some 64) (v := ?_) (a' := ?_) #[true, true, true, false, false, false, false, false, false, false, false, false, false, false] rfl rfl (by kernel_rfl) (fun _ _ _ h => h) (Or.inl ⟨by rfl, ?_⟩) ?_ ?_
          rotate_left
          · intro w'
            go_simp
            with_reducible rfl
          rotate_left
          · simp only [Act.put, List.setIfInBounds_toArray, List.set_cons_zero, List.set_cons_succ, i64_w, i32_w]
            rfl
          refine pure_ (i := 7) (N := some 69) (v := ?_) (a' := ?_) #[true, true, true, false, false, false, false, true, false, false, false, false, false, false] rfl rfl (by kernel_rfl) (fun _ _ _ h => h) (Or.inl ⟨by rfl, ?_⟩) ?_ ?_
          rotate_left
          · intro w'
            go_simp
            with_reducible rfl
          rotate_left
          · simp only [Act.put, List.setIfInBounds_toArray, List.set_cons_zero, List.set_cons_succ, i64_w, i32_w]
            rfl
          refine pure_ (i := 8) (N := some 70) (v := ?_) (a' := ?_) #[true, true, true, false, false, false, false, true, true, false, false, false, false, false] rfl rfl (by kernel_rfl) (fun _ _ _ h => h) (Or.inl ⟨by rfl, ?_⟩) ?_ ?_
          rotate_left
          · intro w'
            go_simp
            with_reducible rfl
          rotate_left
          · simp only [Act.put, List.setIfInBounds_toArray, List.set_cons_zero, List.set_cons_succ, i64_w, i32_w]
            rfl
          refine pure_ (i := 9) (N := some 71) (v := ?_) (a' := ?_) #[true, true, true, false, false, false, false, true, true, true, false, false, false, false] rfl rfl (by kernel_rfl) (fun _ _ _ h => h) (Or.inl ⟨by rfl, ?_⟩) ?_ ?_
          rotate_left
          · intro w'
            go_simp
            with_reducible rfl
          rotate_left
          · simp only [Act.put, List.setIfInBounds_toArray, List.set_cons_zero, List.set_cons_succ, i64_w, i32_w]
            rfl
          refine pure_ (i := 11) (N := some 73) (v := ?_) (a' := ?_) #[true, true, true, false, false, false, false, true, true, true, false, true, false, false] rfl rfl (by kernel_rfl) (fun _ _ _ h => h) (Or.inl ⟨by rfl, ?_⟩) ?_ ?_
          rotate_left
          · intro w'
            go_simp
            with_reducible rfl
          rotate_left
          · simp only [Act.put, List.setIfInBounds_toArray, List.set_cons_zero, List.set_cons_succ, i64_w, i32_w]
            rfl
          refine take_ (i := 3) (N := some 65) (v := ?_) (a' := ?_) #[true, true, true, true, false, false, false, true, true, true, false, true, false, false] rfl rfl (by kernel_rfl) (fun _ _ _ h => h) (Or.inl ⟨by rfl, ?_⟩) hHeld ?_ ?_
          rotate_left
          · rintro w' ⟨s0, s1, s2, s3, s4, s5, s6⟩
            go_simp
            with_reducible rfl
          rotate_left
          · simp only [Act.put, List.setIfInBounds_toArray, List.set_cons_zero, List.set_cons_succ, i64_w, i32_w]
            rfl
          refine take_ (i := 4) (N := some 66) (v := ?_) (a' := ?_) #[true, true, true, true, true, false, false, true, true, true, false, true, false, false] rfl rfl (by kernel_rfl) (fun _ _ _ h => h) (Or.inl ⟨by rfl, ?_⟩) hHeld ?_ ?_
          rotate_left
          · rintro w' ⟨s0, s1, s2, s3, s4, s5, s6⟩
            go_simp
            with_reducible rfl
          rotate_left
          · simp only [Act.put, List.setIfInBounds_toArray, List.set_cons_zero, List.set_cons_succ, i64_w, i32_w]
            rfl
          refine take_ (i := 5) (N := some 67) (v := ?_) (a' := ?_) #[true, true, true, true, true, true, false, true, true, true, false, true, false, false] rfl rfl (by kernel_rfl) (fun _ _ _ h => h) (Or.inl ⟨by rfl, ?_⟩) hHeld ?_ ?_
          rotate_left
          · rintro w' ⟨s0, s1, s2, s3, s4, s5, s6⟩
            go_simp
            with_reducible rfl
          rotate_left
          · simp only [Act.put, List.setIfInBounds_toArray, List.set_cons_zero, List.set_cons_succ, i64_w, i32_w]
            rfl
          refine take_ (i := 10) (N := some 72) (v := ?_) (a' := ?_) #[true, true, true, true, true, true, false, true, true, true, true, true, false, false] rfl rfl (by kernel_rfl) (fun _ _ _ h => h) (Or.inl ⟨by rfl, ?_⟩) hHeld ?_ ?_
          rotate_left
          · rintro w' ⟨s0, s1, s2, s3, s4, s5, s6⟩
            go_simp
            with_reducible rfl
          rotate_left
          · simp only [Act.put, List.setIfInBounds_toArray, List.set_cons_zero, List.set_cons_succ, i64_w, i32_w]
            rfl
          refine one_ (i := 6) (N := some 68) #[true, true, true, true, true, true, true, true, true, true, true, true, false, false] rfl rfl (by kernel_rfl) (by decide) (fun K hK => ?_)
          refine goes_ Try.func16 (by kernel_rfl) rfl #[.agg #[.slice A1 ys.length c1, .string ty]] (by rfl) rfl rfl (by (try simp only [List.map_toArray, List.map_cons, List.map_nil]); first | done | rfl) ?_
          have HC11 := Aside0.mk (show Kd.C (Kd.int .i64) w11 A1 ys.length ys from (Kd.R_reads' (Kd.R_step (Kd.R_below HRA.out HB7.out) (fun k hk hlt => q2_.out.block k hlt hk))).2.2)
          refine (clone_calls A1 c1 ys ty _ HC11.out HC1.out HL1.out).mono ?_
          rintro e_ w12 ⟨v12, rfl, hv, hb⟩
          refine ⟨_, rfl, ?_⟩
          obtain ⟨A12, c12, rfl⟩ := Kd.R_slice hv
          have HV := Aside0.mk (Kd.R_bound hv)
          have p1_ := Aside0.mk (blk_below q1_.out hb)
          have p2_ := Aside0.mk (q2_.out.then_ (Kp.of_below hb (fun _ => False)) (fun _ hk => hk.elim))
          have p3_ := Aside0.mk (blk_below q3_.out hb)
          have p4_ := Aside0.mk (blk_below q4_.out hb)
          have LW := Aside0.mk (show w7.heap.size ≤ w11.heap.size from q2_.out.size)
          clear hv hb q1_ q2_ q3_ q4_
          refine hK.out _ _ ⟨(blk_cell p1_.out 4).trans rfl, (blk_cell p1_.out 0).trans rfl, (blk_cell p3_.out 0).trans rfl, (blk_cell p3_.out 1).trans rfl, (blk_cell p3_.out 2).trans rfl, (blk_cell p4_.out 0).trans rfl, (blk_cell p4_.out 1).trans rfl⟩ (fun hHeld => ?_)
          clear hK K
          refine norm_ (a' := ?_) ?_ ?_
          rotate_left
          · show Act.put _ (some 68) _ = _
            simp only [Act.put, List.setIfInBounds_toArray, List.set_cons_zero, List.set_cons_succ, i64_w, i32_w]
            rfl
          refine pure_ (i := 12) (N := some 74) (v := ?_) (a' := ?_) #[true, true, true, true, true, true, true, true, true, true, true, true, true, false] rfl rfl (by kernel_rfl) (fun _ _ _ h => h) (Or.inl ⟨by rfl, ?_⟩) ?_ ?_
          rotate_left
          · intro w'
            go_simp
            with_reducible rfl
          rotate_left
          · simp only [Act.put, List.setIfInBounds_toArray, List.set_cons_zero, List.set_cons_succ, i64_w, i32_w]
            rfl
          refine last_ (i := 13) (N := none) #[true, true, true, true, true, true, true, true, true, true, true, true, true, true] rfl rfl (by kernel_rfl) (by decide) (fun K hK => ?_)
          have hat12 : Mp.At Try.prog 32 enc3 w12 gm (Mp.vals encC l) := HAT.out.keep (p2_.out.block gm HAT.out.lt HS6.out.ne.symm)
          obtain ⟨lk, hlk⟩ := HKEY.out
          obtain ⟨ob, hrun, hat3⟩ := Mp.At.store (T := 47) KK inj3 Try.underlying47 hat12 hlk (encC ⟨.slice A12 ys.length c12, ⟨ys, ty, s.rev + 1, e⟩⟩)
          rw [Mp.aset_vals] at hat3
          have HAT3 := Aside0.mk hat3
          have KPF := Aside0.mk (setBlock_kp w12 gm ob)
          clear hat3 hat12
          refine skip_ (w1 := setBlock w12 gm ob) (by rfl) rfl ?_ ?_
          · simp only [enc3, encC] at hrun
            go_simp
            all_goals first | (rw [hrun]; done) | (rw [hrun]; rfl) | (simp [hrun]; done) | exact hrun
          refine hK.out _ _ ?_
          clear hK K
          refine done_ (by kernel_rfl) ?_

          go_wp2
          go_ret2
          have KPW := (Kp.of_below HB7.out (fun k => k = gs ∨ k = gm)).then_ p2_.out (fun k hk => .inl (.inl hk))
          refine ⟨rfl, ⟨(KPF.out.block gs (blk_lt p1_.out) HS6.out.ne).trans p1_.out, ⟨_, ?_, HAT3.out, ?_⟩, HS6.out.xs, HS6.out.lo⟩, KPW.then_ KPF.out (fun k hk => .inl (.inr hk))⟩
          · rw [← HL0.out]
            exact (Mp.aset_vals Cel.p l (0, b, d) ⟨.slice A12 ys.length c12, ⟨ys, ty, s.rev + 1, e⟩⟩).symm
          · intro q hq
            rcases aset_sub hq with hq | rfl
            · exact Kd.R_step (HROWS.out q hq) (fun k ho hlt => (KPW.then_ KPF.out (fun k hk => .inl (.inr hk))).block k hlt (fun e_ => ho (by rcases e_ with rfl | rfl; exact HS6.out.xs.1; exact HS6.out.xs.2)))
            · refine Kd.R_lower (Kd.R_mono (Kd.R_step HV.out (fun k ho hlt => KPF.out.block k hlt (fun e_ => ?_))) (fun k ho => HXX.out k ?_)) ?_
              · have h1_ := HS6.out.lt.2
                have h2_ := ho.2.1
                have h3_ := LW.out
                omega
              · have h2_ := ho.2.1
                have h3_ := LW.out
                have h4_ := HB7.out.size
                omega
              · have h1_ := HS6.out.lo.1
                have h2_ := HS6.out.lt.1
                have h3_ := LW.out
                omega
end Go.Proofs.Ythnnjfichkhdfaa.In
