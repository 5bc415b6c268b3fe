/- inputs.Store: Get. Condition: a list of fewer than 1000000 numbers. -/
import Derived.Test.YthnnjfichkhdfaaInx1
import Derived.Test.YthnnjfichkhdfaaMp
import Derived.Test.YthnnjfichkhdfaaRg
import Derived.Test.YthnnjfichkhdfaaInhOp
import Derived.Lib.SliceRun
import Derived.BigQuiet
import Derived.DeepKeys4
namespace Go.Proofs.Ythnnjfichkhdfaa.In
open Go.RowKit Go.Proofs.YthnnjfichkhdfaaW.PrintWords Go.Proofs.YthnnjfichkhdfaaW.PrintLast Go.Proofs.YthnnjfichkhdfaaW.PrintMore
open Go.Proofs.Ythnnjfichkhdfaa
set_option linter.unusedVariables false
set_option linter.unusedSimpArgs false
open Go.ChangeMaps (setBlock)
set_option maxHeartbeats 8000000 in
set_option maxRecDepth 100000 in
theorem get_calls (X : Nat → Prop) (base gs gm : Nat) (s : Sto) (W : World) (h : St X base gs gm s W) (a b d : Int) (hk : ∃ lk, keyOf Try.prog 32 (enc3 (a, b, d)) = some lk) (hl : ((Mp.aget s.m (a, b, d)).getD z0).xs.length < 1000000) :
    Calls Try.prog 13 #[.pointer (some ⟨gs, 0, none⟩), .agg #[.int .i64 a, .int .i64 b, .int .i64 d]] W fun e W' => ∃ v, e = .returned (.tuple #[.agg #[v, .string ((Mp.aget s.m (a, b, d)).getD z0).t], .int .i64 ((Mp.aget s.m (a, b, d)).getD z0).ch, .int .i64 ((Mp.aget s.m (a, b, d)).getD z0).du]) ∧ Kd.R (Kd.int .i64) 3 W' W.heap.size (fun _ => True) v ((Mp.aget s.m (a, b, d)).getD z0).xs ∧ Below W.heap.size W W' := by
  have hu32 := Try.underlying32
  have hu50 := Try.underlying50
  have hu52 := Try.underlying52
  have hu37 := Try.underlying37
  have HS := Aside0.mk h
  have HKEY := Aside0.mk hk
  obtain ⟨⟨v, xs, t, ch, du⟩, hp, hR, l, hl0, hat, hget, hrows⟩ := h.cell (a, b, d)
  simp only at hp hR
  rw [← hp] at hl ⊢
  simp only at hl ⊢
  obtain ⟨A, cc, rfl⟩ := Kd.R_slice hR
  have HR := Aside0.mk hR
  have HGET := Aside0.mk hget
  have HL := Aside0.mk hl
  have HCC := Aside0.mk (Kd.R_reads' hR).2.1
  clear hR hp hget h hl hl0 hk hrows
  have HB := Aside0.mk (Below.refl W.heap.size W)
  go_enter Try.func13, Try.ntmps13
  go_wp2_with (first | ((with_reducible refine gate_dst (N := 3) rfl ?_); refine box_event ?hg (N := 3) ?hd (cs := #[.int .i64 a, .int .i64 b, .int .i64 d]) (t := 32) ?hr ?_; (case hd => rfl); (case hg => rfl); (case hr => first | (go_simp; done) | (go_simp; rfl)); intro g3 hg w2 hbox hb; have BKg3 := Aside0.mk hbox; have GEg3 := Aside0.mk (show W.heap.size = g3 from hg.symm); have n2_ := Aside0.mk (HS.out.below hb); have HS2 := n2_; clear n2_; have n1_ := Aside0.mk (below_step HB.out hb); clear HB; have HB := n1_; clear n1_; clear hbox hb hg) | ((with_reducible refine gate_dst (N := 4) rfl ?_); refine box_event ?hg (N := 4) ?hd (cs := #[.slice none 0 0, .string (⟨#[]⟩ : ByteArray)]) (t := 37) ?hr ?_; (case hd => rfl); (case hg => rfl); (case hr => first | (go_simp; done) | (go_simp; rfl)); intro g4 hg w3 hbox hb; have BKg4 := Aside0.mk hbox; have GEg4 := Aside0.mk (show w2.heap.size = g4 from hg.symm); have GW4 := Aside0.mk (show W.heap.size ≤ g4 from Nat.le_trans HB.out.size (Nat.le_of_eq hg.symm)); have HS3 := Aside0.mk (HS2.out.below hb); have n1_ := Aside0.mk (below_step HB.out hb); clear HB; have HB := n1_; clear n1_; have n2_ := Aside0.mk (blk_below BKg3.out hb); clear BKg3; have BKg3 := n2_; clear n2_; have HAT := Aside0.mk (hat.keep ((HB.out.block gm (St.lt HS.out).2))); clear hbox hb hg))
  refine start_ (n := 8) (S := fun w' => w'.cell? ⟨gs, 4, none⟩ = some (.map (some gm)) ∧ w'.cell? ⟨g3, 0, none⟩ = some (.int .i64 a) ∧ w'.cell? ⟨g3, 1, none⟩ = some (.int .i64 b) ∧ w'.cell? ⟨g3, 2, none⟩ = some (.int .i64 d) ∧ Mp.At Try.prog 32 enc3 w' gm (Mp.vals encC l)) (ds := [7]) #[false, false, false, false, false, false, false, false] (by kernel_rfl) rfl rfl ⟨(blk_cell (blk_drew HS3.out.box) 4).trans rfl, (blk_cell (blk_drew BKg3.out) 0).trans rfl, (blk_cell (blk_drew BKg3.out) 1).trans rfl, (blk_cell (blk_drew BKg3.out) 2).trans rfl, HAT.out.drew⟩ (fun hHeld => ?_)
  generalize hwd : w3.drew = w4 at hHeld ⊢
  have n1_ := Aside0.mk (show Below W.heap.size W w4 from hwd ▸ below_drew1 HB.out)
  clear HB
  have HB := n1_
  clear n1_
  have n2_ := Aside0.mk (show w4.heap[g4]? = some (.cells #[.slice none 0 0, .string ⟨#[]⟩] 37 (0, 0)) from hwd ▸ blk_drew BKg4.out)
  have n3_ := Aside0.mk (show St X base gs gm s w4 from hwd ▸ HS3.out.below (below_drew1 (Below.refl _ _)))
  have n4_ := Aside0.mk (show w4.heap[g3]? = some (.cells #[.int .i64 a, .int .i64 b, .int .i64 d] 32 (0, 0)) from hwd ▸ blk_drew BKg3.out)
  clear BKg4 BKg3 HS3 hwd
  have BKg4 := n2_
  have HS3 := n3_
  have BKg3 := n4_
  clear n2_ n3_ n4_
  have HB4 := HB
  refine pure_ (i := 0) (N := some 8) (v := ?_) (a' := ?_) #[true, false, false, false, false, false, false, false] rfl rfl (by kernel_rfl) (fun _ _ _ h => h) (Or.inl ⟨by rfl, ?_⟩) ?_ ?_
  rotate_left
  · intro w'
    go_simp
    with_reducible rfl
  rotate_left
  · simp only [Act.put, List.setIfInBounds_toArray, List.set_cons_zero, List.set_cons_succ, i64_w, i32_w]
    rfl
  refine pure_ (i := 1) (N := some 9) (v := ?_) (a' := ?_) #[true, true, false, false, false, false, false, false] rfl rfl (by kernel_rfl) (fun _ _ _ h => h) (Or.inl ⟨by rfl, ?_⟩) ?_ ?_
  rotate_left
  · intro w'
    go_simp
    with_reducible rfl
  rotate_left
  · simp only [Act.put, List.setIfInBounds_toArray, List.set_cons_zero, List.set_cons_succ, i64_w, i32_w]
    rfl
  refine pure_ (i := 2) (N := some 10) (v := ?_) (a' := ?_) #[true, true, true, false, false, false, false, false] rfl rfl (by kernel_rfl) (fun _ _ _ h => h) (Or.inl ⟨by rfl, ?_⟩) ?_ ?_
  rotate_left
  · intro w'
    go_simp
    with_reducible rfl
  rotate_left
  · simp only [Act.put, List.setIfInBounds_toArray, List.set_cons_zero, List.set_cons_succ, i64_w, i32_w]
    rfl
  refine take_ (i := 3) (N := some 11) (v := ?_) (a' := ?_) #[true, true, true, true, false, false, false, false] rfl rfl (by kernel_rfl) (fun _ _ _ h => h) (Or.inl ⟨by rfl, ?_⟩) hHeld ?_ ?_
  rotate_left
  · rintro w' ⟨s0, s1, s2, s3, s4⟩
    go_simp
    with_reducible rfl
  rotate_left
  · simp only [Act.put, List.setIfInBounds_toArray, List.set_cons_zero, List.set_cons_succ, i64_w, i32_w]
    rfl
  refine take_ (i := 4) (N := some 12) (v := ?_) (a' := ?_) #[true, true, true, true, true, false, false, false] rfl rfl (by kernel_rfl) (fun _ _ _ h => h) (Or.inl ⟨by rfl, ?_⟩) hHeld ?_ ?_
  rotate_left
  · rintro w' ⟨s0, s1, s2, s3, s4⟩
    go_simp
    with_reducible rfl
  rotate_left
  · simp only [Act.put, List.setIfInBounds_toArray, List.set_cons_zero, List.set_cons_succ, i64_w, i32_w]
    rfl
  refine take_ (i := 5) (N := some 13) (v := .agg #[.slice A xs.length cc, .string t, .int .i64 ch, .int .i64 du]) (a' := ?_) #[true, true, true, true, true, true, false, false] rfl rfl (by kernel_rfl) (fun _ _ _ h => h) (Or.inl ⟨by rfl, ?_⟩) hHeld ?_ ?_
  · rintro w' ⟨s0, s1, s2, s3, s4⟩
    obtain ⟨lk, hlk⟩ := HKEY.out
    have hrun := look w' gm l (a, b, d) _ s4 HGET.out hlk
    simp only [enc3, encC] at hrun
    go_simp
    all_goals first | (rw [hrun]; done) | (rw [hrun]; rfl) | (simp [hrun]; done) | exact hrun
  rotate_left
  · simp only [Act.put, List.setIfInBounds_toArray, List.set_cons_zero, List.set_cons_succ, i64_w, i32_w]
    rfl
  refine one_ (i := 6) (N := some 7) #[true, true, true, true, true, true, true, false] rfl rfl (by kernel_rfl) (by decide) (fun K hK => ?_)
  refine value_ (w1 := w4.alloc (.cells #[.slice none 0 0, .string ⟨#[]⟩, .int .i64 0, .int .i64 0] 52 (0, 0))) (v := .pointer (some ⟨w4.heap.size, 0, none⟩)) (by rfl) rfl ?_ ?_
  · go_simp
    try rfl
  have hb8 : Below w4.heap.size w4 (w4.alloc (.cells #[.slice none 0 0, .string ⟨#[]⟩, .int .i64 0, .int .i64 0] 52 (0, 0))) := below_alloc (Below.refl _ _) _
  have hx8 : (w4.alloc (.cells #[.slice none 0 0, .string ⟨#[]⟩, .int .i64 0, .int .i64 0] 52 (0, 0))).heap[w4.heap.size]? = some (.cells #[.slice none 0 0, .string ⟨#[]⟩, .int .i64 0, .int .i64 0] 52 (0, 0)) := blk_new w4 _
  have n1_ := Aside0.mk (below_step HB.out hb8)
  have LE7 := Aside0.mk (Nat.le_refl w4.heap.size)
  clear HB
  generalize hg7 : w4.heap.size = g7 at hx8 LE7 ⊢
  generalize (w4.alloc (.cells #[.slice none 0 0, .string ⟨#[]⟩, .int .i64 0, .int .i64 0] 52 (0, 0))) = w5 at hb8 hx8 n1_ ⊢
  have HB := n1_
  have BK7 := Aside0.mk hx8
  have HB8 := Aside0.mk hb8
  have G7 := Aside0.mk hg7
  clear n1_ hx8 hb8 hg7
  refine hK.out _ _ ⟨(blk_cell (blk_below HS3.out.box HB8.out) 4).trans rfl, (blk_cell (blk_below BKg3.out HB8.out) 0).trans rfl, (blk_cell (blk_below BKg3.out HB8.out) 1).trans rfl, (blk_cell (blk_below BKg3.out HB8.out) 2).trans rfl, hHeld.2.2.2.2.below HB8.out⟩ (fun hHeld => ?_)
  clear hK K
  refine norm_ (a' := ?_) ?_ ?_
  rotate_left
  · show Act.put _ (some 7) _ = _
    simp only [Act.put, List.setIfInBounds_toArray, List.set_cons_zero, List.set_cons_succ, i64_w, i32_w]
    rfl
  refine last_ (i := 7) (N := none) #[true, true, true, true, true, true, true, true] rfl rfl (by kernel_rfl) (by decide) (fun K hK => ?_)
  refine skip_ (w1 := ((((w5.setCell ⟨g7, 0, none⟩ (.slice A xs.length cc)).setCell ⟨g7, 1, none⟩ (.string t)).setCell ⟨g7, 2, none⟩ (.int .i64 ch)).setCell ⟨g7, 3, none⟩ (.int .i64 du))) (by rfl) rfl ?_ ?_
  · have c0 : w5.cell? ⟨g7, 0, none⟩ = some (.slice none 0 0) := (blk_cell BK7.out 0).trans rfl
    have c1 : w5.cell? ⟨g7, 1, none⟩ = some (.string ⟨#[]⟩) := (blk_cell BK7.out 1).trans rfl
    have c2 : w5.cell? ⟨g7, 2, none⟩ = some (.int .i64 0) := (blk_cell BK7.out 2).trans rfl
    have c3 : w5.cell? ⟨g7, 3, none⟩ = some (.int .i64 0) := (blk_cell BK7.out 3).trans rfl
    have d0 := blk_frozen BK7.out 0
    have d1 := blk_frozen BK7.out 1
    have d2 := blk_frozen BK7.out 2
    have d3 := blk_frozen BK7.out 3
    go_simp
    try rfl
  refine hK.out _ _ ?_
  clear hK K
  refine done_ (by kernel_rfl) ?_
  go_wp2
  have n0_ := Aside0.mk (show Below w4.heap.size w4 ((((w5.setCell ⟨g7, 0, none⟩ (.slice A xs.length cc)).setCell ⟨g7, 1, none⟩ (.string t)).setCell ⟨g7, 2, none⟩ (.int .i64 ch)).setCell ⟨g7, 3, none⟩ (.int .i64 du)) from below_set (below_set (below_set (below_set HB8.out (Nat.le_of_eq G7.out)) (Nat.le_of_eq G7.out)) (Nat.le_of_eq G7.out)) (Nat.le_of_eq G7.out))
  have n1_ := Aside0.mk (show ((((w5.setCell ⟨g7, 0, none⟩ (.slice A xs.length cc)).setCell ⟨g7, 1, none⟩ (.string t)).setCell ⟨g7, 2, none⟩ (.int .i64 ch)).setCell ⟨g7, 3, none⟩ (.int .i64 du)).heap[g7]? = some (.cells #[.slice A xs.length cc, .string t, .int .i64 ch, .int .i64 du] 52 (0, 0)) from by refine blk_put (cs := #[.slice A xs.length cc, .string t, .int .i64 ch, .int .i64 0]) ?_ 3 _ rfl; refine blk_put (cs := #[.slice A xs.length cc, .string t, .int .i64 0, .int .i64 0]) ?_ 2 _ rfl; refine blk_put (cs := #[.slice A xs.length cc, .string ⟨#[]⟩, .int .i64 0, .int .i64 0]) ?_ 1 _ rfl; refine blk_put (cs := #[.slice none 0 0, .string ⟨#[]⟩, .int .i64 0, .int .i64 0]) ?_ 0 _ rfl; exact BK7.out)
  have n2_ := Aside0.mk (HS3.out.below n0_.out)
  have n4_ := Aside0.mk (below_step HB4.out n0_.out)
  have n5_ := Aside0.mk (show w4 = w4 from rfl)
  have n6_ := Aside0.mk ((n0_.out.block g4 (blk_lt BKg4.out)).trans BKg4.out)
  clear n5_ BKg4
  clear HB HB8 BK7 HS3 HB4 hHeld G7
  generalize ((((w5.setCell ⟨g7, 0, none⟩ (.slice A xs.length cc)).setCell ⟨g7, 1, none⟩ (.string t)).setCell ⟨g7, 2, none⟩ (.int .i64 ch)).setCell ⟨g7, 3, none⟩ (.int .i64 du)) = w6 at n0_ n1_ n2_ n4_ n6_ ⊢
  have BK7 := n1_
  have HS6 := n2_
  have HB := n4_
  have BKg4 := n6_
  clear n6_
  clear n0_ n1_ n2_ n4_
  have HC6 := Aside0.mk (Kd.C_below (Kd.R_reads' HR.out).2.2 HB.out)
  refine start_ (n := 10) (S := fun w' => w'.cell? ⟨g7, 0, none⟩ = some (.slice A xs.length cc) ∧ w'.cell? ⟨g7, 1, none⟩ = some (.string t) ∧ w'.cell? ⟨g7, 2, none⟩ = some (.int .i64 ch) ∧ w'.cell? ⟨g7, 3, none⟩ = some (.int .i64 du)) (ds := []) #[false, false, false, false, false, false, false, false, false, false] (by kernel_rfl) rfl rfl ⟨(blk_cell (blk_drew BK7.out) 0).trans rfl, (blk_cell (blk_drew BK7.out) 1).trans rfl, (blk_cell (blk_drew BK7.out) 2).trans rfl, (blk_cell (blk_drew BK7.out) 3).trans rfl⟩ (fun hHeld => ?_)
  generalize hwd : w6.drew = w7 at hHeld ⊢
  have n1_ := Aside0.mk (show Below W.heap.size W w7 from hwd ▸ below_drew1 HB.out)
  clear HB
  have HB := n1_
  clear n1_
  have n2_ := Aside0.mk (show w7.heap[g4]? = some (.cells #[.slice none 0 0, .string ⟨#[]⟩] 37 (0, 0)) from hwd ▸ blk_drew BKg4.out)
  have n3_ := Aside0.mk (show Kd.C (Kd.int .i64) w7 A xs.length xs from hwd ▸ Kd.C_drew HC6.out)
  have n4_ := Aside0.mk (show w7.heap[g7]? = some (.cells #[.slice A xs.length cc, .string t, .int .i64 ch, .int .i64 du] 52 (0, 0)) from hwd ▸ blk_drew BK7.out)
  clear BKg4 hwd HC6 BK7
  have BKg4 := n2_
  have HC6 := n3_
  have BK7 := n4_
  clear n2_ n3_ n4_
  refine pure_ (i := 0) (N := some 14) (v := ?_) (a' := ?_) #[true, false, false, false, false, false, false, false, false, false] rfl rfl (by kernel_rfl) (fun _ _ _ h => h) (Or.inl ⟨by rfl, ?_⟩) ?_ ?_
  rotate_left
  · intro w'
    go_simp
    with_reducible rfl
  rotate_left
  · simp only [Act.put, List.setIfInBounds_toArray, List.set_cons_zero, List.set_cons_succ, i64_w, i32_w]
    rfl
  refine pure_ (i := 3) (N := some 17) (v := ?_) (a' := ?_) #[true, false, false, true, false, false, false, false, false, false] rfl rfl (by kernel_rfl) (fun _ _ _ h => h) (Or.inl ⟨by rfl, ?_⟩) ?_ ?_
  rotate_left
  · intro w'
    go_simp
    with_reducible rfl
  rotate_left
  · simp only [Act.put, List.setIfInBounds_toArray, List.set_cons_zero, List.set_cons_succ, i64_w, i32_w]
    rfl
  refine pure_ (i := 5) (N := some 19) (v := ?_) (a' := ?_) #[true, false, false, true, false, true, false, false, false, false] rfl rfl (by kernel_rfl) (fun _ _ _ h => h) (Or.inl ⟨by rfl, ?_⟩) ?_ ?_
  rotate_left
  · intro w'
    go_simp
    with_reducible rfl
  rotate_left
  · simp only [Act.put, List.setIfInBounds_toArray, List.set_cons_zero, List.set_cons_succ, i64_w, i32_w]
    rfl
  refine take_ (i := 1) (N := some 15) (v := ?_) (a' := ?_) #[true, true, false, true, false, true, false, false, false, false] rfl rfl (by kernel_rfl) (fun _ _ _ h => h) (Or.inl ⟨by rfl, ?_⟩) hHeld ?_ ?_
  rotate_left
  · rintro w' ⟨s0, s1, s2, s3⟩
    go_simp
    with_reducible rfl
  rotate_left
  · simp only [Act.put, List.setIfInBounds_toArray, List.set_cons_zero, List.set_cons_succ, i64_w, i32_w]
    rfl
  refine take_ (i := 4) (N := some 18) (v := ?_) (a' := ?_) #[true, true, false, true, true, true, false, false, false, false] rfl rfl (by kernel_rfl) (fun _ _ _ h => h) (Or.inl ⟨by rfl, ?_⟩) hHeld ?_ ?_
  rotate_left
  · rintro w' ⟨s0, s1, s2, s3⟩
    go_simp
    with_reducible rfl
  rotate_left
  · simp only [Act.put, List.setIfInBounds_toArray, List.set_cons_zero, List.set_cons_succ, i64_w, i32_w]
    rfl
  refine take_ (i := 6) (N := some 20) (v := ?_) (a' := ?_) #[true, true, false, true, true, true, true, false, false, false] rfl rfl (by kernel_rfl) (fun _ _ _ h => h) (Or.inl ⟨by rfl, ?_⟩) hHeld ?_ ?_
  rotate_left
  · rintro w' ⟨s0, s1, s2, s3⟩
    go_simp
    with_reducible rfl
  rotate_left
  · simp only [Act.put, List.setIfInBounds_toArray, List.set_cons_zero, List.set_cons_succ, i64_w, i32_w]
    rfl
  refine one_ (i := 2) (N := some 16) #[true, true, true, true, true, true, true, false, false, false] rfl rfl (by kernel_rfl) (by decide) (fun K hK => ?_)
  refine goes_ Try.func16 (by kernel_rfl) rfl #[.agg #[.slice A xs.length cc, .string t]] (by rfl) rfl rfl (by (try simp only [List.map_toArray, List.map_cons, List.map_nil]); first | done | rfl) ?_
  refine (clone_calls A cc xs t _ HC6.out HCC.out HL.out).mono ?_
  rintro e w8 ⟨v, rfl, hv, hb⟩
  refine ⟨_, rfl, ?_⟩
  obtain ⟨A8, c8, rfl⟩ := Kd.R_slice hv
  have HV := Aside0.mk (Kd.R_bound hv)
  have n1_ := Aside0.mk (below_step HB.out hb)
  have n2_ := Aside0.mk (blk_below BKg4.out hb)
  have n3_ := Aside0.mk (blk_below BK7.out hb)
  have L4 := Aside0.mk (show g4 < w7.heap.size ∧ W.heap.size ≤ w7.heap.size from ⟨blk_lt BKg4.out, HB.out.size⟩)
  clear HB BKg4 hv hb BK7
  have HB := n1_
  have BKg4 := n2_
  have BK7 := n3_
  clear n1_ n2_ n3_
  refine hK.out _ _ ⟨(blk_cell BK7.out 0).trans rfl, (blk_cell BK7.out 1).trans rfl, (blk_cell BK7.out 2).trans rfl, (blk_cell BK7.out 3).trans rfl⟩ (fun hHeld => ?_)
  clear hK K
  refine norm_ (a' := ?_) ?_ ?_
  rotate_left
  · show Act.put _ (some 16) _ = _
    simp only [Act.put, List.setIfInBounds_toArray, List.set_cons_zero, List.set_cons_succ, i64_w, i32_w]
    rfl
  refine one_ (i := 7) (N := none) #[true, true, true, true, true, true, true, true, false, false] rfl rfl (by kernel_rfl) (by decide) (fun K hK => ?_)
  refine skip_ (w1 := (w8.setCell ⟨g4, 0, none⟩ (.slice A8 xs.length c8)).setCell ⟨g4, 1, none⟩ (.string t)) (by rfl) rfl ?_ ?_
  · have c0 : w8.cell? ⟨g4, 0, none⟩ = some (.slice none 0 0) := (blk_cell BKg4.out 0).trans rfl
    have c1 : w8.cell? ⟨g4, 1, none⟩ = some (.string ⟨#[]⟩) := (blk_cell BKg4.out 1).trans rfl
    have d0 := blk_frozen BKg4.out 0
    have d1 := blk_frozen BKg4.out 1
    go_simp
    try rfl
  have NE7 := Aside0.mk (blk_ne BK7.out BKg4.out (by decide))
  have n3_ := Aside0.mk (((Below.heap_setCell (w8.setCell ⟨g4, 0, none⟩ (.slice A8 xs.length c8)) ⟨g4, 1, none⟩ (.string t) g7 NE7.out).trans (Below.heap_setCell w8 ⟨g4, 0, none⟩ (.slice A8 xs.length c8) g7 NE7.out)).trans BK7.out)
  refine hK.out _ _ ⟨(blk_cell n3_.out 0).trans rfl, (blk_cell n3_.out 1).trans rfl, (blk_cell n3_.out 2).trans rfl, (blk_cell n3_.out 3).trans rfl⟩ (fun hHeld => ?_)
  clear hK K
  refine pure_ (i := 8) (N := some 5) (v := ?_) (a' := ?_) #[true, true, true, true, true, true, true, true, true, false] rfl rfl (by kernel_rfl) (fun _ _ _ h => h) (Or.inl ⟨by rfl, ?_⟩) ?_ ?_
  rotate_left
  · intro w'
    go_simp
    with_reducible rfl
  rotate_left
  · simp only [Act.put, List.setIfInBounds_toArray, List.set_cons_zero, List.set_cons_succ, i64_w, i32_w]
    rfl
  refine pure_ (i := 9) (N := some 6) (v := ?_) (a' := ?_) #[true, true, true, true, true, true, true, true, true, true] rfl rfl (by kernel_rfl) (fun _ _ _ h => h) (Or.inl ⟨by rfl, ?_⟩) ?_ ?_
  rotate_left
  · intro w'
    go_simp
    with_reducible rfl
  rotate_left
  · simp only [Act.put, List.setIfInBounds_toArray, List.set_cons_zero, List.set_cons_succ, i64_w, i32_w]
    rfl
  refine done_ (by kernel_rfl) ?_
  try go_wp2
  refine bodyPost_ret (results_ctt rfl _ _ g4 37 #[.slice A8 xs.length c8, .string t] (0, 0) _ rfl (by refine blk_put (cs := #[.slice A8 xs.length c8, .string ⟨#[]⟩]) ?_ 1 _ rfl; refine blk_put (cs := #[.slice none 0 0, .string ⟨#[]⟩]) ?_ 0 _ rfl; exact BKg4.out) Try.underlying37 rfl (by kernel_rfl)) rfl ?_
  exact ⟨_, rfl, Kd.R_lower (Kd.R_mono (Kd.R_far (Kd.R_far HV.out (p := ⟨g4, 0, none⟩) (fun k hk e_ => by have e2_ : k = g4 := e_; have := hk.2.1; have := L4.out.1; omega) _) (p := ⟨g4, 1, none⟩) (fun k hk e_ => by have e2_ : k = g4 := e_; have := hk.2.1; have := L4.out.1; omega) _) (fun _ _ => trivial)) L4.out.2, below_set (below_set HB.out GW4.out) GW4.out⟩
end Go.Proofs.Ythnnjfichkhdfaa.In
