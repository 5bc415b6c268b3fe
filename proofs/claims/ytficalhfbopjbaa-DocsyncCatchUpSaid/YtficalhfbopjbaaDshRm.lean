/- docsync.Room in memory; NewRoom of one document. Condition: the document lies within the limits. -/
import Derived.Test.YtficalhfbopjbaaDsx0
import Derived.Test.YtficalhfbopjbaaDshVd
import Derived.Test.YtficalhfbopjbaaDsx3
import Derived.RangeFuncNested
import Derived.RangeFuncBound
import Derived.RangeFuncCalls
import Derived.RangeFuncLeaves
import Derived.RangeFuncBox
import Derived.Shelf.Abstract
import Derived.Shelf.RegionOpen
import Derived.WalkKit
import Derived.BigQuiet
namespace Go.Proofs.Ytficalhfbopjbaa.Ds
open Go.RowKit Go.Shelf Go.Proofs.YtficalhfbopjbaaW.PrintWords Go.Proofs.YtficalhfbopjbaaW.PrintLast Go.Proofs.YtficalhfbopjbaaW.PrintMore
open Go.Proofs.Ytficalhfbopjbaa
set_option linter.unusedVariables false
set_option linter.unusedSimpArgs false
attribute [local go_sem] Oper.semAt_some
theorem info62 : (Try.prog.info? 62).map (fun i => (i.zero, i.size, i.bytes)) = some (some (.pointer none), 1, 8) := by kernel_rfl
theorem ne_types {w : World} {a b t u : Nat} {cs cs' : Array Value} (h : w.heap[a]? = some (.cells cs t (0, 0))) (h' : w.heap[b]? = some (.cells cs' u (0, 0))) (hne : t ≠ u) : a ≠ b := by
  intro e
  subst e
  rw [h] at h'
  injection h' with h'
  injection h' with _ h'
  exact hne h'
/-- a room with one document -/
structure Rm (base gr gD gd cD : Nat) (vC vH vR : Value) (nm : ByteArray) (v : Int) (t : ByteArray) (hist : List (List S56)) (rd cl : List Int) (W : World) : Prop where
  rbox : W.heap[gr]? = some (.cells #[.slice (some ⟨gD, 0, none⟩) 1 cD, vC] 61 (0, 0))
  rge : base ≤ gr
  dcell : ∃ cs, W.heap[gD]? = some (.cells cs 62 (0, 0)) ∧ cs[0]? = some (.pointer (some ⟨gd, 0, none⟩))
  dge : base ≤ gD
  dbox : W.heap[gd]? = some (.cells #[.string nm, .int .i64 v, .string t, vH, vR] 64 (0, 0))
  oge : base ≤ gd
  his : Kd.S (Kd.slice 56 k56) 42 W base (fun _ => True) vH hist
  rds : Kd.R (Kd.int .i64) 3 W base (fun k => some k ≠ vC.ownBlock) vR rd
  cls : Kd.R (Kd.int .i64) 3 W base (fun k => some k ≠ vR.ownBlock) vC cl
theorem Rm.below {base gr gD gd cD : Nat} {vC vH vR : Value} {nm : ByteArray} {v : Int} {t : ByteArray} {hist : List (List S56)} {rd cl : List Int} {W W' : World} (h : Rm base gr gD gd cD vC vH vR nm v t hist rd cl W) (hb : Below W.heap.size W W') : Rm base gr gD gd cD vC vH vR nm v t hist rd cl W' :=
  ⟨blk_below h.rbox hb, h.rge, h.dcell.imp fun cs hc => ⟨blk_below hc.1 hb, hc.2⟩, h.dge, blk_below h.dbox hb, h.oge, Kd.S_below h.his hb, Kd.R_below h.rds hb, Kd.R_below h.cls hb⟩
theorem ptr_of {w : World} {g gd : Nat} {cs : Array Value} (h : Kd.C (Kd.raw 1) w (some ⟨g, 0, none⟩) 1 [[.pointer (some ⟨gd, 0, none⟩)]]) (hb : w.heap[g]? = some (.cells cs 62 (0, 0))) : cs[0]? = some (.pointer (some ⟨gd, 0, none⟩)) := by
  obtain ⟨ad, e, hx⟩ := h.2.2 (by omega)
  injection e with e
  subst e
  obtain ⟨c, hl, hk, hc⟩ := hx 0 _ rfl
  obtain ⟨rfl, _, _⟩ := hk
  have this : w.cell? ⟨g, 0, none⟩ = some (.pointer (some ⟨gd, 0, none⟩)) := hc 0 _ rfl
  rw [blk_cell hb 0] at this
  exact this
theorem add00 (a : Addr) : a.add 0 = a := by
  unfold Addr.add
  cases a
  split <;> simp_all
set_option maxHeartbeats 8000000 in
set_option maxRecDepth 100000 in
theorem newRoom6 (A0 : Option Addr) (c0 : Nat) (nm : ByteArray) (v : Int) (t : ByteArray) (w : World) (hr0 : Kd.C k30 w A0 1 [(⟨nm, v, t⟩ : S30)]) (hc0 : 1 ≤ c0) (h1 : longF ⟨nm, v, t⟩ = false) (h2 : emptyF ⟨nm, v, t⟩ = false) :
    Calls Try.prog 6 #[.slice A0 1 c0] w fun e w' => ∃ gr gD gd cD, e = .returned (.tuple #[.pointer (some ⟨gr, 0, none⟩), .int .i64 0]) ∧ Rm w.heap.size gr gD gd cD (.slice none 0 0) (.slice none 0 0) (.slice none 0 0) nm v t [] [] [] w' ∧ Below w.heap.size w w' := by
  have hu31 := Try.underlying31
  have hu30 := Try.underlying30
  have hu61 := Try.underlying61
  have hu64 := Try.underlying64
  have hu58 := Try.underlying58
  have hz61 := Try.zeroValue61
  have hz64 := Try.zeroValue64
  have HR0 := Aside0.mk hr0
  have HC0 := Aside0.mk hc0
  have H1 := Aside0.mk (show [(⟨nm, v, t⟩ : S30)].any longF = false from by simp [h1])
  have H2 := Aside0.mk (show [(⟨nm, v, t⟩ : S30)].any emptyF = false from by simp [h2])
  have HB := Aside0.mk (Below.refl w.heap.size w)
  clear hr0 hc0 h1 h2
  go_enter Try.func6, Try.ntmps6
  go_wp2_with (first
    | (go_at_call 17; refine (validate17 A0 c0 [(⟨nm, v, t⟩ : S30)] _ (Kd.C_below HR0.out HB.out) HC0.out (by simp) H1.out H2.out (by intro i hi; obtain rfl : i = 0 := (by simpa using hi); rfl)).mono ?_; rintro e_ w1 ⟨rfl, hb⟩; have n1_ := Aside0.mk (below_step HB.out hb); clear HB hb; have HB := n1_; clear n1_)
    | ((with_reducible refine gate_dst (N := 14) rfl ?_); refine box_event ?hg (N := 14) ?hd (cs := #[.slice none 0 0, .slice none 0 0]) (t := 61) ?hr ?_; (case hd => rfl); (case hg => rfl); (case hr => first | (go_simp; done) | (go_simp; rfl)); intro gr hg wr0 hbox hb; have BKR := Aside0.mk hbox; have GEr := Aside0.mk (show w.heap.size ≤ gr from by rw [hg]; exact HB.out.size); skip; have n1_ := Aside0.mk (below_step HB.out hb); clear HB; have HB := n1_; clear n1_; clear hbox hb hg))
  go_loopg [17] 1 (fun kq v17 w' => ∃ x : Int, v17 = .int .i64 x ∧ Aside0 ((kq = 1 ∧ x = 0 ∧ w'.heap[gr]? = some (.cells #[.slice none 0 0, .slice none 0 0] 61 (0, 0))) ∨ (kq = 0 ∧ x = 1 ∧ ∃ gD gd cD, Rm w.heap.size gr gD gd cD (.slice none 0 0) (.slice none 0 0) (.slice none 0 0) nm v t [] [] [] w')) ∧ Aside0 (Below w.heap.size w w'))
  case atStart => exact ⟨0, rfl, ⟨.inl ⟨rfl, rfl, BKR.out⟩⟩, HB⟩
  case round =>
    clear HB BKR
    obtain ⟨x, rfl, HX, HB⟩ := hrel
    rcases HX.out with ⟨rfl, rfl, hbk⟩ | ⟨rfl, rfl, gD, gd, cD, hrm⟩
    · have BKR := Aside0.mk hbk
      clear HX hbk
      obtain ⟨ad, ea, hx0, hx1, hx2⟩ := at_T30 HR0.out 0 (by omega) (by omega)
      cases ea
      have ey : rd_T30 [(⟨nm, v, t⟩ : S30)] 0 = ⟨nm, v, t⟩ := rfl
      rw [ey] at hx0 hx1 hx2
      clear ey
      rw [show ad.add (Int.toNat 0 * 3) = ad from add00 ad] at hx0 hx1 hx2
      replace hx0 := (HB.out.cell (World.block_lt_of_cell? w _ hx0)).trans hx0
      replace hx1 := (HB.out.cell (World.block_lt_of_cell? w _ hx1)).trans hx1
      replace hx2 := (HB.out.cell (World.block_lt_of_cell? w _ hx2)).trans hx2
      go_upto_region 8 with (((with_reducible refine gate_dst (N := 7) rfl ?_); refine box_event ?hg (N := 7) ?hd (cs := #[.string ByteArray.empty, .int .i64 0, .string ByteArray.empty]) (t := 30) ?hr ?_; (case hd => rfl); (case hg => rfl); (case hr => first | (go_simp; done) | (go_simp; rfl)); intro g7 hg w7 hbox hb; have BK7 := Aside0.mk hbox; have GE7 := Aside0.mk (show w.heap.size ≤ g7 from by rw [hg]; exact HB.out.size); have n2_ := Aside0.mk (blk_below BKR.out hb); clear BKR; have BKR := n2_; clear n2_; replace hx0 := (hb.cell (World.block_lt_of_cell? _ _ hx0)).trans hx0; replace hx1 := (hb.cell (World.block_lt_of_cell? _ _ hx1)).trans hx1; replace hx2 := (hb.cell (World.block_lt_of_cell? _ _ hx2)).trans hx2; have hc7_0 : w7.cell? ⟨g7, 0, none⟩ = some (.string ByteArray.empty) := (blk_cell BK7.out 0).trans rfl; have hf7_0 := blk_frozen BK7.out 0; have hc7_1 : w7.cell? ⟨g7, 1, none⟩ = some (.int .i64 0) := (blk_cell BK7.out 1).trans rfl; have hf7_1 := blk_frozen BK7.out 1; have hc7_2 : w7.cell? ⟨g7, 2, none⟩ = some (.string ByteArray.empty) := (blk_cell BK7.out 2).trans rfl; have hf7_2 := blk_frozen BK7.out 2; have n1_ := Aside0.mk (below_step HB.out hb); clear HB; have HB := n1_; clear n1_; clear hbox hb hg))
      have n0_ := Aside0.mk (show Below w.heap.size w (((w7.setCell ⟨g7, 0, none⟩ (.string nm)).setCell ⟨g7, 1, none⟩ (.int .i64 v)).setCell ⟨g7, 2, none⟩ (.string t)) from below_set (below_set (below_set HB.out GE7.out) GE7.out) GE7.out)
      have m1_ : (((w7.setCell ⟨g7, 0, none⟩ (.string nm)).setCell ⟨g7, 1, none⟩ (.int .i64 v)).setCell ⟨g7, 2, none⟩ (.string t)).heap[g7]? = some (.cells #[.string nm, .int .i64 v, .string t] 30 (0, 0)) := by
        refine blk_put (cs := #[.string nm, .int .i64 v, .string ByteArray.empty]) ?_ 2 _ rfl
        refine blk_put (cs := #[.string nm, .int .i64 0, .string ByteArray.empty]) ?_ 1 _ rfl
        refine blk_put (cs := #[.string ByteArray.empty, .int .i64 0, .string ByteArray.empty]) ?_ 0 _ rfl
        exact BK7.out
      have ng_ : gr ≠ g7 := ne_types BKR.out BK7.out (by decide)
      have n2_ := Aside0.mk (show (((w7.setCell ⟨g7, 0, none⟩ (.string nm)).setCell ⟨g7, 1, none⟩ (.int .i64 v)).setCell ⟨g7, 2, none⟩ (.string t)).heap[gr]? = some (.cells #[.slice none 0 0, .slice none 0 0] 61 (0, 0)) from (Below.heap_setCell _ ⟨g7, 2, none⟩ _ gr ng_).trans ((Below.heap_setCell _ ⟨g7, 1, none⟩ _ gr ng_).trans ((Below.heap_setCell _ ⟨g7, 0, none⟩ _ gr ng_).trans BKR.out)))
      have n1_ := Aside0.mk m1_
      clear HB BKR BK7 m1_ ng_ hx0 hx1 hx2 hc7_0 hf7_0 hc7_1 hf7_1 hc7_2 hf7_2
      generalize (((w7.setCell ⟨g7, 0, none⟩ (.string nm)).setCell ⟨g7, 1, none⟩ (.int .i64 v)).setCell ⟨g7, 2, none⟩ (.string t)) = wq at n0_ n1_ n2_ ⊢
      have HB := n0_
      have BK7 := n1_
      have BKR := n2_
      clear n0_ n1_ n2_
      refine start_ (n := 13) (S := fun w' => w'.cell? ⟨gr, 0, none⟩ = some (.slice none 0 0) ∧ w'.cell? ⟨g7, 0, none⟩ = some (.string nm) ∧ w'.cell? ⟨g7, 1, none⟩ = some (.int .i64 v) ∧ w'.cell? ⟨g7, 2, none⟩ = some (.string t)) (ds := [12]) #[false, false, false, false, false, false, false, false, false, false, false, false, false] (by kernel_rfl) rfl rfl ⟨(blk_cell (blk_drew BKR.out) 0).trans rfl, (blk_cell (blk_drew BK7.out) 0).trans rfl, (blk_cell (blk_drew BK7.out) 1).trans rfl, (blk_cell (blk_drew BK7.out) 2).trans rfl⟩ (fun hHeld => ?_)
      have n0_ := Aside0.mk (below_drew HB.out)
      have n1_ := Aside0.mk (blk_drew BKR.out)
      have n2_ := Aside0.mk (blk_drew BK7.out)
      clear HB BKR BK7
      have HB := n0_
      have BKR := n1_
      have BK7 := n2_
      clear n0_ n1_ n2_
      generalize wq.drew = w3 at HB BKR BK7 hHeld ⊢
      refine pure_ (i := 0) (N := some 21) (v := ?_) (a' := ?_) #[true, false, false, false, false, false, false, false, false, false, false, false, false] rfl rfl (by kernel_rfl) (fun _ _ _ h => h) (Or.inl ⟨by rfl, ?_⟩) ?_ ?_
      rotate_left
      · intro w'
        go_simp
        with_reducible rfl
      rotate_left
      · simp only [Act.put, List.setIfInBounds_toArray, List.set_cons_zero, List.set_cons_succ, i64_w, i32_w]
        rfl
      refine pure_ (i := 1) (N := some 22) (v := ?_) (a' := ?_) #[true, true, false, false, false, false, false, false, false, false, false, false, false] rfl rfl (by kernel_rfl) (fun _ _ _ h => h) (Or.inl ⟨by rfl, ?_⟩) ?_ ?_
      rotate_left
      · intro w'
        go_simp
        with_reducible rfl
      rotate_left
      · simp only [Act.put, List.setIfInBounds_toArray, List.set_cons_zero, List.set_cons_succ, i64_w, i32_w]
        rfl
      refine pure_ (i := 2) (N := some 23) (v := ?_) (a' := ?_) #[true, true, true, false, false, false, false, false, false, false, false, false, false] rfl rfl (by kernel_rfl) (fun _ _ _ h => h) (Or.inl ⟨by rfl, ?_⟩) ?_ ?_
      rotate_left
      · intro w'
        go_simp
        with_reducible rfl
      rotate_left
      · simp only [Act.put, List.setIfInBounds_toArray, List.set_cons_zero, List.set_cons_succ, i64_w, i32_w]
        rfl
      refine pure_ (i := 3) (N := some 24) (v := ?_) (a' := ?_) #[true, true, true, true, false, false, false, false, false, false, false, false, false] rfl rfl (by kernel_rfl) (fun _ _ _ h => h) (Or.inl ⟨by rfl, ?_⟩) ?_ ?_
      rotate_left
      · intro w'
        go_simp
        with_reducible rfl
      rotate_left
      · simp only [Act.put, List.setIfInBounds_toArray, List.set_cons_zero, List.set_cons_succ, i64_w, i32_w]
        rfl
      refine take_ (i := 4) (N := some 25) (v := ?_) (a' := ?_) #[true, true, true, true, true, false, false, false, false, false, false, false, false] rfl rfl (by kernel_rfl) (fun _ _ _ h => h) (Or.inl ⟨by rfl, ?_⟩) hHeld ?_ ?_
      rotate_left
      · rintro w' ⟨s0, s1, s2, s3⟩
        go_simp
        with_reducible rfl
      rotate_left
      · simp only [Act.put, List.setIfInBounds_toArray, List.set_cons_zero, List.set_cons_succ, i64_w, i32_w]
        rfl
      refine take_ (i := 5) (N := some 26) (v := ?_) (a' := ?_) #[true, true, true, true, true, true, false, false, false, false, false, false, false] rfl rfl (by kernel_rfl) (fun _ _ _ h => h) (Or.inl ⟨by rfl, ?_⟩) hHeld ?_ ?_
      rotate_left
      · rintro w' ⟨s0, s1, s2, s3⟩
        go_simp
        with_reducible rfl
      rotate_left
      · simp only [Act.put, List.setIfInBounds_toArray, List.set_cons_zero, List.set_cons_succ, i64_w, i32_w]
        rfl
      refine pure_ (i := 6) (N := some 27) (v := ?_) (a' := ?_) #[true, true, true, true, true, true, true, false, false, false, false, false, false] rfl rfl (by kernel_rfl) (fun _ _ _ h => h) (Or.inl ⟨by rfl, ?_⟩) ?_ ?_
      rotate_left
      · intro w'
        go_simp
        with_reducible rfl
      rotate_left
      · simp only [Act.put, List.setIfInBounds_toArray, List.set_cons_zero, List.set_cons_succ, i64_w, i32_w]
        rfl
      refine one_ (i := 7) (N := some 28) #[true, true, true, true, true, true, true, true, false, false, false, false, false] rfl rfl (by kernel_rfl) (by decide) (fun K hK => ?_)
      refine value_ (w1 := w3.alloc (.cells #[.string nm, .int .i64 v, .string t, .slice none 0 0, .slice none 0 0] 64 (0, 0))) (v := .pointer (some ⟨w3.heap.size, 0, none⟩)) (by rfl) rfl ?_ ?_
      · go_simp
        try rfl
      have n0_ := Aside0.mk (below_step HB.out (below_alloc (Below.refl w3.heap.size w3) (.cells #[.string nm, .int .i64 v, .string t, .slice none 0 0, .slice none 0 0] 64 (0, 0))))
      have n1_ := Aside0.mk (blk_alloc BKR.out (.cells #[.string nm, .int .i64 v, .string t, .slice none 0 0, .slice none 0 0] 64 (0, 0)))
      have n2_ := Aside0.mk (blk_alloc BK7.out (.cells #[.string nm, .int .i64 v, .string t, .slice none 0 0, .slice none 0 0] 64 (0, 0)))
      have BKD := Aside0.mk (blk_new w3 (.cells #[.string nm, .int .i64 v, .string t, .slice none 0 0, .slice none 0 0] 64 (0, 0)))
      have GED := Aside0.mk HB.out.size
      clear HB BKR BK7
      have HB := n0_
      have BKR := n1_
      have BK7 := n2_
      clear n0_ n1_ n2_
      generalize w3.heap.size = gd at BKD GED ⊢
      generalize w3.alloc (.cells #[.string nm, .int .i64 v, .string t, .slice none 0 0, .slice none 0 0] 64 (0, 0)) = wc at HB BKR BK7 BKD ⊢
      refine hK.out _ _ ⟨(blk_cell BKR.out 0).trans rfl, (blk_cell BK7.out 0).trans rfl, (blk_cell BK7.out 1).trans rfl, (blk_cell BK7.out 2).trans rfl⟩ (fun hHeld => ?_)
      clear hK K
      refine norm_ (a' := ?_) ?_ ?_
      rotate_left
      · show Act.put _ (some 28) _ = _
        simp only [Act.put, List.setIfInBounds_toArray, List.set_cons_zero, List.set_cons_succ, i64_w, i32_w]
        rfl
      refine one_ (i := 8) (N := some 29) #[true, true, true, true, true, true, true, true, true, false, false, false, false] rfl rfl (by kernel_rfl) (by decide) (fun K hK => ?_)
      refine value_ (w1 := wc.alloc (.cells #[.pointer (some ⟨gd, 0, none⟩)] 62 (0, 0))) (v := .slice (some ⟨wc.heap.size, 0, none⟩) 1 1) (by rfl) rfl ?_ ?_
      · go_simp
        try rfl
      refine hK.out _ _ ⟨(blk_cell (blk_alloc BKR.out _) 0).trans rfl, (blk_cell (blk_alloc BK7.out _) 0).trans rfl, (blk_cell (blk_alloc BK7.out _) 1).trans rfl, (blk_cell (blk_alloc BK7.out _) 2).trans rfl⟩ (fun hHeld => ?_)
      clear hK K
      refine norm_ (a' := ?_) ?_ ?_
      rotate_left
      · show Act.put _ (some 29) _ = _
        simp only [Act.put, List.setIfInBounds_toArray, List.set_cons_zero, List.set_cons_succ, i64_w, i32_w]
        rfl
      refine one_ (i := 9) (N := some 30) #[true, true, true, true, true, true, true, true, true, true, false, false, false] rfl rfl (by kernel_rfl) (by decide) (fun K hK => ?_)
      refine Kd.R_append_step (Kd.raw 1) (w0 := w) (W := wc) w.heap.size (by rfl) (.tmp 25) (.tmp 29) 58 62 (.pointer none) 8 rfl Try.underlying58 info62 rfl (show 0 < 1 by decide) (by omega) (.slice none 0 0) [] [.pointer (some ⟨gd, 0, none⟩)] [.pointer (some ⟨gd, 0, none⟩)] (fun _ => True) (fun _ => False) rfl rfl ⟨rfl, rfl, by intro u hu; simp only [List.mem_singleton] at hu; subst hu; rfl⟩ (fun _ h => h.elim) (fun _ _ => trivial) (Kd.R_nil _ _ _ _ _) HB.out HB.out.size (by simp) ?_
      intro v1 w8 ho hb hg hat
      obtain ⟨gD, cD, rfl, hgD, hlD, csD, hhD⟩ := Kd.R_form ho (by simp)
      have hc0 : csD[0]? = some (.pointer (some ⟨gd, 0, none⟩)) := ptr_of (Kd.R_reads' ho).2.2 hhD
      have HDC := Aside0.mk (And.intro hgD (And.intro hhD hc0))
      have n0_ := Aside0.mk hb
      have n1_ := Aside0.mk (blk_grown BKR.out hg (by simp [Value.ownBlock]))
      have n2_ := Aside0.mk (blk_grown BK7.out hg (by simp [Value.ownBlock]))
      have n3_ := Aside0.mk (blk_grown BKD.out hg (by simp [Value.ownBlock]))
      clear HB BKR BK7 BKD hb hg hat ho hgD hlD hhD hc0
      have HB := n0_
      have BKR := n1_
      have BK7 := n2_
      have BKD := n3_
      clear n0_ n1_ n2_ n3_
      refine hK.out _ _ ⟨(blk_cell BKR.out 0).trans rfl, (blk_cell BK7.out 0).trans rfl, (blk_cell BK7.out 1).trans rfl, (blk_cell BK7.out 2).trans rfl⟩ (fun hHeld => ?_)
      clear hK K
      refine norm_ (a' := ?_) ?_ ?_
      rotate_left
      · show Act.put _ (some 30) _ = _
        simp only [Act.put, List.setIfInBounds_toArray, List.set_cons_zero, List.set_cons_succ, i64_w, i32_w]
        rfl
      refine pure_ (i := 10) (N := some 31) (v := ?_) (a' := ?_) #[true, true, true, true, true, true, true, true, true, true, true, false, false] rfl rfl (by kernel_rfl) (fun _ _ _ h => h) (Or.inl ⟨by rfl, ?_⟩) ?_ ?_
      rotate_left
      · intro w'
        go_simp
        with_reducible rfl
      rotate_left
      · simp only [Act.put, List.setIfInBounds_toArray, List.set_cons_zero, List.set_cons_succ, i64_w, i32_w]
        rfl
      refine pure_ (i := 11) (N := some 32) (v := ?_) (a' := ?_) #[true, true, true, true, true, true, true, true, true, true, true, true, false] rfl rfl (by kernel_rfl) (fun _ _ _ h => h) (Or.inl ⟨by rfl, ?_⟩) ?_ ?_
      rotate_left
      · intro w'
        go_simp
        with_reducible rfl
      rotate_left
      · simp only [Act.put, List.setIfInBounds_toArray, List.set_cons_zero, List.set_cons_succ, i64_w, i32_w]
        rfl
      refine last_ (i := 12) (N := none) #[true, true, true, true, true, true, true, true, true, true, true, true, true] rfl rfl (by kernel_rfl) (by decide) (fun K hK => ?_)
      have hce : w8.cell? ⟨gr, 0, none⟩ = some (.slice none 0 0) := (blk_cell BKR.out 0).trans rfl
      have hfe : w8.frozen? ⟨gr, 0, none⟩ = false := blk_frozen BKR.out 0
      refine skip_ (w1 := w8.setCell ⟨gr, 0, none⟩ (.slice (some ⟨gD, 0, none⟩) 1 cD)) (by rfl) rfl ?_ ?_
      · go_simp
        try rfl
      have HRM := Aside0.mk (show Rm w.heap.size gr gD gd cD (.slice none 0 0) (.slice none 0 0) (.slice none 0 0) nm v t [] [] [] (w8.setCell ⟨gr, 0, none⟩ (.slice (some ⟨gD, 0, none⟩) 1 cD)) from
        ⟨blk_put BKR.out 0 _ rfl, GEr.out, ⟨csD, (Below.heap_setCell w8 ⟨gr, 0, none⟩ _ gD (fun e => ne_types HDC.out.2.1 BKR.out (by decide) e)).trans HDC.out.2.1, HDC.out.2.2⟩, HDC.out.1, (Below.heap_setCell w8 ⟨gr, 0, none⟩ _ gd (fun e => ne_types BKD.out BKR.out (by decide) e)).trans BKD.out, GED.out, Kd.S_nil _ _ _ _ _, Kd.R_nil _ _ _ _ _, Kd.R_nil _ _ _ _ _⟩)
      have n0_ := Aside0.mk (below_set (j := 0) (v := .slice (some ⟨gD, 0, none⟩) 1 cD) HB.out GEr.out)
      clear HB BKR BK7 BKD HDC hce hfe
      have HB := n0_
      clear n0_
      generalize (w8.setCell ⟨gr, 0, none⟩ (.slice (some ⟨gD, 0, none⟩) 1 cD)) = w9 at HB HRM ⊢
      refine hK.out _ _ ?_
      clear hK K
      refine done_ (by kernel_rfl) ?_
      try clear hHeld
      go_wp2
      go_roundg 0
      case measure => omega
      case rel => exact ⟨1, rfl, ⟨.inr ⟨rfl, rfl, gD, gd, cD, HRM.out⟩⟩, HB⟩
    · have HRM := Aside0.mk hrm
      clear HX hrm
      go_wp2
      go_ret2
      exact ⟨gr, gD, gd, cD, rfl, HRM.out, HB.out⟩
end Go.Proofs.Ytficalhfbopjbaa.Ds
