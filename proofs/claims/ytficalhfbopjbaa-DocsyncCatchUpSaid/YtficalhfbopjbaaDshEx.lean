/- glossatorkeep3.syncExample is true. No condition. -/
import Derived.Test.YtficalhfbopjbaaDsx0
import Derived.Test.YtficalhfbopjbaaDshRp
import Derived.Test.YtficalhfbopjbaaDshEd
import Derived.Deep.QuietTactic
import Derived.RangeFuncNested
import Derived.RangeFuncBound
import Derived.RangeFuncCalls
import Derived.RangeFuncLeaves
import Derived.RangeFuncBox
import Derived.Shelf.Abstract
import Derived.Shelf.RegionOpen
import Derived.WalkKit
import Derived.BigQuiet
namespace Go.Proofs.Ytficalhfbopjbaa.Ds
open Go.RowKit Go.Shelf Go.Proofs.YtficalhfbopjbaaW.PrintWords Go.Proofs.YtficalhfbopjbaaW.PrintLast Go.Proofs.YtficalhfbopjbaaW.PrintMore
open Go.Proofs.Ytficalhfbopjbaa
set_option linter.unusedVariables false
set_option linter.unusedSimpArgs false
attribute [local go_sem] Oper.semAt_some
theorem at_T48 {w : World} {A : Option Addr} {n : Nat} {xs : List S48} (h : Kd.C k48 w A n xs) (i : Int) (h0 : 0 ≤ i) (h1 : i < n) : ∃ ad A4 c4, A = some ad ∧ w.cell? (ad.add (i.toNat * 5)) = some (.int .i64 (xs.getD i.toNat z48).f0) ∧ w.cell? ⟨(ad.add (i.toNat * 5)).block, (ad.add (i.toNat * 5)).off + 1, none⟩ = some (.int .i64 (xs.getD i.toNat z48).f1) ∧ w.cell? ⟨(ad.add (i.toNat * 5)).block, (ad.add (i.toNat * 5)).off + 2, none⟩ = some (.string (xs.getD i.toNat z48).f2) ∧ w.cell? ⟨(ad.add (i.toNat * 5)).block, (ad.add (i.toNat * 5)).off + 3, none⟩ = some (.int .i64 (xs.getD i.toNat z48).f3) ∧ w.cell? ⟨(ad.add (i.toNat * 5)).block, (ad.add (i.toNat * 5)).off + 4, none⟩ = some (.slice A4 (xs.getD i.toNat z48).f4.length c4) := by
  obtain ⟨ad, c, e, _, hK, hc0⟩ := Kd.C_get h z48 i h0 h1
  have hc : ∀ j u, c[j]? = some u → w.cell? (ad.add (i.toNat * 5 + j)) = some u := hc0
  obtain ⟨A4, c4, rfl, _, _⟩ := k48_open hK
  exact ⟨ad, A4, c4, e, hc 0 _ rfl, by rw [← add_field _ _ 1 (by omega)]; exact hc 1 _ rfl, by rw [← add_field _ _ 2 (by omega)]; exact hc 2 _ rfl, by rw [← add_field _ _ 3 (by omega)]; exact hc 3 _ rfl, by rw [← add_field _ _ 4 (by omega)]; exact hc 4 _ rfl⟩
theorem em_d (v : Int) (h0 : 0 ≤ v) (h1 : v ≤ 2147483647) (t : ByteArray) : emptyF ⟨⟨#[100]⟩, v, t⟩ = false := by
  unfold emptyF
  rw [ByteArray.toList_eq]
  have h2 : decide (v < 0) = false := decide_eq_false (by omega)
  have h3 : decide (2147483647 < v) = false := decide_eq_false (by omega)
  show (_ || decide (v < 0) || decide (2147483647 < v)) = false
  rw [h2, h3]
  rfl
theorem ex_apply : ∃ t3, docsync_apply.f ⟨#[100]⟩ 4 ⟨#[97, 98]⟩ [(⟨1, 1, ⟨#[120]⟩⟩ : S56)] = some (⟨#[100]⟩, 5, t3, 0) := by
  have hv : textedit_Validate.f 3 ⟨#[97, 98]⟩ [(⟨1, 1, ⟨#[120]⟩⟩ : S56)] = some 0 := by kernel_rfl
  have ho : okE [(⟨1, 1, ⟨#[120]⟩⟩ : S56)] := by
    intro e he
    rw [List.mem_singleton] at he
    subst he
    decide
  have hA : textedit_Apply.f ⟨#[97, 98]⟩ [(⟨1, 1, ⟨#[120]⟩⟩ : S56)] = some (⟨(apW (lb ⟨#[97, 98]⟩) 0 [(⟨1, 1, ⟨#[120]⟩⟩ : S56)]).toArray⟩, 0) := by
    unfold textedit_Apply.f
    rw [if_pos ho]
    show (textedit_Validate.f 3 ⟨#[97, 98]⟩ [(⟨1, 1, ⟨#[120]⟩⟩ : S56)]).bind _ = _
    rw [hv, Option.bind_some, if_pos rfl]
  unfold docsync_apply.f
  rw [hA, Option.bind_some, if_pos rfl, if_neg (by decide), if_neg (by decide), show wrap64 ((4 : Int) + 1) = 5 from by unfold wrap64; decide]
  exact ⟨⟨(apW (lb ⟨#[97, 98]⟩) 0 [(⟨1, 1, ⟨#[120]⟩⟩ : S56)]).toArray⟩, rfl⟩
set_option maxHeartbeats 8000000 in
set_option maxRecDepth 100000 in
theorem ex5 (W : World) : Calls Try.prog 5 #[] W fun e w' => e = .returned (.bool true) ∧ Below W.heap.size W w' := by
  have hu31 := Try.underlying31
  have hu30 := Try.underlying30
  have hu42 := Try.underlying42
  have hu43 := Try.underlying43
  have hu48 := Try.underlying48
  have hu56 := Try.underlying56
  have hz30 := Try.zeroValue30
  have hz56 := Try.zeroValue56
  have HB := Aside0.mk (Below.refl W.heap.size W)
  go_enter Try.func5, Try.ntmps5
  go_upto_region 5 with (first
    | ((with_reducible refine gate_dst (N := 11) rfl ?_); refine Kd.R_lit k30 (w0 := W) W.heap.size 30 ?hg (N := 11) ?hd (xs := [(⟨⟨#[100]⟩, 4, ⟨#[97, 98]⟩⟩ : S30)]) (inner := [.string ⟨#[100]⟩, .int .i64 4, .string ⟨#[97, 98]⟩]) (ok := fun _ => True) (okp := fun _ => True) ?hr ?hp (fun _ hk => hk) trivial HB.out HB.out.size (by simp) ?_; (case hd => rfl); (case hg => rfl); (case hr => first | (go_simp; done) | (go_simp; rfl)); (case hp => exact (Reps.c3 (show Kd.M k30 _ _ _ (⟨⟨#[100]⟩, 4, ⟨#[97, 98]⟩⟩ : S30) [.string ⟨#[100]⟩, .int .i64 4, .string ⟨#[97, 98]⟩] from (k30_mkM _ _ _ (⟨⟨#[100]⟩, 4, ⟨#[97, 98]⟩⟩ : S30))) (Reps.none _ _))); intro u11 w11 ho hb0 hgr hnew; obtain ⟨A11, c11, rfl⟩ := Kd.R_slice ho; have HL11 := Aside0.mk ho; have n1_ := Aside0.mk hb0; clear HB; have HB := n1_; clear n1_; clear ho hb0 hgr hnew)
    | (go_at_call 6; refine (newRoom6 A11 c11 ⟨#[100]⟩ 4 ⟨#[97, 98]⟩ w11 (Kd.R_reads' HL11.out).2.2 (Kd.R_reads' HL11.out).2.1 (by decide) (em_d 4 (by omega) (by omega) _)).mono ?_; rintro e_ w12 ⟨gr, gD, gd, cD, rfl, h1, h2⟩; have HR := Aside0.mk h1; have HB0 := Aside0.mk h2; clear h1 h2)
    | (go_at_call 7; refine (join7 w11 _ ?a1 ?a2 ?a3 ?a4 HR.out HB0.out).mono ?_; (case a1 => decide); (case a2 => decide); (case a3 => simp); (case a4 => simp); rintro e_ w7 ⟨rfl, vC', h1, h2, _⟩; clear HR HB0; have HR := Aside0.mk h1; have HB0 := Aside0.mk h2; clear h1 h2)
    | (go_at_call 8; refine (open8 w11 _ 10 ?a1 ?a2 ?a3 ?a4 HR.out HB0.out).mono ?_; (case a1 => simp); (case a2 => simp); (case a3 => simp); (case a4 => kernel_rfl); rintro e_ w8 ⟨rfl, vR', h1, h2, _⟩; clear HR HB0; have HR := Aside0.mk h1; have HB0 := Aside0.mk h2; clear h1 h2)
    | ((with_reducible refine gate_dst (N := 3) rfl ?_); refine box_event ?hg (N := 3) ?hd (cs := #[.string ByteArray.empty, .int .i64 0, .string ByteArray.empty]) (t := 30) ?hr ?_; (case hd => rfl); (case hg => rfl); (case hr => first | (go_simp; done) | (go_simp; rfl)); intro g3 hg w3 hbox hb; have BK := Aside0.mk hbox; have GE := Aside0.mk (show w11.heap.size ≤ g3 from by rw [hg]; exact HB0.out.size); have n1_ := Aside0.mk (below_step HB0.out hb); have n2_ := Aside0.mk (HR.out.below hb); clear HB0 HR; have HB0 := n1_; have HR := n2_; clear n1_ n2_; clear hbox hb hg; have hc0 : w3.cell? ⟨g3, 0, none⟩ = some (.string ByteArray.empty) := (blk_cell BK.out 0).trans rfl; have hf0 := blk_frozen BK.out 0; have hc1 : w3.cell? ⟨g3, 1, none⟩ = some (.int .i64 0) := (blk_cell BK.out 1).trans rfl; have hf1 := blk_frozen BK.out 1; have hc2 : w3.cell? ⟨g3, 2, none⟩ = some (.string ByteArray.empty) := (blk_cell BK.out 2).trans rfl; have hf2 := blk_frozen BK.out 2))
  have m0_ : (w3.setCell ⟨g3, 0, none⟩ (.string ⟨#[100]⟩)).heap[g3]? = some (.cells #[.string ⟨#[100]⟩, .int .i64 0, .string ByteArray.empty] 30 (0, 0)) := blk_put BK.out 0 _ rfl
  have m1_ : ((w3.setCell ⟨g3, 0, none⟩ (.string ⟨#[100]⟩)).setCell ⟨g3, 1, none⟩ (.int .i64 4)).heap[g3]? = some (.cells #[.string ⟨#[100]⟩, .int .i64 4, .string ByteArray.empty] 30 (0, 0)) := blk_put m0_ 1 _ rfl
  have n1_ := Aside0.mk (((HR.out.set BK.out (by decide) 0 (.string ⟨#[100]⟩)).set m0_ (by decide) 1 (.int .i64 4)).set m1_ (by decide) 2 (.string ⟨#[97, 98]⟩))
  have n2_ : Aside0 (Below w11.heap.size w11 (((w3.setCell ⟨g3, 0, none⟩ (.string ⟨#[100]⟩)).setCell ⟨g3, 1, none⟩ (.int .i64 4)).setCell ⟨g3, 2, none⟩ (.string ⟨#[97, 98]⟩))) := Aside0.mk (below_set (below_set (below_set HB0.out GE.out) GE.out) GE.out)
  clear HR HB0 BK GE m0_ m1_ hc0 hf0 hc1 hf1 hc2 hf2
  generalize (((w3.setCell ⟨g3, 0, none⟩ (.string ⟨#[100]⟩)).setCell ⟨g3, 1, none⟩ (.int .i64 4)).setCell ⟨g3, 2, none⟩ (.string ⟨#[97, 98]⟩)) = w4 at n1_ n2_ ⊢
  have HR := n1_
  have HB0 := n2_
  clear n1_ n2_
  go_upto_region 6 with (first
    | (go_at_call 8; refine (open8 w11 _ 10 ?a1 ?a2 ?a3 ?a4 HR.out HB0.out).mono ?_; (case a1 => simp); (case a2 => simp); (case a3 => simp); (case a4 => kernel_rfl); rintro e_ w8 ⟨rfl, vR', h1, h2, _⟩; clear HR HB0; have HR := Aside0.mk h1; have HB0 := Aside0.mk h2; clear h1 h2)
    | ((with_reducible refine gate_dst (N := 5) rfl ?_); refine box_event ?hg (N := 5) ?hd (cs := #[.string ByteArray.empty, .int .i64 0, .string ByteArray.empty]) (t := 30) ?hr ?_; (case hd => rfl); (case hg => rfl); (case hr => first | (go_simp; done) | (go_simp; rfl)); intro g5 hg w5 hbox hb; have BK := Aside0.mk hbox; have GE := Aside0.mk (show w11.heap.size ≤ g5 from by rw [hg]; exact HB0.out.size); have n1_ := Aside0.mk (below_step HB0.out hb); have n2_ := Aside0.mk (HR.out.below hb); clear HB0 HR; have HB0 := n1_; have HR := n2_; clear n1_ n2_; clear hbox hb hg; have hc0 : w5.cell? ⟨g5, 0, none⟩ = some (.string ByteArray.empty) := (blk_cell BK.out 0).trans rfl; have hf0 := blk_frozen BK.out 0; have hc1 : w5.cell? ⟨g5, 1, none⟩ = some (.int .i64 0) := (blk_cell BK.out 1).trans rfl; have hf1 := blk_frozen BK.out 1; have hc2 : w5.cell? ⟨g5, 2, none⟩ = some (.string ByteArray.empty) := (blk_cell BK.out 2).trans rfl; have hf2 := blk_frozen BK.out 2))
  have m0_ : (w5.setCell ⟨g5, 0, none⟩ (.string ⟨#[100]⟩)).heap[g5]? = some (.cells #[.string ⟨#[100]⟩, .int .i64 0, .string ByteArray.empty] 30 (0, 0)) := blk_put BK.out 0 _ rfl
  have m1_ : ((w5.setCell ⟨g5, 0, none⟩ (.string ⟨#[100]⟩)).setCell ⟨g5, 1, none⟩ (.int .i64 4)).heap[g5]? = some (.cells #[.string ⟨#[100]⟩, .int .i64 4, .string ByteArray.empty] 30 (0, 0)) := blk_put m0_ 1 _ rfl
  have n1_ := Aside0.mk (((HR.out.set BK.out (by decide) 0 (.string ⟨#[100]⟩)).set m0_ (by decide) 1 (.int .i64 4)).set m1_ (by decide) 2 (.string ⟨#[97, 98]⟩))
  have n2_ : Aside0 (Below w11.heap.size w11 (((w5.setCell ⟨g5, 0, none⟩ (.string ⟨#[100]⟩)).setCell ⟨g5, 1, none⟩ (.int .i64 4)).setCell ⟨g5, 2, none⟩ (.string ⟨#[97, 98]⟩))) := Aside0.mk (below_set (below_set (below_set HB0.out GE.out) GE.out) GE.out)
  clear HR HB0 BK GE m0_ m1_ hc0 hf0 hc1 hf1 hc2 hf2
  generalize (((w5.setCell ⟨g5, 0, none⟩ (.string ⟨#[100]⟩)).setCell ⟨g5, 1, none⟩ (.int .i64 4)).setCell ⟨g5, 2, none⟩ (.string ⟨#[97, 98]⟩)) = w6 at n1_ n2_ ⊢
  have HR := n1_
  have HB0 := n2_
  clear n1_ n2_
  obtain ⟨t3, ht3⟩ := ex_apply
  have HAP := Aside0.mk ht3
  clear ht3
  go_wp2_with (first
    | ((with_reducible refine gate_dst (N := 44) rfl ?_); refine Kd.R_lit k56 (w0 := w11) w11.heap.size 56 ?hg (N := 44) ?hd (xs := [(⟨1, 1, ⟨#[120]⟩⟩ : S56)]) (inner := [.int .i64 1, .int .i64 1, .string ⟨#[120]⟩]) (ok := fun _ => True) (okp := fun _ => True) ?hr ?hp (fun _ hk => hk) trivial HB0.out HB0.out.size (by simp) ?_; (case hd => rfl); (case hg => rfl); (case hr => first | (go_simp; done) | (go_simp; rfl)); (case hp => exact (Reps.c3 (show Kd.M k56 _ _ _ (⟨1, 1, ⟨#[120]⟩⟩ : S56) [.int .i64 1, .int .i64 1, .string ⟨#[120]⟩] from (k56_mkM _ _ _ (⟨1, 1, ⟨#[120]⟩⟩ : S56))) (Reps.none _ _))); intro u44 w44 ho hb0 hgr hnew; obtain ⟨A44, c44, rfl⟩ := Kd.R_slice ho; have HL44 := Aside0.mk ho; have HBL := Aside0.mk (show Below w6.heap.size w6 w44 from ⟨hgr.os, hgr.tape, hgr.output, hgr.size, fun i hi => hgr.block i hi (by simp)⟩); have HG44 := Aside0.mk (show ∀ k, some k = (Value.slice A44 [(⟨1, 1, ⟨#[120]⟩⟩ : S56)].length c44).ownBlock → k ≠ gd from fun k hk => by obtain ⟨b, hb1, hb2⟩ := hnew; have h2_ := blk_lt HR.out.dbox; rw [hb1] at hk; injection hk with hk; omega); clear ho hb0 hgr hnew)
    | (go_at_call 12; refine (edit_ok w11 1 ?a1 ?a2 ?a3 ?a4 A44 c44 [(⟨1, 1, ⟨#[120]⟩⟩ : S56)] ⟨#[100]⟩ 5 t3 (HR.out.below HBL.out) (below_step HB0.out HBL.out) ?a5 (Kd.R_reads' HL44.out).2.1 (by simp) (by simp) HAP.out).mono ?_; (case a1 => simp); (case a2 => simp); (case a3 => simp); (case a4 => simp); (case a5 => exact fun W_ hk => (Kd.R_reads' (Kd.R_keep (Kd.R_tight rfl HL44.out) hk HG44.out)).2.2); rintro e_ w13 ⟨vU, vH', rfl, h1, h2, h3, _⟩; obtain ⟨AU, nU, cU, rfl⟩ : ∃ A n c, vU = .slice A n c := (by obtain ⟨A, c, e⟩ := Kd.S_slice h2; exact ⟨A, _, c, e⟩); have hrd := (Kd.S_reads' h2).2.2; have hn : nU = 1 := (Kd.S_reads' h2).1; obtain ⟨ad, A4, c4, ea, x0, _, _, x3, _⟩ := at_T48 hrd 0 (by omega) (by decide); subst ea hn; rw [show ad.add (Int.toNat 0 * 5) = ad from add00 ad] at x0 x3; have y0 : w13.cell? ad = some (.int .i64 2) := x0; have y3 : w13.cell? ⟨ad.block, ad.off + 3, none⟩ = some (.int .i64 5) := x3; have HB1 := Aside0.mk h3; clear h1 h2 h3 hrd x0 x3))
  go_ret
  exact ⟨rfl, below_step HB.out HB1.out⟩
end Go.Proofs.Ytficalhfbopjbaa.Ds
