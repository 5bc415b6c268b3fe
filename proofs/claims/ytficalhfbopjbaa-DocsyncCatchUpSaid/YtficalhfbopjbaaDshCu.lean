/- The law DocsyncCatchUp, walked: it returns true. Condition: the inserted texts lie within the reach. -/
import Derived.Test.YtficalhfbopjbaaDsx0
import Derived.Test.YtficalhfbopjbaaDshRp
import Derived.Test.YtficalhfbopjbaaDshCv
import Derived.Test.YtficalhfbopjbaaDshSi
import Derived.Shelf.SlSortCmp.QuietGrown
import Derived.Deep.QuietTactic
import Derived.RangeFuncNested
import Derived.RangeFuncBound
import Derived.RangeFuncCalls
import Derived.RangeFuncLeaves
import Derived.RangeFuncBox
import Derived.Shelf.Abstract
import Derived.Shelf.RegionOpen
import Derived.WalkKit
import Derived.BigQuiet
namespace Go.Proofs.Ytficalhfbopjbaa.Ds
open Go.RowKit Go.Shelf Go.Proofs.YtficalhfbopjbaaW.PrintWords Go.Proofs.YtficalhfbopjbaaW.PrintLast Go.Proofs.YtficalhfbopjbaaW.PrintMore
open Go.Proofs.Ytficalhfbopjbaa
set_option linter.unusedVariables false
set_option linter.unusedSimpArgs false
attribute [local go_sem] Oper.semAt_some
open Go.Sort
attribute [local go_sem] max2_int min2_int max_two min_two
theorem lo_d3 (T : ByteArray) (h : T.size ≤ 200) : longF ⟨⟨#[100]⟩, 3, T⟩ = false := by
  unfold longF
  have h2 : decide (2000 < (T.size : Int)) = false := decide_eq_false (by omega)
  show (_ || decide (2000 < (T.size : Int))) = false
  rw [h2]
  rfl
/-- the edits lead from one document to another -/
def Runs : S30 → List (List S56) → S30 → Prop
  | d, [], e => d = e
  | d, l :: r, e => ∃ a b c, docsync_apply.f d.f0 d.f1 d.f2 l = some (a, b, c, 0) ∧ Runs ⟨a, b, c⟩ r e
theorem Runs_snoc : ∀ {ls : List (List S56)} {d e : S30} {l : List S56} {a : ByteArray} {b : Int} {c : ByteArray}, Runs d ls e → docsync_apply.f e.f0 e.f1 e.f2 l = some (a, b, c, 0) → Runs d (ls ++ [l]) ⟨a, b, c⟩
  | [], d, e, l, a, b, c, h, ha => by
    have h2 : d = e := h
    subst h2
    exact ⟨a, b, c, ha, rfl⟩
  | x :: r, d, e, l, a, b, c, ⟨a1, b1, c1, h1, h2⟩, ha => ⟨a1, b1, c1, h1, Runs_snoc h2 ha⟩
theorem Runs_snoc' {hist : List (List S56)} {n : Nat} {d : S30} {l : List S56} {v v2 : Int} {t : ByteArray} {a : ByteArray} {c : ByteArray} {nm : ByteArray} (h : Runs d (hist.drop n) ⟨nm, v, t⟩) (hn : n ≤ hist.length) (ha : docsync_apply.f nm v t l = some (a, v2, c, 0)) : Runs d ((hist ++ [l]).drop n) ⟨a, v2, c⟩ := by
  rw [List.drop_append_of_le_length hn]
  exact Runs_snoc h ha
theorem Runs_catch (ls : List (List S56)) (e : S30) (hl : ls.length ≤ 1000) (s0 : ByteArray) (s1 : Int) (s2 : ByteArray) : ∀ (d i k : Nat) (cur : S30), i + d = ls.length → d < k → Runs cur (ls.drop i) e → docsync_Replica_CatchUp.l0 k ls (ls.length : Int) (i : Int) s0 s1 s2 cur.f0 cur.f1 cur.f2 = some (0, e.f0, e.f1, e.f2) := by
  intro d
  induction d with
  | zero =>
    intro i k cur hi hk h
    obtain ⟨k, rfl⟩ : ∃ m, k = m + 1 := ⟨k - 1, by omega⟩
    rw [List.drop_eq_nil_of_le (by omega)] at h
    have h2 : cur = e := h
    subst h2
    simp only [docsync_Replica_CatchUp.l0]
    rw [if_neg (by omega)]
  | succ d ih =>
    intro i k cur hi hk h
    obtain ⟨k, rfl⟩ : ∃ m, k = m + 1 := ⟨k - 1, by omega⟩
    have hi' : i < ls.length := by omega
    rw [List.drop_eq_getElem_cons hi'] at h
    obtain ⟨a, b, c, h1, h2⟩ := h
    have hw : wrap64 ((i : Int) + 1) = ((i + 1 : Nat) : Int) := by rw [w64_ (by omega) (by omega)]; omega
    have hr : rd_L3 ls (i : Int) = ls[i] := by simp [rd_L3, hi']
    simp only [docsync_Replica_CatchUp.l0]
    rw [if_pos (by omega), if_pos (Int.natCast_nonneg _), if_pos (by omega), hr, h1, Option.bind_some, if_pos rfl, hw]
    exact ih (i + 1) k ⟨a, b, c⟩ (by omega) (by omega) h2
theorem Runs_catchUp (d e : S30) (ls : List (List S56)) (hl : ls.length ≤ 1000) (h : Runs d ls e) : docsync_Replica_CatchUp.f 1002 d.f0 d.f1 d.f2 ls = some (0, e.f0, e.f1, e.f2) := by
  unfold docsync_Replica_CatchUp.f
  exact Runs_catch ls e hl _ _ _ ls.length 0 1002 d (by omega) (by omega) h
/-- the state between two steps -/
def Ust (w : World) (gr gD gd cD : Nat) (i : Nat) (v15 : Value) (W : World) : Prop := ∃ vC vH vR v T hist go n, ∃ o : S30, v15 = .pointer (some ⟨go, 0, none⟩) ∧ Rm w.heap.size gr gD gd cD vC vH vR ⟨#[100]⟩ v T hist [0, 1] [0, 1] W ∧ IsS72 w W go o.f0 o.f1 o.f2 ∧ o.f0 = ⟨#[100]⟩ ∧ Runs o (hist.drop n) ⟨⟨#[100]⟩, v, T⟩ ∧ n ≤ hist.length ∧ o.f1 = 3 + (n : Int) ∧ v = 3 + (hist.length : Int) ∧ hist.length ≤ i ∧ ∀ l ∈ hist, l.length ≤ 50
set_option maxHeartbeats 16000000 in
set_option maxRecDepth 100000 in
theorem catches (text : ByteArray) (A1 : Option Addr) (c1 : Nat) (script : List S39) (A2 : Option Addr) (c2 : Nat) (edits : List (List S56)) (at_ : Int) (w : World) (hr1 : Kd.C k39 w A1 script.length script) (hc1 : script.length ≤ c1) (hr2 : Kd.C (Kd.slice 56 k56) w A2 edits.length edits) (hc2 : edits.length ≤ c2) (ho : ∀ l ∈ edits, okE l) (hle : edits.length ≤ 4611686018427387904) :
    Calls Try.prog 4 #[.string text, .slice A1 script.length c1, .slice A2 edits.length c2, .int .i64 at_] w fun e w' => e = .returned (.bool true) ∧ Below w.heap.size w w' := by
  have hu31 := Try.underlying31
  have hu30 := Try.underlying30
  have hu22 := Try.underlying22
  have hu23 := Try.underlying23
  have hu36 := Try.underlying36
  have hu39 := Try.underlying39
  have hz30 := Try.zeroValue30
  obtain ⟨m, hm⟩ : ∃ m, m = min text.size 200 := ⟨_, rfl⟩
  have hm1 : (if (200 : Int) < (text.size : Int) then (200 : Int) else (text.size : Int)) = (m : Int) := by split <;> omega
  have hm2 : ((m : Int) ≤ (text.size : Int)) = True := eq_true (by omega)
  have hm3 : m ≤ text.size := by omega
  have hT : (text.extract 0 m).size ≤ 200 := by rw [ByteArray.size_extract]; omega
  obtain ⟨T, hTT⟩ : ∃ T, T = text.extract 0 m := ⟨_, rfl⟩
  have hTX : text.extract 0 m = T := hTT.symm
  rw [hTX] at hT
  have HT := Aside0.mk hT
  have HR1 := Aside0.mk hr1
  have HC1 := Aside0.mk hc1
  have HR2 := Aside0.mk hr2
  have HC2 := Aside0.mk hc2
  have HO := Aside0.mk ho
  have HLE := Aside0.mk hle
  have HB := Aside0.mk (Below.refl w.heap.size w)
  obtain ⟨m20, hm20⟩ : ∃ m20, m20 = min script.length 20 := ⟨_, rfl⟩
  obtain ⟨a0, hma, ha0⟩ := mod_is at_ (m20 + 1) (by omega) (by omega)
  have HMA := Aside0.mk (show glossatorref3_Mod.f at_ ((m20 : Int) + 1) = some (a0 : Int) from hma)
  obtain ⟨i39, hi39, _, _, _⟩ := info_parts (show (Try.prog.info? 39).map (fun i => (i.zero, i.size, i.bytes)) = some (some (.agg #[.int .i64 0, .int .i64 0, .int .i64 0]), 3, 24) from by kernel_rfl)
  have H20 := Aside0.mk (And.intro (show (if (20 : Int) < (script.length : Int) then (20 : Int) else (script.length : Int)) = (m20 : Int) from by split <;> omega) (cut_to (P := Try.prog) 22 39 .i64 Try.underlying22 hi39 A1 script.length c1 (m20 : Int) (by omega) (by omega) hc1))
  have HM20 := Aside0.mk (show m20 ≤ script.length ∧ m20 ≤ 20 from by omega)
  clear hr1 hc1 hr2 hc2 ho hle hT hTT hm hm20 hma ha0
  go_enter Try.func4, Try.ntmps4
  go_upto_region 7 with (first
    | (go_at_call 5; refine (ex5 _).mono ?_; rintro e_ w5 ⟨rfl, hb⟩; have n1_ := Aside0.mk (below_step HB.out hb); clear HB hb; have HB := n1_; clear n1_)
    | ((with_reducible refine gate_dst (N := 38) rfl ?_); refine Kd.R_lit k30 (w0 := w) w.heap.size 30 ?hg (N := 38) ?hd (xs := [(⟨⟨#[100]⟩, 3, T⟩ : S30)]) (inner := [.string ⟨#[100]⟩, .int .i64 3, .string T]) (ok := fun _ => True) (okp := fun _ => True) ?hr ?hp (fun _ hk => hk) trivial HB.out HB.out.size (by simp) ?_; (case hd => rfl); (case hg => rfl); (case hr => first | (go_simp; done) | (go_simp; rfl)); (case hp => exact (Reps.c3 (show Kd.M k30 _ _ _ (⟨⟨#[100]⟩, 3, T⟩ : S30) [.string ⟨#[100]⟩, .int .i64 3, .string T] from (k30_mkM _ _ _ (⟨⟨#[100]⟩, 3, T⟩ : S30))) (Reps.none _ _))); intro u38 w38 ho hb0 hgr hnew; obtain ⟨A38, c38, rfl⟩ := Kd.R_slice ho; have HL38 := Aside0.mk ho; have n1_ := Aside0.mk hb0; clear HB; have HB := n1_; clear n1_; clear ho hb0 hgr hnew)
    | (go_at_call 6; refine (newRoom6 A38 c38 ⟨#[100]⟩ 3 T w38 (Kd.R_reads' HL38.out).2.2 (Kd.R_reads' HL38.out).2.1 (lo_d3 T HT.out) (em_d 3 (by omega) (by omega) _)).mono ?_; rintro e_ w6 ⟨gr, gD, gd, cD, rfl, h1, h2⟩; have HR := Aside0.mk (h1.lower HB.out.size); have n1_ := Aside0.mk (below_step HB.out h2); clear HB h1 h2; have HB := n1_; clear n1_)
    | (go_at_call 7; refine (join7 w _ ?a1 ?a2 ?a3 ?a4 HR.out HB.out).mono ?_; (case a1 => decide); (case a2 => decide); (case a3 => simp); (case a4 => simp); rintro e_ w7 ⟨rfl, vC', h1, h2, _⟩; clear HR HB; have HR := Aside0.mk h1; have HB := Aside0.mk h2; clear h1 h2)
    | (go_at_call 8; refine (open8 w _ 10 ?a1 ?a2 ?a3 ?a4 HR.out HB.out).mono ?_; (case a1 => simp); (case a2 => simp); (case a3 => simp); (case a4 => kernel_rfl); rintro e_ w8 ⟨rfl, vR', h1, h2, hk⟩; clear HR HB; have HR := Aside0.mk h1; have HB := Aside0.mk h2; clear h1 h2 hk)
    | ((with_reducible refine gate_dst (N := 11) rfl ?_); refine box_event ?hg (N := 11) ?hd (cs := #[.string ByteArray.empty, .int .i64 0, .string ByteArray.empty]) (t := 30) ?hr ?_; (case hd => rfl); (case hg => rfl); (case hr => first | (go_simp; done) | (go_simp; rfl)); intro g11 hg w11 hbox hb; have BK := Aside0.mk hbox; have GE := Aside0.mk (show w.heap.size ≤ g11 from by rw [hg]; exact HB.out.size); have n1_ := Aside0.mk (HR.out.below hb); clear HR; have HR := n1_; clear n1_; have n1_ := Aside0.mk (below_step HB.out hb); clear HB; have HB := n1_; clear n1_; have hc0 : w11.cell? ⟨g11, 0, none⟩ = some (.string ByteArray.empty) := (blk_cell BK.out 0).trans rfl; have hf0 := blk_frozen BK.out 0; have hc1 : w11.cell? ⟨g11, 1, none⟩ = some (.int .i64 0) := (blk_cell BK.out 1).trans rfl; have hf1 := blk_frozen BK.out 1; have hc2 : w11.cell? ⟨g11, 2, none⟩ = some (.string ByteArray.empty) := (blk_cell BK.out 2).trans rfl; have hf2 := blk_frozen BK.out 2; clear hbox hb hg))
  have m0_ : (w11.setCell ⟨g11, 0, none⟩ (.string ⟨#[100]⟩)).heap[g11]? = some (.cells #[.string ⟨#[100]⟩, .int .i64 0, .string ByteArray.empty] 30 (0, 0)) := blk_put BK.out 0 _ rfl
  have m1_ : ((w11.setCell ⟨g11, 0, none⟩ (.string ⟨#[100]⟩)).setCell ⟨g11, 1, none⟩ (.int .i64 3)).heap[g11]? = some (.cells #[.string ⟨#[100]⟩, .int .i64 3, .string ByteArray.empty] 30 (0, 0)) := blk_put m0_ 1 _ rfl
  have m2_ : (((w11.setCell ⟨g11, 0, none⟩ (.string ⟨#[100]⟩)).setCell ⟨g11, 1, none⟩ (.int .i64 3)).setCell ⟨g11, 2, none⟩ (.string T)).heap[g11]? = some (.cells #[.string ⟨#[100]⟩, .int .i64 3, .string T] 30 (0, 0)) := blk_put m1_ 2 _ rfl
  have n1_ := Aside0.mk (((HR.out.set BK.out (by decide) 0 (.string ⟨#[100]⟩)).set m0_ (by decide) 1 (.int .i64 3)).set m1_ (by decide) 2 (.string T))
  have n3_ : Aside0 (Below w.heap.size w (((w11.setCell ⟨g11, 0, none⟩ (.string ⟨#[100]⟩)).setCell ⟨g11, 1, none⟩ (.int .i64 3)).setCell ⟨g11, 2, none⟩ (.string T))) := Aside0.mk (below_set (below_set (below_set HB.out GE.out) GE.out) GE.out)
  have n4_ := Aside0.mk m2_
  clear HR HB BK m0_ hc0 hf0 m1_ hc1 hf1 m2_ hc2 hf2
  generalize (((w11.setCell ⟨g11, 0, none⟩ (.string ⟨#[100]⟩)).setCell ⟨g11, 1, none⟩ (.int .i64 3)).setCell ⟨g11, 2, none⟩ (.string T)) = wP at n1_ n3_ n4_ ⊢
  have HR := n1_
  have HB := n3_
  have BK := n4_
  clear n1_ n3_ n4_
  have BKa := BK
  clear BK GE hm1 hm2 hm3 hTX
  go_upto_region 8 with (first
    | (go_at_call 8; refine (open8 w _ 10 ?a1 ?a2 ?a3 ?a4 HR.out HB.out).mono ?_; (case a1 => simp); (case a2 => simp); (case a3 => simp); (case a4 => kernel_rfl); rintro e_ w8 ⟨rfl, vR', h1, h2, hk⟩; clear HR HB; have HR := Aside0.mk h1; have HB := Aside0.mk h2; have n1_ := Aside0.mk (hk _ _ 30 (by decide) (by decide) (by decide) (by decide) (by decide) BKa.out); clear BKa; have BKa := n1_; clear n1_; clear h1 h2 hk)
    | ((with_reducible refine gate_dst (N := 13) rfl ?_); refine box_event ?hg (N := 13) ?hd (cs := #[.string ByteArray.empty, .int .i64 0, .string ByteArray.empty]) (t := 30) ?hr ?_; (case hd => rfl); (case hg => rfl); (case hr => first | (go_simp; done) | (go_simp; rfl)); intro g13 hg w13 hbox hb; have BK := Aside0.mk hbox; have GE := Aside0.mk (show w.heap.size ≤ g13 from by rw [hg]; exact HB.out.size); have HNE := Aside0.mk (show g11 ≠ g13 from fun e => by have h_ := blk_lt BKa.out; omega); have n1_ := Aside0.mk (HR.out.below hb); clear HR; have HR := n1_; clear n1_; have n1_ := Aside0.mk (below_step HB.out hb); clear HB; have HB := n1_; clear n1_; have n1_ := Aside0.mk (blk_below BKa.out hb); clear BKa; have BKa := n1_; clear n1_; have hc0 : w13.cell? ⟨g13, 0, none⟩ = some (.string ByteArray.empty) := (blk_cell BK.out 0).trans rfl; have hf0 := blk_frozen BK.out 0; have hc1 : w13.cell? ⟨g13, 1, none⟩ = some (.int .i64 0) := (blk_cell BK.out 1).trans rfl; have hf1 := blk_frozen BK.out 1; have hc2 : w13.cell? ⟨g13, 2, none⟩ = some (.string ByteArray.empty) := (blk_cell BK.out 2).trans rfl; have hf2 := blk_frozen BK.out 2; clear hbox hb hg))
  have m0_ : (w13.setCell ⟨g13, 0, none⟩ (.string ⟨#[100]⟩)).heap[g13]? = some (.cells #[.string ⟨#[100]⟩, .int .i64 0, .string ByteArray.empty] 30 (0, 0)) := blk_put BK.out 0 _ rfl
  have m1_ : ((w13.setCell ⟨g13, 0, none⟩ (.string ⟨#[100]⟩)).setCell ⟨g13, 1, none⟩ (.int .i64 3)).heap[g13]? = some (.cells #[.string ⟨#[100]⟩, .int .i64 3, .string ByteArray.empty] 30 (0, 0)) := blk_put m0_ 1 _ rfl
  have m2_ : (((w13.setCell ⟨g13, 0, none⟩ (.string ⟨#[100]⟩)).setCell ⟨g13, 1, none⟩ (.int .i64 3)).setCell ⟨g13, 2, none⟩ (.string T)).heap[g13]? = some (.cells #[.string ⟨#[100]⟩, .int .i64 3, .string T] 30 (0, 0)) := blk_put m1_ 2 _ rfl
  have n1_ := Aside0.mk (((HR.out.set BK.out (by decide) 0 (.string ⟨#[100]⟩)).set m0_ (by decide) 1 (.int .i64 3)).set m1_ (by decide) 2 (.string T))
  have n3_ : Aside0 (Below w.heap.size w (((w13.setCell ⟨g13, 0, none⟩ (.string ⟨#[100]⟩)).setCell ⟨g13, 1, none⟩ (.int .i64 3)).setCell ⟨g13, 2, none⟩ (.string T))) := Aside0.mk (below_set (below_set (below_set HB.out GE.out) GE.out) GE.out)
  have n4_ := Aside0.mk m2_
  have n5_ := Aside0.mk (((Below.heap_setCell ((w13.setCell ⟨g13, 0, none⟩ (.string ⟨#[100]⟩)).setCell ⟨g13, 1, none⟩ (.int .i64 3)) ⟨g13, 2, none⟩ (.string T) g11 HNE.out).trans ((Below.heap_setCell (w13.setCell ⟨g13, 0, none⟩ (.string ⟨#[100]⟩)) ⟨g13, 1, none⟩ (.int .i64 3) g11 HNE.out).trans ((Below.heap_setCell w13 ⟨g13, 0, none⟩ (.string ⟨#[100]⟩) g11 HNE.out).trans BKa.out))))
  clear HR HB BK BKa m0_ hc0 hf0 m1_ hc1 hf1 m2_ hc2 hf2
  generalize (((w13.setCell ⟨g13, 0, none⟩ (.string ⟨#[100]⟩)).setCell ⟨g13, 1, none⟩ (.int .i64 3)).setCell ⟨g13, 2, none⟩ (.string T)) = wS at n1_ n3_ n4_ n5_ ⊢
  have HR := n1_
  have HB := n3_
  have BK := n4_
  have BKa := n5_
  clear n1_ n3_ n4_ n5_
  clear BK GE HNE
  have e0 : wS.cell? ⟨g11, 0, none⟩ = some (.string ⟨#[100]⟩) := (blk_cell BKa.out 0).trans rfl
  have e1 : wS.cell? ⟨g11, 1, none⟩ = some (.int .i64 3) := (blk_cell BKa.out 1).trans rfl
  have e2 : wS.cell? ⟨g11, 2, none⟩ = some (.string T) := (blk_cell BKa.out 2).trans rfl
  go_upto_region 11 with ((go_at_call 9; refine (newReplica9 ⟨#[100]⟩ 3 T wS).mono ?_; rintro e_ w9 ⟨gn, rfl, h1, hb⟩; have n1_ := Aside0.mk (HR.out.below hb); have n2_ := Aside0.mk (show IsS72 w w9 gn ⟨#[100]⟩ 3 T from ⟨h1.1, Nat.le_trans HB.out.size h1.2⟩); have n3_ := Aside0.mk (below_step HB.out hb); clear HR HB h1 hb; have HR := n1_; have HB := n3_; have HN := n2_; clear n1_ n2_ n3_))
  clear e0 e1 e2 BKa
  obtain ⟨hs20, hcut⟩ := H20.out
  have b20 : (m20 : Int) ≤ 20 := by have h_ := HM20.out; omega
  go_wp2_with ((go_at_call 10; refine (glossatorref3_Mod.calls at_ _ (a0 : Int) _ HMA.out).mono ?_; rintro e_ wz ⟨rfl, hd_⟩; have hb := hd_.below; have n1_ := Aside0.mk (HR.out.below hb); have n2_ := Aside0.mk (show IsS72 w _ gn ⟨#[100]⟩ 3 T from ⟨blk_below HN.out.1 hb, HN.out.2⟩); have n3_ := Aside0.mk (below_step HB.out hb); clear HR HN HB hb hd_; have HR := n1_; have HN := n2_; have HB := n3_; clear n1_ n2_ n3_))
  clear hs20 hcut
  go_loopg [15, 92] m20 (fun kq v15 v92 w' => ∃ i : Nat, v92 = .int .i64 (i : Int) ∧ Aside0 (i + kq = m20 ∧ Ust w gr gD gd cD i v15 w') ∧ Aside0 (Below w.heap.size w w'))
  case atStart => exact ⟨0, rfl, ⟨by omega, _, _, _, _, _, [], gn, 0, (⟨⟨#[100]⟩, 3, T⟩ : S30), rfl, HR.out, HN.out, rfl, rfl, by simp, by simp, by simp, by simp, fun l hl => by cases hl⟩, HB⟩
  case round =>
    clear HB HR HN
    obtain ⟨i, rfl, HX, HB⟩ := hrel
    obtain ⟨e1, vC, vH, vR, v, T', hist, go, n, o, rfl, hR, hI, ho0, hrun, hnl, hof, hv, hhl, hls⟩ := HX.out
    clear HX
    have HR := Aside0.mk hR
    have HI := Aside0.mk hI
    have HLS := Aside0.mk hls
    have HRUN := Aside0.mk (And.intro ho0 (And.intro hrun (And.intro hnl hof)))
    clear hR hI hls ho0 hrun hnl hof
    by_cases c : i < m20
    · have d1 : decide ((i : Int) < (m20 : Int)) = true := decide_eq_true (by omega)
      obtain ⟨k1, rfl⟩ : ∃ k1, gk = k1 + 1 := ⟨gk - 1, by omega⟩
      have E1 := Aside0.mk e1
      have EV := Aside0.mk (show v = 3 + (hist.length : Int) ∧ hist.length ≤ i ∧ i < 20 from ⟨hv, hhl, by have h_ := HM20.out; omega⟩)
      obtain ⟨adS, ea, hx0, hx1, hx2⟩ := at_T39 HR1.out (i : Int) (by omega) (by have h_ := HM20.out; omega)
      subst ea
      rw [Int.toNat_natCast] at hx0 hx1 hx2
      obtain ⟨ye, hye⟩ : ∃ ye, ye = rd_T39 script (i : Int) := ⟨_, rfl⟩
      rw [← hye] at hx0 hx1 hx2
      have HSC1 := Aside0.mk hx1
      have HSC2 := Aside0.mk hx2
      have p1 : (0 ≤ (i : Int)) = True := eq_true (by omega)
      have q1 : ((i : Int) < (m20 : Int)) = True := eq_true (by omega)
      have q1b : (i < m20) = True := eq_true c
      clear e1 c hye hv hhl hx0 hx1 hx2
      by_cases ha : i = a0
      · have d2 : ((i : Int) == (a0 : Int)) = true := by rw [ha]; simp
        clear ha
        go_upto_region 18 with (first
          | (go_at_call 15; refine (document15 HR.out).mono ?_; rintro e_ w15 ⟨rfl, hb⟩; have n1_ := Aside0.mk (HR.out.below hb); have n2_ := Aside0.mk (show IsS72 w _ go o.f0 o.f1 o.f2 from ⟨blk_below HI.out.1 hb, HI.out.2⟩); have n3_ := Aside0.mk (below_step HB.out hb); clear HR HI HB hb; have HR := n1_; have HI := n2_; have HB := n3_; clear n1_ n2_ n3_)
          | ((with_reducible refine gate_dst (N := 17) rfl ?_); refine box_event ?hg (N := 17) ?hd (cs := #[.string ByteArray.empty, .int .i64 0, .string ByteArray.empty]) (t := 30) ?hr ?_; (case hd => rfl); (case hg => rfl); (case hr => first | (go_simp; done) | (go_simp; rfl)); intro g17 hg w17 hbox hb; have BK := Aside0.mk hbox; have GE := Aside0.mk (show w.heap.size ≤ g17 from by rw [hg]; exact HB.out.size); have n1_ := Aside0.mk (HR.out.below hb); clear HR; have HR := n1_; clear n1_; have n1_ := Aside0.mk (below_step HB.out hb); clear HB; have HB := n1_; clear n1_; have n1_ := Aside0.mk (show IsS72 w _ go o.f0 o.f1 o.f2 from ⟨blk_below HI.out.1 hb, HI.out.2⟩); clear HI; have HI := n1_; clear n1_; have hc0 : w17.cell? ⟨g17, 0, none⟩ = some (.string ByteArray.empty) := (blk_cell BK.out 0).trans rfl; have hf0 := blk_frozen BK.out 0; have hc1 : w17.cell? ⟨g17, 1, none⟩ = some (.int .i64 0) := (blk_cell BK.out 1).trans rfl; have hf1 := blk_frozen BK.out 1; have hc2 : w17.cell? ⟨g17, 2, none⟩ = some (.string ByteArray.empty) := (blk_cell BK.out 2).trans rfl; have hf2 := blk_frozen BK.out 2; clear hbox hb hg))
        have m0_ : (w17.setCell ⟨g17, 0, none⟩ (.string ⟨#[100]⟩)).heap[g17]? = some (.cells #[.string ⟨#[100]⟩, .int .i64 0, .string ByteArray.empty] 30 (0, 0)) := blk_put BK.out 0 _ rfl
        have m1_ : ((w17.setCell ⟨g17, 0, none⟩ (.string ⟨#[100]⟩)).setCell ⟨g17, 1, none⟩ (.int .i64 v)).heap[g17]? = some (.cells #[.string ⟨#[100]⟩, .int .i64 v, .string ByteArray.empty] 30 (0, 0)) := blk_put m0_ 1 _ rfl
        have m2_ : (((w17.setCell ⟨g17, 0, none⟩ (.string ⟨#[100]⟩)).setCell ⟨g17, 1, none⟩ (.int .i64 v)).setCell ⟨g17, 2, none⟩ (.string T')).heap[g17]? = some (.cells #[.string ⟨#[100]⟩, .int .i64 v, .string T'] 30 (0, 0)) := blk_put m1_ 2 _ rfl
        have n1_ := Aside0.mk (((HR.out.set BK.out (by decide) 0 (.string ⟨#[100]⟩)).set m0_ (by decide) 1 (.int .i64 v)).set m1_ (by decide) 2 (.string T'))
        have n3_ : Aside0 (Below w.heap.size w (((w17.setCell ⟨g17, 0, none⟩ (.string ⟨#[100]⟩)).setCell ⟨g17, 1, none⟩ (.int .i64 v)).setCell ⟨g17, 2, none⟩ (.string T'))) := Aside0.mk (below_set (below_set (below_set HB.out GE.out) GE.out) GE.out)
        have n4_ := Aside0.mk m2_
        have n5_ := Aside0.mk (show IsS72 w (((w17.setCell ⟨g17, 0, none⟩ (.string ⟨#[100]⟩)).setCell ⟨g17, 1, none⟩ (.int .i64 v)).setCell ⟨g17, 2, none⟩ (.string T')) go o.f0 o.f1 o.f2 from ⟨((Below.heap_setCell ((w17.setCell ⟨g17, 0, none⟩ (.string ⟨#[100]⟩)).setCell ⟨g17, 1, none⟩ (.int .i64 v)) ⟨g17, 2, none⟩ (.string T') go (ne_types HI.out.1 BK.out (by decide))).trans ((Below.heap_setCell (w17.setCell ⟨g17, 0, none⟩ (.string ⟨#[100]⟩)) ⟨g17, 1, none⟩ (.int .i64 v) go (ne_types HI.out.1 BK.out (by decide))).trans ((Below.heap_setCell w17 ⟨g17, 0, none⟩ (.string ⟨#[100]⟩) go (ne_types HI.out.1 BK.out (by decide))).trans HI.out.1))), HI.out.2⟩)
        clear HR HB BK HI m0_ hc0 hf0 m1_ hc1 hf1 m2_ hc2 hf2
        generalize (((w17.setCell ⟨g17, 0, none⟩ (.string ⟨#[100]⟩)).setCell ⟨g17, 1, none⟩ (.int .i64 v)).setCell ⟨g17, 2, none⟩ (.string T')) = wS at n1_ n3_ n4_ n5_ ⊢
        have HR := n1_
        have HB := n3_
        have BK := n4_
        have HI := n5_
        clear n1_ n3_ n4_ n5_
        have e0 : wS.cell? ⟨g17, 0, none⟩ = some (.string ⟨#[100]⟩) := (blk_cell BK.out 0).trans rfl
        have e1 : wS.cell? ⟨g17, 1, none⟩ = some (.int .i64 v) := (blk_cell BK.out 1).trans rfl
        have e2 : wS.cell? ⟨g17, 2, none⟩ = some (.string T') := (blk_cell BK.out 2).trans rfl
        clear HI BK GE
        go_upto_region 19 with ((go_at_call 9; refine (newReplica9 ⟨#[100]⟩ v T' wS).mono ?_; rintro e_ w9 ⟨gn, rfl, h1, hb⟩; have n1_ := Aside0.mk (HR.out.below hb); have n2_ := Aside0.mk (show IsS72 w w9 gn ⟨#[100]⟩ v T' from ⟨h1.1, Nat.le_trans HB.out.size h1.2⟩); have n3_ := Aside0.mk (below_step HB.out hb); clear HR HB h1 hb; have HR := n1_; have HB := n3_; have HN := n2_; clear n1_ n2_ n3_))
        clear e0 e1 e2 HRUN
        obtain ⟨o3, ho3⟩ : ∃ o3, o3 = (⟨⟨#[100]⟩, v, T'⟩ : S30) := ⟨_, rfl⟩
        obtain ⟨n3, hn3⟩ : ∃ n3, n3 = hist.length := ⟨_, rfl⟩
        have HRUN := Aside0.mk (show o3.f0 = ⟨#[100]⟩ ∧ Runs o3 (hist.drop n3) ⟨⟨#[100]⟩, v, T'⟩ ∧ n3 ≤ hist.length ∧ o3.f1 = 3 + (n3 : Int) from ⟨by rw [ho3], by rw [hn3, List.drop_length, ho3]; rfl, by omega, by rw [ho3, hn3]; exact EV.out.1⟩)
        have HI := Aside0.mk (show IsS72 w w9 gn o3.f0 o3.f1 o3.f2 from by rw [ho3]; exact HN.out)
        clear HN ho3 hn3
        go_upto_region 20 with (first
          | (go_at_call 15; refine (document15 HR.out).mono ?_; rintro e_ w15 ⟨rfl, hb⟩; have n1_ := Aside0.mk (HR.out.below hb); have n2_ := Aside0.mk (show IsS72 w _ gn o3.f0 o3.f1 o3.f2 from ⟨blk_below HI.out.1 hb, HI.out.2⟩); have n3_ := Aside0.mk (below_step HB.out hb); clear HR HI HB hb; have HR := n1_; have HI := n2_; have HB := n3_; clear n1_ n2_ n3_)
          | ((with_reducible refine gate_dst (N := 19) rfl ?_); refine box_event ?hg (N := 19) ?hd (cs := #[.string ByteArray.empty, .int .i64 0, .string ByteArray.empty]) (t := 30) ?hr ?_; (case hd => rfl); (case hg => rfl); (case hr => first | (go_simp; done) | (go_simp; rfl)); intro g19 hg w19 hbox hb; have BK := Aside0.mk hbox; have GE := Aside0.mk (show w.heap.size ≤ g19 from by rw [hg]; exact HB.out.size); have n1_ := Aside0.mk (HR.out.below hb); clear HR; have HR := n1_; clear n1_; have n1_ := Aside0.mk (below_step HB.out hb); clear HB; have HB := n1_; clear n1_; have n1_ := Aside0.mk (show IsS72 w _ gn o3.f0 o3.f1 o3.f2 from ⟨blk_below HI.out.1 hb, HI.out.2⟩); clear HI; have HI := n1_; clear n1_; have hc0 : w19.cell? ⟨g19, 0, none⟩ = some (.string ByteArray.empty) := (blk_cell BK.out 0).trans rfl; have hf0 := blk_frozen BK.out 0; have hc1 : w19.cell? ⟨g19, 1, none⟩ = some (.int .i64 0) := (blk_cell BK.out 1).trans rfl; have hf1 := blk_frozen BK.out 1; have hc2 : w19.cell? ⟨g19, 2, none⟩ = some (.string ByteArray.empty) := (blk_cell BK.out 2).trans rfl; have hf2 := blk_frozen BK.out 2; clear hbox hb hg))
        have m0_ : (w19.setCell ⟨g19, 0, none⟩ (.string ⟨#[100]⟩)).heap[g19]? = some (.cells #[.string ⟨#[100]⟩, .int .i64 0, .string ByteArray.empty] 30 (0, 0)) := blk_put BK.out 0 _ rfl
        have m1_ : ((w19.setCell ⟨g19, 0, none⟩ (.string ⟨#[100]⟩)).setCell ⟨g19, 1, none⟩ (.int .i64 v)).heap[g19]? = some (.cells #[.string ⟨#[100]⟩, .int .i64 v, .string ByteArray.empty] 30 (0, 0)) := blk_put m0_ 1 _ rfl
        have m2_ : (((w19.setCell ⟨g19, 0, none⟩ (.string ⟨#[100]⟩)).setCell ⟨g19, 1, none⟩ (.int .i64 v)).setCell ⟨g19, 2, none⟩ (.string T')).heap[g19]? = some (.cells #[.string ⟨#[100]⟩, .int .i64 v, .string T'] 30 (0, 0)) := blk_put m1_ 2 _ rfl
        have n1_ := Aside0.mk (((HR.out.set BK.out (by decide) 0 (.string ⟨#[100]⟩)).set m0_ (by decide) 1 (.int .i64 v)).set m1_ (by decide) 2 (.string T'))
        have n3_ : Aside0 (Below w.heap.size w (((w19.setCell ⟨g19, 0, none⟩ (.string ⟨#[100]⟩)).setCell ⟨g19, 1, none⟩ (.int .i64 v)).setCell ⟨g19, 2, none⟩ (.string T'))) := Aside0.mk (below_set (below_set (below_set HB.out GE.out) GE.out) GE.out)
        have n4_ := Aside0.mk m2_
        have n5_ := Aside0.mk (show IsS72 w (((w19.setCell ⟨g19, 0, none⟩ (.string ⟨#[100]⟩)).setCell ⟨g19, 1, none⟩ (.int .i64 v)).setCell ⟨g19, 2, none⟩ (.string T')) gn o3.f0 o3.f1 o3.f2 from ⟨((Below.heap_setCell ((w19.setCell ⟨g19, 0, none⟩ (.string ⟨#[100]⟩)).setCell ⟨g19, 1, none⟩ (.int .i64 v)) ⟨g19, 2, none⟩ (.string T') gn (ne_types HI.out.1 BK.out (by decide))).trans ((Below.heap_setCell (w19.setCell ⟨g19, 0, none⟩ (.string ⟨#[100]⟩)) ⟨g19, 1, none⟩ (.int .i64 v) gn (ne_types HI.out.1 BK.out (by decide))).trans ((Below.heap_setCell w19 ⟨g19, 0, none⟩ (.string ⟨#[100]⟩) gn (ne_types HI.out.1 BK.out (by decide))).trans HI.out.1))), HI.out.2⟩)
        clear HR HB BK HI m0_ hc0 hf0 m1_ hc1 hf1 m2_ hc2 hf2
        generalize (((w19.setCell ⟨g19, 0, none⟩ (.string ⟨#[100]⟩)).setCell ⟨g19, 1, none⟩ (.int .i64 v)).setCell ⟨g19, 2, none⟩ (.string T')) = wA at n1_ n3_ n4_ n5_ ⊢
        have HR := n1_
        have HB := n3_
        have BK := n4_
        have HI := n5_
        clear n1_ n3_ n4_ n5_
        by_cases he : edits.length = 0
        · have d3 : ((edits.length : Int) == 0) = true := by rw [he]; rfl
          clear he
          go_wp2
          go_roundg k1
          case measure => have := E1.out; omega
          case rel => exact ⟨i + 1, by rw [w64_ (by have := EV.out; omega) (by have := EV.out; omega)]; rfl, ⟨by have := E1.out; omega, _, _, _, _, _, hist, gn, n3, o3, rfl, HR.out, HI.out, HRUN.out.1, HRUN.out.2.1, HRUN.out.2.2.1, HRUN.out.2.2.2, EV.out.1, by have h_ := EV.out; omega, HLS.out⟩, HB⟩
        · have d3 : ((edits.length : Int) == 0) = false := beq_eq_false_iff_ne.2 (by omega)
          obtain ⟨p, hmp, hpl⟩ := mod_is ye.f1 edits.length (by omega) HLE.out
          obtain ⟨p2, hmp2, hpl2⟩ := mod_is ye.f2 edits.length (by omega) HLE.out
          have HMp := Aside0.mk hmp
          have HMp2 := Aside0.mk hmp2
          obtain ⟨ad2, Al, cl, eA2, hce, hll, hlc⟩ := edit_at HR2.out p hpl
          obtain ⟨ad2', Al2, cl2, eA2', hce2, hll2, hlc2⟩ := edit_at HR2.out p2 hpl2
          rw [eA2] at eA2'
          injection eA2' with eA2'
          subst eA2'
          subst eA2
          obtain ⟨l, hl⟩ : ∃ l, l = edits.getD p [] := ⟨_, rfl⟩
          obtain ⟨l2, hl2⟩ : ∃ l2, l2 = edits.getD p2 [] := ⟨_, rfl⟩
          rw [← hl] at hce hll hlc
          rw [← hl2] at hce2
          have HOE := Aside0.mk (show okE l from HO.out l (by rw [hl, List.getD_eq_getElem?_getD, List.getElem?_eq_getElem hpl]; exact List.getElem_mem _))
          have HCE := Aside0.mk hce
          have HCE2 := Aside0.mk hce2
          have HLL := Aside0.mk hll
          have HLC := Aside0.mk hlc
          have k3 : (0 ≤ (p : Int)) = True := eq_true (by omega)
          have k4 : (p < edits.length) = True := eq_true hpl
          have k5 : ((p : Int) < (edits.length : Int)) = True := eq_true (by omega)
          have k3' : (0 ≤ (p2 : Int)) = True := eq_true (by omega)
          have k4' : (p2 < edits.length) = True := eq_true hpl2
          have k5' : ((p2 : Int) < (edits.length : Int)) = True := eq_true (by omega)
          obtain ⟨r1, r2, r3, r4, hA, hOK⟩ := apply_total ⟨#[100]⟩ v T' l HOE.out (by have h_ := EV.out; omega) (by have h_ := EV.out; omega)
          clear he hmp hmp2 hpl hpl2 hl hl2 hce hce2 hll hll2 hlc hlc2
          by_cases h4 : r4 = 0
          · subst h4
            obtain ⟨rfl, rfl, hl50⟩ := hOK rfl
            have HA := Aside0.mk hA
            have HL50 := Aside0.mk hl50
            clear hA hl50 hOK
            go_wp2_with fail
            refine start_ (n := 20) (S := fun w' => w'.cell? ⟨g19, 1, none⟩ = some (.int .i64 v) ∧ w'.cell? ⟨(adS.add (i * 3)).block, (adS.add (i * 3)).off + 1, none⟩ = some (.int .i64 ye.f1) ∧ w'.cell? (ad2.add p) = some (.slice Al l.length cl)) (ds := []) #[false, false, false, false, false, false, false, false, false, false, false, false, false, false, false, false, false, false, false, false] (by kernel_rfl) rfl rfl ⟨(blk_cell (blk_drew BK.out) 1).trans rfl, ((below_drew HB.out).cell (World.block_lt_of_cell? w _ HSC1.out)).trans HSC1.out, ((below_drew HB.out).cell (World.block_lt_of_cell? w _ HCE.out)).trans HCE.out⟩ (fun hHeld => ?_)
            have hb := below_drew1 (Below.refl wA.heap.size wA)
            have n0_ := Aside0.mk (HR.out.below hb)
            have n1_ := Aside0.mk (show IsS72 w _ gn o3.f0 o3.f1 o3.f2 from ⟨blk_below HI.out.1 hb, HI.out.2⟩)
            have n2_ := Aside0.mk (blk_below BK.out hb)
            have n3_ := Aside0.mk (below_step HB.out hb)
            clear HR HI BK HB
            have HR := n0_
            have HI := n1_
            have BK := n2_
            have HB := n3_
            clear n0_ n1_ n2_ n3_
            clear hb
            generalize wA.drew = w3' at HR HI HB BK hHeld ⊢
            refine pure_ (i := 0) (N := some 114) (v := ?_) (a' := ?_) #[true, false, false, false, false, false, false, false, false, false, false, false, false, false, false, false, false, false, false, false] rfl rfl (by kernel_rfl) (fun _ _ _ h => h) (Or.inl ⟨by rfl, ?_⟩) ?_ ?_
            rotate_left
            · intro w'
              go_simp
              with_reducible rfl
            rotate_left
            · simp only [Act.put, List.setIfInBounds_toArray, List.set_cons_zero, List.set_cons_succ, i64_w, i32_w]
              rfl
            refine pure_ (i := 1) (N := some 115) (v := ?_) (a' := ?_) #[true, true, false, false, false, false, false, false, false, false, false, false, false, false, false, false, false, false, false, false] rfl rfl (by kernel_rfl) (fun _ _ _ h => h) (Or.inl ⟨by rfl, ?_⟩) ?_ ?_
            rotate_left
            · intro w'
              go_simp
              with_reducible rfl
            rotate_left
            · simp only [Act.put, List.setIfInBounds_toArray, List.set_cons_zero, List.set_cons_succ, i64_w, i32_w]
              rfl
            refine take_ (i := 2) (N := some 116) (v := ?_) (a' := ?_) #[true, true, true, false, false, false, false, false, false, false, false, false, false, false, false, false, false, false, false, false] rfl rfl (by kernel_rfl) (fun _ _ _ h => h) (Or.inl ⟨by rfl, ?_⟩) hHeld ?_ ?_
            rotate_left
            · rintro w' ⟨s0, s1, s2⟩
              go_simp
              with_reducible rfl
            rotate_left
            · simp only [Act.put, List.setIfInBounds_toArray, List.set_cons_zero, List.set_cons_succ, i64_w, i32_w]
              rfl
            refine pure_ (i := 3) (N := some 117) (v := ?_) (a' := ?_) #[true, true, true, true, false, false, false, false, false, false, false, false, false, false, false, false, false, false, false, false] rfl rfl (by kernel_rfl) (fun _ _ _ h => h) (Or.inl ⟨by rfl, ?_⟩) ?_ ?_
            rotate_left
            · intro w'
              go_simp
              with_reducible rfl
            rotate_left
            · simp only [Act.put, List.setIfInBounds_toArray, List.set_cons_zero, List.set_cons_succ, i64_w, i32_w]
              rfl
            refine pure_ (i := 4) (N := some 118) (v := ?_) (a' := ?_) #[true, true, true, true, true, false, false, false, false, false, false, false, false, false, false, false, false, false, false, false] rfl rfl (by kernel_rfl) (fun _ _ _ h => h) (Or.inl ⟨by rfl, ?_⟩) ?_ ?_
            rotate_left
            · intro w'
              go_simp
              with_reducible rfl
            rotate_left
            · simp only [Act.put, List.setIfInBounds_toArray, List.set_cons_zero, List.set_cons_succ, i64_w, i32_w]
              rfl
            refine pure_ (i := 5) (N := some 119) (v := ?_) (a' := ?_) #[true, true, true, true, true, true, false, false, false, false, false, false, false, false, false, false, false, false, false, false] rfl rfl (by kernel_rfl) (fun _ _ _ h => h) (Or.inl ⟨by rfl, ?_⟩) ?_ ?_
            rotate_left
            · intro w'
              go_simp
              with_reducible rfl
            rotate_left
            · simp only [Act.put, List.setIfInBounds_toArray, List.set_cons_zero, List.set_cons_succ, i64_w, i32_w]
              rfl
            refine pure_ (i := 6) (N := some 120) (v := ?_) (a' := ?_) #[true, true, true, true, true, true, true, false, false, false, false, false, false, false, false, false, false, false, false, false] rfl rfl (by kernel_rfl) (fun _ _ _ h => h) (Or.inl ⟨by rfl, ?_⟩) ?_ ?_
            rotate_left
            · intro w'
              go_simp
              with_reducible rfl
            rotate_left
            · simp only [Act.put, List.setIfInBounds_toArray, List.set_cons_zero, List.set_cons_succ, i64_w, i32_w]
              rfl
            refine pure_ (i := 7) (N := some 121) (v := ?_) (a' := ?_) #[true, true, true, true, true, true, true, true, false, false, false, false, false, false, false, false, false, false, false, false] rfl rfl (by kernel_rfl) (fun _ _ _ h => h) (Or.inl ⟨by rfl, ?_⟩) ?_ ?_
            rotate_left
            · intro w'
              go_simp
              with_reducible rfl
            rotate_left
            · simp only [Act.put, List.setIfInBounds_toArray, List.set_cons_zero, List.set_cons_succ, i64_w, i32_w]
              rfl
            refine take_ (i := 8) (N := some 122) (v := ?_) (a' := ?_) #[true, true, true, true, true, true, true, true, true, false, false, false, false, false, false, false, false, false, false, false] rfl rfl (by kernel_rfl) (fun _ _ _ h => h) (Or.inl ⟨by rfl, ?_⟩) hHeld ?_ ?_
            rotate_left
            · rintro w' ⟨s0, s1, s2⟩
              go_simp
              with_reducible rfl
            rotate_left
            · simp only [Act.put, List.setIfInBounds_toArray, List.set_cons_zero, List.set_cons_succ, i64_w, i32_w]
              rfl
            refine pure_ (i := 9) (N := some 123) (v := ?_) (a' := ?_) #[true, true, true, true, true, true, true, true, true, true, false, false, false, false, false, false, false, false, false, false] rfl rfl (by kernel_rfl) (fun _ _ _ h => h) (Or.inl ⟨by rfl, ?_⟩) ?_ ?_
            rotate_left
            · intro w'
              go_simp
              with_reducible rfl
            rotate_left
            · simp only [Act.put, List.setIfInBounds_toArray, List.set_cons_zero, List.set_cons_succ, i64_w, i32_w]
              rfl
            refine pure_ (i := 10) (N := some 124) (v := ?_) (a' := ?_) #[true, true, true, true, true, true, true, true, true, true, true, false, false, false, false, false, false, false, false, false] rfl rfl (by kernel_rfl) (fun _ _ _ h => h) (Or.inl ⟨by rfl, ?_⟩) ?_ ?_
            rotate_left
            · intro w'
              go_simp
              with_reducible rfl
            rotate_left
            · simp only [Act.put, List.setIfInBounds_toArray, List.set_cons_zero, List.set_cons_succ, i64_w, i32_w]
              rfl
            refine one_ (i := 11) (N := some 125) #[true, true, true, true, true, true, true, true, true, true, true, true, false, false, false, false, false, false, false, false] rfl rfl (by kernel_rfl) (by decide) (fun K hK => ?_)
            refine goes_ Try.func10 (by kernel_rfl) rfl #[.int .i64 ye.f1, .int .i64 (edits.length : Int)] (by rfl) rfl rfl (by (try simp only [List.map_toArray, List.map_cons, List.map_nil]); first | done | rfl) ?_
            refine (glossatorref3_Mod.calls ye.f1 (edits.length : Int) (p : Int) _ HMp.out).mono ?_
            rintro e_ wm ⟨rfl, hd_⟩
            refine ⟨_, rfl, ?_⟩
            have hb := hd_.below
            have n0_ := Aside0.mk (HR.out.below hb)
            have n1_ := Aside0.mk (show IsS72 w _ gn o3.f0 o3.f1 o3.f2 from ⟨blk_below HI.out.1 hb, HI.out.2⟩)
            have n2_ := Aside0.mk (blk_below BK.out hb)
            have n3_ := Aside0.mk (below_step HB.out hb)
            clear HR HI BK HB
            have HR := n0_
            have HI := n1_
            have BK := n2_
            have HB := n3_
            clear n0_ n1_ n2_ n3_
            clear hb hd_
            refine hK.out _ _ ⟨(blk_cell BK.out 1).trans rfl, (HB.out.cell (World.block_lt_of_cell? w _ HSC1.out)).trans HSC1.out, (HB.out.cell (World.block_lt_of_cell? w _ HCE.out)).trans HCE.out⟩ (fun hHeld => ?_)
            clear hK K
            refine norm_ (a' := ?_) ?_ ?_
            rotate_left
            · show Act.put _ (some 125) _ = _
              simp only [Act.put, List.setIfInBounds_toArray, List.set_cons_zero, List.set_cons_succ, i64_w, i32_w]
              rfl
            refine pure_ (i := 12) (N := some 126) (v := ?_) (a' := ?_) #[true, true, true, true, true, true, true, true, true, true, true, true, true, false, false, false, false, false, false, false] rfl rfl (by kernel_rfl) (fun _ _ _ h => h) (Or.inl ⟨by rfl, ?_⟩) ?_ ?_
            rotate_left
            · intro w'
              go_simp
              with_reducible rfl
            rotate_left
            · simp only [Act.put, List.setIfInBounds_toArray, List.set_cons_zero, List.set_cons_succ, i64_w, i32_w]
              rfl
            refine take_ (i := 13) (N := some 127) (v := ?_) (a' := ?_) #[true, true, true, true, true, true, true, true, true, true, true, true, true, true, false, false, false, false, false, false] rfl rfl (by kernel_rfl) (fun _ _ _ h => h) (Or.inl ⟨by rfl, ?_⟩) hHeld ?_ ?_
            rotate_left
            · rintro w' ⟨s0, s1, s2⟩
              go_simp
              with_reducible rfl
            rotate_left
            · simp only [Act.put, List.setIfInBounds_toArray, List.set_cons_zero, List.set_cons_succ, i64_w, i32_w]
              rfl
            refine one_ (i := 14) (N := some 128) #[true, true, true, true, true, true, true, true, true, true, true, true, true, true, true, false, false, false, false, false] rfl rfl (by kernel_rfl) (by decide) (fun K hK => ?_)
            refine goes_ Try.func12 (by kernel_rfl) rfl #[.pointer (some ⟨gr, 0, none⟩), .int .i64 0, .string ⟨#[100]⟩, .int .i64 v, .slice Al l.length cl] (by rfl) rfl rfl (by (try simp only [List.map_toArray, List.map_cons, List.map_nil]); first | done | rfl) ?_
            refine (edit_ok w 0 (by decide) (by decide) (by decide) (by decide) Al cl l ⟨#[100]⟩ (v + 1) r3 HR.out HB.out (fun W_ hk => C56_heap HLC.out (old_keep HB.out hk HR.out.oge (fun b hb => Kd.S_base HR.out.his b hb))) HLL.out (by have h_ := HL50.out; omega) (by have h_ := EV.out; omega) HA.out).mono ?_
            rintro e_ wm2 ⟨vU, vH', rfl, h1, h2, h3, h4⟩
            refine ⟨_, rfl, ?_⟩
            obtain ⟨AU, nU, cU, rfl⟩ : ∃ A n c, vU = .slice A n c := by obtain ⟨A, c, e⟩ := Kd.S_slice h2; exact ⟨A, _, c, e⟩
            have hk := HR.out.keepT h4
            have n0_ := Aside0.mk (show IsS72 w _ gn o3.f0 o3.f1 o3.f2 from ⟨(hk _ _ 72 (by decide) (by decide) (by decide) (by decide) (by decide) HI.out.1), HI.out.2⟩)
            have n1_ := Aside0.mk ((hk _ _ 30 (by decide) (by decide) (by decide) (by decide) (by decide) BK.out))
            have n2_ := Aside0.mk (h1)
            have n3_ := Aside0.mk (h3)
            clear HI BK HR HB
            have HI := n0_
            have BK := n1_
            have HR := n2_
            have HB := n3_
            clear n0_ n1_ n2_ n3_
            clear h1 h2 h3 h4 hk
            refine hK.out _ _ ⟨(blk_cell BK.out 1).trans rfl, (HB.out.cell (World.block_lt_of_cell? w _ HSC1.out)).trans HSC1.out, (HB.out.cell (World.block_lt_of_cell? w _ HCE.out)).trans HCE.out⟩ (fun hHeld => ?_)
            clear hK K
            refine norm_ (a' := ?_) ?_ ?_
            rotate_left
            · show Act.put _ (some 128) _ = _
              simp only [Act.put, List.setIfInBounds_toArray, List.set_cons_zero, List.set_cons_succ, i64_w, i32_w]
              rfl
            refine pure_ (i := 15) (N := some 113) (v := ?_) (a' := ?_) #[true, true, true, true, true, true, true, true, true, true, true, true, true, true, true, true, false, false, false, false] rfl rfl (by kernel_rfl) (fun _ _ _ h => h) (Or.inl ⟨by rfl, ?_⟩) ?_ ?_
            rotate_left
            · intro w'
              go_simp
              with_reducible rfl
            rotate_left
            · simp only [Act.put, List.setIfInBounds_toArray, List.set_cons_zero, List.set_cons_succ, i64_w, i32_w]
              rfl
            refine pure_ (i := 16) (N := some 129) (v := ?_) (a' := ?_) #[true, true, true, true, true, true, true, true, true, true, true, true, true, true, true, true, true, false, false, false] rfl rfl (by kernel_rfl) (fun _ _ _ h => h) (Or.inl ⟨by rfl, ?_⟩) ?_ ?_
            rotate_left
            · intro w'
              go_simp
              with_reducible rfl
            rotate_left
            · simp only [Act.put, List.setIfInBounds_toArray, List.set_cons_zero, List.set_cons_succ, i64_w, i32_w]
              rfl
            refine pure_ (i := 17) (N := some 130) (v := ?_) (a' := ?_) #[true, true, true, true, true, true, true, true, true, true, true, true, true, true, true, true, true, true, false, false] rfl rfl (by kernel_rfl) (fun _ _ _ h => h) (Or.inl ⟨by rfl, ?_⟩) ?_ ?_
            rotate_left
            · intro w'
              go_simp
              with_reducible rfl
            rotate_left
            · simp only [Act.put, List.setIfInBounds_toArray, List.set_cons_zero, List.set_cons_succ, i64_w, i32_w]
              rfl
            refine pure_ (i := 18) (N := some 21) (v := ?_) (a' := ?_) #[true, true, true, true, true, true, true, true, true, true, true, true, true, true, true, true, true, true, true, false] rfl rfl (by kernel_rfl) (fun _ _ _ h => h) (Or.inl ⟨by rfl, ?_⟩) ?_ ?_
            rotate_left
            · intro w'
              go_simp
              with_reducible rfl
            rotate_left
            · simp only [Act.put, List.setIfInBounds_toArray, List.set_cons_zero, List.set_cons_succ, i64_w, i32_w]
              rfl
            refine pure_ (i := 19) (N := some 22) (v := ?_) (a' := ?_) #[true, true, true, true, true, true, true, true, true, true, true, true, true, true, true, true, true, true, true, true] rfl rfl (by kernel_rfl) (fun _ _ _ h => h) (Or.inl ⟨by rfl, ?_⟩) ?_ ?_
            rotate_left
            · intro w'
              go_simp
              with_reducible rfl
            rotate_left
            · simp only [Act.put, List.setIfInBounds_toArray, List.set_cons_zero, List.set_cons_succ, i64_w, i32_w]
              rfl
            refine done_ (by kernel_rfl) ?_
            try clear hHeld
            generalize wm2 = wB at HR HI HB BK ⊢
            go_wp2_with fail
            refine start_ (n := 20) (S := fun w' => w'.cell? ⟨g19, 1, none⟩ = some (.int .i64 v) ∧ w'.cell? ⟨(adS.add (i * 3)).block, (adS.add (i * 3)).off + 2, none⟩ = some (.int .i64 ye.f2) ∧ w'.cell? (ad2.add p2) = some (.slice Al2 l2.length cl2)) (ds := []) #[false, false, false, false, false, false, false, false, false, false, false, false, false, false, false, false, false, false, false, false] (by kernel_rfl) rfl rfl ⟨(blk_cell (blk_drew BK.out) 1).trans rfl, ((below_drew HB.out).cell (World.block_lt_of_cell? w _ HSC2.out)).trans HSC2.out, ((below_drew HB.out).cell (World.block_lt_of_cell? w _ HCE2.out)).trans HCE2.out⟩ (fun hHeld => ?_)
            have hb := below_drew1 (Below.refl wB.heap.size wB)
            have n0_ := Aside0.mk (HR.out.below hb)
            have n1_ := Aside0.mk (show IsS72 w _ gn o3.f0 o3.f1 o3.f2 from ⟨blk_below HI.out.1 hb, HI.out.2⟩)
            have n2_ := Aside0.mk (blk_below BK.out hb)
            have n3_ := Aside0.mk (below_step HB.out hb)
            clear HR HI BK HB
            have HR := n0_
            have HI := n1_
            have BK := n2_
            have HB := n3_
            clear n0_ n1_ n2_ n3_
            clear hb
            generalize wB.drew = w3' at HR HI HB BK hHeld ⊢
            refine pure_ (i := 0) (N := some 134) (v := ?_) (a' := ?_) #[true, false, false, false, false, false, false, false, false, false, false, false, false, false, false, false, false, false, false, false] rfl rfl (by kernel_rfl) (fun _ _ _ h => h) (Or.inl ⟨by rfl, ?_⟩) ?_ ?_
            rotate_left
            · intro w'
              go_simp
              with_reducible rfl
            rotate_left
            · simp only [Act.put, List.setIfInBounds_toArray, List.set_cons_zero, List.set_cons_succ, i64_w, i32_w]
              rfl
            refine pure_ (i := 1) (N := some 135) (v := ?_) (a' := ?_) #[true, true, false, false, false, false, false, false, false, false, false, false, false, false, false, false, false, false, false, false] rfl rfl (by kernel_rfl) (fun _ _ _ h => h) (Or.inl ⟨by rfl, ?_⟩) ?_ ?_
            rotate_left
            · intro w'
              go_simp
              with_reducible rfl
            rotate_left
            · simp only [Act.put, List.setIfInBounds_toArray, List.set_cons_zero, List.set_cons_succ, i64_w, i32_w]
              rfl
            refine take_ (i := 2) (N := some 136) (v := ?_) (a' := ?_) #[true, true, true, false, false, false, false, false, false, false, false, false, false, false, false, false, false, false, false, false] rfl rfl (by kernel_rfl) (fun _ _ _ h => h) (Or.inl ⟨by rfl, ?_⟩) hHeld ?_ ?_
            rotate_left
            · rintro w' ⟨s0, s1, s2⟩
              go_simp
              with_reducible rfl
            rotate_left
            · simp only [Act.put, List.setIfInBounds_toArray, List.set_cons_zero, List.set_cons_succ, i64_w, i32_w]
              rfl
            refine pure_ (i := 3) (N := some 137) (v := ?_) (a' := ?_) #[true, true, true, true, false, false, false, false, false, false, false, false, false, false, false, false, false, false, false, false] rfl rfl (by kernel_rfl) (fun _ _ _ h => h) (Or.inl ⟨by rfl, ?_⟩) ?_ ?_
            rotate_left
            · intro w'
              go_simp
              with_reducible rfl
            rotate_left
            · simp only [Act.put, List.setIfInBounds_toArray, List.set_cons_zero, List.set_cons_succ, i64_w, i32_w]
              rfl
            refine pure_ (i := 4) (N := some 138) (v := ?_) (a' := ?_) #[true, true, true, true, true, false, false, false, false, false, false, false, false, false, false, false, false, false, false, false] rfl rfl (by kernel_rfl) (fun _ _ _ h => h) (Or.inl ⟨by rfl, ?_⟩) ?_ ?_
            rotate_left
            · intro w'
              go_simp
              with_reducible rfl
            rotate_left
            · simp only [Act.put, List.setIfInBounds_toArray, List.set_cons_zero, List.set_cons_succ, i64_w, i32_w]
              rfl
            refine pure_ (i := 5) (N := some 139) (v := ?_) (a' := ?_) #[true, true, true, true, true, true, false, false, false, false, false, false, false, false, false, false, false, false, false, false] rfl rfl (by kernel_rfl) (fun _ _ _ h => h) (Or.inl ⟨by rfl, ?_⟩) ?_ ?_
            rotate_left
            · intro w'
              go_simp
              with_reducible rfl
            rotate_left
            · simp only [Act.put, List.setIfInBounds_toArray, List.set_cons_zero, List.set_cons_succ, i64_w, i32_w]
              rfl
            refine pure_ (i := 6) (N := some 140) (v := ?_) (a' := ?_) #[true, true, true, true, true, true, true, false, false, false, false, false, false, false, false, false, false, false, false, false] rfl rfl (by kernel_rfl) (fun _ _ _ h => h) (Or.inl ⟨by rfl, ?_⟩) ?_ ?_
            rotate_left
            · intro w'
              go_simp
              with_reducible rfl
            rotate_left
            · simp only [Act.put, List.setIfInBounds_toArray, List.set_cons_zero, List.set_cons_succ, i64_w, i32_w]
              rfl
            refine pure_ (i := 7) (N := some 141) (v := ?_) (a' := ?_) #[true, true, true, true, true, true, true, true, false, false, false, false, false, false, false, false, false, false, false, false] rfl rfl (by kernel_rfl) (fun _ _ _ h => h) (Or.inl ⟨by rfl, ?_⟩) ?_ ?_
            rotate_left
            · intro w'
              go_simp
              with_reducible rfl
            rotate_left
            · simp only [Act.put, List.setIfInBounds_toArray, List.set_cons_zero, List.set_cons_succ, i64_w, i32_w]
              rfl
            refine take_ (i := 8) (N := some 142) (v := ?_) (a' := ?_) #[true, true, true, true, true, true, true, true, true, false, false, false, false, false, false, false, false, false, false, false] rfl rfl (by kernel_rfl) (fun _ _ _ h => h) (Or.inl ⟨by rfl, ?_⟩) hHeld ?_ ?_
            rotate_left
            · rintro w' ⟨s0, s1, s2⟩
              go_simp
              with_reducible rfl
            rotate_left
            · simp only [Act.put, List.setIfInBounds_toArray, List.set_cons_zero, List.set_cons_succ, i64_w, i32_w]
              rfl
            refine pure_ (i := 9) (N := some 143) (v := ?_) (a' := ?_) #[true, true, true, true, true, true, true, true, true, true, false, false, false, false, false, false, false, false, false, false] rfl rfl (by kernel_rfl) (fun _ _ _ h => h) (Or.inl ⟨by rfl, ?_⟩) ?_ ?_
            rotate_left
            · intro w'
              go_simp
              with_reducible rfl
            rotate_left
            · simp only [Act.put, List.setIfInBounds_toArray, List.set_cons_zero, List.set_cons_succ, i64_w, i32_w]
              rfl
            refine pure_ (i := 10) (N := some 144) (v := ?_) (a' := ?_) #[true, true, true, true, true, true, true, true, true, true, true, false, false, false, false, false, false, false, false, false] rfl rfl (by kernel_rfl) (fun _ _ _ h => h) (Or.inl ⟨by rfl, ?_⟩) ?_ ?_
            rotate_left
            · intro w'
              go_simp
              with_reducible rfl
            rotate_left
            · simp only [Act.put, List.setIfInBounds_toArray, List.set_cons_zero, List.set_cons_succ, i64_w, i32_w]
              rfl
            refine one_ (i := 11) (N := some 145) #[true, true, true, true, true, true, true, true, true, true, true, true, false, false, false, false, false, false, false, false] rfl rfl (by kernel_rfl) (by decide) (fun K hK => ?_)
            refine goes_ Try.func10 (by kernel_rfl) rfl #[.int .i64 ye.f2, .int .i64 (edits.length : Int)] (by rfl) rfl rfl (by (try simp only [List.map_toArray, List.map_cons, List.map_nil]); first | done | rfl) ?_
            refine (glossatorref3_Mod.calls ye.f2 (edits.length : Int) (p2 : Int) _ HMp2.out).mono ?_
            rintro e_ wm ⟨rfl, hd_⟩
            refine ⟨_, rfl, ?_⟩
            have hb := hd_.below
            have n0_ := Aside0.mk (HR.out.below hb)
            have n1_ := Aside0.mk (show IsS72 w _ gn o3.f0 o3.f1 o3.f2 from ⟨blk_below HI.out.1 hb, HI.out.2⟩)
            have n2_ := Aside0.mk (blk_below BK.out hb)
            have n3_ := Aside0.mk (below_step HB.out hb)
            clear HR HI BK HB
            have HR := n0_
            have HI := n1_
            have BK := n2_
            have HB := n3_
            clear n0_ n1_ n2_ n3_
            clear hb hd_
            refine hK.out _ _ ⟨(blk_cell BK.out 1).trans rfl, (HB.out.cell (World.block_lt_of_cell? w _ HSC2.out)).trans HSC2.out, (HB.out.cell (World.block_lt_of_cell? w _ HCE2.out)).trans HCE2.out⟩ (fun hHeld => ?_)
            clear hK K
            refine norm_ (a' := ?_) ?_ ?_
            rotate_left
            · show Act.put _ (some 145) _ = _
              simp only [Act.put, List.setIfInBounds_toArray, List.set_cons_zero, List.set_cons_succ, i64_w, i32_w]
              rfl
            refine pure_ (i := 12) (N := some 146) (v := ?_) (a' := ?_) #[true, true, true, true, true, true, true, true, true, true, true, true, true, false, false, false, false, false, false, false] rfl rfl (by kernel_rfl) (fun _ _ _ h => h) (Or.inl ⟨by rfl, ?_⟩) ?_ ?_
            rotate_left
            · intro w'
              go_simp
              with_reducible rfl
            rotate_left
            · simp only [Act.put, List.setIfInBounds_toArray, List.set_cons_zero, List.set_cons_succ, i64_w, i32_w]
              rfl
            refine take_ (i := 13) (N := some 147) (v := ?_) (a' := ?_) #[true, true, true, true, true, true, true, true, true, true, true, true, true, true, false, false, false, false, false, false] rfl rfl (by kernel_rfl) (fun _ _ _ h => h) (Or.inl ⟨by rfl, ?_⟩) hHeld ?_ ?_
            rotate_left
            · rintro w' ⟨s0, s1, s2⟩
              go_simp
              with_reducible rfl
            rotate_left
            · simp only [Act.put, List.setIfInBounds_toArray, List.set_cons_zero, List.set_cons_succ, i64_w, i32_w]
              rfl
            refine one_ (i := 14) (N := some 148) #[true, true, true, true, true, true, true, true, true, true, true, true, true, true, true, false, false, false, false, false] rfl rfl (by kernel_rfl) (by decide) (fun K hK => ?_)
            refine goes_ Try.func12 (by kernel_rfl) rfl #[.pointer (some ⟨gr, 0, none⟩), .int .i64 1, .string ⟨#[100]⟩, .int .i64 v, .slice Al2 l2.length cl2] (by rfl) rfl rfl (by (try simp only [List.map_toArray, List.map_cons, List.map_nil]); first | done | rfl) ?_
            refine (edit_stale 1 (by decide) (by decide) (by decide) (by decide) Al2 cl2 l2 v (by omega) HR.out).mono ?_
            rintro e_ wm2 ⟨rfl, hb⟩
            refine ⟨_, rfl, ?_⟩
            have n0_ := Aside0.mk (HR.out.below hb)
            have n1_ := Aside0.mk (show IsS72 w _ gn o3.f0 o3.f1 o3.f2 from ⟨blk_below HI.out.1 hb, HI.out.2⟩)
            have n2_ := Aside0.mk (blk_below BK.out hb)
            have n3_ := Aside0.mk (below_step HB.out hb)
            clear HR HI BK HB
            have HR := n0_
            have HI := n1_
            have BK := n2_
            have HB := n3_
            clear n0_ n1_ n2_ n3_
            clear hb
            refine hK.out _ _ ⟨(blk_cell BK.out 1).trans rfl, (HB.out.cell (World.block_lt_of_cell? w _ HSC2.out)).trans HSC2.out, (HB.out.cell (World.block_lt_of_cell? w _ HCE2.out)).trans HCE2.out⟩ (fun hHeld => ?_)
            clear hK K
            refine norm_ (a' := ?_) ?_ ?_
            rotate_left
            · show Act.put _ (some 148) _ = _
              simp only [Act.put, List.setIfInBounds_toArray, List.set_cons_zero, List.set_cons_succ, i64_w, i32_w]
              rfl
            refine pure_ (i := 15) (N := some 133) (v := ?_) (a' := ?_) #[true, true, true, true, true, true, true, true, true, true, true, true, true, true, true, true, false, false, false, false] rfl rfl (by kernel_rfl) (fun _ _ _ h => h) (Or.inl ⟨by rfl, ?_⟩) ?_ ?_
            rotate_left
            · intro w'
              go_simp
              with_reducible rfl
            rotate_left
            · simp only [Act.put, List.setIfInBounds_toArray, List.set_cons_zero, List.set_cons_succ, i64_w, i32_w]
              rfl
            refine pure_ (i := 16) (N := some 149) (v := ?_) (a' := ?_) #[true, true, true, true, true, true, true, true, true, true, true, true, true, true, true, true, true, false, false, false] rfl rfl (by kernel_rfl) (fun _ _ _ h => h) (Or.inl ⟨by rfl, ?_⟩) ?_ ?_
            rotate_left
            · intro w'
              go_simp
              with_reducible rfl
            rotate_left
            · simp only [Act.put, List.setIfInBounds_toArray, List.set_cons_zero, List.set_cons_succ, i64_w, i32_w]
              rfl
            refine pure_ (i := 17) (N := some 150) (v := ?_) (a' := ?_) #[true, true, true, true, true, true, true, true, true, true, true, true, true, true, true, true, true, true, false, false] rfl rfl (by kernel_rfl) (fun _ _ _ h => h) (Or.inl ⟨by rfl, ?_⟩) ?_ ?_
            rotate_left
            · intro w'
              go_simp
              with_reducible rfl
            rotate_left
            · simp only [Act.put, List.setIfInBounds_toArray, List.set_cons_zero, List.set_cons_succ, i64_w, i32_w]
              rfl
            refine pure_ (i := 18) (N := some 23) (v := ?_) (a' := ?_) #[true, true, true, true, true, true, true, true, true, true, true, true, true, true, true, true, true, true, true, false] rfl rfl (by kernel_rfl) (fun _ _ _ h => h) (Or.inl ⟨by rfl, ?_⟩) ?_ ?_
            rotate_left
            · intro w'
              go_simp
              with_reducible rfl
            rotate_left
            · simp only [Act.put, List.setIfInBounds_toArray, List.set_cons_zero, List.set_cons_succ, i64_w, i32_w]
              rfl
            refine pure_ (i := 19) (N := some 24) (v := ?_) (a' := ?_) #[true, true, true, true, true, true, true, true, true, true, true, true, true, true, true, true, true, true, true, true] rfl rfl (by kernel_rfl) (fun _ _ _ h => h) (Or.inl ⟨by rfl, ?_⟩) ?_ ?_
            rotate_left
            · intro w'
              go_simp
              with_reducible rfl
            rotate_left
            · simp only [Act.put, List.setIfInBounds_toArray, List.set_cons_zero, List.set_cons_succ, i64_w, i32_w]
              rfl
            refine done_ (by kernel_rfl) ?_
            try clear hHeld
            go_wp2
            go_roundg k1
            case measure => have := E1.out; omega
            case rel => exact ⟨i + 1, by rw [w64_ (by have := EV.out; omega) (by have := EV.out; omega)]; rfl, ⟨by have := E1.out; omega, _, _, _, _, _, (hist ++ [l]), gn, n3, o3, rfl, HR.out, HI.out, HRUN.out.1, Runs_snoc' HRUN.out.2.1 HRUN.out.2.2.1 HA.out, by rw [List.length_append, List.length_singleton]; have h_ := HRUN.out.2.2.1; omega, HRUN.out.2.2.2, by rw [List.length_append, List.length_singleton]; have h_ := EV.out; omega, by rw [List.length_append, List.length_singleton]; have h_ := EV.out; omega, fun x hx => (List.mem_append.1 hx).elim (HLS.out x) (fun h => by rw [List.mem_singleton] at h; subst h; exact HL50.out)⟩, HB⟩
          · have HA := Aside0.mk hA
            have HR4 := Aside0.mk h4
            have f1 : (r4 != 0) = true := bne_iff_ne.2 h4
            have f2 : (r4 == 0) = false := beq_eq_false_iff_ne.2 h4
            clear hA h4 hOK
            go_wp2_with fail
            refine start_ (n := 20) (S := fun w' => w'.cell? ⟨g19, 1, none⟩ = some (.int .i64 v) ∧ w'.cell? ⟨(adS.add (i * 3)).block, (adS.add (i * 3)).off + 1, none⟩ = some (.int .i64 ye.f1) ∧ w'.cell? (ad2.add p) = some (.slice Al l.length cl)) (ds := []) #[false, false, false, false, false, false, false, false, false, false, false, false, false, false, false, false, false, false, false, false] (by kernel_rfl) rfl rfl ⟨(blk_cell (blk_drew BK.out) 1).trans rfl, ((below_drew HB.out).cell (World.block_lt_of_cell? w _ HSC1.out)).trans HSC1.out, ((below_drew HB.out).cell (World.block_lt_of_cell? w _ HCE.out)).trans HCE.out⟩ (fun hHeld => ?_)
            have hb := below_drew1 (Below.refl wA.heap.size wA)
            have n0_ := Aside0.mk (HR.out.below hb)
            have n1_ := Aside0.mk (show IsS72 w _ gn o3.f0 o3.f1 o3.f2 from ⟨blk_below HI.out.1 hb, HI.out.2⟩)
            have n2_ := Aside0.mk (blk_below BK.out hb)
            have n3_ := Aside0.mk (below_step HB.out hb)
            clear HR HI BK HB
            have HR := n0_
            have HI := n1_
            have BK := n2_
            have HB := n3_
            clear n0_ n1_ n2_ n3_
            clear hb
            generalize wA.drew = w3' at HR HI HB BK hHeld ⊢
            refine pure_ (i := 0) (N := some 114) (v := ?_) (a' := ?_) #[true, false, false, false, false, false, false, false, false, false, false, false, false, false, false, false, false, false, false, false] rfl rfl (by kernel_rfl) (fun _ _ _ h => h) (Or.inl ⟨by rfl, ?_⟩) ?_ ?_
            rotate_left
            · intro w'
              go_simp
              with_reducible rfl
            rotate_left
            · simp only [Act.put, List.setIfInBounds_toArray, List.set_cons_zero, List.set_cons_succ, i64_w, i32_w]
              rfl
            refine pure_ (i := 1) (N := some 115) (v := ?_) (a' := ?_) #[true, true, false, false, false, false, false, false, false, false, false, false, false, false, false, false, false, false, false, false] rfl rfl (by kernel_rfl) (fun _ _ _ h => h) (Or.inl ⟨by rfl, ?_⟩) ?_ ?_
            rotate_left
            · intro w'
              go_simp
              with_reducible rfl
            rotate_left
            · simp only [Act.put, List.setIfInBounds_toArray, List.set_cons_zero, List.set_cons_succ, i64_w, i32_w]
              rfl
            refine take_ (i := 2) (N := some 116) (v := ?_) (a' := ?_) #[true, true, true, false, false, false, false, false, false, false, false, false, false, false, false, false, false, false, false, false] rfl rfl (by kernel_rfl) (fun _ _ _ h => h) (Or.inl ⟨by rfl, ?_⟩) hHeld ?_ ?_
            rotate_left
            · rintro w' ⟨s0, s1, s2⟩
              go_simp
              with_reducible rfl
            rotate_left
            · simp only [Act.put, List.setIfInBounds_toArray, List.set_cons_zero, List.set_cons_succ, i64_w, i32_w]
              rfl
            refine pure_ (i := 3) (N := some 117) (v := ?_) (a' := ?_) #[true, true, true, true, false, false, false, false, false, false, false, false, false, false, false, false, false, false, false, false] rfl rfl (by kernel_rfl) (fun _ _ _ h => h) (Or.inl ⟨by rfl, ?_⟩) ?_ ?_
            rotate_left
            · intro w'
              go_simp
              with_reducible rfl
            rotate_left
            · simp only [Act.put, List.setIfInBounds_toArray, List.set_cons_zero, List.set_cons_succ, i64_w, i32_w]
              rfl
            refine pure_ (i := 4) (N := some 118) (v := ?_) (a' := ?_) #[true, true, true, true, true, false, false, false, false, false, false, false, false, false, false, false, false, false, false, false] rfl rfl (by kernel_rfl) (fun _ _ _ h => h) (Or.inl ⟨by rfl, ?_⟩) ?_ ?_
            rotate_left
            · intro w'
              go_simp
              with_reducible rfl
            rotate_left
            · simp only [Act.put, List.setIfInBounds_toArray, List.set_cons_zero, List.set_cons_succ, i64_w, i32_w]
              rfl
            refine pure_ (i := 5) (N := some 119) (v := ?_) (a' := ?_) #[true, true, true, true, true, true, false, false, false, false, false, false, false, false, false, false, false, false, false, false] rfl rfl (by kernel_rfl) (fun _ _ _ h => h) (Or.inl ⟨by rfl, ?_⟩) ?_ ?_
            rotate_left
            · intro w'
              go_simp
              with_reducible rfl
            rotate_left
            · simp only [Act.put, List.setIfInBounds_toArray, List.set_cons_zero, List.set_cons_succ, i64_w, i32_w]
              rfl
            refine pure_ (i := 6) (N := some 120) (v := ?_) (a' := ?_) #[true, true, true, true, true, true, true, false, false, false, false, false, false, false, false, false, false, false, false, false] rfl rfl (by kernel_rfl) (fun _ _ _ h => h) (Or.inl ⟨by rfl, ?_⟩) ?_ ?_
            rotate_left
            · intro w'
              go_simp
              with_reducible rfl
            rotate_left
            · simp only [Act.put, List.setIfInBounds_toArray, List.set_cons_zero, List.set_cons_succ, i64_w, i32_w]
              rfl
            refine pure_ (i := 7) (N := some 121) (v := ?_) (a' := ?_) #[true, true, true, true, true, true, true, true, false, false, false, false, false, false, false, false, false, false, false, false] rfl rfl (by kernel_rfl) (fun _ _ _ h => h) (Or.inl ⟨by rfl, ?_⟩) ?_ ?_
            rotate_left
            · intro w'
              go_simp
              with_reducible rfl
            rotate_left
            · simp only [Act.put, List.setIfInBounds_toArray, List.set_cons_zero, List.set_cons_succ, i64_w, i32_w]
              rfl
            refine take_ (i := 8) (N := some 122) (v := ?_) (a' := ?_) #[true, true, true, true, true, true, true, true, true, false, false, false, false, false, false, false, false, false, false, false] rfl rfl (by kernel_rfl) (fun _ _ _ h => h) (Or.inl ⟨by rfl, ?_⟩) hHeld ?_ ?_
            rotate_left
            · rintro w' ⟨s0, s1, s2⟩
              go_simp
              with_reducible rfl
            rotate_left
            · simp only [Act.put, List.setIfInBounds_toArray, List.set_cons_zero, List.set_cons_succ, i64_w, i32_w]
              rfl
            refine pure_ (i := 9) (N := some 123) (v := ?_) (a' := ?_) #[true, true, true, true, true, true, true, true, true, true, false, false, false, false, false, false, false, false, false, false] rfl rfl (by kernel_rfl) (fun _ _ _ h => h) (Or.inl ⟨by rfl, ?_⟩) ?_ ?_
            rotate_left
            · intro w'
              go_simp
              with_reducible rfl
            rotate_left
            · simp only [Act.put, List.setIfInBounds_toArray, List.set_cons_zero, List.set_cons_succ, i64_w, i32_w]
              rfl
            refine pure_ (i := 10) (N := some 124) (v := ?_) (a' := ?_) #[true, true, true, true, true, true, true, true, true, true, true, false, false, false, false, false, false, false, false, false] rfl rfl (by kernel_rfl) (fun _ _ _ h => h) (Or.inl ⟨by rfl, ?_⟩) ?_ ?_
            rotate_left
            · intro w'
              go_simp
              with_reducible rfl
            rotate_left
            · simp only [Act.put, List.setIfInBounds_toArray, List.set_cons_zero, List.set_cons_succ, i64_w, i32_w]
              rfl
            refine one_ (i := 11) (N := some 125) #[true, true, true, true, true, true, true, true, true, true, true, true, false, false, false, false, false, false, false, false] rfl rfl (by kernel_rfl) (by decide) (fun K hK => ?_)
            refine goes_ Try.func10 (by kernel_rfl) rfl #[.int .i64 ye.f1, .int .i64 (edits.length : Int)] (by rfl) rfl rfl (by (try simp only [List.map_toArray, List.map_cons, List.map_nil]); first | done | rfl) ?_
            refine (glossatorref3_Mod.calls ye.f1 (edits.length : Int) (p : Int) _ HMp.out).mono ?_
            rintro e_ wm ⟨rfl, hd_⟩
            refine ⟨_, rfl, ?_⟩
            have hb := hd_.below
            have n0_ := Aside0.mk (HR.out.below hb)
            have n1_ := Aside0.mk (show IsS72 w _ gn o3.f0 o3.f1 o3.f2 from ⟨blk_below HI.out.1 hb, HI.out.2⟩)
            have n2_ := Aside0.mk (blk_below BK.out hb)
            have n3_ := Aside0.mk (below_step HB.out hb)
            clear HR HI BK HB
            have HR := n0_
            have HI := n1_
            have BK := n2_
            have HB := n3_
            clear n0_ n1_ n2_ n3_
            clear hb hd_
            refine hK.out _ _ ⟨(blk_cell BK.out 1).trans rfl, (HB.out.cell (World.block_lt_of_cell? w _ HSC1.out)).trans HSC1.out, (HB.out.cell (World.block_lt_of_cell? w _ HCE.out)).trans HCE.out⟩ (fun hHeld => ?_)
            clear hK K
            refine norm_ (a' := ?_) ?_ ?_
            rotate_left
            · show Act.put _ (some 125) _ = _
              simp only [Act.put, List.setIfInBounds_toArray, List.set_cons_zero, List.set_cons_succ, i64_w, i32_w]
              rfl
            refine pure_ (i := 12) (N := some 126) (v := ?_) (a' := ?_) #[true, true, true, true, true, true, true, true, true, true, true, true, true, false, false, false, false, false, false, false] rfl rfl (by kernel_rfl) (fun _ _ _ h => h) (Or.inl ⟨by rfl, ?_⟩) ?_ ?_
            rotate_left
            · intro w'
              go_simp
              with_reducible rfl
            rotate_left
            · simp only [Act.put, List.setIfInBounds_toArray, List.set_cons_zero, List.set_cons_succ, i64_w, i32_w]
              rfl
            refine take_ (i := 13) (N := some 127) (v := ?_) (a' := ?_) #[true, true, true, true, true, true, true, true, true, true, true, true, true, true, false, false, false, false, false, false] rfl rfl (by kernel_rfl) (fun _ _ _ h => h) (Or.inl ⟨by rfl, ?_⟩) hHeld ?_ ?_
            rotate_left
            · rintro w' ⟨s0, s1, s2⟩
              go_simp
              with_reducible rfl
            rotate_left
            · simp only [Act.put, List.setIfInBounds_toArray, List.set_cons_zero, List.set_cons_succ, i64_w, i32_w]
              rfl
            refine one_ (i := 14) (N := some 128) #[true, true, true, true, true, true, true, true, true, true, true, true, true, true, true, false, false, false, false, false] rfl rfl (by kernel_rfl) (by decide) (fun K hK => ?_)
            refine goes_ Try.func12 (by kernel_rfl) rfl #[.pointer (some ⟨gr, 0, none⟩), .int .i64 0, .string ⟨#[100]⟩, .int .i64 v, .slice Al l.length cl] (by rfl) rfl rfl (by (try simp only [List.map_toArray, List.map_cons, List.map_nil]); first | done | rfl) ?_
            refine (edit_no 0 (by decide) (by decide) (by decide) (by decide) Al cl l r1 r2 r3 r4 HR.out (fun W_ hk => C56_heap HLC.out (old_keep HB.out hk HR.out.oge (fun b hb => Kd.S_base HR.out.his b hb))) HLL.out HA.out HR4.out).mono ?_
            rintro e_ wm2 ⟨rfl, hb⟩
            refine ⟨_, rfl, ?_⟩
            have n0_ := Aside0.mk (HR.out.below hb)
            have n1_ := Aside0.mk (show IsS72 w _ gn o3.f0 o3.f1 o3.f2 from ⟨blk_below HI.out.1 hb, HI.out.2⟩)
            have n2_ := Aside0.mk (blk_below BK.out hb)
            have n3_ := Aside0.mk (below_step HB.out hb)
            clear HR HI BK HB
            have HR := n0_
            have HI := n1_
            have BK := n2_
            have HB := n3_
            clear n0_ n1_ n2_ n3_
            clear hb
            refine hK.out _ _ ⟨(blk_cell BK.out 1).trans rfl, (HB.out.cell (World.block_lt_of_cell? w _ HSC1.out)).trans HSC1.out, (HB.out.cell (World.block_lt_of_cell? w _ HCE.out)).trans HCE.out⟩ (fun hHeld => ?_)
            clear hK K
            refine norm_ (a' := ?_) ?_ ?_
            rotate_left
            · show Act.put _ (some 128) _ = _
              simp only [Act.put, List.setIfInBounds_toArray, List.set_cons_zero, List.set_cons_succ, i64_w, i32_w]
              rfl
            refine pure_ (i := 15) (N := some 113) (v := ?_) (a' := ?_) #[true, true, true, true, true, true, true, true, true, true, true, true, true, true, true, true, false, false, false, false] rfl rfl (by kernel_rfl) (fun _ _ _ h => h) (Or.inl ⟨by rfl, ?_⟩) ?_ ?_
            rotate_left
            · intro w'
              go_simp
              with_reducible rfl
            rotate_left
            · simp only [Act.put, List.setIfInBounds_toArray, List.set_cons_zero, List.set_cons_succ, i64_w, i32_w]
              rfl
            refine pure_ (i := 16) (N := some 129) (v := ?_) (a' := ?_) #[true, true, true, true, true, true, true, true, true, true, true, true, true, true, true, true, true, false, false, false] rfl rfl (by kernel_rfl) (fun _ _ _ h => h) (Or.inl ⟨by rfl, ?_⟩) ?_ ?_
            rotate_left
            · intro w'
              go_simp
              with_reducible rfl
            rotate_left
            · simp only [Act.put, List.setIfInBounds_toArray, List.set_cons_zero, List.set_cons_succ, i64_w, i32_w]
              rfl
            refine pure_ (i := 17) (N := some 130) (v := ?_) (a' := ?_) #[true, true, true, true, true, true, true, true, true, true, true, true, true, true, true, true, true, true, false, false] rfl rfl (by kernel_rfl) (fun _ _ _ h => h) (Or.inl ⟨by rfl, ?_⟩) ?_ ?_
            rotate_left
            · intro w'
              go_simp
              with_reducible rfl
            rotate_left
            · simp only [Act.put, List.setIfInBounds_toArray, List.set_cons_zero, List.set_cons_succ, i64_w, i32_w]
              rfl
            refine pure_ (i := 18) (N := some 21) (v := ?_) (a' := ?_) #[true, true, true, true, true, true, true, true, true, true, true, true, true, true, true, true, true, true, true, false] rfl rfl (by kernel_rfl) (fun _ _ _ h => h) (Or.inl ⟨by rfl, ?_⟩) ?_ ?_
            rotate_left
            · intro w'
              go_simp
              with_reducible rfl
            rotate_left
            · simp only [Act.put, List.setIfInBounds_toArray, List.set_cons_zero, List.set_cons_succ, i64_w, i32_w]
              rfl
            refine pure_ (i := 19) (N := some 22) (v := ?_) (a' := ?_) #[true, true, true, true, true, true, true, true, true, true, true, true, true, true, true, true, true, true, true, true] rfl rfl (by kernel_rfl) (fun _ _ _ h => h) (Or.inl ⟨by rfl, ?_⟩) ?_ ?_
            rotate_left
            · intro w'
              go_simp
              with_reducible rfl
            rotate_left
            · simp only [Act.put, List.setIfInBounds_toArray, List.set_cons_zero, List.set_cons_succ, i64_w, i32_w]
              rfl
            refine done_ (by kernel_rfl) ?_
            try clear hHeld
            go_wp2
            go_roundg k1
            case measure => have := E1.out; omega
            case rel => exact ⟨i + 1, by rw [w64_ (by have := EV.out; omega) (by have := EV.out; omega)]; rfl, ⟨by have := E1.out; omega, _, _, _, _, _, hist, gn, n3, o3, rfl, HR.out, HI.out, HRUN.out.1, HRUN.out.2.1, HRUN.out.2.2.1, HRUN.out.2.2.2, EV.out.1, by have h_ := EV.out; omega, HLS.out⟩, HB⟩
      · have d2 : ((i : Int) == (a0 : Int)) = false := beq_eq_false_iff_ne.2 (by omega)
        clear ha
        go_upto_region 20 with (first
          | (go_at_call 15; refine (document15 HR.out).mono ?_; rintro e_ w15 ⟨rfl, hb⟩; have n1_ := Aside0.mk (HR.out.below hb); have n2_ := Aside0.mk (show IsS72 w _ go o.f0 o.f1 o.f2 from ⟨blk_below HI.out.1 hb, HI.out.2⟩); have n3_ := Aside0.mk (below_step HB.out hb); clear HR HI HB hb; have HR := n1_; have HI := n2_; have HB := n3_; clear n1_ n2_ n3_)
          | ((with_reducible refine gate_dst (N := 19) rfl ?_); refine box_event ?hg (N := 19) ?hd (cs := #[.string ByteArray.empty, .int .i64 0, .string ByteArray.empty]) (t := 30) ?hr ?_; (case hd => rfl); (case hg => rfl); (case hr => first | (go_simp; done) | (go_simp; rfl)); intro g19 hg w19 hbox hb; have BK := Aside0.mk hbox; have GE := Aside0.mk (show w.heap.size ≤ g19 from by rw [hg]; exact HB.out.size); have n1_ := Aside0.mk (HR.out.below hb); clear HR; have HR := n1_; clear n1_; have n1_ := Aside0.mk (below_step HB.out hb); clear HB; have HB := n1_; clear n1_; have n1_ := Aside0.mk (show IsS72 w _ go o.f0 o.f1 o.f2 from ⟨blk_below HI.out.1 hb, HI.out.2⟩); clear HI; have HI := n1_; clear n1_; have hc0 : w19.cell? ⟨g19, 0, none⟩ = some (.string ByteArray.empty) := (blk_cell BK.out 0).trans rfl; have hf0 := blk_frozen BK.out 0; have hc1 : w19.cell? ⟨g19, 1, none⟩ = some (.int .i64 0) := (blk_cell BK.out 1).trans rfl; have hf1 := blk_frozen BK.out 1; have hc2 : w19.cell? ⟨g19, 2, none⟩ = some (.string ByteArray.empty) := (blk_cell BK.out 2).trans rfl; have hf2 := blk_frozen BK.out 2; clear hbox hb hg))
        have m0_ : (w19.setCell ⟨g19, 0, none⟩ (.string ⟨#[100]⟩)).heap[g19]? = some (.cells #[.string ⟨#[100]⟩, .int .i64 0, .string ByteArray.empty] 30 (0, 0)) := blk_put BK.out 0 _ rfl
        have m1_ : ((w19.setCell ⟨g19, 0, none⟩ (.string ⟨#[100]⟩)).setCell ⟨g19, 1, none⟩ (.int .i64 v)).heap[g19]? = some (.cells #[.string ⟨#[100]⟩, .int .i64 v, .string ByteArray.empty] 30 (0, 0)) := blk_put m0_ 1 _ rfl
        have m2_ : (((w19.setCell ⟨g19, 0, none⟩ (.string ⟨#[100]⟩)).setCell ⟨g19, 1, none⟩ (.int .i64 v)).setCell ⟨g19, 2, none⟩ (.string T')).heap[g19]? = some (.cells #[.string ⟨#[100]⟩, .int .i64 v, .string T'] 30 (0, 0)) := blk_put m1_ 2 _ rfl
        have n1_ := Aside0.mk (((HR.out.set BK.out (by decide) 0 (.string ⟨#[100]⟩)).set m0_ (by decide) 1 (.int .i64 v)).set m1_ (by decide) 2 (.string T'))
        have n3_ : Aside0 (Below w.heap.size w (((w19.setCell ⟨g19, 0, none⟩ (.string ⟨#[100]⟩)).setCell ⟨g19, 1, none⟩ (.int .i64 v)).setCell ⟨g19, 2, none⟩ (.string T'))) := Aside0.mk (below_set (below_set (below_set HB.out GE.out) GE.out) GE.out)
        have n4_ := Aside0.mk m2_
        have n5_ := Aside0.mk (show IsS72 w (((w19.setCell ⟨g19, 0, none⟩ (.string ⟨#[100]⟩)).setCell ⟨g19, 1, none⟩ (.int .i64 v)).setCell ⟨g19, 2, none⟩ (.string T')) go o.f0 o.f1 o.f2 from ⟨((Below.heap_setCell ((w19.setCell ⟨g19, 0, none⟩ (.string ⟨#[100]⟩)).setCell ⟨g19, 1, none⟩ (.int .i64 v)) ⟨g19, 2, none⟩ (.string T') go (ne_types HI.out.1 BK.out (by decide))).trans ((Below.heap_setCell (w19.setCell ⟨g19, 0, none⟩ (.string ⟨#[100]⟩)) ⟨g19, 1, none⟩ (.int .i64 v) go (ne_types HI.out.1 BK.out (by decide))).trans ((Below.heap_setCell w19 ⟨g19, 0, none⟩ (.string ⟨#[100]⟩) go (ne_types HI.out.1 BK.out (by decide))).trans HI.out.1))), HI.out.2⟩)
        clear HR HB BK HI m0_ hc0 hf0 m1_ hc1 hf1 m2_ hc2 hf2
        generalize (((w19.setCell ⟨g19, 0, none⟩ (.string ⟨#[100]⟩)).setCell ⟨g19, 1, none⟩ (.int .i64 v)).setCell ⟨g19, 2, none⟩ (.string T')) = wA at n1_ n3_ n4_ n5_ ⊢
        have HR := n1_
        have HB := n3_
        have BK := n4_
        have HI := n5_
        clear n1_ n3_ n4_ n5_
        by_cases he : edits.length = 0
        · have d3 : ((edits.length : Int) == 0) = true := by rw [he]; rfl
          clear he
          go_wp2
          go_roundg k1
          case measure => have := E1.out; omega
          case rel => exact ⟨i + 1, by rw [w64_ (by have := EV.out; omega) (by have := EV.out; omega)]; rfl, ⟨by have := E1.out; omega, _, _, _, _, _, hist, go, n, o, rfl, HR.out, HI.out, HRUN.out.1, HRUN.out.2.1, HRUN.out.2.2.1, HRUN.out.2.2.2, EV.out.1, by have h_ := EV.out; omega, HLS.out⟩, HB⟩
        · have d3 : ((edits.length : Int) == 0) = false := beq_eq_false_iff_ne.2 (by omega)
          obtain ⟨p, hmp, hpl⟩ := mod_is ye.f1 edits.length (by omega) HLE.out
          obtain ⟨p2, hmp2, hpl2⟩ := mod_is ye.f2 edits.length (by omega) HLE.out
          have HMp := Aside0.mk hmp
          have HMp2 := Aside0.mk hmp2
          obtain ⟨ad2, Al, cl, eA2, hce, hll, hlc⟩ := edit_at HR2.out p hpl
          obtain ⟨ad2', Al2, cl2, eA2', hce2, hll2, hlc2⟩ := edit_at HR2.out p2 hpl2
          rw [eA2] at eA2'
          injection eA2' with eA2'
          subst eA2'
          subst eA2
          obtain ⟨l, hl⟩ : ∃ l, l = edits.getD p [] := ⟨_, rfl⟩
          obtain ⟨l2, hl2⟩ : ∃ l2, l2 = edits.getD p2 [] := ⟨_, rfl⟩
          rw [← hl] at hce hll hlc
          rw [← hl2] at hce2
          have HOE := Aside0.mk (show okE l from HO.out l (by rw [hl, List.getD_eq_getElem?_getD, List.getElem?_eq_getElem hpl]; exact List.getElem_mem _))
          have HCE := Aside0.mk hce
          have HCE2 := Aside0.mk hce2
          have HLL := Aside0.mk hll
          have HLC := Aside0.mk hlc
          have k3 : (0 ≤ (p : Int)) = True := eq_true (by omega)
          have k4 : (p < edits.length) = True := eq_true hpl
          have k5 : ((p : Int) < (edits.length : Int)) = True := eq_true (by omega)
          have k3' : (0 ≤ (p2 : Int)) = True := eq_true (by omega)
          have k4' : (p2 < edits.length) = True := eq_true hpl2
          have k5' : ((p2 : Int) < (edits.length : Int)) = True := eq_true (by omega)
          obtain ⟨r1, r2, r3, r4, hA, hOK⟩ := apply_total ⟨#[100]⟩ v T' l HOE.out (by have h_ := EV.out; omega) (by have h_ := EV.out; omega)
          clear he hmp hmp2 hpl hpl2 hl hl2 hce hce2 hll hll2 hlc hlc2
          by_cases h4 : r4 = 0
          · subst h4
            obtain ⟨rfl, rfl, hl50⟩ := hOK rfl
            have HA := Aside0.mk hA
            have HL50 := Aside0.mk hl50
            clear hA hl50 hOK
            go_wp2_with fail
            refine start_ (n := 20) (S := fun w' => w'.cell? ⟨g19, 1, none⟩ = some (.int .i64 v) ∧ w'.cell? ⟨(adS.add (i * 3)).block, (adS.add (i * 3)).off + 1, none⟩ = some (.int .i64 ye.f1) ∧ w'.cell? (ad2.add p) = some (.slice Al l.length cl)) (ds := []) #[false, false, false, false, false, false, false, false, false, false, false, false, false, false, false, false, false, false, false, false] (by kernel_rfl) rfl rfl ⟨(blk_cell (blk_drew BK.out) 1).trans rfl, ((below_drew HB.out).cell (World.block_lt_of_cell? w _ HSC1.out)).trans HSC1.out, ((below_drew HB.out).cell (World.block_lt_of_cell? w _ HCE.out)).trans HCE.out⟩ (fun hHeld => ?_)
            have hb := below_drew1 (Below.refl wA.heap.size wA)
            have n0_ := Aside0.mk (HR.out.below hb)
            have n1_ := Aside0.mk (show IsS72 w _ go o.f0 o.f1 o.f2 from ⟨blk_below HI.out.1 hb, HI.out.2⟩)
            have n2_ := Aside0.mk (blk_below BK.out hb)
            have n3_ := Aside0.mk (below_step HB.out hb)
            clear HR HI BK HB
            have HR := n0_
            have HI := n1_
            have BK := n2_
            have HB := n3_
            clear n0_ n1_ n2_ n3_
            clear hb
            generalize wA.drew = w3' at HR HI HB BK hHeld ⊢
            refine pure_ (i := 0) (N := some 114) (v := ?_) (a' := ?_) #[true, false, false, false, false, false, false, false, false, false, false, false, false, false, false, false, false, false, false, false] rfl rfl (by kernel_rfl) (fun _ _ _ h => h) (Or.inl ⟨by rfl, ?_⟩) ?_ ?_
            rotate_left
            · intro w'
              go_simp
              with_reducible rfl
            rotate_left
            · simp only [Act.put, List.setIfInBounds_toArray, List.set_cons_zero, List.set_cons_succ, i64_w, i32_w]
              rfl
            refine pure_ (i := 1) (N := some 115) (v := ?_) (a' := ?_) #[true, true, false, false, false, false, false, false, false, false, false, false, false, false, false, false, false, false, false, false] rfl rfl (by kernel_rfl) (fun _ _ _ h => h) (Or.inl ⟨by rfl, ?_⟩) ?_ ?_
            rotate_left
            · intro w'
              go_simp
              with_reducible rfl
            rotate_left
            · simp only [Act.put, List.setIfInBounds_toArray, List.set_cons_zero, List.set_cons_succ, i64_w, i32_w]
              rfl
            refine take_ (i := 2) (N := some 116) (v := ?_) (a' := ?_) #[true, true, true, false, false, false, false, false, false, false, false, false, false, false, false, false, false, false, false, false] rfl rfl (by kernel_rfl) (fun _ _ _ h => h) (Or.inl ⟨by rfl, ?_⟩) hHeld ?_ ?_
            rotate_left
            · rintro w' ⟨s0, s1, s2⟩
              go_simp
              with_reducible rfl
            rotate_left
            · simp only [Act.put, List.setIfInBounds_toArray, List.set_cons_zero, List.set_cons_succ, i64_w, i32_w]
              rfl
            refine pure_ (i := 3) (N := some 117) (v := ?_) (a' := ?_) #[true, true, true, true, false, false, false, false, false, false, false, false, false, false, false, false, false, false, false, false] rfl rfl (by kernel_rfl) (fun _ _ _ h => h) (Or.inl ⟨by rfl, ?_⟩) ?_ ?_
            rotate_left
            · intro w'
              go_simp
              with_reducible rfl
            rotate_left
            · simp only [Act.put, List.setIfInBounds_toArray, List.set_cons_zero, List.set_cons_succ, i64_w, i32_w]
              rfl
            refine pure_ (i := 4) (N := some 118) (v := ?_) (a' := ?_) #[true, true, true, true, true, false, false, false, false, false, false, false, false, false, false, false, false, false, false, false] rfl rfl (by kernel_rfl) (fun _ _ _ h => h) (Or.inl ⟨by rfl, ?_⟩) ?_ ?_
            rotate_left
            · intro w'
              go_simp
              with_reducible rfl
            rotate_left
            · simp only [Act.put, List.setIfInBounds_toArray, List.set_cons_zero, List.set_cons_succ, i64_w, i32_w]
              rfl
            refine pure_ (i := 5) (N := some 119) (v := ?_) (a' := ?_) #[true, true, true, true, true, true, false, false, false, false, false, false, false, false, false, false, false, false, false, false] rfl rfl (by kernel_rfl) (fun _ _ _ h => h) (Or.inl ⟨by rfl, ?_⟩) ?_ ?_
            rotate_left
            · intro w'
              go_simp
              with_reducible rfl
            rotate_left
            · simp only [Act.put, List.setIfInBounds_toArray, List.set_cons_zero, List.set_cons_succ, i64_w, i32_w]
              rfl
            refine pure_ (i := 6) (N := some 120) (v := ?_) (a' := ?_) #[true, true, true, true, true, true, true, false, false, false, false, false, false, false, false, false, false, false, false, false] rfl rfl (by kernel_rfl) (fun _ _ _ h => h) (Or.inl ⟨by rfl, ?_⟩) ?_ ?_
            rotate_left
            · intro w'
              go_simp
              with_reducible rfl
            rotate_left
            · simp only [Act.put, List.setIfInBounds_toArray, List.set_cons_zero, List.set_cons_succ, i64_w, i32_w]
              rfl
            refine pure_ (i := 7) (N := some 121) (v := ?_) (a' := ?_) #[true, true, true, true, true, true, true, true, false, false, false, false, false, false, false, false, false, false, false, false] rfl rfl (by kernel_rfl) (fun _ _ _ h => h) (Or.inl ⟨by rfl, ?_⟩) ?_ ?_
            rotate_left
            · intro w'
              go_simp
              with_reducible rfl
            rotate_left
            · simp only [Act.put, List.setIfInBounds_toArray, List.set_cons_zero, List.set_cons_succ, i64_w, i32_w]
              rfl
            refine take_ (i := 8) (N := some 122) (v := ?_) (a' := ?_) #[true, true, true, true, true, true, true, true, true, false, false, false, false, false, false, false, false, false, false, false] rfl rfl (by kernel_rfl) (fun _ _ _ h => h) (Or.inl ⟨by rfl, ?_⟩) hHeld ?_ ?_
            rotate_left
            · rintro w' ⟨s0, s1, s2⟩
              go_simp
              with_reducible rfl
            rotate_left
            · simp only [Act.put, List.setIfInBounds_toArray, List.set_cons_zero, List.set_cons_succ, i64_w, i32_w]
              rfl
            refine pure_ (i := 9) (N := some 123) (v := ?_) (a' := ?_) #[true, true, true, true, true, true, true, true, true, true, false, false, false, false, false, false, false, false, false, false] rfl rfl (by kernel_rfl) (fun _ _ _ h => h) (Or.inl ⟨by rfl, ?_⟩) ?_ ?_
            rotate_left
            · intro w'
              go_simp
              with_reducible rfl
            rotate_left
            · simp only [Act.put, List.setIfInBounds_toArray, List.set_cons_zero, List.set_cons_succ, i64_w, i32_w]
              rfl
            refine pure_ (i := 10) (N := some 124) (v := ?_) (a' := ?_) #[true, true, true, true, true, true, true, true, true, true, true, false, false, false, false, false, false, false, false, false] rfl rfl (by kernel_rfl) (fun _ _ _ h => h) (Or.inl ⟨by rfl, ?_⟩) ?_ ?_
            rotate_left
            · intro w'
              go_simp
              with_reducible rfl
            rotate_left
            · simp only [Act.put, List.setIfInBounds_toArray, List.set_cons_zero, List.set_cons_succ, i64_w, i32_w]
              rfl
            refine one_ (i := 11) (N := some 125) #[true, true, true, true, true, true, true, true, true, true, true, true, false, false, false, false, false, false, false, false] rfl rfl (by kernel_rfl) (by decide) (fun K hK => ?_)
            refine goes_ Try.func10 (by kernel_rfl) rfl #[.int .i64 ye.f1, .int .i64 (edits.length : Int)] (by rfl) rfl rfl (by (try simp only [List.map_toArray, List.map_cons, List.map_nil]); first | done | rfl) ?_
            refine (glossatorref3_Mod.calls ye.f1 (edits.length : Int) (p : Int) _ HMp.out).mono ?_
            rintro e_ wm ⟨rfl, hd_⟩
            refine ⟨_, rfl, ?_⟩
            have hb := hd_.below
            have n0_ := Aside0.mk (HR.out.below hb)
            have n1_ := Aside0.mk (show IsS72 w _ go o.f0 o.f1 o.f2 from ⟨blk_below HI.out.1 hb, HI.out.2⟩)
            have n2_ := Aside0.mk (blk_below BK.out hb)
            have n3_ := Aside0.mk (below_step HB.out hb)
            clear HR HI BK HB
            have HR := n0_
            have HI := n1_
            have BK := n2_
            have HB := n3_
            clear n0_ n1_ n2_ n3_
            clear hb hd_
            refine hK.out _ _ ⟨(blk_cell BK.out 1).trans rfl, (HB.out.cell (World.block_lt_of_cell? w _ HSC1.out)).trans HSC1.out, (HB.out.cell (World.block_lt_of_cell? w _ HCE.out)).trans HCE.out⟩ (fun hHeld => ?_)
            clear hK K
            refine norm_ (a' := ?_) ?_ ?_
            rotate_left
            · show Act.put _ (some 125) _ = _
              simp only [Act.put, List.setIfInBounds_toArray, List.set_cons_zero, List.set_cons_succ, i64_w, i32_w]
              rfl
            refine pure_ (i := 12) (N := some 126) (v := ?_) (a' := ?_) #[true, true, true, true, true, true, true, true, true, true, true, true, true, false, false, false, false, false, false, false] rfl rfl (by kernel_rfl) (fun _ _ _ h => h) (Or.inl ⟨by rfl, ?_⟩) ?_ ?_
            rotate_left
            · intro w'
              go_simp
              with_reducible rfl
            rotate_left
            · simp only [Act.put, List.setIfInBounds_toArray, List.set_cons_zero, List.set_cons_succ, i64_w, i32_w]
              rfl
            refine take_ (i := 13) (N := some 127) (v := ?_) (a' := ?_) #[true, true, true, true, true, true, true, true, true, true, true, true, true, true, false, false, false, false, false, false] rfl rfl (by kernel_rfl) (fun _ _ _ h => h) (Or.inl ⟨by rfl, ?_⟩) hHeld ?_ ?_
            rotate_left
            · rintro w' ⟨s0, s1, s2⟩
              go_simp
              with_reducible rfl
            rotate_left
            · simp only [Act.put, List.setIfInBounds_toArray, List.set_cons_zero, List.set_cons_succ, i64_w, i32_w]
              rfl
            refine one_ (i := 14) (N := some 128) #[true, true, true, true, true, true, true, true, true, true, true, true, true, true, true, false, false, false, false, false] rfl rfl (by kernel_rfl) (by decide) (fun K hK => ?_)
            refine goes_ Try.func12 (by kernel_rfl) rfl #[.pointer (some ⟨gr, 0, none⟩), .int .i64 0, .string ⟨#[100]⟩, .int .i64 v, .slice Al l.length cl] (by rfl) rfl rfl (by (try simp only [List.map_toArray, List.map_cons, List.map_nil]); first | done | rfl) ?_
            refine (edit_ok w 0 (by decide) (by decide) (by decide) (by decide) Al cl l ⟨#[100]⟩ (v + 1) r3 HR.out HB.out (fun W_ hk => C56_heap HLC.out (old_keep HB.out hk HR.out.oge (fun b hb => Kd.S_base HR.out.his b hb))) HLL.out (by have h_ := HL50.out; omega) (by have h_ := EV.out; omega) HA.out).mono ?_
            rintro e_ wm2 ⟨vU, vH', rfl, h1, h2, h3, h4⟩
            refine ⟨_, rfl, ?_⟩
            obtain ⟨AU, nU, cU, rfl⟩ : ∃ A n c, vU = .slice A n c := by obtain ⟨A, c, e⟩ := Kd.S_slice h2; exact ⟨A, _, c, e⟩
            have hk := HR.out.keepT h4
            have n0_ := Aside0.mk (show IsS72 w _ go o.f0 o.f1 o.f2 from ⟨(hk _ _ 72 (by decide) (by decide) (by decide) (by decide) (by decide) HI.out.1), HI.out.2⟩)
            have n1_ := Aside0.mk ((hk _ _ 30 (by decide) (by decide) (by decide) (by decide) (by decide) BK.out))
            have n2_ := Aside0.mk (h1)
            have n3_ := Aside0.mk (h3)
            clear HI BK HR HB
            have HI := n0_
            have BK := n1_
            have HR := n2_
            have HB := n3_
            clear n0_ n1_ n2_ n3_
            clear h1 h2 h3 h4 hk
            refine hK.out _ _ ⟨(blk_cell BK.out 1).trans rfl, (HB.out.cell (World.block_lt_of_cell? w _ HSC1.out)).trans HSC1.out, (HB.out.cell (World.block_lt_of_cell? w _ HCE.out)).trans HCE.out⟩ (fun hHeld => ?_)
            clear hK K
            refine norm_ (a' := ?_) ?_ ?_
            rotate_left
            · show Act.put _ (some 128) _ = _
              simp only [Act.put, List.setIfInBounds_toArray, List.set_cons_zero, List.set_cons_succ, i64_w, i32_w]
              rfl
            refine pure_ (i := 15) (N := some 113) (v := ?_) (a' := ?_) #[true, true, true, true, true, true, true, true, true, true, true, true, true, true, true, true, false, false, false, false] rfl rfl (by kernel_rfl) (fun _ _ _ h => h) (Or.inl ⟨by rfl, ?_⟩) ?_ ?_
            rotate_left
            · intro w'
              go_simp
              with_reducible rfl
            rotate_left
            · simp only [Act.put, List.setIfInBounds_toArray, List.set_cons_zero, List.set_cons_succ, i64_w, i32_w]
              rfl
            refine pure_ (i := 16) (N := some 129) (v := ?_) (a' := ?_) #[true, true, true, true, true, true, true, true, true, true, true, true, true, true, true, true, true, false, false, false] rfl rfl (by kernel_rfl) (fun _ _ _ h => h) (Or.inl ⟨by rfl, ?_⟩) ?_ ?_
            rotate_left
            · intro w'
              go_simp
              with_reducible rfl
            rotate_left
            · simp only [Act.put, List.setIfInBounds_toArray, List.set_cons_zero, List.set_cons_succ, i64_w, i32_w]
              rfl
            refine pure_ (i := 17) (N := some 130) (v := ?_) (a' := ?_) #[true, true, true, true, true, true, true, true, true, true, true, true, true, true, true, true, true, true, false, false] rfl rfl (by kernel_rfl) (fun _ _ _ h => h) (Or.inl ⟨by rfl, ?_⟩) ?_ ?_
            rotate_left
            · intro w'
              go_simp
              with_reducible rfl
            rotate_left
            · simp only [Act.put, List.setIfInBounds_toArray, List.set_cons_zero, List.set_cons_succ, i64_w, i32_w]
              rfl
            refine pure_ (i := 18) (N := some 21) (v := ?_) (a' := ?_) #[true, true, true, true, true, true, true, true, true, true, true, true, true, true, true, true, true, true, true, false] rfl rfl (by kernel_rfl) (fun _ _ _ h => h) (Or.inl ⟨by rfl, ?_⟩) ?_ ?_
            rotate_left
            · intro w'
              go_simp
              with_reducible rfl
            rotate_left
            · simp only [Act.put, List.setIfInBounds_toArray, List.set_cons_zero, List.set_cons_succ, i64_w, i32_w]
              rfl
            refine pure_ (i := 19) (N := some 22) (v := ?_) (a' := ?_) #[true, true, true, true, true, true, true, true, true, true, true, true, true, true, true, true, true, true, true, true] rfl rfl (by kernel_rfl) (fun _ _ _ h => h) (Or.inl ⟨by rfl, ?_⟩) ?_ ?_
            rotate_left
            · intro w'
              go_simp
              with_reducible rfl
            rotate_left
            · simp only [Act.put, List.setIfInBounds_toArray, List.set_cons_zero, List.set_cons_succ, i64_w, i32_w]
              rfl
            refine done_ (by kernel_rfl) ?_
            try clear hHeld
            generalize wm2 = wB at HR HI HB BK ⊢
            go_wp2_with fail
            refine start_ (n := 20) (S := fun w' => w'.cell? ⟨g19, 1, none⟩ = some (.int .i64 v) ∧ w'.cell? ⟨(adS.add (i * 3)).block, (adS.add (i * 3)).off + 2, none⟩ = some (.int .i64 ye.f2) ∧ w'.cell? (ad2.add p2) = some (.slice Al2 l2.length cl2)) (ds := []) #[false, false, false, false, false, false, false, false, false, false, false, false, false, false, false, false, false, false, false, false] (by kernel_rfl) rfl rfl ⟨(blk_cell (blk_drew BK.out) 1).trans rfl, ((below_drew HB.out).cell (World.block_lt_of_cell? w _ HSC2.out)).trans HSC2.out, ((below_drew HB.out).cell (World.block_lt_of_cell? w _ HCE2.out)).trans HCE2.out⟩ (fun hHeld => ?_)
            have hb := below_drew1 (Below.refl wB.heap.size wB)
            have n0_ := Aside0.mk (HR.out.below hb)
            have n1_ := Aside0.mk (show IsS72 w _ go o.f0 o.f1 o.f2 from ⟨blk_below HI.out.1 hb, HI.out.2⟩)
            have n2_ := Aside0.mk (blk_below BK.out hb)
            have n3_ := Aside0.mk (below_step HB.out hb)
            clear HR HI BK HB
            have HR := n0_
            have HI := n1_
            have BK := n2_
            have HB := n3_
            clear n0_ n1_ n2_ n3_
            clear hb
            generalize wB.drew = w3' at HR HI HB BK hHeld ⊢
            refine pure_ (i := 0) (N := some 134) (v := ?_) (a' := ?_) #[true, false, false, false, false, false, false, false, false, false, false, false, false, false, false, false, false, false, false, false] rfl rfl (by kernel_rfl) (fun _ _ _ h => h) (Or.inl ⟨by rfl, ?_⟩) ?_ ?_
            rotate_left
            · intro w'
              go_simp
              with_reducible rfl
            rotate_left
            · simp only [Act.put, List.setIfInBounds_toArray, List.set_cons_zero, List.set_cons_succ, i64_w, i32_w]
              rfl
            refine pure_ (i := 1) (N := some 135) (v := ?_) (a' := ?_) #[true, true, false, false, false, false, false, false, false, false, false, false, false, false, false, false, false, false, false, false] rfl rfl (by kernel_rfl) (fun _ _ _ h => h) (Or.inl ⟨by rfl, ?_⟩) ?_ ?_
            rotate_left
            · intro w'
              go_simp
              with_reducible rfl
            rotate_left
            · simp only [Act.put, List.setIfInBounds_toArray, List.set_cons_zero, List.set_cons_succ, i64_w, i32_w]
              rfl
            refine take_ (i := 2) (N := some 136) (v := ?_) (a' := ?_) #[true, true, true, false, false, false, false, false, false, false, false, false, false, false, false, false, false, false, false, false] rfl rfl (by kernel_rfl) (fun _ _ _ h => h) (Or.inl ⟨by rfl, ?_⟩) hHeld ?_ ?_
            rotate_left
            · rintro w' ⟨s0, s1, s2⟩
              go_simp
              with_reducible rfl
            rotate_left
            · simp only [Act.put, List.setIfInBounds_toArray, List.set_cons_zero, List.set_cons_succ, i64_w, i32_w]
              rfl
            refine pure_ (i := 3) (N := some 137) (v := ?_) (a' := ?_) #[true, true, true, true, false, false, false, false, false, false, false, false, false, false, false, false, false, false, false, false] rfl rfl (by kernel_rfl) (fun _ _ _ h => h) (Or.inl ⟨by rfl, ?_⟩) ?_ ?_
            rotate_left
            · intro w'
              go_simp
              with_reducible rfl
            rotate_left
            · simp only [Act.put, List.setIfInBounds_toArray, List.set_cons_zero, List.set_cons_succ, i64_w, i32_w]
              rfl
            refine pure_ (i := 4) (N := some 138) (v := ?_) (a' := ?_) #[true, true, true, true, true, false, false, false, false, false, false, false, false, false, false, false, false, false, false, false] rfl rfl (by kernel_rfl) (fun _ _ _ h => h) (Or.inl ⟨by rfl, ?_⟩) ?_ ?_
            rotate_left
            · intro w'
              go_simp
              with_reducible rfl
            rotate_left
            · simp only [Act.put, List.setIfInBounds_toArray, List.set_cons_zero, List.set_cons_succ, i64_w, i32_w]
              rfl
            refine pure_ (i := 5) (N := some 139) (v := ?_) (a' := ?_) #[true, true, true, true, true, true, false, false, false, false, false, false, false, false, false, false, false, false, false, false] rfl rfl (by kernel_rfl) (fun _ _ _ h => h) (Or.inl ⟨by rfl, ?_⟩) ?_ ?_
            rotate_left
            · intro w'
              go_simp
              with_reducible rfl
            rotate_left
            · simp only [Act.put, List.setIfInBounds_toArray, List.set_cons_zero, List.set_cons_succ, i64_w, i32_w]
              rfl
            refine pure_ (i := 6) (N := some 140) (v := ?_) (a' := ?_) #[true, true, true, true, true, true, true, false, false, false, false, false, false, false, false, false, false, false, false, false] rfl rfl (by kernel_rfl) (fun _ _ _ h => h) (Or.inl ⟨by rfl, ?_⟩) ?_ ?_
            rotate_left
            · intro w'
              go_simp
              with_reducible rfl
            rotate_left
            · simp only [Act.put, List.setIfInBounds_toArray, List.set_cons_zero, List.set_cons_succ, i64_w, i32_w]
              rfl
            refine pure_ (i := 7) (N := some 141) (v := ?_) (a' := ?_) #[true, true, true, true, true, true, true, true, false, false, false, false, false, false, false, false, false, false, false, false] rfl rfl (by kernel_rfl) (fun _ _ _ h => h) (Or.inl ⟨by rfl, ?_⟩) ?_ ?_
            rotate_left
            · intro w'
              go_simp
              with_reducible rfl
            rotate_left
            · simp only [Act.put, List.setIfInBounds_toArray, List.set_cons_zero, List.set_cons_succ, i64_w, i32_w]
              rfl
            refine take_ (i := 8) (N := some 142) (v := ?_) (a' := ?_) #[true, true, true, true, true, true, true, true, true, false, false, false, false, false, false, false, false, false, false, false] rfl rfl (by kernel_rfl) (fun _ _ _ h => h) (Or.inl ⟨by rfl, ?_⟩) hHeld ?_ ?_
            rotate_left
            · rintro w' ⟨s0, s1, s2⟩
              go_simp
              with_reducible rfl
            rotate_left
            · simp only [Act.put, List.setIfInBounds_toArray, List.set_cons_zero, List.set_cons_succ, i64_w, i32_w]
              rfl
            refine pure_ (i := 9) (N := some 143) (v := ?_) (a' := ?_) #[true, true, true, true, true, true, true, true, true, true, false, false, false, false, false, false, false, false, false, false] rfl rfl (by kernel_rfl) (fun _ _ _ h => h) (Or.inl ⟨by rfl, ?_⟩) ?_ ?_
            rotate_left
            · intro w'
              go_simp
              with_reducible rfl
            rotate_left
            · simp only [Act.put, List.setIfInBounds_toArray, List.set_cons_zero, List.set_cons_succ, i64_w, i32_w]
              rfl
            refine pure_ (i := 10) (N := some 144) (v := ?_) (a' := ?_) #[true, true, true, true, true, true, true, true, true, true, true, false, false, false, false, false, false, false, false, false] rfl rfl (by kernel_rfl) (fun _ _ _ h => h) (Or.inl ⟨by rfl, ?_⟩) ?_ ?_
            rotate_left
            · intro w'
              go_simp
              with_reducible rfl
            rotate_left
            · simp only [Act.put, List.setIfInBounds_toArray, List.set_cons_zero, List.set_cons_succ, i64_w, i32_w]
              rfl
            refine one_ (i := 11) (N := some 145) #[true, true, true, true, true, true, true, true, true, true, true, true, false, false, false, false, false, false, false, false] rfl rfl (by kernel_rfl) (by decide) (fun K hK => ?_)
            refine goes_ Try.func10 (by kernel_rfl) rfl #[.int .i64 ye.f2, .int .i64 (edits.length : Int)] (by rfl) rfl rfl (by (try simp only [List.map_toArray, List.map_cons, List.map_nil]); first | done | rfl) ?_
            refine (glossatorref3_Mod.calls ye.f2 (edits.length : Int) (p2 : Int) _ HMp2.out).mono ?_
            rintro e_ wm ⟨rfl, hd_⟩
            refine ⟨_, rfl, ?_⟩
            have hb := hd_.below
            have n0_ := Aside0.mk (HR.out.below hb)
            have n1_ := Aside0.mk (show IsS72 w _ go o.f0 o.f1 o.f2 from ⟨blk_below HI.out.1 hb, HI.out.2⟩)
            have n2_ := Aside0.mk (blk_below BK.out hb)
            have n3_ := Aside0.mk (below_step HB.out hb)
            clear HR HI BK HB
            have HR := n0_
            have HI := n1_
            have BK := n2_
            have HB := n3_
            clear n0_ n1_ n2_ n3_
            clear hb hd_
            refine hK.out _ _ ⟨(blk_cell BK.out 1).trans rfl, (HB.out.cell (World.block_lt_of_cell? w _ HSC2.out)).trans HSC2.out, (HB.out.cell (World.block_lt_of_cell? w _ HCE2.out)).trans HCE2.out⟩ (fun hHeld => ?_)
            clear hK K
            refine norm_ (a' := ?_) ?_ ?_
            rotate_left
            · show Act.put _ (some 145) _ = _
              simp only [Act.put, List.setIfInBounds_toArray, List.set_cons_zero, List.set_cons_succ, i64_w, i32_w]
              rfl
            refine pure_ (i := 12) (N := some 146) (v := ?_) (a' := ?_) #[true, true, true, true, true, true, true, true, true, true, true, true, true, false, false, false, false, false, false, false] rfl rfl (by kernel_rfl) (fun _ _ _ h => h) (Or.inl ⟨by rfl, ?_⟩) ?_ ?_
            rotate_left
            · intro w'
              go_simp
              with_reducible rfl
            rotate_left
            · simp only [Act.put, List.setIfInBounds_toArray, List.set_cons_zero, List.set_cons_succ, i64_w, i32_w]
              rfl
            refine take_ (i := 13) (N := some 147) (v := ?_) (a' := ?_) #[true, true, true, true, true, true, true, true, true, true, true, true, true, true, false, false, false, false, false, false] rfl rfl (by kernel_rfl) (fun _ _ _ h => h) (Or.inl ⟨by rfl, ?_⟩) hHeld ?_ ?_
            rotate_left
            · rintro w' ⟨s0, s1, s2⟩
              go_simp
              with_reducible rfl
            rotate_left
            · simp only [Act.put, List.setIfInBounds_toArray, List.set_cons_zero, List.set_cons_succ, i64_w, i32_w]
              rfl
            refine one_ (i := 14) (N := some 148) #[true, true, true, true, true, true, true, true, true, true, true, true, true, true, true, false, false, false, false, false] rfl rfl (by kernel_rfl) (by decide) (fun K hK => ?_)
            refine goes_ Try.func12 (by kernel_rfl) rfl #[.pointer (some ⟨gr, 0, none⟩), .int .i64 1, .string ⟨#[100]⟩, .int .i64 v, .slice Al2 l2.length cl2] (by rfl) rfl rfl (by (try simp only [List.map_toArray, List.map_cons, List.map_nil]); first | done | rfl) ?_
            refine (edit_stale 1 (by decide) (by decide) (by decide) (by decide) Al2 cl2 l2 v (by omega) HR.out).mono ?_
            rintro e_ wm2 ⟨rfl, hb⟩
            refine ⟨_, rfl, ?_⟩
            have n0_ := Aside0.mk (HR.out.below hb)
            have n1_ := Aside0.mk (show IsS72 w _ go o.f0 o.f1 o.f2 from ⟨blk_below HI.out.1 hb, HI.out.2⟩)
            have n2_ := Aside0.mk (blk_below BK.out hb)
            have n3_ := Aside0.mk (below_step HB.out hb)
            clear HR HI BK HB
            have HR := n0_
            have HI := n1_
            have BK := n2_
            have HB := n3_
            clear n0_ n1_ n2_ n3_
            clear hb
            refine hK.out _ _ ⟨(blk_cell BK.out 1).trans rfl, (HB.out.cell (World.block_lt_of_cell? w _ HSC2.out)).trans HSC2.out, (HB.out.cell (World.block_lt_of_cell? w _ HCE2.out)).trans HCE2.out⟩ (fun hHeld => ?_)
            clear hK K
            refine norm_ (a' := ?_) ?_ ?_
            rotate_left
            · show Act.put _ (some 148) _ = _
              simp only [Act.put, List.setIfInBounds_toArray, List.set_cons_zero, List.set_cons_succ, i64_w, i32_w]
              rfl
            refine pure_ (i := 15) (N := some 133) (v := ?_) (a' := ?_) #[true, true, true, true, true, true, true, true, true, true, true, true, true, true, true, true, false, false, false, false] rfl rfl (by kernel_rfl) (fun _ _ _ h => h) (Or.inl ⟨by rfl, ?_⟩) ?_ ?_
            rotate_left
            · intro w'
              go_simp
              with_reducible rfl
            rotate_left
            · simp only [Act.put, List.setIfInBounds_toArray, List.set_cons_zero, List.set_cons_succ, i64_w, i32_w]
              rfl
            refine pure_ (i := 16) (N := some 149) (v := ?_) (a' := ?_) #[true, true, true, true, true, true, true, true, true, true, true, true, true, true, true, true, true, false, false, false] rfl rfl (by kernel_rfl) (fun _ _ _ h => h) (Or.inl ⟨by rfl, ?_⟩) ?_ ?_
            rotate_left
            · intro w'
              go_simp
              with_reducible rfl
            rotate_left
            · simp only [Act.put, List.setIfInBounds_toArray, List.set_cons_zero, List.set_cons_succ, i64_w, i32_w]
              rfl
            refine pure_ (i := 17) (N := some 150) (v := ?_) (a' := ?_) #[true, true, true, true, true, true, true, true, true, true, true, true, true, true, true, true, true, true, false, false] rfl rfl (by kernel_rfl) (fun _ _ _ h => h) (Or.inl ⟨by rfl, ?_⟩) ?_ ?_
            rotate_left
            · intro w'
              go_simp
              with_reducible rfl
            rotate_left
            · simp only [Act.put, List.setIfInBounds_toArray, List.set_cons_zero, List.set_cons_succ, i64_w, i32_w]
              rfl
            refine pure_ (i := 18) (N := some 23) (v := ?_) (a' := ?_) #[true, true, true, true, true, true, true, true, true, true, true, true, true, true, true, true, true, true, true, false] rfl rfl (by kernel_rfl) (fun _ _ _ h => h) (Or.inl ⟨by rfl, ?_⟩) ?_ ?_
            rotate_left
            · intro w'
              go_simp
              with_reducible rfl
            rotate_left
            · simp only [Act.put, List.setIfInBounds_toArray, List.set_cons_zero, List.set_cons_succ, i64_w, i32_w]
              rfl
            refine pure_ (i := 19) (N := some 24) (v := ?_) (a' := ?_) #[true, true, true, true, true, true, true, true, true, true, true, true, true, true, true, true, true, true, true, true] rfl rfl (by kernel_rfl) (fun _ _ _ h => h) (Or.inl ⟨by rfl, ?_⟩) ?_ ?_
            rotate_left
            · intro w'
              go_simp
              with_reducible rfl
            rotate_left
            · simp only [Act.put, List.setIfInBounds_toArray, List.set_cons_zero, List.set_cons_succ, i64_w, i32_w]
              rfl
            refine done_ (by kernel_rfl) ?_
            try clear hHeld
            go_wp2
            go_roundg k1
            case measure => have := E1.out; omega
            case rel => exact ⟨i + 1, by rw [w64_ (by have := EV.out; omega) (by have := EV.out; omega)]; rfl, ⟨by have := E1.out; omega, _, _, _, _, _, (hist ++ [l]), go, n, o, rfl, HR.out, HI.out, HRUN.out.1, Runs_snoc' HRUN.out.2.1 HRUN.out.2.2.1 HA.out, by rw [List.length_append, List.length_singleton]; have h_ := HRUN.out.2.2.1; omega, HRUN.out.2.2.2, by rw [List.length_append, List.length_singleton]; have h_ := EV.out; omega, by rw [List.length_append, List.length_singleton]; have h_ := EV.out; omega, fun x hx => (List.mem_append.1 hx).elim (HLS.out x) (fun h => by rw [List.mem_singleton] at h; subst h; exact HL50.out)⟩, HB⟩
          · have HA := Aside0.mk hA
            have HR4 := Aside0.mk h4
            have f1 : (r4 != 0) = true := bne_iff_ne.2 h4
            have f2 : (r4 == 0) = false := beq_eq_false_iff_ne.2 h4
            clear hA h4 hOK
            go_wp2_with fail
            refine start_ (n := 20) (S := fun w' => w'.cell? ⟨g19, 1, none⟩ = some (.int .i64 v) ∧ w'.cell? ⟨(adS.add (i * 3)).block, (adS.add (i * 3)).off + 1, none⟩ = some (.int .i64 ye.f1) ∧ w'.cell? (ad2.add p) = some (.slice Al l.length cl)) (ds := []) #[false, false, false, false, false, false, false, false, false, false, false, false, false, false, false, false, false, false, false, false] (by kernel_rfl) rfl rfl ⟨(blk_cell (blk_drew BK.out) 1).trans rfl, ((below_drew HB.out).cell (World.block_lt_of_cell? w _ HSC1.out)).trans HSC1.out, ((below_drew HB.out).cell (World.block_lt_of_cell? w _ HCE.out)).trans HCE.out⟩ (fun hHeld => ?_)
            have hb := below_drew1 (Below.refl wA.heap.size wA)
            have n0_ := Aside0.mk (HR.out.below hb)
            have n1_ := Aside0.mk (show IsS72 w _ go o.f0 o.f1 o.f2 from ⟨blk_below HI.out.1 hb, HI.out.2⟩)
            have n2_ := Aside0.mk (blk_below BK.out hb)
            have n3_ := Aside0.mk (below_step HB.out hb)
            clear HR HI BK HB
            have HR := n0_
            have HI := n1_
            have BK := n2_
            have HB := n3_
            clear n0_ n1_ n2_ n3_
            clear hb
            generalize wA.drew = w3' at HR HI HB BK hHeld ⊢
            refine pure_ (i := 0) (N := some 114) (v := ?_) (a' := ?_) #[true, false, false, false, false, false, false, false, false, false, false, false, false, false, false, false, false, false, false, false] rfl rfl (by kernel_rfl) (fun _ _ _ h => h) (Or.inl ⟨by rfl, ?_⟩) ?_ ?_
            rotate_left
            · intro w'
              go_simp
              with_reducible rfl
            rotate_left
            · simp only [Act.put, List.setIfInBounds_toArray, List.set_cons_zero, List.set_cons_succ, i64_w, i32_w]
              rfl
            refine pure_ (i := 1) (N := some 115) (v := ?_) (a' := ?_) #[true, true, false, false, false, false, false, false, false, false, false, false, false, false, false, false, false, false, false, false] rfl rfl (by kernel_rfl) (fun _ _ _ h => h) (Or.inl ⟨by rfl, ?_⟩) ?_ ?_
            rotate_left
            · intro w'
              go_simp
              with_reducible rfl
            rotate_left
            · simp only [Act.put, List.setIfInBounds_toArray, List.set_cons_zero, List.set_cons_succ, i64_w, i32_w]
              rfl
            refine take_ (i := 2) (N := some 116) (v := ?_) (a' := ?_) #[true, true, true, false, false, false, false, false, false, false, false, false, false, false, false, false, false, false, false, false] rfl rfl (by kernel_rfl) (fun _ _ _ h => h) (Or.inl ⟨by rfl, ?_⟩) hHeld ?_ ?_
            rotate_left
            · rintro w' ⟨s0, s1, s2⟩
              go_simp
              with_reducible rfl
            rotate_left
            · simp only [Act.put, List.setIfInBounds_toArray, List.set_cons_zero, List.set_cons_succ, i64_w, i32_w]
              rfl
            refine pure_ (i := 3) (N := some 117) (v := ?_) (a' := ?_) #[true, true, true, true, false, false, false, false, false, false, false, false, false, false, false, false, false, false, false, false] rfl rfl (by kernel_rfl) (fun _ _ _ h => h) (Or.inl ⟨by rfl, ?_⟩) ?_ ?_
            rotate_left
            · intro w'
              go_simp
              with_reducible rfl
            rotate_left
            · simp only [Act.put, List.setIfInBounds_toArray, List.set_cons_zero, List.set_cons_succ, i64_w, i32_w]
              rfl
            refine pure_ (i := 4) (N := some 118) (v := ?_) (a' := ?_) #[true, true, true, true, true, false, false, false, false, false, false, false, false, false, false, false, false, false, false, false] rfl rfl (by kernel_rfl) (fun _ _ _ h => h) (Or.inl ⟨by rfl, ?_⟩) ?_ ?_
            rotate_left
            · intro w'
              go_simp
              with_reducible rfl
            rotate_left
            · simp only [Act.put, List.setIfInBounds_toArray, List.set_cons_zero, List.set_cons_succ, i64_w, i32_w]
              rfl
            refine pure_ (i := 5) (N := some 119) (v := ?_) (a' := ?_) #[true, true, true, true, true, true, false, false, false, false, false, false, false, false, false, false, false, false, false, false] rfl rfl (by kernel_rfl) (fun _ _ _ h => h) (Or.inl ⟨by rfl, ?_⟩) ?_ ?_
            rotate_left
            · intro w'
              go_simp
              with_reducible rfl
            rotate_left
            · simp only [Act.put, List.setIfInBounds_toArray, List.set_cons_zero, List.set_cons_succ, i64_w, i32_w]
              rfl
            refine pure_ (i := 6) (N := some 120) (v := ?_) (a' := ?_) #[true, true, true, true, true, true, true, false, false, false, false, false, false, false, false, false, false, false, false, false] rfl rfl (by kernel_rfl) (fun _ _ _ h => h) (Or.inl ⟨by rfl, ?_⟩) ?_ ?_
            rotate_left
            · intro w'
              go_simp
              with_reducible rfl
            rotate_left
            · simp only [Act.put, List.setIfInBounds_toArray, List.set_cons_zero, List.set_cons_succ, i64_w, i32_w]
              rfl
            refine pure_ (i := 7) (N := some 121) (v := ?_) (a' := ?_) #[true, true, true, true, true, true, true, true, false, false, false, false, false, false, false, false, false, false, false, false] rfl rfl (by kernel_rfl) (fun _ _ _ h => h) (Or.inl ⟨by rfl, ?_⟩) ?_ ?_
            rotate_left
            · intro w'
              go_simp
              with_reducible rfl
            rotate_left
            · simp only [Act.put, List.setIfInBounds_toArray, List.set_cons_zero, List.set_cons_succ, i64_w, i32_w]
              rfl
            refine take_ (i := 8) (N := some 122) (v := ?_) (a' := ?_) #[true, true, true, true, true, true, true, true, true, false, false, false, false, false, false, false, false, false, false, false] rfl rfl (by kernel_rfl) (fun _ _ _ h => h) (Or.inl ⟨by rfl, ?_⟩) hHeld ?_ ?_
            rotate_left
            · rintro w' ⟨s0, s1, s2⟩
              go_simp
              with_reducible rfl
            rotate_left
            · simp only [Act.put, List.setIfInBounds_toArray, List.set_cons_zero, List.set_cons_succ, i64_w, i32_w]
              rfl
            refine pure_ (i := 9) (N := some 123) (v := ?_) (a' := ?_) #[true, true, true, true, true, true, true, true, true, true, false, false, false, false, false, false, false, false, false, false] rfl rfl (by kernel_rfl) (fun _ _ _ h => h) (Or.inl ⟨by rfl, ?_⟩) ?_ ?_
            rotate_left
            · intro w'
              go_simp
              with_reducible rfl
            rotate_left
            · simp only [Act.put, List.setIfInBounds_toArray, List.set_cons_zero, List.set_cons_succ, i64_w, i32_w]
              rfl
            refine pure_ (i := 10) (N := some 124) (v := ?_) (a' := ?_) #[true, true, true, true, true, true, true, true, true, true, true, false, false, false, false, false, false, false, false, false] rfl rfl (by kernel_rfl) (fun _ _ _ h => h) (Or.inl ⟨by rfl, ?_⟩) ?_ ?_
            rotate_left
            · intro w'
              go_simp
              with_reducible rfl
            rotate_left
            · simp only [Act.put, List.setIfInBounds_toArray, List.set_cons_zero, List.set_cons_succ, i64_w, i32_w]
              rfl
            refine one_ (i := 11) (N := some 125) #[true, true, true, true, true, true, true, true, true, true, true, true, false, false, false, false, false, false, false, false] rfl rfl (by kernel_rfl) (by decide) (fun K hK => ?_)
            refine goes_ Try.func10 (by kernel_rfl) rfl #[.int .i64 ye.f1, .int .i64 (edits.length : Int)] (by rfl) rfl rfl (by (try simp only [List.map_toArray, List.map_cons, List.map_nil]); first | done | rfl) ?_
            refine (glossatorref3_Mod.calls ye.f1 (edits.length : Int) (p : Int) _ HMp.out).mono ?_
            rintro e_ wm ⟨rfl, hd_⟩
            refine ⟨_, rfl, ?_⟩
            have hb := hd_.below
            have n0_ := Aside0.mk (HR.out.below hb)
            have n1_ := Aside0.mk (show IsS72 w _ go o.f0 o.f1 o.f2 from ⟨blk_below HI.out.1 hb, HI.out.2⟩)
            have n2_ := Aside0.mk (blk_below BK.out hb)
            have n3_ := Aside0.mk (below_step HB.out hb)
            clear HR HI BK HB
            have HR := n0_
            have HI := n1_
            have BK := n2_
            have HB := n3_
            clear n0_ n1_ n2_ n3_
            clear hb hd_
            refine hK.out _ _ ⟨(blk_cell BK.out 1).trans rfl, (HB.out.cell (World.block_lt_of_cell? w _ HSC1.out)).trans HSC1.out, (HB.out.cell (World.block_lt_of_cell? w _ HCE.out)).trans HCE.out⟩ (fun hHeld => ?_)
            clear hK K
            refine norm_ (a' := ?_) ?_ ?_
            rotate_left
            · show Act.put _ (some 125) _ = _
              simp only [Act.put, List.setIfInBounds_toArray, List.set_cons_zero, List.set_cons_succ, i64_w, i32_w]
              rfl
            refine pure_ (i := 12) (N := some 126) (v := ?_) (a' := ?_) #[true, true, true, true, true, true, true, true, true, true, true, true, true, false, false, false, false, false, false, false] rfl rfl (by kernel_rfl) (fun _ _ _ h => h) (Or.inl ⟨by rfl, ?_⟩) ?_ ?_
            rotate_left
            · intro w'
              go_simp
              with_reducible rfl
            rotate_left
            · simp only [Act.put, List.setIfInBounds_toArray, List.set_cons_zero, List.set_cons_succ, i64_w, i32_w]
              rfl
            refine take_ (i := 13) (N := some 127) (v := ?_) (a' := ?_) #[true, true, true, true, true, true, true, true, true, true, true, true, true, true, false, false, false, false, false, false] rfl rfl (by kernel_rfl) (fun _ _ _ h => h) (Or.inl ⟨by rfl, ?_⟩) hHeld ?_ ?_
            rotate_left
            · rintro w' ⟨s0, s1, s2⟩
              go_simp
              with_reducible rfl
            rotate_left
            · simp only [Act.put, List.setIfInBounds_toArray, List.set_cons_zero, List.set_cons_succ, i64_w, i32_w]
              rfl
            refine one_ (i := 14) (N := some 128) #[true, true, true, true, true, true, true, true, true, true, true, true, true, true, true, false, false, false, false, false] rfl rfl (by kernel_rfl) (by decide) (fun K hK => ?_)
            refine goes_ Try.func12 (by kernel_rfl) rfl #[.pointer (some ⟨gr, 0, none⟩), .int .i64 0, .string ⟨#[100]⟩, .int .i64 v, .slice Al l.length cl] (by rfl) rfl rfl (by (try simp only [List.map_toArray, List.map_cons, List.map_nil]); first | done | rfl) ?_
            refine (edit_no 0 (by decide) (by decide) (by decide) (by decide) Al cl l r1 r2 r3 r4 HR.out (fun W_ hk => C56_heap HLC.out (old_keep HB.out hk HR.out.oge (fun b hb => Kd.S_base HR.out.his b hb))) HLL.out HA.out HR4.out).mono ?_
            rintro e_ wm2 ⟨rfl, hb⟩
            refine ⟨_, rfl, ?_⟩
            have n0_ := Aside0.mk (HR.out.below hb)
            have n1_ := Aside0.mk (show IsS72 w _ go o.f0 o.f1 o.f2 from ⟨blk_below HI.out.1 hb, HI.out.2⟩)
            have n2_ := Aside0.mk (blk_below BK.out hb)
            have n3_ := Aside0.mk (below_step HB.out hb)
            clear HR HI BK HB
            have HR := n0_
            have HI := n1_
            have BK := n2_
            have HB := n3_
            clear n0_ n1_ n2_ n3_
            clear hb
            refine hK.out _ _ ⟨(blk_cell BK.out 1).trans rfl, (HB.out.cell (World.block_lt_of_cell? w _ HSC1.out)).trans HSC1.out, (HB.out.cell (World.block_lt_of_cell? w _ HCE.out)).trans HCE.out⟩ (fun hHeld => ?_)
            clear hK K
            refine norm_ (a' := ?_) ?_ ?_
            rotate_left
            · show Act.put _ (some 128) _ = _
              simp only [Act.put, List.setIfInBounds_toArray, List.set_cons_zero, List.set_cons_succ, i64_w, i32_w]
              rfl
            refine pure_ (i := 15) (N := some 113) (v := ?_) (a' := ?_) #[true, true, true, true, true, true, true, true, true, true, true, true, true, true, true, true, false, false, false, false] rfl rfl (by kernel_rfl) (fun _ _ _ h => h) (Or.inl ⟨by rfl, ?_⟩) ?_ ?_
            rotate_left
            · intro w'
              go_simp
              with_reducible rfl
            rotate_left
            · simp only [Act.put, List.setIfInBounds_toArray, List.set_cons_zero, List.set_cons_succ, i64_w, i32_w]
              rfl
            refine pure_ (i := 16) (N := some 129) (v := ?_) (a' := ?_) #[true, true, true, true, true, true, true, true, true, true, true, true, true, true, true, true, true, false, false, false] rfl rfl (by kernel_rfl) (fun _ _ _ h => h) (Or.inl ⟨by rfl, ?_⟩) ?_ ?_
            rotate_left
            · intro w'
              go_simp
              with_reducible rfl
            rotate_left
            · simp only [Act.put, List.setIfInBounds_toArray, List.set_cons_zero, List.set_cons_succ, i64_w, i32_w]
              rfl
            refine pure_ (i := 17) (N := some 130) (v := ?_) (a' := ?_) #[true, true, true, true, true, true, true, true, true, true, true, true, true, true, true, true, true, true, false, false] rfl rfl (by kernel_rfl) (fun _ _ _ h => h) (Or.inl ⟨by rfl, ?_⟩) ?_ ?_
            rotate_left
            · intro w'
              go_simp
              with_reducible rfl
            rotate_left
            · simp only [Act.put, List.setIfInBounds_toArray, List.set_cons_zero, List.set_cons_succ, i64_w, i32_w]
              rfl
            refine pure_ (i := 18) (N := some 21) (v := ?_) (a' := ?_) #[true, true, true, true, true, true, true, true, true, true, true, true, true, true, true, true, true, true, true, false] rfl rfl (by kernel_rfl) (fun _ _ _ h => h) (Or.inl ⟨by rfl, ?_⟩) ?_ ?_
            rotate_left
            · intro w'
              go_simp
              with_reducible rfl
            rotate_left
            · simp only [Act.put, List.setIfInBounds_toArray, List.set_cons_zero, List.set_cons_succ, i64_w, i32_w]
              rfl
            refine pure_ (i := 19) (N := some 22) (v := ?_) (a' := ?_) #[true, true, true, true, true, true, true, true, true, true, true, true, true, true, true, true, true, true, true, true] rfl rfl (by kernel_rfl) (fun _ _ _ h => h) (Or.inl ⟨by rfl, ?_⟩) ?_ ?_
            rotate_left
            · intro w'
              go_simp
              with_reducible rfl
            rotate_left
            · simp only [Act.put, List.setIfInBounds_toArray, List.set_cons_zero, List.set_cons_succ, i64_w, i32_w]
              rfl
            refine done_ (by kernel_rfl) ?_
            try clear hHeld
            go_wp2
            go_roundg k1
            case measure => have := E1.out; omega
            case rel => exact ⟨i + 1, by rw [w64_ (by have := EV.out; omega) (by have := EV.out; omega)]; rfl, ⟨by have := E1.out; omega, _, _, _, _, _, hist, go, n, o, rfl, HR.out, HI.out, HRUN.out.1, HRUN.out.2.1, HRUN.out.2.2.1, HRUN.out.2.2.2, EV.out.1, by have h_ := EV.out; omega, HLS.out⟩, HB⟩
    · have d1 : decide ((i : Int) < (m20 : Int)) = false := decide_eq_false (by omega)
      have d1b : decide (i < m20) = false := decide_eq_false c
      have EV := Aside0.mk (show v = 3 + (hist.length : Int) ∧ hist.length ≤ 20 from ⟨hv, by have h_ := HM20.out; omega⟩)
      clear c e1 hv hhl
      go_upto_region 28 with (first
        | (go_at_call 15; refine (document15 HR.out).mono ?_; rintro e_ w15 ⟨rfl, hb⟩; have n1_ := Aside0.mk (HR.out.below hb); have n2_ := Aside0.mk (show IsS72 w _ go o.f0 o.f1 o.f2 from ⟨blk_below HI.out.1 hb, HI.out.2⟩); have n3_ := Aside0.mk (below_step HB.out hb); clear HR HI HB hb; have HR := n1_; have HI := n2_; have HB := n3_; clear n1_ n2_ n3_)
        | ((with_reducible refine gate_dst (N := 25) rfl ?_); refine box_event ?hg (N := 25) ?hd (cs := #[.string ByteArray.empty, .int .i64 0, .string ByteArray.empty]) (t := 30) ?hr ?_; (case hd => rfl); (case hg => rfl); (case hr => first | (go_simp; done) | (go_simp; rfl)); intro g25 hg w25 hbox hb; have BK := Aside0.mk hbox; have GE := Aside0.mk (show w.heap.size ≤ g25 from by rw [hg]; exact HB.out.size); have n1_ := Aside0.mk (HR.out.below hb); clear HR; have HR := n1_; clear n1_; have n1_ := Aside0.mk (below_step HB.out hb); clear HB; have HB := n1_; clear n1_; have n1_ := Aside0.mk (show IsS72 w _ go o.f0 o.f1 o.f2 from ⟨blk_below HI.out.1 hb, HI.out.2⟩); clear HI; have HI := n1_; clear n1_; have hc0 : w25.cell? ⟨g25, 0, none⟩ = some (.string ByteArray.empty) := (blk_cell BK.out 0).trans rfl; have hf0 := blk_frozen BK.out 0; have hc1 : w25.cell? ⟨g25, 1, none⟩ = some (.int .i64 0) := (blk_cell BK.out 1).trans rfl; have hf1 := blk_frozen BK.out 1; have hc2 : w25.cell? ⟨g25, 2, none⟩ = some (.string ByteArray.empty) := (blk_cell BK.out 2).trans rfl; have hf2 := blk_frozen BK.out 2; clear hbox hb hg))
      have m0_ : (w25.setCell ⟨g25, 0, none⟩ (.string ⟨#[100]⟩)).heap[g25]? = some (.cells #[.string ⟨#[100]⟩, .int .i64 0, .string ByteArray.empty] 30 (0, 0)) := blk_put BK.out 0 _ rfl
      have m1_ : ((w25.setCell ⟨g25, 0, none⟩ (.string ⟨#[100]⟩)).setCell ⟨g25, 1, none⟩ (.int .i64 v)).heap[g25]? = some (.cells #[.string ⟨#[100]⟩, .int .i64 v, .string ByteArray.empty] 30 (0, 0)) := blk_put m0_ 1 _ rfl
      have m2_ : (((w25.setCell ⟨g25, 0, none⟩ (.string ⟨#[100]⟩)).setCell ⟨g25, 1, none⟩ (.int .i64 v)).setCell ⟨g25, 2, none⟩ (.string T')).heap[g25]? = some (.cells #[.string ⟨#[100]⟩, .int .i64 v, .string T'] 30 (0, 0)) := blk_put m1_ 2 _ rfl
      have n1_ := Aside0.mk (((HR.out.set BK.out (by decide) 0 (.string ⟨#[100]⟩)).set m0_ (by decide) 1 (.int .i64 v)).set m1_ (by decide) 2 (.string T'))
      have n3_ : Aside0 (Below w.heap.size w (((w25.setCell ⟨g25, 0, none⟩ (.string ⟨#[100]⟩)).setCell ⟨g25, 1, none⟩ (.int .i64 v)).setCell ⟨g25, 2, none⟩ (.string T'))) := Aside0.mk (below_set (below_set (below_set HB.out GE.out) GE.out) GE.out)
      have n4_ := Aside0.mk m2_
      have n5_ := Aside0.mk (show IsS72 w (((w25.setCell ⟨g25, 0, none⟩ (.string ⟨#[100]⟩)).setCell ⟨g25, 1, none⟩ (.int .i64 v)).setCell ⟨g25, 2, none⟩ (.string T')) go o.f0 o.f1 o.f2 from ⟨((Below.heap_setCell ((w25.setCell ⟨g25, 0, none⟩ (.string ⟨#[100]⟩)).setCell ⟨g25, 1, none⟩ (.int .i64 v)) ⟨g25, 2, none⟩ (.string T') go (ne_types HI.out.1 BK.out (by decide))).trans ((Below.heap_setCell (w25.setCell ⟨g25, 0, none⟩ (.string ⟨#[100]⟩)) ⟨g25, 1, none⟩ (.int .i64 v) go (ne_types HI.out.1 BK.out (by decide))).trans ((Below.heap_setCell w25 ⟨g25, 0, none⟩ (.string ⟨#[100]⟩) go (ne_types HI.out.1 BK.out (by decide))).trans HI.out.1))), HI.out.2⟩)
      clear HR HB BK HI m0_ hc0 hf0 m1_ hc1 hf1 m2_ hc2 hf2
      generalize (((w25.setCell ⟨g25, 0, none⟩ (.string ⟨#[100]⟩)).setCell ⟨g25, 1, none⟩ (.int .i64 v)).setCell ⟨g25, 2, none⟩ (.string T')) = wD at n1_ n3_ n4_ n5_ ⊢
      have HR := n1_
      have HB := n3_
      have BK := n4_
      have HI := n5_
      clear n1_ n3_ n4_ n5_
      clear d1 d1b
      obtain ⟨nL, hnL⟩ : ∃ nL, nL = hist.length - n := ⟨_, rfl⟩
      have HN := Aside0.mk HRUN.out.2.2.1
      have HVN := Aside0.mk (show v - o.f1 = ((hist.length - n : Nat) : Int) from by have h1_ := HRUN.out.2.2; have h2_ := EV.out.1; omega)
      have HDN := Aside0.mk (show (hist.drop n).length = nL from by rw [List.length_drop]; exact hnL.symm)
      have HNL := Aside0.mk (show nL ≤ hist.length from by omega)
      have e7 : wrap64 (v - o.f1) = (nL : Int) := by
        have h1_ := HRUN.out.2.2
        have h2_ := EV.out
        rw [w64_ (by omega) (by omega)]
        omega
      have hfd : ∀ w : World, (Instr.field 30 (.agg #[.string o.f0, .int .i64 o.f1, .string o.f2]) 1).run Try.prog w = .ok (.int .i64 o.f1) w := fun _ => by kernel_rfl
      clear hnL
      go_wp2_with (first
        | (go_at_call 11; refine (doc11 go o.f0 o.f1 o.f2 wD HI.out.1).mono ?_; rintro e_ wd ⟨rfl, q_, os_, hw_⟩; have hb : Below wD.heap.size wD wd := hw_ ▸ gw_below _ _ _; have n1_ := Aside0.mk (HR.out.below hb); have n2_ := Aside0.mk (show IsS72 w _ go o.f0 o.f1 o.f2 from ⟨blk_below HI.out.1 hb, HI.out.2⟩); have n3_ := Aside0.mk (below_step HB.out hb); have n4_ := Aside0.mk (blk_below BK.out hb); clear HR HI HB BK hb hw_; have HR := n1_; have HI := n2_; have HB := n3_; have BK := n4_; clear n1_ n2_ n3_ n4_)
        | (go_at_call 16; refine (since16 o.f1 n HN.out HVN.out (by have h_ := HRUN.out.2.2.2; omega) (by have h_ := EV.out; omega) (by have h_ := EV.out; omega) (fun l hl => by have h_ := HLS.out l hl; omega) HR.out).mono ?_; rintro e_ w16 ⟨vL, rfl, hS, hb⟩; obtain ⟨AL, cL, hvL⟩ := Kd.S_slice hS; rw [HDN.out] at hvL; subst hvL; have HL := Aside0.mk hS; have n2_ := Aside0.mk (show IsS72 w _ go o.f0 o.f1 o.f2 from ⟨blk_below HI.out.1 hb, HI.out.2⟩); have n3_ := Aside0.mk (below_step HB.out hb); have n4_ := Aside0.mk (blk_below BK.out hb); clear HR HI HB BK hb hS; have HI := n2_; have HB := n3_; have BK := n4_; clear n2_ n3_ n4_))
      refine start_ (n := 33) (S := fun w' => w'.cell? ⟨g25, 0, none⟩ = some (.string ⟨#[100]⟩) ∧ w'.cell? ⟨g25, 1, none⟩ = some (.int .i64 v) ∧ w'.cell? ⟨g25, 2, none⟩ = some (.string T')) (ds := []) #[false, false, false, false, false, false, false, false, false, false, false, false, false, false, false, false, false, false, false, false, false, false, false, false, false, false, false, false, false, false, false, false, false] (by kernel_rfl) rfl rfl ⟨(blk_cell (blk_drew BK.out) 0).trans rfl, (blk_cell (blk_drew BK.out) 1).trans rfl, (blk_cell (blk_drew BK.out) 2).trans rfl⟩ (fun hHeld => ?_)
      have hb := below_drew1 (Below.refl w16.heap.size w16)
      have n0_ := Aside0.mk (show IsS72 w _ go o.f0 o.f1 o.f2 from ⟨blk_below HI.out.1 hb, HI.out.2⟩)
      have n1_ := Aside0.mk (blk_below BK.out hb)
      have n2_ := Aside0.mk (Kd.S_below HL.out hb)
      have n3_ := Aside0.mk (below_step HB.out hb)
      clear HI BK HL HB
      have HI := n0_
      have BK := n1_
      have HL := n2_
      have HB := n3_
      clear n0_ n1_ n2_ n3_
      clear hb
      generalize w16.drew = w3' at HI HB BK HL hHeld ⊢
      refine one_ (i := 0) (N := some 167) #[true, false, false, false, false, false, false, false, false, false, false, false, false, false, false, false, false, false, false, false, false, false, false, false, false, false, false, false, false, false, false, false, false] rfl rfl (by kernel_rfl) (by decide) (fun K hK => ?_)
      refine goes_ Try.func5 (by kernel_rfl) rfl #[] (by rfl) rfl rfl (by (try simp only [List.map_toArray, List.map_cons, List.map_nil]); first | done | rfl) ?_
      refine (ex5 _).mono ?_
      rintro e_ we ⟨rfl, hb⟩
      refine ⟨_, rfl, ?_⟩
      have n0_ := Aside0.mk (show IsS72 w _ go o.f0 o.f1 o.f2 from ⟨blk_below HI.out.1 hb, HI.out.2⟩)
      have n1_ := Aside0.mk (blk_below BK.out hb)
      have n2_ := Aside0.mk (Kd.S_below HL.out hb)
      have n3_ := Aside0.mk (below_step HB.out hb)
      clear HI BK HL HB
      have HI := n0_
      have BK := n1_
      have HL := n2_
      have HB := n3_
      clear n0_ n1_ n2_ n3_
      clear hb
      refine hK.out _ _ ⟨(blk_cell BK.out 0).trans rfl, (blk_cell BK.out 1).trans rfl, (blk_cell BK.out 2).trans rfl⟩ (fun hHeld => ?_)
      clear hK K
      refine norm_ (a' := ?_) ?_ ?_
      rotate_left
      · show Act.put _ (some 167) _ = _
        simp only [Act.put, List.setIfInBounds_toArray, List.set_cons_zero, List.set_cons_succ, i64_w, i32_w]
        rfl
      refine pure_ (i := 1) (N := some 168) (v := ?_) (a' := ?_) #[true, true, false, false, false, false, false, false, false, false, false, false, false, false, false, false, false, false, false, false, false, false, false, false, false, false, false, false, false, false, false, false, false] rfl rfl (by kernel_rfl) (fun _ _ _ h => h) (Or.inl ⟨by rfl, ?_⟩) ?_ ?_
      rotate_left
      · intro w'
        go_simp
        with_reducible rfl
      rotate_left
      · simp only [Act.put, List.setIfInBounds_toArray, List.set_cons_zero, List.set_cons_succ, i64_w, i32_w]
        rfl
      refine pure_ (i := 2) (N := some 169) (v := ?_) (a' := ?_) #[true, true, true, false, false, false, false, false, false, false, false, false, false, false, false, false, false, false, false, false, false, false, false, false, false, false, false, false, false, false, false, false, false] rfl rfl (by kernel_rfl) (fun _ _ _ h => h) (Or.inl ⟨by rfl, ?_⟩) ?_ ?_
      rotate_left
      · intro w'
        go_simp
        with_reducible rfl
      rotate_left
      · simp only [Act.put, List.setIfInBounds_toArray, List.set_cons_zero, List.set_cons_succ, i64_w, i32_w]
        rfl
      refine pure_ (i := 3) (N := some 170) (v := ?_) (a' := ?_) #[true, true, true, true, false, false, false, false, false, false, false, false, false, false, false, false, false, false, false, false, false, false, false, false, false, false, false, false, false, false, false, false, false] rfl rfl (by kernel_rfl) (fun _ _ _ h => h) (Or.inl ⟨by rfl, ?_⟩) ?_ ?_
      rotate_left
      · intro w'
        go_simp
        with_reducible rfl
      rotate_left
      · simp only [Act.put, List.setIfInBounds_toArray, List.set_cons_zero, List.set_cons_succ, i64_w, i32_w]
        rfl
      refine pure_ (i := 4) (N := some 171) (v := ?_) (a' := ?_) #[true, true, true, true, true, false, false, false, false, false, false, false, false, false, false, false, false, false, false, false, false, false, false, false, false, false, false, false, false, false, false, false, false] rfl rfl (by kernel_rfl) (fun _ _ _ h => h) (Or.inl ⟨by rfl, ?_⟩) ?_ ?_
      rotate_left
      · intro w'
        go_simp
        with_reducible rfl
      rotate_left
      · simp only [Act.put, List.setIfInBounds_toArray, List.set_cons_zero, List.set_cons_succ, i64_w, i32_w]
        rfl
      refine pure_ (i := 5) (N := some 172) (v := ?_) (a' := ?_) #[true, true, true, true, true, true, false, false, false, false, false, false, false, false, false, false, false, false, false, false, false, false, false, false, false, false, false, false, false, false, false, false, false] rfl rfl (by kernel_rfl) (fun _ _ _ h => h) (Or.inl ⟨by rfl, ?_⟩) ?_ ?_
      rotate_left
      · intro w'
        go_simp
        with_reducible rfl
      rotate_left
      · simp only [Act.put, List.setIfInBounds_toArray, List.set_cons_zero, List.set_cons_succ, i64_w, i32_w]
        rfl
      refine pure_ (i := 6) (N := some 173) (v := ?_) (a' := ?_) #[true, true, true, true, true, true, true, false, false, false, false, false, false, false, false, false, false, false, false, false, false, false, false, false, false, false, false, false, false, false, false, false, false] rfl rfl (by kernel_rfl) (fun _ _ _ h => h) (Or.inl ⟨by rfl, ?_⟩) ?_ ?_
      rotate_left
      · intro w'
        go_simp
        with_reducible rfl
      rotate_left
      · simp only [Act.put, List.setIfInBounds_toArray, List.set_cons_zero, List.set_cons_succ, i64_w, i32_w]
        rfl
      refine pure_ (i := 7) (N := some 174) (v := ?_) (a' := ?_) #[true, true, true, true, true, true, true, true, false, false, false, false, false, false, false, false, false, false, false, false, false, false, false, false, false, false, false, false, false, false, false, false, false] rfl rfl (by kernel_rfl) (fun _ _ _ h => h) (Or.inl ⟨by rfl, ?_⟩) ?_ ?_
      rotate_left
      · intro w'
        go_simp
        with_reducible rfl
      rotate_left
      · simp only [Act.put, List.setIfInBounds_toArray, List.set_cons_zero, List.set_cons_succ, i64_w, i32_w]
        rfl
      refine pure_ (i := 8) (N := some 175) (v := ?_) (a' := ?_) #[true, true, true, true, true, true, true, true, true, false, false, false, false, false, false, false, false, false, false, false, false, false, false, false, false, false, false, false, false, false, false, false, false] rfl rfl (by kernel_rfl) (fun _ _ _ h => h) (Or.inl ⟨by rfl, ?_⟩) ?_ ?_
      rotate_left
      · intro w'
        go_simp
        with_reducible rfl
      rotate_left
      · simp only [Act.put, List.setIfInBounds_toArray, List.set_cons_zero, List.set_cons_succ, i64_w, i32_w]
        rfl
      refine pure_ (i := 9) (N := some 176) (v := ?_) (a' := ?_) #[true, true, true, true, true, true, true, true, true, true, false, false, false, false, false, false, false, false, false, false, false, false, false, false, false, false, false, false, false, false, false, false, false] rfl rfl (by kernel_rfl) (fun _ _ _ h => h) (Or.inl ⟨by rfl, ?_⟩) ?_ ?_
      rotate_left
      · intro w'
        go_simp
        with_reducible rfl
      rotate_left
      · simp only [Act.put, List.setIfInBounds_toArray, List.set_cons_zero, List.set_cons_succ, i64_w, i32_w]
        rfl
      refine pure_ (i := 10) (N := some 177) (v := ?_) (a' := ?_) #[true, true, true, true, true, true, true, true, true, true, true, false, false, false, false, false, false, false, false, false, false, false, false, false, false, false, false, false, false, false, false, false, false] rfl rfl (by kernel_rfl) (fun _ _ _ h => h) (Or.inl ⟨by rfl, ?_⟩) ?_ ?_
      rotate_left
      · intro w'
        go_simp
        with_reducible rfl
      rotate_left
      · simp only [Act.put, List.setIfInBounds_toArray, List.set_cons_zero, List.set_cons_succ, i64_w, i32_w]
        rfl
      refine pure_ (i := 11) (N := some 178) (v := ?_) (a' := ?_) #[true, true, true, true, true, true, true, true, true, true, true, true, false, false, false, false, false, false, false, false, false, false, false, false, false, false, false, false, false, false, false, false, false] rfl rfl (by kernel_rfl) (fun _ _ _ h => h) (Or.inl ⟨by rfl, ?_⟩) ?_ ?_
      rotate_left
      · intro w'
        go_simp
        with_reducible rfl
      rotate_left
      · simp only [Act.put, List.setIfInBounds_toArray, List.set_cons_zero, List.set_cons_succ, i64_w, i32_w]
        rfl
      refine pure_ (i := 12) (N := some 179) (v := ?_) (a' := ?_) #[true, true, true, true, true, true, true, true, true, true, true, true, true, false, false, false, false, false, false, false, false, false, false, false, false, false, false, false, false, false, false, false, false] rfl rfl (by kernel_rfl) (fun _ _ _ h => h) (Or.inl ⟨by rfl, ?_⟩) ?_ ?_
      rotate_left
      · intro w'
        go_simp
        with_reducible rfl
      rotate_left
      · simp only [Act.put, List.setIfInBounds_toArray, List.set_cons_zero, List.set_cons_succ, i64_w, i32_w]
        rfl
      refine take_ (i := 13) (N := some 180) (v := ?_) (a' := ?_) #[true, true, true, true, true, true, true, true, true, true, true, true, true, true, false, false, false, false, false, false, false, false, false, false, false, false, false, false, false, false, false, false, false] rfl rfl (by kernel_rfl) (fun _ _ _ h => h) (Or.inl ⟨by rfl, ?_⟩) hHeld ?_ ?_
      rotate_left
      · rintro w' ⟨s0, s1, s2⟩
        go_simp
        with_reducible rfl
      rotate_left
      · simp only [Act.put, List.setIfInBounds_toArray, List.set_cons_zero, List.set_cons_succ, i64_w, i32_w]
        rfl
      refine pure_ (i := 14) (N := some 181) (v := ?_) (a' := ?_) #[true, true, true, true, true, true, true, true, true, true, true, true, true, true, true, false, false, false, false, false, false, false, false, false, false, false, false, false, false, false, false, false, false] rfl rfl (by kernel_rfl) (fun _ _ _ h => h) (Or.inl ⟨by rfl, ?_⟩) ?_ ?_
      rotate_left
      · intro w'
        go_simp
        with_reducible rfl
      rotate_left
      · simp only [Act.put, List.setIfInBounds_toArray, List.set_cons_zero, List.set_cons_succ, i64_w, i32_w]
        rfl
      refine one_ (i := 15) (N := some 182) #[true, true, true, true, true, true, true, true, true, true, true, true, true, true, true, true, false, false, false, false, false, false, false, false, false, false, false, false, false, false, false, false, false] rfl rfl (by kernel_rfl) (by decide) (fun K hK => ?_)
      refine goes_ Try.func11 (by kernel_rfl) rfl #[.pointer (some ⟨go, 0, none⟩)] (by rfl) rfl rfl (by (try simp only [List.map_toArray, List.map_cons, List.map_nil]); first | done | rfl) ?_
      refine (doc11 go o.f0 o.f1 o.f2 _ HI.out.1).mono ?_
      rintro e_ wd2 ⟨rfl, q_, os_, hw_⟩
      refine ⟨_, rfl, ?_⟩
      have hb : Below we.heap.size we wd2 := hw_ ▸ gw_below _ _ _
      have n0_ := Aside0.mk (show IsS72 w _ go o.f0 o.f1 o.f2 from ⟨blk_below HI.out.1 hb, HI.out.2⟩)
      have n1_ := Aside0.mk (blk_below BK.out hb)
      have n2_ := Aside0.mk (Kd.S_below HL.out hb)
      have n3_ := Aside0.mk (below_step HB.out hb)
      clear HI BK HL HB
      have HI := n0_
      have BK := n1_
      have HL := n2_
      have HB := n3_
      clear n0_ n1_ n2_ n3_
      clear hb hw_
      refine hK.out _ _ ⟨(blk_cell BK.out 0).trans rfl, (blk_cell BK.out 1).trans rfl, (blk_cell BK.out 2).trans rfl⟩ (fun hHeld => ?_)
      clear hK K
      refine norm_ (a' := ?_) ?_ ?_
      rotate_left
      · show Act.put _ (some 182) _ = _
        simp only [Act.put, List.setIfInBounds_toArray, List.set_cons_zero, List.set_cons_succ, i64_w, i32_w]
        rfl
      refine pure_ (i := 16) (N := some 183) (v := ?_) (a' := ?_) #[true, true, true, true, true, true, true, true, true, true, true, true, true, true, true, true, true, false, false, false, false, false, false, false, false, false, false, false, false, false, false, false, false] rfl rfl (by kernel_rfl) (fun _ _ _ h => h) (Or.inl ⟨by rfl, ?_⟩) ?_ ?_
      rotate_left
      · intro w'
        go_simp
        with_reducible rfl
      rotate_left
      · simp only [Act.put, List.setIfInBounds_toArray, List.set_cons_zero, List.set_cons_succ, i64_w, i32_w]
        rfl
      refine pure_ (i := 17) (N := some 184) (v := ?_) (a' := ?_) #[true, true, true, true, true, true, true, true, true, true, true, true, true, true, true, true, true, true, false, false, false, false, false, false, false, false, false, false, false, false, false, false, false] rfl rfl (by kernel_rfl) (fun _ _ _ h => h) (Or.inl ⟨by rfl, ?_⟩) ?_ ?_
      rotate_left
      · intro w'
        go_simp
        with_reducible rfl
      rotate_left
      · simp only [Act.put, List.setIfInBounds_toArray, List.set_cons_zero, List.set_cons_succ, i64_w, i32_w]
        rfl
      refine pure_ (i := 18) (N := some 185) (v := ?_) (a' := ?_) #[true, true, true, true, true, true, true, true, true, true, true, true, true, true, true, true, true, true, true, false, false, false, false, false, false, false, false, false, false, false, false, false, false] rfl rfl (by kernel_rfl) (fun _ _ _ h => h) (Or.inl ⟨by rfl, ?_⟩) ?_ ?_
      rotate_left
      · intro w'
        go_simp
        with_reducible rfl
      rotate_left
      · simp only [Act.put, List.setIfInBounds_toArray, List.set_cons_zero, List.set_cons_succ, i64_w, i32_w]
        rfl
      refine pure_ (i := 19) (N := some 186) (v := ?_) (a' := ?_) #[true, true, true, true, true, true, true, true, true, true, true, true, true, true, true, true, true, true, true, true, false, false, false, false, false, false, false, false, false, false, false, false, false] rfl rfl (by kernel_rfl) (fun _ _ _ h => h) (Or.inl ⟨by rfl, ?_⟩) ?_ ?_
      rotate_left
      · intro w'
        go_simp
        with_reducible rfl
      rotate_left
      · simp only [Act.put, List.setIfInBounds_toArray, List.set_cons_zero, List.set_cons_succ, i64_w, i32_w]
        rfl
      refine pure_ (i := 20) (N := some 187) (v := ?_) (a' := ?_) #[true, true, true, true, true, true, true, true, true, true, true, true, true, true, true, true, true, true, true, true, true, false, false, false, false, false, false, false, false, false, false, false, false] rfl rfl (by kernel_rfl) (fun _ _ _ h => h) (Or.inl ⟨by rfl, ?_⟩) ?_ ?_
      rotate_left
      · intro w'
        go_simp
        with_reducible rfl
      rotate_left
      · simp only [Act.put, List.setIfInBounds_toArray, List.set_cons_zero, List.set_cons_succ, i64_w, i32_w]
        rfl
      refine pure_ (i := 21) (N := some 188) (v := ?_) (a' := ?_) #[true, true, true, true, true, true, true, true, true, true, true, true, true, true, true, true, true, true, true, true, true, true, false, false, false, false, false, false, false, false, false, false, false] rfl rfl (by kernel_rfl) (fun _ _ _ h => h) (Or.inl ⟨by rfl, ?_⟩) ?_ ?_
      rotate_left
      · intro w'
        go_simp
        with_reducible rfl
      rotate_left
      · simp only [Act.put, List.setIfInBounds_toArray, List.set_cons_zero, List.set_cons_succ, i64_w, i32_w]
        rfl
      refine pure_ (i := 22) (N := some 189) (v := ?_) (a' := ?_) #[true, true, true, true, true, true, true, true, true, true, true, true, true, true, true, true, true, true, true, true, true, true, true, false, false, false, false, false, false, false, false, false, false] rfl rfl (by kernel_rfl) (fun _ _ _ h => h) (Or.inl ⟨by rfl, ?_⟩) ?_ ?_
      rotate_left
      · intro w'
        go_simp
        with_reducible rfl
      rotate_left
      · simp only [Act.put, List.setIfInBounds_toArray, List.set_cons_zero, List.set_cons_succ, i64_w, i32_w]
        rfl
      refine one_ (i := 23) (N := some 190) #[true, true, true, true, true, true, true, true, true, true, true, true, true, true, true, true, true, true, true, true, true, true, true, true, false, false, false, false, false, false, false, false, false] rfl rfl (by kernel_rfl) (by decide) (fun K hK => ?_)
      refine goes_ Try.func13 (by kernel_rfl) rfl #[.pointer (some ⟨go, 0, none⟩), .slice AL nL cL] (by rfl) rfl rfl (by (try simp only [List.map_toArray, List.map_cons, List.map_nil]); first | done | rfl) ?_
      have hcall := docsync_Replica_CatchUp.calls 1002 go o.f0 o.f1 o.f2 AL cL (hist.drop n) 0 ⟨#[100]⟩ v T' w _ HI.out HB.out (fun W_ hk => (Kd.S_reads' (S_keepG HL.out HI.out.1 (by decide) hk)).2.2) (by have h_ := (Kd.S_reads' HL.out).2.1; rw [HDN.out]; exact h_) (Runs_catchUp o ⟨⟨#[100]⟩, v, T'⟩ (hist.drop n) (by rw [HDN.out]; have h_ := EV.out; have h2_ := HNL.out; omega) HRUN.out.2.1)
      rw [HDN.out] at hcall
      refine hcall.mono ?_
      rintro e_ wc2 ⟨rfl, h1, h2, hk⟩
      refine ⟨_, rfl, ?_⟩
      have n0_ := Aside0.mk (hk.blk BK.out (ne_types BK.out HI.out.1 (by decide)) (by simp))
      have n1_ := Aside0.mk (h1)
      have n2_ := Aside0.mk (h2)
      clear BK HI HB
      have BK := n0_
      have HI := n1_
      have HB := n2_
      clear n0_ n1_ n2_
      clear h1 h2 hk hcall
      refine hK.out _ _ ⟨(blk_cell BK.out 0).trans rfl, (blk_cell BK.out 1).trans rfl, (blk_cell BK.out 2).trans rfl⟩ (fun hHeld => ?_)
      clear hK K
      refine norm_ (a' := ?_) ?_ ?_
      rotate_left
      · show Act.put _ (some 190) _ = _
        simp only [Act.put, List.setIfInBounds_toArray, List.set_cons_zero, List.set_cons_succ, i64_w, i32_w]
        rfl
      refine pure_ (i := 24) (N := some 191) (v := ?_) (a' := ?_) #[true, true, true, true, true, true, true, true, true, true, true, true, true, true, true, true, true, true, true, true, true, true, true, true, true, false, false, false, false, false, false, false, false] rfl rfl (by kernel_rfl) (fun _ _ _ h => h) (Or.inl ⟨by rfl, ?_⟩) ?_ ?_
      rotate_left
      · intro w'
        go_simp
        with_reducible rfl
      rotate_left
      · simp only [Act.put, List.setIfInBounds_toArray, List.set_cons_zero, List.set_cons_succ, i64_w, i32_w]
        rfl
      refine pure_ (i := 25) (N := some 192) (v := ?_) (a' := ?_) #[true, true, true, true, true, true, true, true, true, true, true, true, true, true, true, true, true, true, true, true, true, true, true, true, true, true, false, false, false, false, false, false, false] rfl rfl (by kernel_rfl) (fun _ _ _ h => h) (Or.inl ⟨by rfl, ?_⟩) ?_ ?_
      rotate_left
      · intro w'
        go_simp
        with_reducible rfl
      rotate_left
      · simp only [Act.put, List.setIfInBounds_toArray, List.set_cons_zero, List.set_cons_succ, i64_w, i32_w]
        rfl
      refine pure_ (i := 26) (N := some 193) (v := ?_) (a' := ?_) #[true, true, true, true, true, true, true, true, true, true, true, true, true, true, true, true, true, true, true, true, true, true, true, true, true, true, true, false, false, false, false, false, false] rfl rfl (by kernel_rfl) (fun _ _ _ h => h) (Or.inl ⟨by rfl, ?_⟩) ?_ ?_
      rotate_left
      · intro w'
        go_simp
        with_reducible rfl
      rotate_left
      · simp only [Act.put, List.setIfInBounds_toArray, List.set_cons_zero, List.set_cons_succ, i64_w, i32_w]
        rfl
      refine pure_ (i := 27) (N := some 194) (v := ?_) (a' := ?_) #[true, true, true, true, true, true, true, true, true, true, true, true, true, true, true, true, true, true, true, true, true, true, true, true, true, true, true, true, false, false, false, false, false] rfl rfl (by kernel_rfl) (fun _ _ _ h => h) (Or.inl ⟨by rfl, ?_⟩) ?_ ?_
      rotate_left
      · intro w'
        go_simp
        with_reducible rfl
      rotate_left
      · simp only [Act.put, List.setIfInBounds_toArray, List.set_cons_zero, List.set_cons_succ, i64_w, i32_w]
        rfl
      refine take_ (i := 29) (N := some 196) (v := ?_) (a' := ?_) #[true, true, true, true, true, true, true, true, true, true, true, true, true, true, true, true, true, true, true, true, true, true, true, true, true, true, true, true, false, true, false, false, false] rfl rfl (by kernel_rfl) (fun _ _ _ h => h) (Or.inl ⟨by rfl, ?_⟩) hHeld ?_ ?_
      rotate_left
      · rintro w' ⟨s0, s1, s2⟩
        go_simp
        with_reducible rfl
      rotate_left
      · simp only [Act.put, List.setIfInBounds_toArray, List.set_cons_zero, List.set_cons_succ, i64_w, i32_w]
        rfl
      refine one_ (i := 28) (N := some 195) #[true, true, true, true, true, true, true, true, true, true, true, true, true, true, true, true, true, true, true, true, true, true, true, true, true, true, true, true, true, true, false, false, false] rfl rfl (by kernel_rfl) (by decide) (fun K hK => ?_)
      refine goes_ Try.func11 (by kernel_rfl) rfl #[.pointer (some ⟨go, 0, none⟩)] (by rfl) rfl rfl (by (try simp only [List.map_toArray, List.map_cons, List.map_nil]); first | done | rfl) ?_
      refine (doc11 go ⟨#[100]⟩ v T' _ HI.out.1).mono ?_
      rintro e_ wd3 ⟨rfl, q_, os_, hw_⟩
      refine ⟨_, rfl, ?_⟩
      have hb : Below wc2.heap.size wc2 wd3 := hw_ ▸ gw_below _ _ _
      have n0_ := Aside0.mk (blk_below BK.out hb)
      have n1_ := Aside0.mk (below_step HB.out hb)
      clear BK HB
      have BK := n0_
      have HB := n1_
      clear n0_ n1_
      clear hb hw_
      refine hK.out _ _ ⟨(blk_cell BK.out 0).trans rfl, (blk_cell BK.out 1).trans rfl, (blk_cell BK.out 2).trans rfl⟩ (fun hHeld => ?_)
      clear hK K
      refine norm_ (a' := ?_) ?_ ?_
      rotate_left
      · show Act.put _ (some 195) _ = _
        simp only [Act.put, List.setIfInBounds_toArray, List.set_cons_zero, List.set_cons_succ, i64_w, i32_w]
        rfl
      refine pure_ (i := 30) (N := some 197) (v := ?_) (a' := ?_) #[true, true, true, true, true, true, true, true, true, true, true, true, true, true, true, true, true, true, true, true, true, true, true, true, true, true, true, true, true, true, true, false, false] rfl rfl (by kernel_rfl) (fun _ _ _ h => h) (Or.inl ⟨by rfl, ?_⟩) ?_ ?_
      rotate_left
      · intro w'
        go_simp
        with_reducible rfl
      rotate_left
      · simp only [Act.put, List.setIfInBounds_toArray, List.set_cons_zero, List.set_cons_succ, i64_w, i32_w]
        rfl
      refine pure_ (i := 31) (N := some 198) (v := ?_) (a' := ?_) #[true, true, true, true, true, true, true, true, true, true, true, true, true, true, true, true, true, true, true, true, true, true, true, true, true, true, true, true, true, true, true, true, false] rfl rfl (by kernel_rfl) (fun _ _ _ h => h) (Or.inl ⟨by rfl, ?_⟩) ?_ ?_
      rotate_left
      · intro w'
        go_simp
        with_reducible rfl
      rotate_left
      · simp only [Act.put, List.setIfInBounds_toArray, List.set_cons_zero, List.set_cons_succ, i64_w, i32_w]
        rfl
      refine pure_ (i := 32) (N := some 8) (v := ?_) (a' := ?_) #[true, true, true, true, true, true, true, true, true, true, true, true, true, true, true, true, true, true, true, true, true, true, true, true, true, true, true, true, true, true, true, true, true] rfl rfl (by kernel_rfl) (fun _ _ _ h => h) (Or.inl ⟨by rfl, ?_⟩) ?_ ?_
      rotate_left
      · intro w'
        go_simp
        with_reducible rfl
      rotate_left
      · simp only [Act.put, List.setIfInBounds_toArray, List.set_cons_zero, List.set_cons_succ, i64_w, i32_w]
        rfl
      refine done_ (by kernel_rfl) ?_
      try clear hHeld
      go_wp2
      go_ret
      exact ⟨rfl, HB.out⟩
end Go.Proofs.Ytficalhfbopjbaa.Ds
