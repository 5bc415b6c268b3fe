/- fixpoint.cloneRules, slices.Clone of numbers. Condition: a system that Check accepts. -/
import Derived.RangeFuncNested
import Derived.RangeFuncBound
import Derived.RangeFuncCalls
import Derived.RangeFuncLeaves
import Derived.RangeFuncBox
import Derived.Shelf.Abstract
import Derived.Shelf.RegionOpen
import Derived.WalkKit
import Derived.OwnWalkIn
import Derived.TacticsInMore
import Derived.LoopNIn
import Derived.LoopIn
import Derived.BigQuiet
import Derived.Test.YtgjcembdmohhkaaFshDe
import Derived.Test.YtgjcembdmohhkaaFsx3
namespace Go.Proofs.Ytgjcembdmohhkaa.Fs
open Go.RowKit Go.Shelf Go.Proofs.YtgjcembdmohhkaaW.PrintWords Go.Proofs.YtgjcembdmohhkaaW.PrintLast Go.Proofs.YtgjcembdmohhkaaW.PrintMore
open Go.Proofs.Ytgjcembdmohhkaa
set_option linter.unusedVariables false
set_option linter.unusedSimpArgs false
attribute [local go_sem] Oper.semAt_some
set_option maxHeartbeats 8000000 in
set_option maxRecDepth 100000 in
theorem clone22 (A : Option Addr) (c : Nat) (xs : List Int) (W : World) (hr : Kd.C (Kd.int .i64) W A xs.length xs) (hc : xs.length ≤ c) (hl : xs.length * 8 ≤ 140737488351232) :
    Calls Try.prog 22 #[.slice A xs.length c] W fun e W' => ∃ v, e = .returned v ∧ Kd.R (Kd.int .i64) 3 W' W.heap.size (fun _ => True) v xs ∧ Below W.heap.size W W' := by
  have hu23 := Try.underlying23
  have hu3 := Try.underlying3
  have HR := Aside0.mk hr
  have HL := Aside0.mk hl
  clear hr hl
  have HB := Aside0.mk (Below.refl W.heap.size W)
  cases A with
  | none =>
    have hq := fun w n c => Go.Lib.run_eql_slice_nil (P := Try.prog) w 23 3 none n c 0 0 hu23
    simp only [Option.isNone_none] at hq
    go_enter Try.func22, Try.ntmps22
    go_wp2
    go_ret
    have h0 : xs = [] := by
      have := HR.out
      cases xs with
      | nil => rfl
      | cons x r =>
        obtain ⟨ad, ea, _⟩ := Kd.at_int this 0 (by omega) (by simp)
        cases ea
    subst h0
    exact ⟨_, rfl, Kd.R_nil _ _ _ _ _, HB.out⟩
  | some ad =>
    have hq := fun w n c => Go.Lib.run_eql_slice_nil (P := Try.prog) w 23 3 (some ad) n c 0 0 hu23
    simp only [Option.isNone_some] at hq
    go_enter Try.func22, Try.ntmps22
    go_wp2_with (first | ((with_reducible refine gate_dst (N := 5) rfl ?_); refine Kd.R_lit (Kd.int .i64) _ 3 ?hg (N := 5) ?hd (xs := ([] : List Int)) (inner := []) (ok := fun _ => True) (okp := fun _ => True) ?hr ?hp (fun _ hk => hk) trivial (Below.refl _ _) (Nat.le_refl _) (by simp) ?_; (case hd => rfl); (case hg => rfl); (case hr => first | (go_simp; done) | (go_simp; rfl)); (case hp => exact Reps.none _ _); intro v5 w5 ho hb hg_ hnew_; clear hg_ hnew_; have HO := Aside0.mk ho; have HB5 := Aside0.mk hb; have HR5 := Aside0.mk (Kd.C_below HR.out hb); clear ho hb) | (at_builtin; (refine Kd.R_append_rows (Kd.int .i64) (w0 := W) W.heap.size rfl (.tmp 5) (.tmp 6) 23 3 _ _ rfl Try.underlying23 info3 rfl (by decide) (by omega) v5 [] xs _ _ _ (fun _ => True) (fun _ => False) rfl rfl HO.out HR5.out (fun _ _ h => h) (fun _ h => h.elim) (fun _ _ => trivial) HB5.out HB5.out.size (by have := HL.out; simp only [List.length_nil]; omega) ?_; rintro v1 w1 hv hb _ _; have HV := Aside0.mk hv; have HBF := Aside0.mk hb; clear hv hb)))
    go_ret
    exact ⟨_, rfl, HV.out, HBF.out⟩
/-- the first i lists whole, of list i the first j rules -/
def clF (l0 : List (List S31)) (i j : Nat) : List (List S31) := l0.mapIdx (fun k r => if k < i then r else if k = i then r.take j else [])
theorem clF_len (l0 : List (List S31)) (i j : Nat) : (clF l0 i j).length = l0.length := by unfold clF; rw [List.length_mapIdx]
theorem clF_zero (l0 : List (List S31)) : clF l0 0 0 = List.replicate l0.length [] := by
  unfold clF
  apply List.ext_getElem
  · rw [List.length_mapIdx, List.length_replicate]
  · intro k h1 h2
    rw [List.getElem_mapIdx, List.getElem_replicate, if_neg (by omega)]
    split <;> simp
theorem clF_all (l0 : List (List S31)) : clF l0 l0.length 0 = l0 := by
  unfold clF
  apply List.ext_getElem
  · rw [List.length_mapIdx]
  · intro k h1 h2
    rw [List.getElem_mapIdx, if_pos h2]
theorem clF_next (l0 : List (List S31)) (i : Nat) (hi : i < l0.length) : clF l0 i (rd_L3 l0 (i : Int)).length = clF l0 (i + 1) 0 := by
  have e : rd_L3 l0 (i : Int) = l0[i] := by unfold rd_L3; simp [hi]
  rw [e]
  unfold clF
  apply List.ext_getElem
  · rw [List.length_mapIdx, List.length_mapIdx]
  · intro k h1 h2
    rw [List.getElem_mapIdx, List.getElem_mapIdx]
    by_cases hk : k < i
    · rw [if_pos hk, if_pos (by omega)]
    · rw [if_neg hk]
      by_cases hk2 : k = i
      · subst hk2
        rw [if_pos rfl, if_pos (by omega), List.take_length]
      · rw [if_neg hk2, if_neg (by omega)]
        split <;> simp
theorem clF_get (l0 : List (List S31)) (i j : Nat) (hi : i < l0.length) : (clF l0 i j).getD i [] = (rd_L3 l0 (i : Int)).take j := by
  have e : rd_L3 l0 (i : Int) = l0[i] := by unfold rd_L3; simp [hi]
  rw [e, List.getD_eq_getElem?_getD, List.getElem?_eq_getElem (by rw [clF_len]; exact hi)]
  unfold clF
  rw [Option.getD_some, List.getElem_mapIdx, if_neg (by omega), if_pos rfl]
theorem clF_set (l0 : List (List S31)) (i j : Nat) (hi : i < l0.length) (hj : j < (rd_L3 l0 (i : Int)).length) : (clF l0 i j).set i ((clF l0 i j).getD i [] ++ [rd_T31 (rd_L3 l0 (i : Int)) (j : Int)]) = clF l0 i (j + 1) := by
  rw [clF_get l0 i j hi]
  have e : rd_L3 l0 (i : Int) = l0[i] := by unfold rd_L3; simp [hi]
  rw [e] at hj ⊢
  have e2 : rd_T31 l0[i] (j : Int) = l0[i][j] := by unfold rd_T31; simp [hj]
  rw [e2]
  unfold clF
  apply List.ext_getElem
  · rw [List.length_set, List.length_mapIdx, List.length_mapIdx]
  · intro k h1 h2
    rw [List.getElem_set, List.getElem_mapIdx, List.getElem_mapIdx]
    by_cases hk : i = k
    · subst hk
      rw [if_pos rfl, if_neg (by omega), if_pos rfl, List.take_succ_eq_append_getElem hj]
    · rw [if_neg hk]
      split
      · rfl
      · rw [if_neg (by omega), if_neg (by omega)]
set_option maxHeartbeats 16000000 in
set_option maxRecDepth 100000 in
theorem cloneRules_calls (A0 : Option Addr) (c0 : Nat) (l0 : List (List S31)) (w : World) (hr0 : Kd.C (Kd.slice 31 k31) w A0 l0.length l0) (hc0 : l0.length ≤ c0) (hok : Okr l0) :
    Calls Try.prog 21 #[.slice A0 l0.length c0] w fun e w' => ∃ v, e = .returned v ∧ Kd.S (Kd.slice 31 k31) 39 w' w.heap.size (fun _ => True) v l0 ∧ Below w.heap.size w w' := by
  have hu22 := Try.underlying22
  have hu23 := Try.underlying23
  have hu31 := Try.underlying31
  have hu39 := Try.underlying39
  have HR0 := Aside0.mk hr0
  have HC0 := Aside0.mk hc0
  have HOK := Aside0.mk hok
  clear hr0 hc0 hok
  have HB := Aside0.mk (Below.refl w.heap.size w)
  go_enter Try.func21, Try.ntmps21
  go_wp2_with (((with_reducible refine gate_dst (N := 10) rfl ?_); refine Kd.S_make (Kd.slice 31 k31) w.heap.size 39 rfl (N := 10) rfl 22 _ _ rfl (l0.length : Int) rfl rfl Try.underlying22 (.slice none 0 0) 24 info39 rfl (show 0 < 1 by decide) (by omega) ([] : List S31) (ok := fun _ => True) (okp := fun _ => True) ⟨_, rfl, Kd.R_nil _ _ _ _ _⟩ (fun _ hk => hk) trivial (by omega) (by have h_ := HOK.out.n60; omega) HB.out HB.out.size ?_; intro v1 wk ho hb hg hnew; rw [Int.toNat_natCast] at ho; have n0_ := Aside0.mk hb; have HM := Aside0.mk ho; obtain ⟨A, c, e_⟩ := Kd.S_slice ho; subst e_; rw [List.length_replicate] at HM ⊢; clear HB ho hb hg hnew; have HB := n0_; clear n0_))
  go_loopg [13] l0.length (fun kq v13 w' => ∃ i : Nat, v13 = .int .i64 (i : Int) ∧ Aside0 (i + kq = l0.length) ∧ Aside0 (Below w.heap.size w w') ∧ Aside0 (Kd.S (Kd.slice 31 k31) 39 w' w.heap.size (fun _ => True) (.slice A l0.length c) (clF l0 i 0)))
  case atStart => exact ⟨0, rfl, ⟨by omega⟩, HB, ⟨by rw [clF_zero]; exact HM.out⟩⟩
  case round =>
    clear HB HM
    obtain ⟨i, rfl, E1, HB, HM⟩ := hrel
    by_cases c1 : i < l0.length
    · have c1b : decide (i < l0.length) = true := decide_eq_true c1
      have c1c : decide ((i : Int) < (l0.length : Int)) = true := decide_eq_true (by omega)
      obtain ⟨k1, rfl⟩ : ∃ k1, gk = k1 + 1 := ⟨gk - 1, by have h_ := E1.out; omega⟩
      have p1 : 0 ≤ (i : Int) := by omega
      have p2 : (i : Int) < (l0.length : Int) := by omega
      obtain ⟨g, cap_, ev_, GE0, _⟩ := Kd.S_form HM.out (by rw [clF_len]; omega)
      have GE := Aside0.mk GE0
      clear GE0
      simp only [Value.slice.injEq] at ev_
      obtain ⟨rfl, -, -⟩ := ev_
      obtain ⟨ad, A2, c2, ea, hy0, hl2, hi2⟩ := at_L3 HR0.out (i : Int) p1 p2
      cases ea
      rw [Int.toNat_natCast] at hy0
      replace hy0 := (HB.out.cell (World.block_lt_of_cell? w _ hy0)).trans hy0
      have HRL := Aside0.mk hi2
      have HI := Aside0.mk c1
      have HNX := Aside0.mk (clF_next l0 i c1)
      have HST0 := Aside0.mk (clF_set l0 i · c1)
      have HGT := Aside0.mk (fun j => clF_get l0 i j c1)
      have HL20 := Aside0.mk (show (rd_L3 l0 (i : Int)).length ≤ 20 ∧ ∀ r ∈ rd_L3 l0 (i : Int), r.f1.length ≤ 60 from by
        have e_ : rd_L3 l0 (i : Int) = l0[i] := by unfold rd_L3; simp [c1]
        rw [e_]; exact ⟨HOK.out.l20 _ (List.getElem_mem _), fun r hr => HOK.out.a60 _ (List.getElem_mem _) r hr⟩)
      generalize rd_L3 l0 (i : Int) = L at hy0 hl2 HRL HNX HST0 HGT HL20 hi2
      have hw1 : wrap64 ((i : Int) + 1) = (i : Int) + 1 := w64_id' (by omega) (by have := HOK.out.n60; omega)
      have hw1b : IntKind.i64.wrap ((i : Int) + 1) = (i : Int) + 1 := (i64_w _).trans hw1
      have p2b := eq_true c1
      replace p1 := eq_true p1
      replace p2 := eq_true p2
      clear hl2 hi2 c1
      go_wp2
      go_loopg [20] L.length (fun kq v20 w' => ∃ j : Nat, v20 = .int .i64 (j : Int) ∧ Aside0 (j + kq = L.length) ∧ Aside0 (Below w.heap.size w w') ∧ Aside0 (Kd.S (Kd.slice 31 k31) 39 w' w.heap.size (fun _ => True) (.slice (some ⟨g, 0, none⟩) l0.length c) (clF l0 i j)))
      case atStart => exact ⟨0, rfl, ⟨by omega⟩, HB, HM⟩
      case round =>
        clear HB HM hy0
        obtain ⟨j, rfl, E2, HB, HM⟩ := hrel
        by_cases c2 : j < L.length
        · have c2b : decide (j < L.length) = true := decide_eq_true c2
          have c2c : decide ((j : Int) < (L.length : Int)) = true := decide_eq_true (by omega)
          obtain ⟨k2, rfl⟩ : ∃ k2, gk = k2 + 1 := ⟨gk - 1, by have h_ := E2.out; omega⟩
          have u1 : 0 ≤ (j : Int) := by omega
          have u2 : (j : Int) < (L.length : Int) := by omega
          obtain ⟨ad2, A3, c3, ea, hz0, hz1, hl3, hi3⟩ := at_T31 HRL.out (j : Int) u1 u2
          cases ea
          rw [Int.toNat_natCast] at hz0 hz1
          replace hz0 := (HB.out.cell (World.block_lt_of_cell? w _ hz0)).trans hz0
          replace hz1 := (HB.out.cell (World.block_lt_of_cell? w _ hz1)).trans hz1
          have HST := Aside0.mk (HST0.out j c2)
          have HGL := Aside0.mk (show ((clF l0 i j).getD i []).length ≤ 20 from by rw [HGT.out j, List.length_take]; have h_ := HL20.out.1; omega)
          have HLA := Aside0.mk (show (rd_T31 L (j : Int)).f1.length ≤ 60 from HL20.out.2 _ (by
            have e_ : rd_T31 L (j : Int) = L[j] := by unfold rd_T31; simp [c2]
            rw [e_]; exact List.getElem_mem _))
          have HRA := Aside0.mk hi3
          have HCA := Aside0.mk hl3
          generalize rd_T31 L (j : Int) = r at hz0 hz1 HST HLA HRA HCA hi3 hl3
          have hw2 : wrap64 ((j : Int) + 1) = (j : Int) + 1 := w64_id' (by omega) (by have := HL20.out.1; omega)
          have hw2b : IntKind.i64.wrap ((j : Int) + 1) = (j : Int) + 1 := (i64_w _).trans hw2
          have u2b := eq_true c2
          replace u1 := eq_true u1
          replace u2 := eq_true u2
          clear hi3 hl3 c2
          go_wp2_with (((with_reducible refine gate_dst (N := 7) rfl ?_); refine box_event ?hg (N := 7) ?hd (cs := #[.int .i64 0, .slice none 0 0]) (t := 31) ?hr ?_; (case hd => rfl); (case hg => rfl); (case hr => first | (go_simp; done) | (go_simp; rfl)); intro gb hg w14 hbox hb; have n0_ := Aside0.mk (below_step HB.out hb); have n1_ := Aside0.mk (show Kd.S (Kd.slice 31 k31) 39 w14 w.heap.size (fun k => k ≠ gb) (.slice (some ⟨g, 0, none⟩) l0.length c) (clF l0 i j) from Kd.S_mono (Kd.S_below (Kd.S_elderB HM.out gb (by omega)) hb) (fun k hk => hk.2)); have GEB := Aside0.mk (show w.heap.size ≤ gb from by rw [hg]; exact HB.out.size); have NEG := Aside0.mk (show gb ≠ g from fun e_ => by have h_ := Kd.S_lt HM.out g (by simp [Value.ownBlock]); omega); clear HB HM; have HB := n0_; have HM := n1_; clear n0_ n1_; have BK := Aside0.mk hbox; clear hb hbox hg; have hcz0 : w14.cell? ⟨gb, 0, none⟩ = some (.int .i64 0) := (blk_cell BK.out 0).trans rfl; have hcz1 : w14.cell? ⟨gb, 1, none⟩ = some (.slice none 0 0) := (blk_cell BK.out 1).trans rfl; have hfz0 := blk_frozen BK.out 0; have hfz1 := blk_frozen BK.out 1))
          have HB2 := Aside0.mk (show Below w.heap.size w ((w14.setCell ⟨gb, 0, none⟩ (.int .i64 r.f0)).setCell ⟨gb, 1, none⟩ (.slice A3 r.f1.length c3)) from below_set (below_set HB.out GEB.out) GEB.out)
          have HM2 := Aside0.mk (show Kd.S (Kd.slice 31 k31) 39 ((w14.setCell ⟨gb, 0, none⟩ (.int .i64 r.f0)).setCell ⟨gb, 1, none⟩ (.slice A3 r.f1.length c3)) w.heap.size (fun k => k ≠ gb) (.slice (some ⟨g, 0, none⟩) l0.length c) (clF l0 i j) from Kd.S_far (p := ⟨gb, 1, none⟩) (Kd.S_far (p := ⟨gb, 0, none⟩) HM.out (fun _ hk => hk) _) (fun _ hk => hk) _)
          have BK2 := Aside0.mk (show ((w14.setCell ⟨gb, 0, none⟩ (.int .i64 r.f0)).setCell ⟨gb, 1, none⟩ (.slice A3 r.f1.length c3)).heap[gb]? = some (.cells #[.int .i64 r.f0, .slice A3 r.f1.length c3] 31 (0, 0)) from by
            refine blk_put (cs := #[.int .i64 r.f0, .slice none 0 0]) ?_ 1 _ rfl
            refine blk_put (cs := #[.int .i64 0, .slice none 0 0]) ?_ 0 _ rfl
            exact BK.out)
          have NGB := Aside0.mk (show gb < ((w14.setCell ⟨gb, 0, none⟩ (.int .i64 r.f0)).setCell ⟨gb, 1, none⟩ (.slice A3 r.f1.length c3)).heap.size from blk_lt BK2.out)
          clear HB HM BK hz0 hz1 hcz0 hcz1 hfz0 hfz1
          have HB := HB2
          have HM := HM2
          have BK := BK2
          clear HB2 HM2 BK2
          generalize ((w14.setCell ⟨gb, 0, none⟩ (.int .i64 r.f0)).setCell ⟨gb, 1, none⟩ (.slice A3 r.f1.length c3)) = wr2 at HB HM BK NGB ⊢
          obtain ⟨NN, hNN⟩ : ∃ NN, NN = wr2.heap.size := ⟨_, rfl⟩
          have HMX := Aside0.mk (show Kd.S (Kd.slice 31 k31) 39 wr2 w.heap.size (fun k => k ≠ gb ∧ ¬ NN ≤ k) (.slice (some ⟨g, 0, none⟩) l0.length c) ((clF l0 i j)) from Kd.S_mono (Kd.S_bound HM.out) (fun k hk => ⟨hk.1, by have h_ := hk.2.2.1; omega⟩))
          obtain ⟨oki, cs_, hcl_, hM_, hcc_, hfr_, hoki_, hH_⟩ := Kd.S_elem HMX.out ([] : List S31) ((i : Nat) : Int) (Int.natCast_nonneg _) (by have h_ := HI.out; omega)
          obtain ⟨vo, rfl, hvo_⟩ := hM_
          have hce : wr2.cell? ⟨g, i, none⟩ = some vo := by have h_ := hcc_ 0 _ rfl; rwa [Int.toNat_natCast, show i * ((Kd.slice 31 k31)).sz + 0 = i from Nat.mul_one i] at h_
          have NG := Aside0.mk (show g < NN from by rw [hNN]; exact Kd.S_lt HM.out g (by simp [Value.ownBlock]))
          have NB := Aside0.mk (show w.heap.size ≤ NN from by rw [hNN]; exact HB.out.size)
          have NO := Aside0.mk (show ∀ k, oki k → (k ≠ gb ∧ k < NN) ∧ k ≠ g from fun k hk => ⟨⟨(hoki_ k hk).1.1, by have h_ := (hoki_ k hk).1.2; omega⟩, (hoki_ k hk).2⟩)
          have NGB2 := Aside0.mk (show gb < NN from by rw [hNN]; exact NGB.out)
          have hvo2_ : Kd.R k31 31 wr2 w.heap.size oki vo ((clF l0 i j).getD i []) := by have h_ := hvo_; rwa [Int.toNat_natCast] at h_
          have HV := Aside0.mk hvo2_
          have HH := Aside0.mk hH_
          have HCE := Aside0.mk hce
          clear hcl_ hvo_ hvo2_ hcc_ hfr_ hoki_ hH_ hce HM HMX NGB
          refine start_ (n := 16) (S := fun w' => w'.cell? ⟨g, i, none⟩ = some vo ∧ w'.cell? ⟨gb, 0, none⟩ = some (.int .i64 r.f0) ∧ w'.cell? ⟨gb, 1, none⟩ = some (.slice A3 r.f1.length c3)) (ds := [15]) #[false, false, false, false, false, false, false, false, false, false, false, false, false, false, false, false] (by kernel_rfl) rfl rfl ⟨HCE.out, (blk_cell (blk_drew BK.out) 0).trans rfl, (blk_cell (blk_drew BK.out) 1).trans rfl⟩ (fun hHeld => ?_)
          have hb := below_drew1 (Below.refl wr2.heap.size wr2)
          have NW := Aside0.mk (show NN ≤ wr2.drew.heap.size from by rw [hNN]; exact Nat.le_refl _)
          clear hNN
          have n0_ := Aside0.mk (below_step HB.out hb)
          have n1_ := Aside0.mk (blk_below BK.out hb)
          have n2_ := Aside0.mk (Kd.R_below HV.out hb)
          have n3_ := Aside0.mk (Kd.H_below HH.out hb)
          have n4_ := Aside0.mk ((hb.cell (World.block_lt_of_cell? _ _ HCE.out)).trans HCE.out)
          clear HB BK HV HH HCE
          have HB := n0_
          have BK := n1_
          have HV := n2_
          have HH := n3_
          have HCE := n4_
          clear n0_ n1_ n2_ n3_ n4_
          clear hb
          generalize wr2.drew = w3 at HB BK HV HH HCE NW hHeld ⊢
          refine pure_ (i := 0) (N := some 24) (v := ?_) (a' := ?_) #[true, false, false, false, false, false, false, false, false, false, false, false, false, false, false, false] rfl rfl (by kernel_rfl) (fun _ _ _ h => h) (Or.inl ⟨by rfl, ?_⟩) ?_ ?_
          rotate_left
          · intro w'
            go_simp
            with_reducible rfl
          rotate_left
          · simp only [Act.put, List.setIfInBounds_toArray, List.set_cons_zero, List.set_cons_succ, i64_w, i32_w]
            rfl
          refine pure_ (i := 1) (N := some 25) (v := ?_) (a' := ?_) #[true, true, false, false, false, false, false, false, false, false, false, false, false, false, false, false] rfl rfl (by kernel_rfl) (fun _ _ _ h => h) (Or.inl ⟨by rfl, ?_⟩) ?_ ?_
          rotate_left
          · intro w'
            go_simp
            with_reducible rfl
          rotate_left
          · simp only [Act.put, List.setIfInBounds_toArray, List.set_cons_zero, List.set_cons_succ, i64_w, i32_w]
            rfl
          refine pure_ (i := 2) (N := some 26) (v := ?_) (a' := ?_) #[true, true, true, false, false, false, false, false, false, false, false, false, false, false, false, false] rfl rfl (by kernel_rfl) (fun _ _ _ h => h) (Or.inl ⟨by rfl, ?_⟩) ?_ ?_
          rotate_left
          · intro w'
            go_simp
            with_reducible rfl
          rotate_left
          · simp only [Act.put, List.setIfInBounds_toArray, List.set_cons_zero, List.set_cons_succ, i64_w, i32_w]
            rfl
          refine pure_ (i := 3) (N := some 27) (v := ?_) (a' := ?_) #[true, true, true, true, false, false, false, false, false, false, false, false, false, false, false, false] rfl rfl (by kernel_rfl) (fun _ _ _ h => h) (Or.inl ⟨by rfl, ?_⟩) ?_ ?_
          rotate_left
          · intro w'
            go_simp
            with_reducible rfl
          rotate_left
          · simp only [Act.put, List.setIfInBounds_toArray, List.set_cons_zero, List.set_cons_succ, i64_w, i32_w]
            rfl
          refine pure_ (i := 4) (N := some 28) (v := ?_) (a' := ?_) #[true, true, true, true, true, false, false, false, false, false, false, false, false, false, false, false] rfl rfl (by kernel_rfl) (fun _ _ _ h => h) (Or.inl ⟨by rfl, ?_⟩) ?_ ?_
          rotate_left
          · intro w'
            go_simp
            with_reducible rfl
          rotate_left
          · simp only [Act.put, List.setIfInBounds_toArray, List.set_cons_zero, List.set_cons_succ, i64_w, i32_w]
            rfl
          refine take_ (i := 5) (N := some 29) (v := ?_) (a' := ?_) #[true, true, true, true, true, true, false, false, false, false, false, false, false, false, false, false] rfl rfl (by kernel_rfl) (fun _ _ _ h => h) (Or.inl ⟨by rfl, ?_⟩) hHeld ?_ ?_
          rotate_left
          · rintro w' ⟨s0, s1, s2⟩
            go_simp
            with_reducible rfl
          rotate_left
          · simp only [Act.put, List.setIfInBounds_toArray, List.set_cons_zero, List.set_cons_succ, i64_w, i32_w]
            rfl
          refine pure_ (i := 6) (N := some 30) (v := ?_) (a' := ?_) #[true, true, true, true, true, true, true, false, false, false, false, false, false, false, false, false] rfl rfl (by kernel_rfl) (fun _ _ _ h => h) (Or.inl ⟨by rfl, ?_⟩) ?_ ?_
          rotate_left
          · intro w'
            go_simp
            with_reducible rfl
          rotate_left
          · simp only [Act.put, List.setIfInBounds_toArray, List.set_cons_zero, List.set_cons_succ, i64_w, i32_w]
            rfl
          refine take_ (i := 7) (N := some 31) (v := ?_) (a' := ?_) #[true, true, true, true, true, true, true, true, false, false, false, false, false, false, false, false] rfl rfl (by kernel_rfl) (fun _ _ _ h => h) (Or.inl ⟨by rfl, ?_⟩) hHeld ?_ ?_
          rotate_left
          · rintro w' ⟨s0, s1, s2⟩
            go_simp
            with_reducible rfl
          rotate_left
          · simp only [Act.put, List.setIfInBounds_toArray, List.set_cons_zero, List.set_cons_succ, i64_w, i32_w]
            rfl
          refine pure_ (i := 8) (N := some 32) (v := ?_) (a' := ?_) #[true, true, true, true, true, true, true, true, true, false, false, false, false, false, false, false] rfl rfl (by kernel_rfl) (fun _ _ _ h => h) (Or.inl ⟨by rfl, ?_⟩) ?_ ?_
          rotate_left
          · intro w'
            go_simp
            with_reducible rfl
          rotate_left
          · simp only [Act.put, List.setIfInBounds_toArray, List.set_cons_zero, List.set_cons_succ, i64_w, i32_w]
            rfl
          refine take_ (i := 9) (N := some 33) (v := ?_) (a' := ?_) #[true, true, true, true, true, true, true, true, true, true, false, false, false, false, false, false] rfl rfl (by kernel_rfl) (fun _ _ _ h => h) (Or.inl ⟨by rfl, ?_⟩) hHeld ?_ ?_
          rotate_left
          · rintro w' ⟨s0, s1, s2⟩
            go_simp
            with_reducible rfl
          rotate_left
          · simp only [Act.put, List.setIfInBounds_toArray, List.set_cons_zero, List.set_cons_succ, i64_w, i32_w]
            rfl
          refine one_ (i := 10) (N := some 34) #[true, true, true, true, true, true, true, true, true, true, true, false, false, false, false, false] rfl rfl (by kernel_rfl) (by decide) (fun K hK => ?_)
          refine goes_ Try.func22 (by kernel_rfl) rfl #[.slice A3 r.f1.length c3] (by rfl) rfl rfl (by (try simp only [List.map_toArray, List.map_cons, List.map_nil]); first | done | rfl) ?_
          refine (clone22 A3 c3 r.f1 _ (Kd.C_below HRA.out HB.out) HCA.out (by have h_ := HLA.out; omega)).mono ?_
          rintro e_ wc ⟨vc, rfl, hvc, hb⟩
          refine ⟨_, rfl, ?_⟩
          obtain ⟨Ac, cc, rfl⟩ := Kd.R_slice hvc
          have HC := Aside0.mk (show Kd.R (Kd.int .i64) 3 wc w.heap.size (fun k => NN ≤ k) (.slice Ac r.f1.length cc) r.f1 from Kd.R_lower (Kd.R_mono (Kd.R_bound hvc) (fun k hk => Nat.le_trans NW.out hk.2.1)) HB.out.size)
          replace NW := Aside0.mk (Nat.le_trans NW.out hb.size)
          clear hvc
          have n0_ := Aside0.mk (below_step HB.out hb)
          have n1_ := Aside0.mk (blk_below BK.out hb)
          have n2_ := Aside0.mk (Kd.R_below HV.out hb)
          have n3_ := Aside0.mk (Kd.H_below HH.out hb)
          have n4_ := Aside0.mk ((hb.cell (World.block_lt_of_cell? _ _ HCE.out)).trans HCE.out)
          clear HB BK HV HH HCE
          have HB := n0_
          have BK := n1_
          have HV := n2_
          have HH := n3_
          have HCE := n4_
          clear n0_ n1_ n2_ n3_ n4_
          clear hb
          refine hK.out _ _ ⟨HCE.out, (blk_cell BK.out 0).trans rfl, (blk_cell BK.out 1).trans rfl⟩ (fun hHeld => ?_)
          clear hK K
          refine norm_ (a' := ?_) ?_ ?_
          rotate_left
          · show Act.put _ (some 34) _ = _
            simp only [Act.put, List.setIfInBounds_toArray, List.set_cons_zero, List.set_cons_succ, i64_w, i32_w]
            rfl
          refine pure_ (i := 11) (N := some 35) (v := ?_) (a' := ?_) #[true, true, true, true, true, true, true, true, true, true, true, true, false, false, false, false] rfl rfl (by kernel_rfl) (fun _ _ _ h => h) (Or.inl ⟨by rfl, ?_⟩) ?_ ?_
          rotate_left
          · intro w'
            go_simp
            with_reducible rfl
          rotate_left
          · simp only [Act.put, List.setIfInBounds_toArray, List.set_cons_zero, List.set_cons_succ, i64_w, i32_w]
            rfl
          refine one_ (i := 12) (N := some 36) #[true, true, true, true, true, true, true, true, true, true, true, true, true, false, false, false] rfl rfl (by kernel_rfl) (by decide) (fun K hK => ?_)
          refine value_ (w1 := wc.alloc (.cells #[.int .i64 r.f0, .slice Ac r.f1.length cc] 31 (0, 0))) (v := .slice (some ⟨wc.heap.size, 0, none⟩) 1 1) (by rfl) rfl ?_ ?_
          · go_simp
            try rfl
          refine hK.out _ _ ⟨(((below_alloc (Below.refl wc.heap.size wc) _)).cell (World.block_lt_of_cell? _ _ HCE.out)).trans HCE.out, (blk_cell (blk_alloc BK.out _) 0).trans rfl, (blk_cell (blk_alloc BK.out _) 1).trans rfl⟩ (fun hHeld => ?_)
          clear hK K
          refine norm_ (a' := ?_) ?_ ?_
          rotate_left
          · show Act.put _ (some 36) _ = _
            simp only [Act.put, List.setIfInBounds_toArray, List.set_cons_zero, List.set_cons_succ, i64_w, i32_w]
            rfl
          refine one_ (i := 13) (N := some 37) #[true, true, true, true, true, true, true, true, true, true, true, true, true, true, false, false] rfl rfl (by kernel_rfl) (by decide) (fun K hK => ?_)
          refine Kd.R_append_step k31 (w0 := w) (W := wc) w.heap.size (by rfl) (.tmp 29) (.tmp 36) 39 31 (.agg #[.int .i64 0, .slice none 0 0]) 32 rfl Try.underlying39 info31 rfl (show 0 < 2 by decide) (by omega) vo ((clF l0 i j).getD i []) r [.int .i64 r.f0, .slice Ac r.f1.length cc] (fun k => oki k ∨ NN ≤ k) (fun k => NN ≤ k) rfl rfl (k31_mkM wc w.heap.size (fun k => NN ≤ k) r HC.out) (fun k hk => ⟨.inr hk, fun e_ => by have h_ := (NO.out k (HV.out.1 k e_.symm)).1.2; omega⟩) (fun k hk => .inr (Nat.le_trans NW.out hk)) (Kd.R_mono HV.out (fun k hk => .inl hk)) HB.out HB.out.size (by have h_ := HGL.out; omega) ?_
          intro v1 w8 ho hb hg hat
          obtain ⟨A9, n9, c9, rfl⟩ : ∃ A n c, v1 = .slice A n c := by obtain ⟨A, c, e⟩ := Kd.R_slice ho; exact ⟨A, _, c, e⟩
          have HO := Aside0.mk ho
          have n0_ := Aside0.mk hb
          have n1_ := Aside0.mk (Kd.H_grown HH.out hg (fun k hk => HV.out.1 k hk))
          have n2_ := Aside0.mk ((World.cell?_of_block (hg.block g (Nat.lt_of_lt_of_le NG.out NW.out) (fun e_ => (NO.out g (HV.out.1 g e_.symm)).2 rfl))).trans HCE.out)
          have n3_ := Aside0.mk (blk_grown BK.out hg (fun e_ => (NO.out gb (HV.out.1 gb e_.symm)).1.1 rfl))
          clear HB HH HCE BK HV HC hb hg hat ho NW
          have HB := n0_
          have HH := n1_
          have HCE := n2_
          have BK := n3_
          clear n0_ n1_ n2_ n3_
          refine hK.out _ _ ⟨HCE.out, (blk_cell BK.out 0).trans rfl, (blk_cell BK.out 1).trans rfl⟩ (fun hHeld => ?_)
          clear hK K
          refine norm_ (a' := ?_) ?_ ?_
          rotate_left
          · show Act.put _ (some 37) _ = _
            simp only [Act.put, List.setIfInBounds_toArray, List.set_cons_zero, List.set_cons_succ, i64_w, i32_w]
            rfl
          refine pure_ (i := 14) (N := some 38) (v := ?_) (a' := ?_) #[true, true, true, true, true, true, true, true, true, true, true, true, true, true, true, false] rfl rfl (by kernel_rfl) (fun _ _ _ h => h) (Or.inl ⟨by rfl, ?_⟩) ?_ ?_
          rotate_left
          · intro w'
            go_simp
            with_reducible rfl
          rotate_left
          · simp only [Act.put, List.setIfInBounds_toArray, List.set_cons_zero, List.set_cons_succ, i64_w, i32_w]
            rfl
          refine last_ (i := 15) (N := none) #[true, true, true, true, true, true, true, true, true, true, true, true, true, true, true, true] rfl rfl (by kernel_rfl) (by decide) (fun K hK => ?_)
          have hce := HCE.out
          have hfe : w8.frozen? ⟨g, i, none⟩ = false := by obtain ⟨rows_, _, hraw_, _⟩ := Kd.H_raw HH.out (Int.natCast_nonneg _) (by have h_ := HI.out; omega); obtain ⟨cl_, hcl_⟩ := Kd.R_typed hraw_ g (by simp [Value.ownBlock]); exact blk_frozen hcl_ _
          refine skip_ (w1 := w8.setCell ⟨g, i, none⟩ (.slice A9 n9 c9)) (by rfl) rfl ?_ ?_
          · go_simp
            try rfl
          have hs_ := Kd.S_seg (okp := fun k => oki k ∨ NN ≤ k) (ok := fun k => k ≠ gb) (okg := fun k => NN ≤ k) HH.out (Int.natCast_nonneg _) (by have h_ := HI.out; omega) (seg := [.slice A9 n9 c9]) (j := 0) (show 0 + 1 ≤ 1 by decide) (x' := (clF l0 i j).getD i [] ++ [r]) ⟨.slice A9 n9 c9, rfl, HO.out⟩ (fun k hk => hk) (fun k hk => ⟨fun e_ => by have h_ := NGB2.out; omega, fun e_ => by have h_ := NG.out; omega⟩)
          rw [Int.toNat_natCast, show i * ((Kd.slice 31 k31)).sz + 0 = i from Nat.mul_one i] at hs_
          obtain ⟨hm1_, hm2_⟩ := hs_
          have hm3_ : w8.grownBy (w8.setCell ⟨g, i, none⟩ (.slice A9 n9 c9)) (some g) := hm2_
          have hm4_ : Kd.S (Kd.slice 31 k31) 39 (w8.setCell ⟨g, i, none⟩ (.slice A9 n9 c9)) w.heap.size (fun k => k ≠ gb) (.slice (some ⟨g, 0, none⟩) l0.length c) ((clF l0 i j).set i ((clF l0 i j).getD i [] ++ [r])) := hm1_
          have n0_ := Aside0.mk (pw_below_grown HB.out (some g) HB.out.size hm3_ (fun k hk => by injection hk with hk; rw [← hk]; exact GE.out))
          have n1_ := Aside0.mk hm4_
          have n2_ := Aside0.mk (blk_grown BK.out hm3_ (fun e_ => by injection e_ with e_; exact NEG.out e_))
          clear HB HH HCE BK HO hm1_ hm2_ hm3_ hm4_ hce hfe NO NG NB NGB2
          generalize (w8.setCell ⟨g, i, none⟩ (.slice A9 n9 c9)) = w9 at n0_ n1_ n2_ ⊢
          have HB := n0_
          have HM := n1_
          have BK := n2_
          clear n0_ n1_ n2_
          refine hK.out _ _ ?_
          clear hK K
          refine done_ (by kernel_rfl) ?_
          replace HM := Aside0.mk (show Kd.S (Kd.slice 31 k31) 39 w9 w.heap.size (fun _ => True) (.slice (some ⟨g, 0, none⟩) l0.length c) (clF l0 i (j + 1)) from by rw [← HST.out]; exact Kd.S_mono HM.out (fun _ _ => trivial))
          try clear hHeld
          go_wp2
          go_roundg k2
          case measure => have := E2.out; omega
          case rel => exact ⟨j + 1, by simp [hw2, hw2b], ⟨by have h_ := E2.out; omega⟩, HB, HM⟩
        · have c2b : decide (j < L.length) = false := decide_eq_false c2
          have c2c : decide ((j : Int) < (L.length : Int)) = false := decide_eq_false (by omega)
          have hj : j = L.length := by have h_ := E2.out; omega
          subst hj
          have hM := HM.out
          rw [HNX.out] at hM
          clear HM
          have HM := Aside0.mk hM
          clear hM c2
          go_wp2
          go_roundg k1
          case measure => have := E1.out; omega
          case rel => exact ⟨i + 1, by simp [hw1, hw1b], ⟨by have h_ := E1.out; omega⟩, HB, HM⟩
    · have c1b : decide (i < l0.length) = false := decide_eq_false c1
      have c1c : decide ((i : Int) < (l0.length : Int)) = false := decide_eq_false (by omega)
      have hi : i = l0.length := by have h_ := E1.out; omega
      subst hi
      have hM := HM.out
      rw [clF_all] at hM
      clear HM c1
      have HM := Aside0.mk hM
      clear hM
      go_wp2
      go_ret
      exact ⟨_, rfl, HM.out, HB.out⟩
end Go.Proofs.Ytgjcembdmohhkaa.Fs
