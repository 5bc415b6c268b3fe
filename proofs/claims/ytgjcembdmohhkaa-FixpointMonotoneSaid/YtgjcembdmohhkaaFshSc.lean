/- FixpointSoundComplete: the walk. -/
import Derived.RangeFuncNested
import Derived.RangeFuncBound
import Derived.RangeFuncCalls
import Derived.RangeFuncLeaves
import Derived.RangeFuncBox
import Derived.Shelf.Abstract
import Derived.Shelf.RegionOpen
import Derived.WalkKit
import Derived.OwnWalkIn
import Derived.TacticsInMore
import Derived.LoopNIn
import Derived.LoopIn
import Derived.BigQuiet
import Derived.Test.YtgjcembdmohhkaaFshDe
import Derived.Test.YtgjcembdmohhkaaFsx5
import Derived.Test.YtgjcembdmohhkaaFsx3
namespace Go.Proofs.Ytgjcembdmohhkaa.Fs
open Go.RowKit Go.Shelf Go.Proofs.YtgjcembdmohhkaaW.PrintWords Go.Proofs.YtgjcembdmohhkaaW.PrintLast Go.Proofs.YtgjcembdmohhkaaW.PrintMore
open Go.Proofs.Ytgjcembdmohhkaa
set_option linter.unusedVariables false
set_option linter.unusedSimpArgs false
attribute [local go_sem] Oper.semAt_some
abbrev kF (w0 : World) : Kd S31 := Kd.fixed k31 w0
set_option maxHeartbeats 8000000 in
set_option maxRecDepth 100000 in
theorem clone17 (w0 : World) (A : Option Addr) (n c : Nat) (xs : List S31) (W : World) (hr : Kd.C (kF w0) W A n xs) (hl : n < 1000000) :
    Calls Try.prog 17 #[.slice A n c] W fun e W' => ∃ v, e = .returned v ∧ Kd.R (kF w0) 31 W' W.heap.size (fun _ => True) v xs ∧ Below W.heap.size W W' := by
  have hu31 := Try.underlying31
  have HR := Aside0.mk hr
  have HL := Aside0.mk hl
  clear hr hl
  have HB := Aside0.mk (Below.refl W.heap.size W)
  go_enter Try.func17, Try.ntmps17
  go_wp2_with (at_builtin; (refine Kd.R_append_rows (kF w0) (w0 := W) W.heap.size rfl (.const (.slice none 0 0)) (.tmp 3) 39 31 (.agg #[.int .i64 0, .slice none 0 0]) 32 rfl Try.underlying39 info31 rfl (show 0 < 2 by decide) (by omega) (.slice none 0 0) [] xs A n c (fun _ => True) (fun _ => False) rfl rfl (Kd.R_nil _ _ _ _ _) HR.out (fun _ _ h => h) (fun _ h => h.elim) (fun _ _ => trivial) HB.out HB.out.size (by have h_ := HL.out; simp only [List.length_nil]; omega) ?_; rintro v1 w1 hv hb _ _; have HV := Aside0.mk hv; have HBF := Aside0.mk hb; clear hv hb))
  go_ret
  exact ⟨_, rfl, HV.out, HBF.out⟩
theorem C_fix {w W : World} {A : Option Addr} {n : Nat} {xs : List S31} (h : Kd.C k31 w A n xs) (hb : Below w.heap.size w W) : Kd.C (kF w) W A n xs := ReadsRow.imp_ h hb (fun _ _ hp => hp)
theorem fix_C {w W : World} {A : Option Addr} {n : Nat} {xs : List (List S31)} (h : Kd.C (Kd.slice 31 (kF w)) W A n xs) (hb : Below w.heap.size w W) : Kd.C (Kd.slice 31 k31) W A n xs :=
  ReadsRow.imp_ h (Below.refl _ _) (fun p c hp => by
    obtain ⟨A', c', e, l, g⟩ := hp
    exact ⟨A', c', e, l, ReadsRow.imp_ g (Below.refl _ _) (fun q d hq => k31.K_below hb hq)⟩)
theorem mat_set {w W : World} {base g n cap : Nat} {ok okp : Nat → Prop} {xs : List (List S31)} (h : Kd.R (Kd.slice 31 (kF w)) 39 W base ok (.slice (some ⟨g, 0, none⟩) n cap) xs) (i : Nat) (hi : i < n) {v : Value} {x : List S31}
    (hv : Kd.R (kF w) 31 W base okp v x) (hok : ∀ k, okp k → ok k ∧ k ≠ g) :
    Kd.R (Kd.slice 31 (kF w)) 39 (W.setCell ⟨g, i, none⟩ v) base ok (.slice (some ⟨g, 0, none⟩) n cap) (xs.set i x) ∧ W.grownBy (W.setCell ⟨g, i, none⟩ v) (some g) := by
  obtain ⟨c, hcl, hM, hcc, hfr⟩ := Kd.R_elem h ([] : List S31) (i : Int) (by omega) (by omega)
  have := Kd.R_seg h (i : Int) (by omega) (by omega) (seg := [v]) (j := 0) hcl hcc (show 0 + 1 ≤ 1 by decide) (x' := x) (okp := okp) (by
    have e : (List.drop (0 + ([v] : List Value).length) c) = [] := List.drop_eq_nil_of_le (by rw [hcl]; exact Nat.le_refl _)
    rw [e, List.take_zero, List.nil_append, List.append_nil]
    exact ⟨v, rfl, hv⟩) hok
  rw [Int.toNat_natCast, show i * (Kd.slice 31 (kF w)).sz + 0 = i from Nat.mul_one i] at this
  exact this
theorem one_row {w W : World} {g c3 : Nat} {r : S31} {A3 : Option Addr} (h : W.heap[g]? = some (.cells #[.int .i64 r.f0, .slice A3 r.f1.length c3] 31 (0, 0))) (hK : k31.K w r [.int .i64 r.f0, .slice A3 r.f1.length c3]) : Kd.C (kF w) W (some ⟨g, 0, none⟩) 1 [r] := by
  refine ⟨rfl, by decide, fun _ => ⟨_, rfl, fun j p hj => ?_⟩⟩
  cases j with
  | zero =>
    have e : r = p := by simpa using hj
    subst e
    refine ⟨_, rfl, hK, fun i u hu => ?_⟩
    rw [add_plain]
    have := blk_cell h i
    simp only [Nat.zero_mul, Nat.zero_add]
    rw [this]
    simpa using hu
  | succ j => simp at hj
/-- each rule list with a rule more -/
def extF (l0 : List (List S31)) (rule : S31) (i : Nat) : List (List S31) := (l0.take i).map (· ++ [rule]) ++ List.replicate (l0.length - i) []
theorem extF_zero (l0 : List (List S31)) (rule : S31) : extF l0 rule 0 = List.replicate l0.length [] := by unfold extF; simp
theorem extF_len (l0 : List (List S31)) (rule : S31) (i : Nat) (hi : i ≤ l0.length) : (extF l0 rule i).length = l0.length := by unfold extF; rw [List.length_append, List.length_map, List.length_take, List.length_replicate]; omega
theorem extF_all (l0 : List (List S31)) (rule : S31) : extF l0 rule l0.length = l0.map (· ++ [rule]) := by unfold extF; rw [List.take_length, Nat.sub_self, List.replicate_zero, List.append_nil]
theorem extF_set (l0 : List (List S31)) (rule : S31) (i : Nat) (hi : i < l0.length) : (extF l0 rule i).set i (rd_L3 l0 (i : Int) ++ [rule]) = extF l0 rule (i + 1) := by
  have e : rd_L3 l0 (i : Int) = l0[i] := by unfold rd_L3; simp [hi]
  have hl : ((l0.take i).map (· ++ [rule])).length = i := by rw [List.length_map, List.length_take]; omega
  unfold extF
  rw [e, List.set_append_right _ _ (by omega), hl, Nat.sub_self, List.take_succ_eq_append_getElem hi, List.map_append, List.append_assoc]
  congr 1
  rw [show l0.length - i = (l0.length - (i + 1)) + 1 from by omega, List.replicate_succ, List.set_cons_zero]
  rfl
set_option maxHeartbeats 8000000 in
set_option maxRecDepth 100000 in
theorem sc_early (K : Nat) (A0 : Option Addr) (c0 : Nat) (l0 : List (List S31)) (x1 x2 : Int) (rule : S31) (A3 : Option Addr) (c3 : Nat) (sets : List Int) (er : Int) (w : World) (hr0 : Kd.C (Kd.slice 31 k31) w A0 l0.length l0) (hc0 : l0.length ≤ c0) (hr3 : Kd.C (Kd.int .i64) w A3 rule.f1.length rule.f1) (hc3 : rule.f1.length ≤ c3) (hex : glossatorkeep3_ruleExample.f K = some true) (hle : fixpoint_Least.f K l0 = some (sets, er)) (h : er ≠ 0 ∨ l0.length = 0) :
    Calls Try.prog 5 #[.slice A0 l0.length c0, .int .i64 x1, .int .i64 x2, .agg #[.int .i64 rule.f0, .slice A3 rule.f1.length c3]] w fun e w' => e = .returned (.bool true) ∧ Below w.heap.size w w' := by
  have hu22 := Try.underlying22
  have hu23 := Try.underlying23
  have hu31 := Try.underlying31
  have hu39 := Try.underlying39
  have HR0 := Aside0.mk hr0
  have HC0 := Aside0.mk hc0
  have HR3 := Aside0.mk hr3
  have HC3 := Aside0.mk hc3
  have HEX := Aside0.mk hex
  have HLE := Aside0.mk hle
  clear hr0 hc0 hr3 hc3 hex hle
  by_cases he : er = 0
  · have e1 : (er == 0) = true := beq_iff_eq.2 he
    have e2 : ((l0.length : Int) == 0) = true := beq_iff_eq.2 (by omega)
    clear h
    subst he
    go_enter Try.func5, Try.ntmps5
    go_wp2_with (first | ((with_reducible refine gate_dst (N := 7) rfl ?_); refine box_event ?hg (N := 7) ?hd (cs := #[.int .i64 rule.f0, .slice A3 rule.f1.length c3]) (t := 31) ?hr ?_; (case hd => rfl); (case hg => rfl); (case hr => first | (go_simp; done) | (go_simp; rfl)); intro g7 hg w1 hbox hb; have BKg7 := Aside0.mk hbox; have HB := Aside0.mk hb; clear hbox hb hg) | (go_at_call 6; refine (glossatorkeep3_ruleExample.calls K true _ HEX.out).mono ?_; rintro e_ wx ⟨rfl, hb⟩; have n0_ := Aside0.mk (below_step HB.out hb); have n1_ := Aside0.mk (blk_below BKg7.out hb); clear HB BKg7; have HB := n0_; have BKg7 := n1_; clear n0_ n1_; clear hb) | (go_at_call 7; refine (fixpoint_Least.calls K A0 c0 l0 sets 0 _ (Kd.C_below HR0.out HB.out) HC0.out HLE.out).mono ?_; rintro e_ wl ⟨vs, rfl, hs, hb⟩; have HSETS := Aside0.mk (Kd.R_lower hs HB.out.size); obtain ⟨As, cs, evs⟩ := Kd.R_slice hs; subst evs; clear hs; have n0_ := Aside0.mk (below_step HB.out hb); have n1_ := Aside0.mk (blk_below BKg7.out hb); clear HB BKg7; have HB := n0_; have BKg7 := n1_; clear n0_ n1_; clear hb) | (go_at_call 6; refine (glossatorkeep3_ruleExample.calls K true _ HEX.out).mono ?_; rintro e_ wx ⟨rfl, hb⟩; have n0_ := Aside0.mk (below_step HB.out hb); have n1_ := Aside0.mk (blk_below BKg7.out hb); have n2_ := Aside0.mk (Kd.R_below HSETS.out hb); clear HB BKg7 HSETS; have HB := n0_; have BKg7 := n1_; have HSETS := n2_; clear n0_ n1_ n2_; clear hb))
    go_ret
    exact ⟨rfl, HB.out⟩
  · have e1 : (er == 0) = false := beq_eq_false_iff_ne.2 he
    clear h he
    go_enter Try.func5, Try.ntmps5
    go_wp2_with (first | ((with_reducible refine gate_dst (N := 7) rfl ?_); refine box_event ?hg (N := 7) ?hd (cs := #[.int .i64 rule.f0, .slice A3 rule.f1.length c3]) (t := 31) ?hr ?_; (case hd => rfl); (case hg => rfl); (case hr => first | (go_simp; done) | (go_simp; rfl)); intro g7 hg w1 hbox hb; have BKg7 := Aside0.mk hbox; have HB := Aside0.mk hb; clear hbox hb hg) | (go_at_call 6; refine (glossatorkeep3_ruleExample.calls K true _ HEX.out).mono ?_; rintro e_ wx ⟨rfl, hb⟩; have n0_ := Aside0.mk (below_step HB.out hb); have n1_ := Aside0.mk (blk_below BKg7.out hb); clear HB BKg7; have HB := n0_; have BKg7 := n1_; clear n0_ n1_; clear hb) | (go_at_call 7; refine (fixpoint_Least.calls K A0 c0 l0 sets er _ (Kd.C_below HR0.out HB.out) HC0.out HLE.out).mono ?_; rintro e_ wl ⟨vs, rfl, hs, hb⟩; have HSETS := Aside0.mk (Kd.R_lower hs HB.out.size); obtain ⟨As, cs, evs⟩ := Kd.R_slice hs; subst evs; clear hs; have n0_ := Aside0.mk (below_step HB.out hb); have n1_ := Aside0.mk (blk_below BKg7.out hb); clear HB BKg7; have HB := n0_; have BKg7 := n1_; clear n0_ n1_; clear hb) | (go_at_call 6; refine (glossatorkeep3_ruleExample.calls K true _ HEX.out).mono ?_; rintro e_ wx ⟨rfl, hb⟩; have n0_ := Aside0.mk (below_step HB.out hb); have n1_ := Aside0.mk (blk_below BKg7.out hb); have n2_ := Aside0.mk (Kd.R_below HSETS.out hb); clear HB BKg7 HSETS; have HB := n0_; have BKg7 := n1_; have HSETS := n2_; clear n0_ n1_ n2_; clear hb))
    go_ret
    exact ⟨rfl, HB.out⟩
set_option maxHeartbeats 8000000 in
set_option maxRecDepth 100000 in
theorem sc_zero (K : Nat) (A0 : Option Addr) (c0 : Nat) (l0 : List (List S31)) (x1 x2 : Int) (rule : S31) (A3 : Option Addr) (c3 : Nat) (sets : List Int) (w : World) (hr0 : Kd.C (Kd.slice 31 k31) w A0 l0.length l0) (hc0 : l0.length ≤ c0) (hr3 : Kd.C (Kd.int .i64) w A3 rule.f1.length rule.f1) (hc3 : rule.f1.length ≤ c3) (hex : glossatorkeep3_ruleExample.f K = some true) (hle : fixpoint_Least.f K l0 = some (sets, 0)) (st el : Int) (proof : List S59) (fe : Int) (hm1 : glossatorref3_Mod.f x1 l0.length = some st) (hm2 : glossatorref3_Mod.f x2 20 = some el) (hst : 0 ≤ st ∧ st < (l0.length : Int)) (hel : 0 ≤ el ∧ el < 20) (hsl : sets.length = l0.length) (hde : fixpoint_Derive.f l0 st el = some (proof, fe)) (hbit : (Go.bits .and .i64 (rd sets st / 2 ^ el.toNat) 1 == 0) = true) (hfe : fe = 5) (hve : fixpoint_Verify.f K l0 proof st el = some false) :
    Calls Try.prog 5 #[.slice A0 l0.length c0, .int .i64 x1, .int .i64 x2, .agg #[.int .i64 rule.f0, .slice A3 rule.f1.length c3]] w fun e w' => e = .returned (.bool true) ∧ Below w.heap.size w w' := by
  have hu22 := Try.underlying22
  have hu23 := Try.underlying23
  have hu31 := Try.underlying31
  have hu39 := Try.underlying39
  have HR0 := Aside0.mk hr0
  have HC0 := Aside0.mk hc0
  have HR3 := Aside0.mk hr3
  have HC3 := Aside0.mk hc3
  have HEX := Aside0.mk hex
  have HLE := Aside0.mk hle
  clear hr0 hc0 hr3 hc3 hex hle
  have HM1 := Aside0.mk hm1
  have HM2 := Aside0.mk hm2
  have HST := Aside0.mk hst
  have HEL := Aside0.mk hel
  have HSL := Aside0.mk hsl
  have HDE := Aside0.mk hde
  have e2 : ((l0.length : Int) == 0) = false := beq_eq_false_iff_ne.2 (by omega)
  have he64 : el ≤ 64 := by omega
  have he0 : 0 ≤ el := hel.1
  have q1 := eq_true hst.1
  have q2 := eq_true (show st < (sets.length : Int) from by omega)
  clear hm1 hm2 hst hel hsl hde
  have HVE := Aside0.mk hve
  clear hve
  subst hfe
  go_enter Try.func5, Try.ntmps5
  go_upto_region 8 with (first | ((with_reducible refine gate_dst (N := 7) rfl ?_); refine box_event ?hg (N := 7) ?hd (cs := #[.int .i64 rule.f0, .slice A3 rule.f1.length c3]) (t := 31) ?hr ?_; (case hd => rfl); (case hg => rfl); (case hr => first | (go_simp; done) | (go_simp; rfl)); intro g7 hg w1 hbox hb; have BKg7 := Aside0.mk hbox; have HB := Aside0.mk hb; clear hbox hb hg) | (go_at_call 6; refine (glossatorkeep3_ruleExample.calls K true _ HEX.out).mono ?_; rintro e_ wx ⟨rfl, hb⟩; have n0_ := Aside0.mk (below_step HB.out hb); have n1_ := Aside0.mk (blk_below BKg7.out hb); clear HB BKg7; have HB := n0_; have BKg7 := n1_; clear n0_ n1_; clear hb) | (go_at_call 7; refine (fixpoint_Least.calls K A0 c0 l0 sets 0 _ (Kd.C_below HR0.out HB.out) HC0.out HLE.out).mono ?_; rintro e_ wl ⟨vs, rfl, hs, hb⟩; have HSETS := Aside0.mk (Kd.R_lower hs HB.out.size); obtain ⟨As, cs, evs⟩ := Kd.R_slice hs; subst evs; clear hs; have n0_ := Aside0.mk (below_step HB.out hb); have n1_ := Aside0.mk (blk_below BKg7.out hb); clear HB BKg7; have HB := n0_; have BKg7 := n1_; clear n0_ n1_; clear hb) | (go_at_call 9; refine (glossatorref3_Mod.calls _ _ _ _ (by with_reducible first | exact HM1.out | exact HM2.out)).mono ?_; rintro e_ wm ⟨rfl, hd_⟩; have hb := hd_.below; clear hd_; have n0_ := Aside0.mk (below_step HB.out hb); have n1_ := Aside0.mk (blk_below BKg7.out hb); have n2_ := Aside0.mk (Kd.R_below HSETS.out hb); clear HB BKg7 HSETS; have HB := n0_; have BKg7 := n1_; have HSETS := n2_; clear n0_ n1_ n2_; clear hb) | (go_at_call 9; refine (glossatorref3_Mod.calls _ _ _ _ (by with_reducible first | exact HM1.out | exact HM2.out)).mono ?_; rintro e_ wm ⟨rfl, hd_⟩; have hb := hd_.below; clear hd_; have n0_ := Aside0.mk (below_step HB.out hb); have n1_ := Aside0.mk (blk_below BKg7.out hb); have n2_ := Aside0.mk (Kd.R_below HSETS.out hb); clear HB BKg7 HSETS; have HB := n0_; have BKg7 := n1_; have HSETS := n2_; clear n0_ n1_ n2_; clear hb) | (go_at_call 15; refine (fixpoint_Derive.calls A0 c0 l0 st el proof 5 _ (Kd.C_below HR0.out HB.out) HC0.out HDE.out).mono ?_; rintro e_ wd ⟨vp, rfl, hs, hb⟩; have HPRF := Aside0.mk (Kd.R_lower hs HB.out.size); obtain ⟨Ap, cp, evp⟩ := Kd.R_slice hs; subst evp; clear hs; have n0_ := Aside0.mk (below_step HB.out hb); have n1_ := Aside0.mk (blk_below BKg7.out hb); have n2_ := Aside0.mk (Kd.R_below HSETS.out hb); clear HB BKg7 HSETS; have HB := n0_; have BKg7 := n1_; have HSETS := n2_; clear n0_ n1_ n2_; clear hb))
  obtain ⟨ads, ea, hx0⟩ := Kd.at_int (Kd.R_reads' HSETS.out).2.2 st (of_eq_true q1) (of_eq_true q2)
  cases ea
  go_upto_region 9 with (fail)
  clear hx0
  go_wp2_with (first | (go_at_call 6; refine (glossatorkeep3_ruleExample.calls K true _ HEX.out).mono ?_; rintro e_ wx ⟨rfl, hb⟩; have n0_ := Aside0.mk (below_step HB.out hb); have n1_ := Aside0.mk (blk_below BKg7.out hb); have n2_ := Aside0.mk (Kd.R_below HSETS.out hb); have n3_ := Aside0.mk (Kd.R_below HPRF.out hb); clear HB BKg7 HSETS HPRF; have HB := n0_; have BKg7 := n1_; have HSETS := n2_; have HPRF := n3_; clear n0_ n1_ n2_ n3_; clear hb) | (go_at_call 16; refine (fixpoint_Verify.calls K A0 c0 l0 Ap cp proof st el false _ (Kd.C_below HR0.out HB.out) HC0.out (Kd.R_reads' HPRF.out).2.2 (Kd.R_reads' HPRF.out).2.1 HVE.out).mono ?_; rintro e_ wv ⟨rfl, hb⟩; have n0_ := Aside0.mk (below_step HB.out hb); have n1_ := Aside0.mk (blk_below BKg7.out hb); have n2_ := Aside0.mk (Kd.R_below HSETS.out hb); have n3_ := Aside0.mk (Kd.R_below HPRF.out hb); clear HB BKg7 HSETS HPRF; have HB := n0_; have BKg7 := n1_; have HSETS := n2_; have HPRF := n3_; clear n0_ n1_ n2_ n3_; clear hb))
  go_ret
  exact ⟨rfl, HB.out⟩
theorem R_Cn {α : Type} {d : Kd α} {e base n c : Nat} {ok : Nat → Prop} {W : World} {A : Option Addr} {xs : List α} (h : Kd.R d e W base ok (.slice A n c) xs) (hn : xs.length = n) : Kd.C d W A n xs := by
  subst hn
  exact (Kd.R_reads' h).2.2
theorem verify_n (k : Nat) (A0 : Option Addr) (c0 : Nat) (l0 : List (List (S31))) (n : Nat) (A1 : Option Addr) (c1 : Nat) (l1 : List (S59)) (a2 : Int) (a3 : Int) (r : Bool) (w : World) (hn : l0.length = n) (hr0 : Kd.C (Kd.slice 31 k31) w A0 n l0) (hc0 : n ≤ c0) (hr1 : Kd.C k59 w A1 l1.length l1) (hc1 : l1.length ≤ c1) (h : fixpoint_Verify.f k l0 l1 a2 a3 = some r) :
    Calls Try.prog 16 #[.slice A0 n c0, .slice A1 l1.length c1, .int .i64 a2, .int .i64 a3] w fun e w' => e = .returned (.bool r) ∧ Below w.heap.size w w' := by
  subst hn
  exact fixpoint_Verify.calls k A0 c0 l0 A1 c1 l1 a2 a3 r w hr0 hc0 hr1 hc1 h
theorem check_n (A0 : Option Addr) (c0 : Nat) (l0 : List (List (S31))) (n : Nat) (r : Int) (w : World) (hn : l0.length = n) (hr0 : Kd.C (Kd.slice 31 k31) w A0 n l0) (hc0 : n ≤ c0) (h : fixpoint_Check.f l0 = some r) :
    Calls Try.prog 18 #[.slice A0 n c0] w fun e w' => e = .returned (.int .i64 r) ∧ Below w.heap.size w w' := by
  subst hn
  exact fixpoint_Check.calls A0 c0 l0 r w hr0 hc0 h
set_option maxHeartbeats 16000000 in
set_option maxRecDepth 100000 in
theorem sc_main (K : Nat) (A0 : Option Addr) (c0 : Nat) (l0 : List (List S31)) (x1 x2 : Int) (rule : S31) (A3 : Option Addr) (c3 : Nat) (sets : List Int) (w : World) (hr0 : Kd.C (Kd.slice 31 k31) w A0 l0.length l0) (hc0 : l0.length ≤ c0) (hr3 : Kd.C (Kd.int .i64) w A3 rule.f1.length rule.f1) (hc3 : rule.f1.length ≤ c3) (hex : glossatorkeep3_ruleExample.f K = some true) (hle : fixpoint_Least.f K l0 = some (sets, 0)) (st el : Int) (proof : List S59) (fe : Int) (hm1 : glossatorref3_Mod.f x1 l0.length = some st) (hm2 : glossatorref3_Mod.f x2 20 = some el) (hst : 0 ≤ st ∧ st < (l0.length : Int)) (hel : 0 ≤ el ∧ el < 20) (hsl : sets.length = l0.length) (hde : fixpoint_Derive.f l0 st el = some (proof, fe)) (hbit : (Go.bits .and .i64 (rd sets st / 2 ^ el.toNat) 1 == 0) = false) (hfe : fe = 0) (hve : fixpoint_Verify.f K l0 proof st el = some true) (hok : Okr l0) (ext : List (List S31)) (hxe : ext = l0.map (· ++ [rule])) (t : Int) (hck : fixpoint_Check.f ext = some t) (hvx : t = 0 → fixpoint_Verify.f K ext proof st el = some true) :
    Calls Try.prog 5 #[.slice A0 l0.length c0, .int .i64 x1, .int .i64 x2, .agg #[.int .i64 rule.f0, .slice A3 rule.f1.length c3]] w fun e w' => e = .returned (.bool true) ∧ Below w.heap.size w w' := by
  have hu22 := Try.underlying22
  have hu23 := Try.underlying23
  have hu31 := Try.underlying31
  have hu39 := Try.underlying39
  have HR0 := Aside0.mk hr0
  have HC0 := Aside0.mk hc0
  have HR3 := Aside0.mk hr3
  have HC3 := Aside0.mk hc3
  have HEX := Aside0.mk hex
  have HLE := Aside0.mk hle
  clear hr0 hc0 hr3 hc3 hex hle
  have HM1 := Aside0.mk hm1
  have HM2 := Aside0.mk hm2
  have HST := Aside0.mk hst
  have HEL := Aside0.mk hel
  have HSL := Aside0.mk hsl
  have HDE := Aside0.mk hde
  have e2 : ((l0.length : Int) == 0) = false := beq_eq_false_iff_ne.2 (by omega)
  have he64 : el ≤ 64 := by omega
  have he0 : 0 ≤ el := hel.1
  have q1 := eq_true hst.1
  have q2 := eq_true (show st < (sets.length : Int) from by omega)
  clear hm1 hm2 hst hel hsl hde
  have HVE := Aside0.mk hve
  have HCK := Aside0.mk hck
  have HOK := Aside0.mk hok
  have HXN := Aside0.mk (show ext.length = l0.length from by rw [hxe, List.length_map])
  have HXE := Aside0.mk (show extF l0 rule l0.length = ext from by rw [hxe, extF_all])
  have HN := Aside0.mk (show 0 < l0.length ∧ l0.length ≤ 60 from ⟨by have h_ := HST.out; omega, hok.n60⟩)
  have HRK := Aside0.mk (k31_mk w rule HC3.out HR3.out)
  have HVX0 := Aside0.mk hvx
  clear hve hck hok hxe hvx
  subst hfe
  go_enter Try.func5, Try.ntmps5
  go_upto_region 8 with (first | ((with_reducible refine gate_dst (N := 7) rfl ?_); refine box_event ?hg (N := 7) ?hd (cs := #[.int .i64 rule.f0, .slice A3 rule.f1.length c3]) (t := 31) ?hr ?_; (case hd => rfl); (case hg => rfl); (case hr => first | (go_simp; done) | (go_simp; rfl)); intro g7 hg w1 hbox hb; have BKg7 := Aside0.mk hbox; have HB := Aside0.mk hb; clear hbox hb hg) | (go_at_call 6; refine (glossatorkeep3_ruleExample.calls K true _ HEX.out).mono ?_; rintro e_ wx ⟨rfl, hb⟩; have n0_ := Aside0.mk (below_step HB.out hb); have n1_ := Aside0.mk (blk_below BKg7.out hb); clear HB BKg7; have HB := n0_; have BKg7 := n1_; clear n0_ n1_; clear hb) | (go_at_call 7; refine (fixpoint_Least.calls K A0 c0 l0 sets 0 _ (Kd.C_below HR0.out HB.out) HC0.out HLE.out).mono ?_; rintro e_ wl ⟨vs, rfl, hs, hb⟩; have HSETS := Aside0.mk (Kd.R_lower hs HB.out.size); obtain ⟨As, cs, evs⟩ := Kd.R_slice hs; subst evs; clear hs; have n0_ := Aside0.mk (below_step HB.out hb); have n1_ := Aside0.mk (blk_below BKg7.out hb); clear HB BKg7; have HB := n0_; have BKg7 := n1_; clear n0_ n1_; clear hb) | (go_at_call 9; refine (glossatorref3_Mod.calls _ _ _ _ (by with_reducible first | exact HM1.out | exact HM2.out)).mono ?_; rintro e_ wm ⟨rfl, hd_⟩; have hb := hd_.below; clear hd_; have n0_ := Aside0.mk (below_step HB.out hb); have n1_ := Aside0.mk (blk_below BKg7.out hb); have n2_ := Aside0.mk (Kd.R_below HSETS.out hb); clear HB BKg7 HSETS; have HB := n0_; have BKg7 := n1_; have HSETS := n2_; clear n0_ n1_ n2_; clear hb) | (go_at_call 9; refine (glossatorref3_Mod.calls _ _ _ _ (by with_reducible first | exact HM1.out | exact HM2.out)).mono ?_; rintro e_ wm ⟨rfl, hd_⟩; have hb := hd_.below; clear hd_; have n0_ := Aside0.mk (below_step HB.out hb); have n1_ := Aside0.mk (blk_below BKg7.out hb); have n2_ := Aside0.mk (Kd.R_below HSETS.out hb); clear HB BKg7 HSETS; have HB := n0_; have BKg7 := n1_; have HSETS := n2_; clear n0_ n1_ n2_; clear hb) | (go_at_call 15; refine (fixpoint_Derive.calls A0 c0 l0 st el proof 0 _ (Kd.C_below HR0.out HB.out) HC0.out HDE.out).mono ?_; rintro e_ wd ⟨vp, rfl, hs, hb⟩; have HPRF := Aside0.mk (Kd.R_lower hs HB.out.size); obtain ⟨Ap, cp, evp⟩ := Kd.R_slice hs; subst evp; clear hs; have n0_ := Aside0.mk (below_step HB.out hb); have n1_ := Aside0.mk (blk_below BKg7.out hb); have n2_ := Aside0.mk (Kd.R_below HSETS.out hb); clear HB BKg7 HSETS; have HB := n0_; have BKg7 := n1_; have HSETS := n2_; clear n0_ n1_ n2_; clear hb))
  obtain ⟨ads, ea, hx0⟩ := Kd.at_int (Kd.R_reads' HSETS.out).2.2 st (of_eq_true q1) (of_eq_true q2)
  cases ea
  go_upto_region 10 with (fail)
  clear hx0 HSETS q1 q2 he64 he0
  go_upto_region 11 with (((with_reducible refine gate_dst (N := 66) rfl ?_); refine Kd.R_make (Kd.slice 31 (kF w)) w.heap.size 39 rfl (N := 66) rfl 22 _ _ rfl (l0.length : Int) rfl rfl Try.underlying22 (.slice none 0 0) 24 info39 rfl (show 0 < 1 by decide) (by omega) ([] : List S31) (ok := fun _ => True) (okp := fun _ => True) ⟨_, rfl, Kd.R_nil _ _ _ _ _⟩ (fun _ hk => hk) trivial (by omega) (by have h_ := HN.out; omega) HB.out HB.out.size ?_; intro v1 wk ho hb_ hg hnew; have hb := Kd.below_of_grown0 hg; rw [Int.toNat_natCast] at ho; obtain ⟨ge, cape, ev, hge⟩ := Kd.R_form ho (by rw [List.length_replicate]; have h_ := HN.out; omega); subst ev; rw [List.length_replicate] at ho; have HE := Aside0.mk (show Kd.R (Kd.slice 31 (kF w)) 39 wk w.heap.size (fun _ => True) (.slice (some ⟨ge, 0, none⟩) l0.length cape) (extF l0 rule 0) from by rw [extF_zero]; exact ho); clear ho hb_ hg hnew hge; have n0_ := Aside0.mk (below_step HB.out hb); have n1_ := Aside0.mk (blk_below BKg7.out hb); have n2_ := Aside0.mk (Kd.R_below HPRF.out hb); clear HB BKg7 HPRF; have HB := n0_; have BKg7 := n1_; have HPRF := n2_; clear n0_ n1_ n2_; clear hb))
  go_wp2
  go_loopg [69] l0.length (fun kq v69 w' => ∃ i : Nat, v69 = .int .i64 (i : Int) ∧ Aside0 (i + kq = l0.length) ∧ Aside0 (Below w.heap.size w w') ∧ Aside0 (w'.heap[g7]? = some (.cells #[.int .i64 rule.f0, .slice A3 rule.f1.length c3] 31 (0, 0))) ∧ Aside0 (Kd.R k59 59 w' w.heap.size (fun _ => True) (.slice Ap proof.length cp) proof) ∧ Aside0 (Kd.R (Kd.slice 31 (kF w)) 39 w' w.heap.size (fun _ => True) (.slice (some ⟨ge, 0, none⟩) l0.length cape) (extF l0 rule i)))
  case atStart => exact ⟨0, rfl, ⟨by omega⟩, HB, BKg7, HPRF, HE⟩
  case round =>
    clear HB BKg7 HPRF HE
    obtain ⟨i, rfl, E1, HB, BKg7, HPRF, HE⟩ := hrel
    by_cases c : i < l0.length
    · have c1 : decide ((i : Int) < (l0.length : Int)) = true := decide_eq_true (by omega)
      have c1b : decide (i < l0.length) = true := decide_eq_true c
      obtain ⟨k1, rfl⟩ : ∃ k1, gk = k1 + 1 := ⟨gk - 1, by have h_ := E1.out; omega⟩
      have p1 : 0 ≤ (i : Int) := by omega
      have p2 : (i : Int) < (l0.length : Int) := by omega
      obtain ⟨ad, A2, c2, ea, hy0, hl2, hi2⟩ := at_L3 HR0.out (i : Int) p1 p2
      cases ea
      rw [Int.toNat_natCast] at hy0
      have HY0 := Aside0.mk hy0
      have HRL := Aside0.mk hi2
      have HSM := Aside0.mk (show i < l0.length ∧ (rd_L3 l0 (i : Int)).length ≤ 20 from ⟨c, by
        have e_ : rd_L3 l0 (i : Int) = l0[i] := by unfold rd_L3; simp [c]
        rw [e_]; exact HOK.out.l20 _ (List.getElem_mem _)⟩)
      have hw1 : wrap64 ((i : Int) + 1) = (i : Int) + 1 := w64_id' (by omega) (by have := HN.out; omega)
      have hw1b : IntKind.i64.wrap ((i : Int) + 1) = (i : Int) + 1 := (i64_w _).trans hw1
      replace p1 := eq_true p1
      replace p2 := eq_true p2
      have p2b := eq_true c
      clear hy0 hl2 hi2 c
      go_wp2
      refine start_ (n := 12) (S := fun w' => w'.cell? (ad.add i) = some (.slice A2 (rd_L3 l0 (i : Int)).length c2) ∧ w'.cell? ⟨g7, 0, none⟩ = some (.int .i64 rule.f0) ∧ w'.cell? ⟨g7, 1, none⟩ = some (.slice A3 rule.f1.length c3)) (ds := [11]) #[false, false, false, false, false, false, false, false, false, false, false, false] (by kernel_rfl) rfl rfl ⟨((below_step HB.out (below_drew1 (Below.refl wr.heap.size wr))).cell (World.block_lt_of_cell? w _ HY0.out)).trans HY0.out, (blk_cell (blk_drew BKg7.out) 0).trans rfl, (blk_cell (blk_drew BKg7.out) 1).trans rfl⟩ (fun hHeld => ?_)
      have hb := below_drew1 (Below.refl wr.heap.size wr)
      have NN := Aside0.mk (show wr.heap.size ≤ wr.drew.heap.size from Nat.le_refl _)
      replace HE := Aside0.mk (Kd.R_mono (ok' := fun k => k < wr.heap.size) (Kd.R_bound HE.out) (fun k hk => hk.2.2.1))
      have NG7 := Aside0.mk (show g7 < wr.heap.size from blk_lt BKg7.out)
      have NGE := Aside0.mk (show ge < wr.heap.size from HE.out.1 ge (by simp [Value.ownBlock]))
      have n0_ := Aside0.mk (below_step HB.out hb)
      have n1_ := Aside0.mk (blk_below BKg7.out hb)
      have n2_ := Aside0.mk (Kd.R_below HPRF.out hb)
      have n3_ := Aside0.mk (Kd.R_below HE.out hb)
      clear HB BKg7 HPRF HE
      have HB := n0_
      have BKg7 := n1_
      have HPRF := n2_
      have HE := n3_
      clear n0_ n1_ n2_ n3_
      clear hb
      generalize wr.drew = w3 at HB BKg7 HPRF HE NN hHeld ⊢
      refine pure_ (i := 0) (N := some 72) (v := ?_) (a' := ?_) #[true, false, false, false, false, false, false, false, false, false, false, false] rfl rfl (by kernel_rfl) (fun _ _ _ h => h) (Or.inl ⟨by rfl, ?_⟩) ?_ ?_
      rotate_left
      · intro w'
        go_simp
        with_reducible rfl
      rotate_left
      · simp only [Act.put, List.setIfInBounds_toArray, List.set_cons_zero, List.set_cons_succ, i64_w, i32_w]
        rfl
      refine pure_ (i := 1) (N := some 73) (v := ?_) (a' := ?_) #[true, true, false, false, false, false, false, false, false, false, false, false] rfl rfl (by kernel_rfl) (fun _ _ _ h => h) (Or.inl ⟨by rfl, ?_⟩) ?_ ?_
      rotate_left
      · intro w'
        go_simp
        with_reducible rfl
      rotate_left
      · simp only [Act.put, List.setIfInBounds_toArray, List.set_cons_zero, List.set_cons_succ, i64_w, i32_w]
        rfl
      refine pure_ (i := 2) (N := some 74) (v := ?_) (a' := ?_) #[true, true, true, false, false, false, false, false, false, false, false, false] rfl rfl (by kernel_rfl) (fun _ _ _ h => h) (Or.inl ⟨by rfl, ?_⟩) ?_ ?_
      rotate_left
      · intro w'
        go_simp
        with_reducible rfl
      rotate_left
      · simp only [Act.put, List.setIfInBounds_toArray, List.set_cons_zero, List.set_cons_succ, i64_w, i32_w]
        rfl
      refine pure_ (i := 3) (N := some 75) (v := ?_) (a' := ?_) #[true, true, true, true, false, false, false, false, false, false, false, false] rfl rfl (by kernel_rfl) (fun _ _ _ h => h) (Or.inl ⟨by rfl, ?_⟩) ?_ ?_
      rotate_left
      · intro w'
        go_simp
        with_reducible rfl
      rotate_left
      · simp only [Act.put, List.setIfInBounds_toArray, List.set_cons_zero, List.set_cons_succ, i64_w, i32_w]
        rfl
      refine pure_ (i := 4) (N := some 76) (v := ?_) (a' := ?_) #[true, true, true, true, true, false, false, false, false, false, false, false] rfl rfl (by kernel_rfl) (fun _ _ _ h => h) (Or.inl ⟨by rfl, ?_⟩) ?_ ?_
      rotate_left
      · intro w'
        go_simp
        with_reducible rfl
      rotate_left
      · simp only [Act.put, List.setIfInBounds_toArray, List.set_cons_zero, List.set_cons_succ, i64_w, i32_w]
        rfl
      refine take_ (i := 5) (N := some 77) (v := ?_) (a' := ?_) #[true, true, true, true, true, true, false, false, false, false, false, false] rfl rfl (by kernel_rfl) (fun _ _ _ h => h) (Or.inl ⟨by rfl, ?_⟩) hHeld ?_ ?_
      rotate_left
      · rintro w' ⟨s0, s1, s2⟩
        go_simp
        with_reducible rfl
      rotate_left
      · simp only [Act.put, List.setIfInBounds_toArray, List.set_cons_zero, List.set_cons_succ, i64_w, i32_w]
        rfl
      refine take_ (i := 7) (N := some 79) (v := ?_) (a' := ?_) #[true, true, true, true, true, true, false, true, false, false, false, false] rfl rfl (by kernel_rfl) (fun _ _ _ h => h) (Or.inl ⟨by rfl, ?_⟩) hHeld ?_ ?_
      rotate_left
      · rintro w' ⟨s0, s1, s2⟩
        go_simp
        with_reducible rfl
      rotate_left
      · simp only [Act.put, List.setIfInBounds_toArray, List.set_cons_zero, List.set_cons_succ, i64_w, i32_w]
        rfl
      refine two_ (i := 6) (j := 8) (Ni := some 78) (Nj := some 80) #[true, true, true, true, true, true, true, true, false, false, false, false] #[true, true, true, true, true, true, false, true, true, false, false, false] rfl rfl rfl rfl (by kernel_rfl) (by decide) (by decide) (fun K hK => ?_) (fun K hK => ?_)
      · refine goes_ Try.func17 (by kernel_rfl) rfl #[.slice A2 (rd_L3 l0 (i : Int)).length c2] (by rfl) rfl rfl (by (try simp only [List.map_toArray, List.map_cons, List.map_nil]); first | done | rfl) ?_
        refine (clone17 w A2 (rd_L3 l0 (i : Int)).length c2 (rd_L3 l0 (i : Int)) _ (C_fix HRL.out HB.out) (by have h_ := HSM.out; omega)).mono ?_
        rintro e_ wc ⟨vc, rfl, hvc, hb⟩
        refine ⟨_, rfl, ?_⟩
        obtain ⟨Ac, cc, rfl⟩ := Kd.R_slice hvc
        have HVB := Aside0.mk (show ∀ k, (Value.slice Ac (rd_L3 l0 (i : Int)).length cc).ownBlock = some k → wr.heap.size ≤ k from fun k hk => Nat.le_trans NN.out (Kd.R_base hvc k hk))
        have HV := Aside0.mk (Kd.R_mono (ok' := fun k => wr.heap.size ≤ k) (Kd.R_tight rfl (Kd.R_lower hvc HB.out.size)) (fun k hk => HVB.out k hk.symm))
        replace NN := Aside0.mk (Nat.le_trans NN.out hb.size)
        clear hvc
        have n0_ := Aside0.mk (below_step HB.out hb)
        have n1_ := Aside0.mk (blk_below BKg7.out hb)
        have n2_ := Aside0.mk (Kd.R_below HPRF.out hb)
        have n3_ := Aside0.mk (Kd.R_below HE.out hb)
        clear HB BKg7 HPRF HE
        have HB := n0_
        have BKg7 := n1_
        have HPRF := n2_
        have HE := n3_
        clear n0_ n1_ n2_ n3_
        clear hb
        refine hK.out _ _ ⟨(HB.out.cell (World.block_lt_of_cell? w _ HY0.out)).trans HY0.out, (blk_cell (BKg7.out) 0).trans rfl, (blk_cell (BKg7.out) 1).trans rfl⟩ (fun hHeld => ?_)
        clear hK K
        refine norm_ (a' := ?_) ?_ ?_
        rotate_left
        · show Act.put _ (some 78) _ = _
          simp only [Act.put, List.setIfInBounds_toArray, List.set_cons_zero, List.set_cons_succ, i64_w, i32_w]
          rfl
        refine one_ (i := 8) (N := some 80) #[true, true, true, true, true, true, true, true, true, false, false, false] rfl rfl (by kernel_rfl) (by decide) (fun K hK => ?_)
        refine value_ (w1 := wc.alloc (.cells #[.int .i64 rule.f0, .slice A3 rule.f1.length c3] 31 (0, 0))) (v := .slice (some ⟨wc.heap.size, 0, none⟩) 1 1) (by rfl) rfl ?_ ?_
        · go_simp
          try rfl
        have hb : Below wc.heap.size wc (wc.alloc (.cells #[.int .i64 rule.f0, .slice A3 rule.f1.length c3] 31 (0, 0))) := below_alloc (Below.refl _ _) _
        have HXB := Aside0.mk (show (wc.alloc (.cells #[.int .i64 rule.f0, .slice A3 rule.f1.length c3] 31 (0, 0))).heap[wc.heap.size]? = some (.cells #[.int .i64 rule.f0, .slice A3 rule.f1.length c3] 31 (0, 0)) from blk_new wc _)
        replace NN := Aside0.mk (Nat.le_trans NN.out hb.size)
        have n0_ := Aside0.mk (below_step HB.out hb)
        have n1_ := Aside0.mk (blk_below BKg7.out hb)
        have n2_ := Aside0.mk (Kd.R_below HPRF.out hb)
        have n3_ := Aside0.mk (Kd.R_below HE.out hb)
        have n4_ := Aside0.mk (Kd.R_below HV.out hb)
        clear HB BKg7 HPRF HE HV
        have HB := n0_
        have BKg7 := n1_
        have HPRF := n2_
        have HE := n3_
        have HV := n4_
        clear n0_ n1_ n2_ n3_ n4_
        clear hb
        generalize wc.heap.size = gb at HXB ⊢
        generalize (wc.alloc (.cells #[.int .i64 rule.f0, .slice A3 rule.f1.length c3] 31 (0, 0))) = w5 at HB BKg7 HPRF HE HXB NN HV ⊢
        refine hK.out _ _ ⟨(HB.out.cell (World.block_lt_of_cell? w _ HY0.out)).trans HY0.out, (blk_cell (BKg7.out) 0).trans rfl, (blk_cell (BKg7.out) 1).trans rfl⟩ (fun hHeld => ?_)
        clear hK K
        refine norm_ (a' := ?_) ?_ ?_
        rotate_left
        · show Act.put _ (some 80) _ = _
          simp only [Act.put, List.setIfInBounds_toArray, List.set_cons_zero, List.set_cons_succ, i64_w, i32_w]
          rfl
        refine one_ (i := 9) (N := some 81) #[true, true, true, true, true, true, true, true, true, true, false, false] rfl rfl (by kernel_rfl) (by decide) (fun K hK => ?_)
        refine Kd.R_append_rows_step (kF w) (w0 := w) w.heap.size (by rfl) (.tmp 78) (.tmp 80) 39 31 (.agg #[.int .i64 0, .slice none 0 0]) 32 rfl Try.underlying39 info31 rfl (show 0 < 2 by decide) (by omega) (.slice Ac (rd_L3 l0 (i : Int)).length cc) (rd_L3 l0 (i : Int)) [rule] (some ⟨gb, 0, none⟩) 1 1 (fun k => wr.heap.size ≤ k) (fun _ => False) rfl rfl HV.out (one_row HXB.out HRK.out) (fun _ _ h => h) (fun _ h => h.elim) (fun k hk => Nat.le_trans NN.out hk) HB.out HB.out.size (by have h_ := HSM.out; omega) ?_
        intro u1 w8 ho hb hg hat
        obtain ⟨A9, n9, c9, rfl⟩ : ∃ A n c, u1 = .slice A n c := by obtain ⟨A, c, e⟩ := Kd.R_slice ho; exact ⟨A, _, c, e⟩
        have HO := Aside0.mk ho
        have n1_ := Aside0.mk hb
        have n2_ := Aside0.mk (blk_grown BKg7.out hg (fun e_ => by have h1_ := HVB.out g7 e_.symm; have h2_ := NG7.out; omega))
        have n3_ := Aside0.mk (Kd.R_over HPRF.out HV.out (by decide) hg)
        have n4_ := Aside0.mk (Kd.R_mono (ok' := fun _ => True) (Kd.R_grown HE.out hg (fun k hk e_ => by have h1_ := HVB.out k e_.symm; omega)) (fun _ _ => trivial))
        clear HB BKg7 HPRF HE hb hg hat ho HV HXB
        have HB := n1_
        have BKg7 := n2_
        have HPRF := n3_
        have HE := n4_
        clear n1_ n2_ n3_ n4_
        refine hK.out _ _ ⟨(HB.out.cell (World.block_lt_of_cell? w _ HY0.out)).trans HY0.out, (blk_cell (BKg7.out) 0).trans rfl, (blk_cell (BKg7.out) 1).trans rfl⟩ (fun hHeld => ?_)
        clear hK K
        refine norm_ (a' := ?_) ?_ ?_
        rotate_left
        · show Act.put _ (some 81) _ = _
          simp only [Act.put, List.setIfInBounds_toArray, List.set_cons_zero, List.set_cons_succ, i64_w, i32_w]
          rfl
        refine pure_ (i := 10) (N := some 82) (v := ?_) (a' := ?_) #[true, true, true, true, true, true, true, true, true, true, true, false] rfl rfl (by kernel_rfl) (fun _ _ _ h => h) (Or.inl ⟨by rfl, ?_⟩) ?_ ?_
        rotate_left
        · intro w'
          go_simp
          with_reducible rfl
        rotate_left
        · simp only [Act.put, List.setIfInBounds_toArray, List.set_cons_zero, List.set_cons_succ, i64_w, i32_w]
          rfl
        refine last_ (i := 11) (N := none) #[true, true, true, true, true, true, true, true, true, true, true, true] rfl rfl (by kernel_rfl) (by decide) (fun K hK => ?_)
        obtain ⟨ce_, hcl_, hM_, hcc_, hfr_⟩ := Kd.R_elem HE.out ([] : List S31) (i : Int) (by omega) (by have h_ := HSM.out; omega)
        obtain ⟨vo_, rfl, _⟩ := hM_
        have hce : w8.cell? ⟨ge, i, none⟩ = some vo_ := by have h_ := hcc_ 0 _ rfl; rwa [Int.toNat_natCast, show i * (Kd.slice 31 (kF w)).sz + 0 = i from Nat.mul_one i] at h_
        have hfe : w8.frozen? ⟨ge, i, none⟩ = false := by have h_ := hfr_ 0; rwa [Int.toNat_natCast, show i * (Kd.slice 31 (kF w)).sz + 0 = i from Nat.mul_one i] at h_
        refine skip_ (w1 := (w8.setCell ⟨ge, i, none⟩ (.slice A9 n9 c9))) (by rfl) rfl ?_ ?_
        · go_simp
          try rfl
        obtain ⟨hm1_, hm2_⟩ := mat_set HE.out i (by have h_ := HSM.out; omega) HO.out (fun k hk => ⟨trivial, fun e_ => by have h_ := NGE.out; omega⟩)
        obtain ⟨cellse, hce2⟩ := Kd.R_typed HE.out ge (by simp [Value.ownBlock])
        have n1_ := Aside0.mk (pw_below_grown HB.out (some ge) HB.out.size hm2_ (fun k hk => by injection hk with hk; rw [← hk]; exact Kd.R_base HE.out ge (by simp [Value.ownBlock])))
        have n2_ := Aside0.mk (blk_grown BKg7.out hm2_ (fun e_ => by injection e_ with e_; exact blk_ne BKg7.out hce2 (by decide) e_))
        have n3_ := Aside0.mk (Kd.R_set HPRF.out hce2 (by decide) i (.slice A9 n9 c9))
        have n4_ := Aside0.mk (show Kd.R (Kd.slice 31 (kF w)) 39 (w8.setCell ⟨ge, i, none⟩ (.slice A9 n9 c9)) w.heap.size (fun _ => True) (.slice (some ⟨ge, 0, none⟩) l0.length cape) (extF l0 rule (i + 1)) from by rw [← extF_set l0 rule i (by have h_ := HSM.out; omega)]; exact hm1_)
        clear HB BKg7 HPRF HE HO hm1_ hm2_ hce2 hce hfe hcc_ hfr_ hcl_ HVB NN NG7 NGE
        generalize (w8.setCell ⟨ge, i, none⟩ (.slice A9 n9 c9)) = w9 at n1_ n2_ n3_ n4_ ⊢
        have HB := n1_
        have BKg7 := n2_
        have HPRF := n3_
        have HE := n4_
        clear n1_ n2_ n3_ n4_
        refine hK.out _ _ ?_
        clear hK K
        refine done_ (by kernel_rfl) ?_
        try clear hHeld
        go_wp2
        go_roundg k1
        case measure => have := HSM.out; have h2_ := E1.out; omega
        case rel => exact ⟨i + 1, by simp [hw1, hw1b], ⟨⟨by have h2_ := E1.out; omega⟩, HB, BKg7, HPRF, HE⟩⟩
      · refine value_ (w1 := w3.alloc (.cells #[.int .i64 rule.f0, .slice A3 rule.f1.length c3] 31 (0, 0))) (v := .slice (some ⟨w3.heap.size, 0, none⟩) 1 1) (by rfl) rfl ?_ ?_
        · go_simp
          try rfl
        have hb : Below w3.heap.size w3 (w3.alloc (.cells #[.int .i64 rule.f0, .slice A3 rule.f1.length c3] 31 (0, 0))) := below_alloc (Below.refl _ _) _
        have HXB := Aside0.mk (show (w3.alloc (.cells #[.int .i64 rule.f0, .slice A3 rule.f1.length c3] 31 (0, 0))).heap[w3.heap.size]? = some (.cells #[.int .i64 rule.f0, .slice A3 rule.f1.length c3] 31 (0, 0)) from blk_new w3 _)
        replace NN := Aside0.mk (Nat.le_trans NN.out hb.size)
        have n0_ := Aside0.mk (below_step HB.out hb)
        have n1_ := Aside0.mk (blk_below BKg7.out hb)
        have n2_ := Aside0.mk (Kd.R_below HPRF.out hb)
        have n3_ := Aside0.mk (Kd.R_below HE.out hb)
        clear HB BKg7 HPRF HE
        have HB := n0_
        have BKg7 := n1_
        have HPRF := n2_
        have HE := n3_
        clear n0_ n1_ n2_ n3_
        clear hb
        generalize w3.heap.size = gb at HXB ⊢
        generalize (w3.alloc (.cells #[.int .i64 rule.f0, .slice A3 rule.f1.length c3] 31 (0, 0))) = w5 at HB BKg7 HPRF HE HXB NN ⊢
        refine hK.out _ _ ⟨(HB.out.cell (World.block_lt_of_cell? w _ HY0.out)).trans HY0.out, (blk_cell (BKg7.out) 0).trans rfl, (blk_cell (BKg7.out) 1).trans rfl⟩ (fun hHeld => ?_)
        clear hK K
        refine norm_ (a' := ?_) ?_ ?_
        rotate_left
        · show Act.put _ (some 80) _ = _
          simp only [Act.put, List.setIfInBounds_toArray, List.set_cons_zero, List.set_cons_succ, i64_w, i32_w]
          rfl
        refine one_ (i := 6) (N := some 78) #[true, true, true, true, true, true, true, true, true, false, false, false] rfl rfl (by kernel_rfl) (by decide) (fun K hK => ?_)
        refine goes_ Try.func17 (by kernel_rfl) rfl #[.slice A2 (rd_L3 l0 (i : Int)).length c2] (by rfl) rfl rfl (by (try simp only [List.map_toArray, List.map_cons, List.map_nil]); first | done | rfl) ?_
        refine (clone17 w A2 (rd_L3 l0 (i : Int)).length c2 (rd_L3 l0 (i : Int)) _ (C_fix HRL.out HB.out) (by have h_ := HSM.out; omega)).mono ?_
        rintro e_ wc ⟨vc, rfl, hvc, hb⟩
        refine ⟨_, rfl, ?_⟩
        obtain ⟨Ac, cc, rfl⟩ := Kd.R_slice hvc
        have HVB := Aside0.mk (show ∀ k, (Value.slice Ac (rd_L3 l0 (i : Int)).length cc).ownBlock = some k → wr.heap.size ≤ k from fun k hk => Nat.le_trans NN.out (Kd.R_base hvc k hk))
        have HV := Aside0.mk (Kd.R_mono (ok' := fun k => wr.heap.size ≤ k) (Kd.R_tight rfl (Kd.R_lower hvc HB.out.size)) (fun k hk => HVB.out k hk.symm))
        replace NN := Aside0.mk (Nat.le_trans NN.out hb.size)
        clear hvc
        have n0_ := Aside0.mk (below_step HB.out hb)
        have n1_ := Aside0.mk (blk_below BKg7.out hb)
        have n2_ := Aside0.mk (Kd.R_below HPRF.out hb)
        have n3_ := Aside0.mk (Kd.R_below HE.out hb)
        have n4_ := Aside0.mk (blk_below HXB.out hb)
        clear HB BKg7 HPRF HE HXB
        have HB := n0_
        have BKg7 := n1_
        have HPRF := n2_
        have HE := n3_
        have HXB := n4_
        clear n0_ n1_ n2_ n3_ n4_
        clear hb
        refine hK.out _ _ ⟨(HB.out.cell (World.block_lt_of_cell? w _ HY0.out)).trans HY0.out, (blk_cell (BKg7.out) 0).trans rfl, (blk_cell (BKg7.out) 1).trans rfl⟩ (fun hHeld => ?_)
        clear hK K
        refine norm_ (a' := ?_) ?_ ?_
        rotate_left
        · show Act.put _ (some 78) _ = _
          simp only [Act.put, List.setIfInBounds_toArray, List.set_cons_zero, List.set_cons_succ, i64_w, i32_w]
          rfl
        refine one_ (i := 9) (N := some 81) #[true, true, true, true, true, true, true, true, true, true, false, false] rfl rfl (by kernel_rfl) (by decide) (fun K hK => ?_)
        refine Kd.R_append_rows_step (kF w) (w0 := w) w.heap.size (by rfl) (.tmp 78) (.tmp 80) 39 31 (.agg #[.int .i64 0, .slice none 0 0]) 32 rfl Try.underlying39 info31 rfl (show 0 < 2 by decide) (by omega) (.slice Ac (rd_L3 l0 (i : Int)).length cc) (rd_L3 l0 (i : Int)) [rule] (some ⟨gb, 0, none⟩) 1 1 (fun k => wr.heap.size ≤ k) (fun _ => False) rfl rfl HV.out (one_row HXB.out HRK.out) (fun _ _ h => h) (fun _ h => h.elim) (fun k hk => Nat.le_trans NN.out hk) HB.out HB.out.size (by have h_ := HSM.out; omega) ?_
        intro u1 w8 ho hb hg hat
        obtain ⟨A9, n9, c9, rfl⟩ : ∃ A n c, u1 = .slice A n c := by obtain ⟨A, c, e⟩ := Kd.R_slice ho; exact ⟨A, _, c, e⟩
        have HO := Aside0.mk ho
        have n1_ := Aside0.mk hb
        have n2_ := Aside0.mk (blk_grown BKg7.out hg (fun e_ => by have h1_ := HVB.out g7 e_.symm; have h2_ := NG7.out; omega))
        have n3_ := Aside0.mk (Kd.R_over HPRF.out HV.out (by decide) hg)
        have n4_ := Aside0.mk (Kd.R_mono (ok' := fun _ => True) (Kd.R_grown HE.out hg (fun k hk e_ => by have h1_ := HVB.out k e_.symm; omega)) (fun _ _ => trivial))
        clear HB BKg7 HPRF HE hb hg hat ho HV HXB
        have HB := n1_
        have BKg7 := n2_
        have HPRF := n3_
        have HE := n4_
        clear n1_ n2_ n3_ n4_
        refine hK.out _ _ ⟨(HB.out.cell (World.block_lt_of_cell? w _ HY0.out)).trans HY0.out, (blk_cell (BKg7.out) 0).trans rfl, (blk_cell (BKg7.out) 1).trans rfl⟩ (fun hHeld => ?_)
        clear hK K
        refine norm_ (a' := ?_) ?_ ?_
        rotate_left
        · show Act.put _ (some 81) _ = _
          simp only [Act.put, List.setIfInBounds_toArray, List.set_cons_zero, List.set_cons_succ, i64_w, i32_w]
          rfl
        refine pure_ (i := 10) (N := some 82) (v := ?_) (a' := ?_) #[true, true, true, true, true, true, true, true, true, true, true, false] rfl rfl (by kernel_rfl) (fun _ _ _ h => h) (Or.inl ⟨by rfl, ?_⟩) ?_ ?_
        rotate_left
        · intro w'
          go_simp
          with_reducible rfl
        rotate_left
        · simp only [Act.put, List.setIfInBounds_toArray, List.set_cons_zero, List.set_cons_succ, i64_w, i32_w]
          rfl
        refine last_ (i := 11) (N := none) #[true, true, true, true, true, true, true, true, true, true, true, true] rfl rfl (by kernel_rfl) (by decide) (fun K hK => ?_)
        obtain ⟨ce_, hcl_, hM_, hcc_, hfr_⟩ := Kd.R_elem HE.out ([] : List S31) (i : Int) (by omega) (by have h_ := HSM.out; omega)
        obtain ⟨vo_, rfl, _⟩ := hM_
        have hce : w8.cell? ⟨ge, i, none⟩ = some vo_ := by have h_ := hcc_ 0 _ rfl; rwa [Int.toNat_natCast, show i * (Kd.slice 31 (kF w)).sz + 0 = i from Nat.mul_one i] at h_
        have hfe : w8.frozen? ⟨ge, i, none⟩ = false := by have h_ := hfr_ 0; rwa [Int.toNat_natCast, show i * (Kd.slice 31 (kF w)).sz + 0 = i from Nat.mul_one i] at h_
        refine skip_ (w1 := (w8.setCell ⟨ge, i, none⟩ (.slice A9 n9 c9))) (by rfl) rfl ?_ ?_
        · go_simp
          try rfl
        obtain ⟨hm1_, hm2_⟩ := mat_set HE.out i (by have h_ := HSM.out; omega) HO.out (fun k hk => ⟨trivial, fun e_ => by have h_ := NGE.out; omega⟩)
        obtain ⟨cellse, hce2⟩ := Kd.R_typed HE.out ge (by simp [Value.ownBlock])
        have n1_ := Aside0.mk (pw_below_grown HB.out (some ge) HB.out.size hm2_ (fun k hk => by injection hk with hk; rw [← hk]; exact Kd.R_base HE.out ge (by simp [Value.ownBlock])))
        have n2_ := Aside0.mk (blk_grown BKg7.out hm2_ (fun e_ => by injection e_ with e_; exact blk_ne BKg7.out hce2 (by decide) e_))
        have n3_ := Aside0.mk (Kd.R_set HPRF.out hce2 (by decide) i (.slice A9 n9 c9))
        have n4_ := Aside0.mk (show Kd.R (Kd.slice 31 (kF w)) 39 (w8.setCell ⟨ge, i, none⟩ (.slice A9 n9 c9)) w.heap.size (fun _ => True) (.slice (some ⟨ge, 0, none⟩) l0.length cape) (extF l0 rule (i + 1)) from by rw [← extF_set l0 rule i (by have h_ := HSM.out; omega)]; exact hm1_)
        clear HB BKg7 HPRF HE HO hm1_ hm2_ hce2 hce hfe hcc_ hfr_ hcl_ HVB NN NG7 NGE
        generalize (w8.setCell ⟨ge, i, none⟩ (.slice A9 n9 c9)) = w9 at n1_ n2_ n3_ n4_ ⊢
        have HB := n1_
        have BKg7 := n2_
        have HPRF := n3_
        have HE := n4_
        clear n1_ n2_ n3_ n4_
        refine hK.out _ _ ?_
        clear hK K
        refine done_ (by kernel_rfl) ?_
        try clear hHeld
        go_wp2
        go_roundg k1
        case measure => have := HSM.out; have h2_ := E1.out; omega
        case rel => exact ⟨i + 1, by simp [hw1, hw1b], ⟨⟨by have h2_ := E1.out; omega⟩, HB, BKg7, HPRF, HE⟩⟩
    · have c1 : decide ((i : Int) < (l0.length : Int)) = false := decide_eq_false (by omega)
      have c1b : decide (i < l0.length) = false := decide_eq_false c
      have hi : i = l0.length := by have h_ := E1.out; omega
      subst hi
      have hE := HE.out
      rw [HXE.out] at hE
      clear HE
      have HE := Aside0.mk hE
      clear hE c
      cases ht : (t == 0) with
      | true =>
        have HVX := Aside0.mk (HVX0.out (beq_iff_eq.1 ht))
        obtain rfl : t = 0 := beq_iff_eq.1 ht
        clear ht
        go_wp2_with (first | (go_at_call 6; refine (glossatorkeep3_ruleExample.calls K true _ HEX.out).mono ?_; rintro e_ wx ⟨rfl, hb⟩; have n0_ := Aside0.mk (below_step HB.out hb); have n1_ := Aside0.mk (blk_below BKg7.out hb); have n2_ := Aside0.mk (Kd.R_below HPRF.out hb); have n3_ := Aside0.mk (Kd.R_below HE.out hb); clear HB BKg7 HPRF HE; have HB := n0_; have BKg7 := n1_; have HPRF := n2_; have HE := n3_; clear n0_ n1_ n2_ n3_; clear hb) | (go_at_call 16; with_reducible refine (fixpoint_Verify.calls K A0 c0 l0 Ap cp proof st el true _ ?sv1 ?sv2 ?sv3 ?sv4 HVE.out).mono ?_; (case sv1 => exact (Kd.C_below HR0.out HB.out)); (case sv2 => exact HC0.out); (case sv3 => exact (Kd.R_reads' HPRF.out).2.2); (case sv4 => exact (Kd.R_reads' HPRF.out).2.1); rintro e_ wv ⟨rfl, hb⟩; have n0_ := Aside0.mk (below_step HB.out hb); have n1_ := Aside0.mk (blk_below BKg7.out hb); have n2_ := Aside0.mk (Kd.R_below HPRF.out hb); have n3_ := Aside0.mk (Kd.R_below HE.out hb); clear HB BKg7 HPRF HE; have HB := n0_; have BKg7 := n1_; have HPRF := n2_; have HE := n3_; clear n0_ n1_ n2_ n3_; clear hb) | (go_at_call 18; refine (check_n (some ⟨ge, 0, none⟩) cape ext l0.length 0 _ HXN.out (fix_C (R_Cn HE.out HXN.out) HB.out) (Kd.R_reads' HE.out).2.1 HCK.out).mono ?_; rintro e_ wk2 ⟨rfl, hb⟩; have n0_ := Aside0.mk (below_step HB.out hb); have n1_ := Aside0.mk (blk_below BKg7.out hb); have n2_ := Aside0.mk (Kd.R_below HPRF.out hb); have n3_ := Aside0.mk (Kd.R_below HE.out hb); clear HB BKg7 HPRF HE; have HB := n0_; have BKg7 := n1_; have HPRF := n2_; have HE := n3_; clear n0_ n1_ n2_ n3_; clear hb) | (go_at_call 16; with_reducible refine (verify_n K (some ⟨ge, 0, none⟩) cape ext l0.length Ap cp proof st el true _ HXN.out ?sv1 ?sv2 ?sv3 ?sv4 HVX.out).mono ?_; (case sv1 => exact fix_C (R_Cn HE.out HXN.out) HB.out); (case sv2 => exact (Kd.R_reads' HE.out).2.1); (case sv3 => exact (Kd.R_reads' HPRF.out).2.2); (case sv4 => exact (Kd.R_reads' HPRF.out).2.1); rintro e_ wv ⟨rfl, hb⟩; have n0_ := Aside0.mk (below_step HB.out hb); have n1_ := Aside0.mk (blk_below BKg7.out hb); have n2_ := Aside0.mk (Kd.R_below HPRF.out hb); have n3_ := Aside0.mk (Kd.R_below HE.out hb); clear HB BKg7 HPRF HE; have HB := n0_; have BKg7 := n1_; have HPRF := n2_; have HE := n3_; clear n0_ n1_ n2_ n3_; clear hb))
        go_ret
        exact ⟨rfl, HB.out⟩
      | false =>
        have ht2 : (t != 0) = true := by unfold bne; rw [ht]; rfl
        have ht3 : decide (t = 0) = false := decide_eq_false (beq_eq_false_iff_ne.1 ht)
        have ht4 : decide (¬ t = 0) = true := decide_eq_true (beq_eq_false_iff_ne.1 ht)
        go_wp2_with (first | (go_at_call 6; refine (glossatorkeep3_ruleExample.calls K true _ HEX.out).mono ?_; rintro e_ wx ⟨rfl, hb⟩; have n0_ := Aside0.mk (below_step HB.out hb); have n1_ := Aside0.mk (blk_below BKg7.out hb); have n2_ := Aside0.mk (Kd.R_below HPRF.out hb); have n3_ := Aside0.mk (Kd.R_below HE.out hb); clear HB BKg7 HPRF HE; have HB := n0_; have BKg7 := n1_; have HPRF := n2_; have HE := n3_; clear n0_ n1_ n2_ n3_; clear hb) | (go_at_call 16; with_reducible refine (fixpoint_Verify.calls K A0 c0 l0 Ap cp proof st el true _ ?sv1 ?sv2 ?sv3 ?sv4 HVE.out).mono ?_; (case sv1 => exact (Kd.C_below HR0.out HB.out)); (case sv2 => exact HC0.out); (case sv3 => exact (Kd.R_reads' HPRF.out).2.2); (case sv4 => exact (Kd.R_reads' HPRF.out).2.1); rintro e_ wv ⟨rfl, hb⟩; have n0_ := Aside0.mk (below_step HB.out hb); have n1_ := Aside0.mk (blk_below BKg7.out hb); have n2_ := Aside0.mk (Kd.R_below HPRF.out hb); have n3_ := Aside0.mk (Kd.R_below HE.out hb); clear HB BKg7 HPRF HE; have HB := n0_; have BKg7 := n1_; have HPRF := n2_; have HE := n3_; clear n0_ n1_ n2_ n3_; clear hb) | (go_at_call 18; refine (check_n (some ⟨ge, 0, none⟩) cape ext l0.length t _ HXN.out (fix_C (R_Cn HE.out HXN.out) HB.out) (Kd.R_reads' HE.out).2.1 HCK.out).mono ?_; rintro e_ wk2 ⟨rfl, hb⟩; have n0_ := Aside0.mk (below_step HB.out hb); have n1_ := Aside0.mk (blk_below BKg7.out hb); have n2_ := Aside0.mk (Kd.R_below HPRF.out hb); have n3_ := Aside0.mk (Kd.R_below HE.out hb); clear HB BKg7 HPRF HE; have HB := n0_; have BKg7 := n1_; have HPRF := n2_; have HE := n3_; clear n0_ n1_ n2_ n3_; clear hb))
        go_ret
        exact ⟨rfl, HB.out⟩
end Go.Proofs.Ytgjcembdmohhkaa.Fs
