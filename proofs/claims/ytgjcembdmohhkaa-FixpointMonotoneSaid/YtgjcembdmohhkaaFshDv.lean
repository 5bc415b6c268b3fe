/- fixpoint.derivations: which sets contain an element, each with the first rule that applies. Condition: fewer than 1000000000 rules. -/
import Derived.Test.YtgjcembdmohhkaaFsx0
import Derived.Test.YtgjcembdmohhkaaFshCk
import Derived.BigQuiet
namespace Go.Proofs.Ytgjcembdmohhkaa.Fs
open Go.RowKit Go.Proofs.YtgjcembdmohhkaaW.PrintWords Go.Proofs.YtgjcembdmohhkaaW.PrintLast Go.Proofs.YtgjcembdmohhkaaW.PrintMore
open Go.Proofs.Ytgjcembdmohhkaa
set_option linter.unusedVariables false
set_option linter.unusedSimpArgs false

theorem info4 : (Try.prog.info? 4).map (fun i => (i.zero, i.size, i.bytes)) = some (some (.bool false), 1, 1) := by kernel_rfl
theorem info59 : (Try.prog.info? 59).map (fun i => (i.zero, i.size, i.bytes)) = some (some (.agg #[.int .i64 0, .int .i64 0, .int .i64 0]), 3, 24) := by kernel_rfl
def bitF (e m : Int) : Bool := (Go.bits .and .i64 (m / 2 ^ e.toNat) 1 == 1)
def noF (D : List Bool) (j : Int) : Bool := !rdOf false D j
def appF (e : Int) (D : List Bool) (r : S31) : Bool := bitF e r.f0 && !r.f1.any (noF D)
set_option maxHeartbeats 2000000 in
theorem pred38 (j : Int) (D : List Bool) (g5 gd cap : Nat) (w : World) (h0 : 0 ≤ j) (h1 : j < (D.length : Int)) (hb : w.heap[g5]? = some (.cells #[.slice (some ⟨gd, 0, none⟩) D.length cap] 61 (0, 0))) (hD : Kd.C Kd.bool w (some ⟨gd, 0, none⟩) D.length D) :
    Calls Try.prog 38 #[.int .i64 j, .pointer (some ⟨g5, 0, none⟩)] w fun e w' => e = .returned (.bool (noF D j)) ∧ Below w.heap.size w w' := by
  have hx5 : w.cell? ⟨g5, 0, none⟩ = some (.slice (some ⟨gd, 0, none⟩) D.length cap) := (blk_cell hb 0).trans rfl
  have HB := Aside0.mk (Below.refl w.heap.size w)
  obtain ⟨ad, ea, hx0⟩ := Kd.at_bool hD j h0 h1
  cases ea
  rw [add_plain] at hx0
  replace h0 := eq_true h0
  replace h1 := eq_true h1
  have BX := Aside0.mk hb
  clear hb hD
  go_enter Try.func38, Try.ntmps38
  go_wp2
  go_ret
  exact ⟨rfl, HB.out⟩
set_option maxHeartbeats 4000000 in
set_option maxRecDepth 100000 in
theorem index44d (A0 : Option Addr) (c0 : Nat) (l0 : List (Int)) (D : List Bool) (g5 gd cap : Nat) (w : World) (hr0 : Kd.C (Kd.int .i64) w A0 l0.length l0) (hc0 : l0.length ≤ c0) (hl0 : l0.length < 1000000000) (hbox : w.heap[g5]? = some (.cells #[.slice (some ⟨gd, 0, none⟩) D.length cap] 61 (0, 0))) (hD : Kd.C Kd.bool w (some ⟨gd, 0, none⟩) D.length D) (hix : ∀ j ∈ l0, 0 ≤ j ∧ j < (D.length : Int)) :
    Calls Try.prog 44 #[.slice A0 l0.length c0, .func (.func 38) #[] #[.pointer (some ⟨g5, 0, none⟩)]] w fun e w' => e = .returned (.int .i64 (ixs (noF D) l0 0)) ∧ Below w.heap.size w w' := by
  have hu31 := Try.underlying31
  have HR0 := Aside0.mk hr0
  have HC0 := Aside0.mk hc0
  have HLEN := Aside0.mk hl0
  clear hr0 hc0 hl0
  have HB := Aside0.mk (Below.refl w.heap.size w)
  have BX := Aside0.mk hbox
  have HD := Aside0.mk hD
  have HIX := Aside0.mk hix
  clear hbox hD hix
  go_enter Try.func44, Try.ntmps44
  go_wp2
  go_loopg [8] l0.length (fun kq v8 w' => ∃ x : Int, v8 = .int .i64 x ∧ Aside0 (∃ i : Nat, x = i ∧ i + kq = l0.length ∧ ixs (noF D) (l0.drop i) (i : Int) = ixs (noF D) l0 0) ∧ Aside0 (Below w.heap.size w w'))
  case atStart => exact ⟨0, rfl, ⟨⟨0, rfl, by omega, rfl⟩⟩, HB⟩
  case round =>
    clear HB
    obtain ⟨x, rfl, HX, HB⟩ := hrel
    by_cases c : x < (l0.length : Int)
    · have c1 : decide (x < (l0.length : Int)) = true := decide_eq_true c
      obtain ⟨i, e1, e2, e3⟩ := HX.out
      clear HX
      obtain ⟨k1, rfl⟩ : ∃ k1, gk = k1 + 1 := ⟨gk - 1, by omega⟩
      have E1 := Aside0.mk (And.intro e1 e2)
      rw [takeI l0 i (by omega), ← e1, ixs_cons] at e3
      have E3 := Aside0.mk e3
      have p1 : 0 ≤ (x : Int) := by omega
      obtain ⟨ad, ea, hx0⟩ := Kd.at_int HR0.out x p1 c
      have HRG := Aside0.mk (HIX.out (rd l0 x) (by have e_ : rd l0 x = l0[x.toNat] := (by unfold rd; simp [show x.toNat < l0.length from by omega]); rw [e_]; exact List.getElem_mem _))
      cases ea
      replace hx0 := (HB.out.cell (World.block_lt_of_cell? w _ hx0)).trans hx0
      replace p1 := eq_true p1
      have q1 := eq_true c
      clear e1 e2 e3 c
      cases hv : (noF D) (rd l0 x) with
      | false =>
        have e4 := E3.out
        rw [if_neg (by rw [hv]; simp)] at e4
        have E4 := Aside0.mk e4
        clear e4 E3
        go_wp2_with (go_at_call 38; refine (pred38 _ D g5 gd cap _ HRG.out.1 HRG.out.2 (blk_below BX.out HB.out) (Kd.C_below HD.out HB.out)).mono ?_; rintro e w7 ⟨he, hb⟩; rw [hv] at he; subst he; have n1_ := Aside0.mk (below_step HB.out hb); clear HB hb; have HB := n1_; clear n1_)
        go_roundg k1
        case measure => have := E1.out; omega
        case rel => exact ⟨wrap64 (x + 1), rfl, ⟨⟨i + 1, by have := E1.out; rw [w64_id' (by omega) (by have := HLEN.out; omega)]; omega, by have := E1.out; omega, by rw [← E4.out, E1.out.1]; rfl⟩⟩, HB⟩
      | true =>
        have e4 := E3.out
        rw [if_pos hv] at e4
        have E4 := Aside0.mk e4
        clear e4 E3
        go_wp2_with (go_at_call 38; refine (pred38 _ D g5 gd cap _ HRG.out.1 HRG.out.2 (blk_below BX.out HB.out) (Kd.C_below HD.out HB.out)).mono ?_; rintro e w7 ⟨he, hb⟩; rw [hv] at he; subst he; have n1_ := Aside0.mk (below_step HB.out hb); clear HB hb; have HB := n1_; clear n1_)
        go_ret
        exact ⟨by rw [← E4.out]; rfl, HB.out⟩
    · have c1 : decide (x < (l0.length : Int)) = false := decide_eq_false c
      obtain ⟨i, e1, e2, e3⟩ := HX.out
      clear HX
      obtain rfl : i = l0.length := by omega
      rw [List.drop_length] at e3
      have E3 := Aside0.mk (show (-1 : Int) = ixs (noF D) l0 0 from e3)
      clear e1 e2 c e3
      go_wp2
      go_ret
      exact ⟨by rw [← E3.out]; rfl, HB.out⟩
set_option maxHeartbeats 2000000 in
theorem contains33d (A0 : Option Addr) (c0 : Nat) (l0 : List (Int)) (D : List Bool) (g5 gd cap : Nat) (w : World) (hr0 : Kd.C (Kd.int .i64) w A0 l0.length l0) (hc0 : l0.length ≤ c0) (hl0 : l0.length < 1000000000) (hbox : w.heap[g5]? = some (.cells #[.slice (some ⟨gd, 0, none⟩) D.length cap] 61 (0, 0))) (hD : Kd.C Kd.bool w (some ⟨gd, 0, none⟩) D.length D) (hix : ∀ j ∈ l0, 0 ≤ j ∧ j < (D.length : Int)) :
    Calls Try.prog 33 #[.slice A0 l0.length c0, .func (.func 38) #[] #[.pointer (some ⟨g5, 0, none⟩)]] w fun e w' => e = .returned (.bool (l0.any (noF D))) ∧ Below w.heap.size w w' := by
  rw [← ixs_any (noF D) l0 0 (Int.le_refl _)]
  have hcon := index44d A0 c0 l0 D g5 gd cap w hr0 hc0 hl0 hbox hD hix
  generalize ixs (noF D) l0 0 = n at hcon ⊢
  have HCON := Aside0.mk hcon
  clear hcon hr0 hc0 hl0
  go_enter Try.func33, Try.ntmps33
  go_wp2_with (go_at_call 44; refine HCON.out.mono ?_; rintro e w7 ⟨rfl, hb⟩; have HB := Aside0.mk hb; clear hb)
  go_ret
  exact ⟨by simp, HB.out⟩
set_option maxHeartbeats 4000000 in
theorem pred37 (r : S31) (A : Option Addr) (c : Nat) (e : Int) (D : List Bool) (g3 g5 gd cap : Nat) (w : World) (he : 0 ≤ e) (he1 : e < 20) (hb3 : w.heap[g3]? = some (.cells #[.int .i64 e] 3 (0, 0))) (hb5 : w.heap[g5]? = some (.cells #[.slice (some ⟨gd, 0, none⟩) D.length cap] 61 (0, 0))) (hD : Kd.C Kd.bool w (some ⟨gd, 0, none⟩) D.length D) (hr : Kd.C (Kd.int .i64) w A r.f1.length r.f1) (hc : r.f1.length ≤ c) (hl : r.f1.length < 1000000000) (hix : ∀ j ∈ r.f1, 0 ≤ j ∧ j < (D.length : Int)) :
    Calls Try.prog 37 #[.agg #[.int .i64 r.f0, .slice A r.f1.length c], .pointer (some ⟨g3, 0, none⟩), .pointer (some ⟨g5, 0, none⟩)] w fun ex w' => ex = .returned (.bool (appF e D r)) ∧ Below w.heap.size w w' := by
  have hu31 := Try.underlying31
  have B3 := Aside0.mk hb3
  have B5 := Aside0.mk hb5
  have HD := Aside0.mk hD
  have HR := Aside0.mk hr
  have HC := Aside0.mk hc
  have HL := Aside0.mk hl
  have HIX := Aside0.mk hix
  have hx3 : w.cell? ⟨g3, 0, none⟩ = some (.int .i64 e) := (blk_cell B3.out 0).trans rfl
  clear hb3 hb5 hD hr hc hl hix
  have he64 : e ≤ 64 := by omega
  clear he1
  unfold appF
  cases hbit : bitF e r.f0 with
  | false =>
    unfold bitF at hbit
    go_enter Try.func37, Try.ntmps37
    go_wp2_with (first | ((with_reducible refine gate_dst (N := 3) rfl ?_); refine box_event ?hg (N := 3) ?hd (cs := #[.int .i64 r.f0, .slice A r.f1.length c]) (t := 31) ?hr ?_; (case hd => rfl); (case hg => rfl); (case hr => first | (go_simp; done) | (go_simp; rfl)); intro gb hg w3 hbox hb; have HB := Aside0.mk hb; have BK := Aside0.mk hbox; have NE3 := Aside0.mk (show w.heap.size = gb from hg.symm); have n1_ := Aside0.mk (blk_below B3.out hb); have n2_ := Aside0.mk (blk_below B5.out hb); have n3_ := Aside0.mk (Kd.C_below HD.out hb); have n4_ := Aside0.mk (Kd.C_below HR.out hb); clear B3 B5 HD HR hb hbox hg hx3; have B3 := n1_; have B5 := n2_; have HD := n3_; have HR := n4_; clear n1_ n2_ n3_ n4_; have hc0 : w3.cell? ⟨gb, 0, none⟩ = some (.int .i64 r.f0) := (blk_cell BK.out 0).trans rfl; have hc1 : w3.cell? ⟨gb, 1, none⟩ = some (.slice A r.f1.length c) := (blk_cell BK.out 1).trans rfl; have hx3 : w3.cell? ⟨g3, 0, none⟩ = some (.int .i64 e) := (blk_cell B3.out 0).trans rfl))
    go_ret
    exact ⟨rfl, HB.out⟩
  | true =>
    unfold bitF at hbit
    go_enter Try.func37, Try.ntmps37
    go_wp2_with (first | ((with_reducible refine gate_dst (N := 3) rfl ?_); refine box_event ?hg (N := 3) ?hd (cs := #[.int .i64 r.f0, .slice A r.f1.length c]) (t := 31) ?hr ?_; (case hd => rfl); (case hg => rfl); (case hr => first | (go_simp; done) | (go_simp; rfl)); intro gb hg w3 hbox hb; have HB := Aside0.mk hb; have BK := Aside0.mk hbox; have NE3 := Aside0.mk (show w.heap.size = gb from hg.symm); have n1_ := Aside0.mk (blk_below B3.out hb); have n2_ := Aside0.mk (blk_below B5.out hb); have n3_ := Aside0.mk (Kd.C_below HD.out hb); have n4_ := Aside0.mk (Kd.C_below HR.out hb); clear B3 B5 HD HR hb hbox hg hx3; have B3 := n1_; have B5 := n2_; have HD := n3_; have HR := n4_; clear n1_ n2_ n3_ n4_; have hc0 : w3.cell? ⟨gb, 0, none⟩ = some (.int .i64 r.f0) := (blk_cell BK.out 0).trans rfl; have hc1 : w3.cell? ⟨gb, 1, none⟩ = some (.slice A r.f1.length c) := (blk_cell BK.out 1).trans rfl; have hx3 : w3.cell? ⟨g3, 0, none⟩ = some (.int .i64 e) := (blk_cell B3.out 0).trans rfl) | (go_at_call 33; refine (contains33d A c r.f1 D g5 gd cap _ (by repeat (first | exact HR.out | (with_reducible refine Kd.C_alloc ?_ _))) HC.out HL.out (by repeat (first | exact B5.out | (with_reducible refine blk_alloc ?_ _))) (by repeat (first | exact HD.out | (with_reducible refine Kd.C_alloc ?_ _))) HIX.out).mono ?_; rintro e_ w7 ⟨rfl, hb⟩; have n1_ := Aside0.mk (below_step (show Below w.heap.size w _ from by repeat (first | exact HB.out | apply below_alloc)) hb); clear HB hb; have HB := n1_; clear n1_))
    go_ret
    exact ⟨rfl, HB.out⟩
/-- a system of rules that Check lets pass -/
structure Okr (R : List (List S31)) : Prop where
  n60 : R.length ≤ 60
  l20 : ∀ L ∈ R, L.length ≤ 20
  a60 : ∀ L ∈ R, ∀ r ∈ L, r.f1.length ≤ 60
  mask : ∀ L ∈ R, ∀ r ∈ L, 0 ≤ r.f0 ∧ r.f0 ≤ 1048575
  idx : ∀ L ∈ R, ∀ r ∈ L, ∀ j ∈ r.f1, 0 ≤ j ∧ j < (R.length : Int)
theorem chkR_zero (n : Int) : ∀ L : List S31, chkR n L = 0 → ∀ r ∈ L, (0 ≤ r.f0 ∧ r.f0 ≤ 1048575) ∧ ∀ j ∈ r.f1, 0 ≤ j ∧ j < n
  | [], _, r, hr => by cases hr
  | q :: L, h, r, hr => by
    rw [chkR_cons] at h
    split at h
    · exact absurd h (by decide)
    · rename_i h1
      split at h
      · exact absurd h (by decide)
      · rename_i h2
        rcases List.mem_cons.1 hr with rfl | hr
        · simp only [Bool.or_eq_true, decide_eq_true_eq, not_or, Int.not_lt] at h1
          refine ⟨h1, fun j hj => ?_⟩
          have h3 := (List.any_eq_false.1 (by simpa using h2)) j hj
          unfold badI at h3
          simp only [Bool.or_eq_true, decide_eq_true_eq, not_or, Int.not_lt, Int.not_le] at h3
          exact h3
        · exact chkR_zero n L h r hr
theorem chkL_zero (n : Int) : ∀ R : List (List S31), chkL n R = 0 → ∀ L ∈ R, chkR n L = 0
  | [], _, L, hL => by cases hL
  | M :: R, h, L, hL => by
    rw [chkL_cons] at h
    split at h
    · rename_i h0
      rcases List.mem_cons.1 hL with rfl | hL
      · exact h0
      · exact chkL_zero n R h L hL
    · rename_i h0
      exact absurd h h0
theorem okr_of {R : List (List S31)} (h : fixpoint_Check.f R = some 0) : Okr R := by
  have h := Option.some.inj h
  split at h
  · exact absurd h (by decide)
  · rename_i h60
    split at h
    · exact absurd h (by decide)
    · rename_i hany
      have hz := chkL_zero _ R h
      have hb : ∀ L ∈ R, ¬ bigL L = true := List.any_eq_false.1 (by simpa using hany)
      refine ⟨by omega, fun L hL => ?_, fun L hL r hr => ?_, fun L hL r hr => (chkR_zero _ L (hz L hL) r hr).1, fun L hL r hr => (chkR_zero _ L (hz L hL) r hr).2⟩
      · have := hb L hL
        unfold bigL at this
        simp only [Bool.or_eq_true, decide_eq_true_eq, not_or, Int.not_lt] at this
        omega
      · have := hb L hL
        unfold bigL at this
        simp only [Bool.or_eq_true, decide_eq_true_eq, not_or, Int.not_lt] at this
        have h2 := (List.any_eq_false.1 (by simpa using this.2)) r hr
        unfold bigR at h2
        simp only [decide_eq_true_eq, Int.not_lt] at h2
        omega
set_option maxHeartbeats 4000000 in
set_option maxRecDepth 100000 in
theorem index39d (A0 : Option Addr) (c0 : Nat) (l0 : List (S31)) (el : Int) (D : List Bool) (g3 g5 gd cap : Nat) (w : World) (hr0 : Kd.C k31 w A0 l0.length l0) (hc0 : l0.length ≤ c0) (hl0 : l0.length < 1000000000) (he : 0 ≤ el) (he1 : el < 20) (hb3 : w.heap[g3]? = some (.cells #[.int .i64 el] 3 (0, 0))) (hbox : w.heap[g5]? = some (.cells #[.slice (some ⟨gd, 0, none⟩) D.length cap] 61 (0, 0))) (hD : Kd.C Kd.bool w (some ⟨gd, 0, none⟩) D.length D) (hix : ∀ r ∈ l0, r.f1.length ≤ 60 ∧ ∀ j ∈ r.f1, 0 ≤ j ∧ j < (D.length : Int)) :
    Calls Try.prog 39 #[.slice A0 l0.length c0, .func (.func 37) #[] #[.pointer (some ⟨g3, 0, none⟩), .pointer (some ⟨g5, 0, none⟩)]] w fun e w' => e = .returned (.int .i64 (ixs (appF el D) l0 0)) ∧ Below w.heap.size w w' := by
  have hu31 := Try.underlying31
  have HR0 := Aside0.mk hr0
  have HC0 := Aside0.mk hc0
  have HLEN := Aside0.mk hl0
  clear hr0 hc0 hl0
  have HB := Aside0.mk (Below.refl w.heap.size w)
  have BX := Aside0.mk hbox
  have HE := Aside0.mk (And.intro he he1)
  have B3 := Aside0.mk hb3
  have HD := Aside0.mk hD
  have HIX := Aside0.mk hix
  clear hbox hD hix hb3 he he1
  go_enter Try.func39, Try.ntmps39
  go_wp2
  go_loopg [8] l0.length (fun kq v8 w' => ∃ x : Int, v8 = .int .i64 x ∧ Aside0 (∃ i : Nat, x = i ∧ i + kq = l0.length ∧ ixs (appF el D) (l0.drop i) (i : Int) = ixs (appF el D) l0 0) ∧ Aside0 (Below w.heap.size w w'))
  case atStart => exact ⟨0, rfl, ⟨⟨0, rfl, by omega, rfl⟩⟩, HB⟩
  case round =>
    clear HB
    obtain ⟨x, rfl, HX, HB⟩ := hrel
    by_cases c : x < (l0.length : Int)
    · have c1 : decide (x < (l0.length : Int)) = true := decide_eq_true c
      obtain ⟨i, e1, e2, e3⟩ := HX.out
      clear HX
      obtain ⟨k1, rfl⟩ : ∃ k1, gk = k1 + 1 := ⟨gk - 1, by omega⟩
      have E1 := Aside0.mk (And.intro e1 e2)
      rw [take31 l0 i (by omega), ← e1, ixs_cons] at e3
      have E3 := Aside0.mk e3
      have p1 : 0 ≤ (x : Int) := by omega
      obtain ⟨ad, A1, c2, ea, hx0, hx1, hl1, hi1⟩ := at_T31 HR0.out x p1 c
      have HRG := Aside0.mk (HIX.out (rd_T31 l0 x) (by have e_ : rd_T31 l0 x = l0[x.toNat] := (by unfold rd_T31; simp [show x.toNat < l0.length from by omega]); rw [e_]; exact List.getElem_mem _))
      have HI1 := Aside0.mk hi1
      have HL1 := Aside0.mk hl1
      cases ea
      replace hx0 := (HB.out.cell (World.block_lt_of_cell? w _ hx0)).trans hx0
      replace hx1 := (HB.out.cell (World.block_lt_of_cell? w _ hx1)).trans hx1
      clear hl1 hi1
      replace p1 := eq_true p1
      have q1 := eq_true c
      clear e1 e2 e3 c
      cases hv : (appF el D) (rd_T31 l0 x) with
      | false =>
        have e4 := E3.out
        rw [if_neg (by rw [hv]; simp)] at e4
        have E4 := Aside0.mk e4
        clear e4 E3
        go_wp2_with (go_at_call 37; refine (pred37 (rd_T31 l0 x) _ _ el D g3 g5 gd cap _ HE.out.1 HE.out.2 (blk_below B3.out HB.out) (blk_below BX.out HB.out) (Kd.C_below HD.out HB.out) (Kd.C_below HI1.out HB.out) HL1.out (by have h_ := HRG.out.1; omega) HRG.out.2).mono ?_; rintro e w7 ⟨he, hb⟩; rw [hv] at he; subst he; have n1_ := Aside0.mk (below_step HB.out hb); clear HB hb; have HB := n1_; clear n1_)
        go_roundg k1
        case measure => have := E1.out; omega
        case rel => exact ⟨wrap64 (x + 1), rfl, ⟨⟨i + 1, by have := E1.out; rw [w64_id' (by omega) (by have := HLEN.out; omega)]; omega, by have := E1.out; omega, by rw [← E4.out, E1.out.1]; rfl⟩⟩, HB⟩
      | true =>
        have e4 := E3.out
        rw [if_pos hv] at e4
        have E4 := Aside0.mk e4
        clear e4 E3
        go_wp2_with (go_at_call 37; refine (pred37 (rd_T31 l0 x) _ _ el D g3 g5 gd cap _ HE.out.1 HE.out.2 (blk_below B3.out HB.out) (blk_below BX.out HB.out) (Kd.C_below HD.out HB.out) (Kd.C_below HI1.out HB.out) HL1.out (by have h_ := HRG.out.1; omega) HRG.out.2).mono ?_; rintro e w7 ⟨he, hb⟩; rw [hv] at he; subst he; have n1_ := Aside0.mk (below_step HB.out hb); clear HB hb; have HB := n1_; clear n1_)
        go_ret
        exact ⟨by rw [← E4.out]; rfl, HB.out⟩
    · have c1 : decide (x < (l0.length : Int)) = false := decide_eq_false c
      obtain ⟨i, e1, e2, e3⟩ := HX.out
      clear HX
      obtain rfl : i = l0.length := by omega
      rw [List.drop_length] at e3
      have E3 := Aside0.mk (show (-1 : Int) = ixs (appF el D) l0 0 from e3)
      clear e1 e2 c e3
      go_wp2
      go_ret
      exact ⟨by rw [← E3.out]; rfl, HB.out⟩
structure Dv (w : World) (g3 g5 gd cap : Nat) (e : Int) (u : Value) (D : List Bool) (st : List S59) (W : World) : Prop where
  b3 : W.heap[g3]? = some (.cells #[.int .i64 e] 3 (0, 0))
  b5 : W.heap[g5]? = some (.cells #[.slice (some ⟨gd, 0, none⟩) D.length cap] 61 (0, 0))
  d : Kd.R Kd.bool 4 W w.heap.size (fun _ => True) (.slice (some ⟨gd, 0, none⟩) D.length cap) D
  s : Kd.R k59 59 W w.heap.size (fun _ => True) u st
  bel : Below w.heap.size w W
section
variable {w : World} {g3 g5 gd cap : Nat} {e : Int} {u : Value} {D : List Bool} {st : List S59} {W W' : World}
theorem Dv.below (h : Dv w g3 g5 gd cap e u D st W) (hb : Below W.heap.size W W') : Dv w g3 g5 gd cap e u D st W' :=
  ⟨blk_below h.b3 hb, blk_below h.b5 hb, Kd.R_below h.d hb, Kd.R_below h.s hb, below_step h.bel hb⟩
theorem Dv.blk (h : Dv w g3 g5 gd cap e u D st W) : ∃ cells, W.heap[gd]? = some (.cells cells 4 (0, 0)) := Kd.R_typed h.d gd (by simp [Value.ownBlock])
theorem Dv.dC (h : Dv w g3 g5 gd cap e u D st W) : Kd.C Kd.bool W (some ⟨gd, 0, none⟩) D.length D := (Kd.R_reads' h.d).2.2
theorem Dv.ge (h : Dv w g3 g5 gd cap e u D st W) : w.heap.size ≤ gd := Kd.R_base h.d gd (by simp [Value.ownBlock])
theorem Dv.mark (h : Dv w g3 g5 gd cap e u D st W) (i : Int) : Dv w g3 g5 gd cap e u (D.set i.toNat true) st (W.setCell ⟨gd, i.toNat, none⟩ (.bool true)) := by
  obtain ⟨cells, hg⟩ := h.blk
  obtain ⟨h1, h2⟩ := Kd.R_putg h.d i true
  refine ⟨blk_grown h.b3 h2 (fun e_ => by injection e_ with e_; exact blk_ne h.b3 hg (by decide) e_), by rw [List.length_set]; exact blk_grown h.b5 h2 (fun e_ => by injection e_ with e_; exact blk_ne h.b5 hg (by decide) e_), by rw [List.length_set]; exact h1, Kd.R_set h.s hg (by decide) _ _, ?_⟩
  exact pw_below_grown h.bel (some gd) h.bel.size h2 (fun k hk => by injection hk with hk; rw [← hk]; exact h.ge)
theorem Dv.app {v1 : Value} {x : S59} (h : Dv w g3 g5 gd cap e u D st W) (ho : Kd.R k59 59 W' w.heap.size (fun _ => True) v1 (st ++ [x])) (hb : Below w.heap.size w W') (hg : W.grownBy W' u.ownBlock) : Dv w g3 g5 gd cap e v1 D (st ++ [x]) W' := by
  obtain ⟨cells, hgd⟩ := h.blk
  have hd : Kd.R Kd.bool 4 W' w.heap.size (fun _ => True) (.slice (some ⟨gd, 0, none⟩) D.length cap) D := by
    refine Kd.R_mono (Kd.R_grown (Kd.R_tight rfl h.d) hg (fun k hk e_ => ?_)) (fun _ _ => trivial)
    have hk2 : gd = k := by simpa [Value.ownBlock] using hk.symm
    rw [← hk2] at e_
    exact Kd.R_ne h.s hgd (by decide) e_
  exact ⟨blk_grown h.b3 hg (Kd.R_ne h.s h.b3 (by decide)), blk_grown h.b5 hg (Kd.R_ne h.s h.b5 (by decide)), hd, ho, hb⟩
end
/-- one pass over the rules, and the passes -/
def dpass (e : Int) : List (List S31) → Int → List Bool → List S59 → Bool → List Bool × List S59 × Bool
  | [], _, D, st, pr => (D, st, pr)
  | l :: ls, i, D, st, pr => if rdOf false D i = true then dpass e ls (i + 1) D st pr else if ixs (appF e D) l 0 ≥ 0 then dpass e ls (i + 1) (D.set i.toNat true) (st ++ [⟨i, ixs (appF e D) l 0, e⟩]) true else dpass e ls (i + 1) D st pr
theorem dpass_cons (e : Int) (l : List S31) (ls : List (List S31)) (i : Int) (D : List Bool) (st : List S59) (pr : Bool) : dpass e (l :: ls) i D st pr = if rdOf false D i = true then dpass e ls (i + 1) D st pr else if ixs (appF e D) l 0 ≥ 0 then dpass e ls (i + 1) (D.set i.toNat true) (st ++ [⟨i, ixs (appF e D) l 0, e⟩]) true else dpass e ls (i + 1) D st pr := rfl
def dloop (e : Int) (R : List (List S31)) : Nat → List Bool → List S59 → Option (List S59)
  | 0, _, _ => none
  | k + 1, D, st => if (dpass e R 0 D st false).2.2 = true then dloop e R k (dpass e R 0 D st false).1 (dpass e R 0 D st false).2.1 else some (dpass e R 0 D st false).2.1
def dmore (e : Int) (R : List (List S31)) (k : Nat) (b : Bool) (D : List Bool) (st : List S59) (r : List S59) : Prop := if b = true then dloop e R k D st = some r else st = r
set_option maxHeartbeats 16000000 in
set_option maxRecDepth 100000 in
theorem derivations_calls (A0 : Option Addr) (c0 : Nat) (l0 : List (List S31)) (e : Int) (K : Nat) (r : List S59) (w : World) (hr0 : Kd.C (Kd.slice 31 k31) w A0 l0.length l0) (hc0 : l0.length ≤ c0) (hok : Okr l0) (hn : 0 < l0.length) (he : 0 ≤ e) (he1 : e < 20) (hK : K ≤ 62) (h : dloop e l0 K (List.replicate l0.length false) [] = some r) :
    Calls Try.prog 25 #[.slice A0 l0.length c0, .int .i64 e] w fun ex w' => ∃ v, ex = .returned v ∧ Kd.R k59 59 w' w.heap.size (fun _ => True) v r ∧ Below w.heap.size w w' := by
  have hu31 := Try.underlying31
  have hu61 := Try.underlying61
  have hu41 := Try.underlying41
  have hu59 := Try.underlying59
  have HR0 := Aside0.mk hr0
  have HC0 := Aside0.mk hc0
  have HOK := Aside0.mk hok
  have HE := Aside0.mk (And.intro he he1)
  have HN := Aside0.mk (And.intro hn hok.n60)
  have HK := Aside0.mk hK
  have HL := Aside0.mk h
  clear hr0 hc0 hok he he1 hn hK h
  go_enter Try.func25, Try.ntmps25
  go_upto_region 2 with (first | ((with_reducible refine gate_dst (N := 3) rfl ?_); refine box_event ?hg (N := 3) ?hd (cs := #[.int .i64 e]) (t := 3) ?hr ?_; (case hd => rfl); (case hg => rfl); (case hr => first | (go_simp; done) | (go_simp; rfl)); intro g3 hg w3 hbox hb; have HB := Aside0.mk hb; have B3 := Aside0.mk hbox; clear hb hbox hg) | ((with_reducible refine gate_dst (N := 14) rfl ?_); refine Kd.R_make Kd.bool w.heap.size 4 rfl (N := 14) rfl 61 _ _ rfl (l0.length : Int) rfl rfl Try.underlying61 (.bool false) 1 info4 rfl (by decide) (by omega) false (ok := fun _ => True) (okp := fun _ => True) rfl (fun _ hk => hk) trivial (by omega) (by have h_ := HN.out.2; omega) HB.out HB.out.size ?_; intro v1 w4 ho hb hg hnew; rw [Int.toNat_natCast] at ho; have n1_ := Aside0.mk (blk_grown B3.out hg (by simp)); have n2_ := Aside0.mk hb; obtain ⟨gd, cap, ev, hgd⟩ := Kd.R_form ho (by rw [List.length_replicate]; exact HN.out.1); subst ev; rw [List.length_replicate] at ho; have HD := Aside0.mk ho; clear B3 HB ho hb hg hnew hgd; have B3 := n1_; have HB := n2_; clear n1_ n2_) | ((with_reducible refine gate_dst (N := 5) rfl ?_); refine box_event ?hg (N := 5) ?hd (cs := #[.slice none 0 0]) (t := 61) ?hr ?_; (case hd => rfl); (case hg => rfl); (case hr => first | (go_simp; done) | (go_simp; rfl)); intro g5 hg w5 hbox hb; have B5 := Aside0.mk hbox; have GE5 := Aside0.mk (show w.heap.size ≤ g5 from by rw [hg]; exact HB.out.size); have n1_ := Aside0.mk (blk_below B3.out hb); have n2_ := Aside0.mk (below_step HB.out hb); have n3_ := Aside0.mk (Kd.R_below HD.out hb); clear B3 HB HD hb hbox hg; have B3 := n1_; have HB := n2_; have HD := n3_; clear n1_ n2_ n3_; have hc5 : w5.cell? ⟨g5, 0, none⟩ = some (.slice none 0 0) := (blk_cell B5.out 0).trans rfl; have hf5 := blk_frozen B5.out 0))
  have HV := Aside0.mk (show Dv w g3 g5 gd cap e (.slice none 0 0) (List.replicate l0.length false) [] (w5.setCell ⟨g5, 0, none⟩ (.slice (some ⟨gd, 0, none⟩) l0.length cap)) from by
    have hb5 := B5.out
    obtain ⟨cells, hgd⟩ := Kd.R_typed HD.out gd (by simp [Value.ownBlock])
    refine ⟨blk_far B3.out (p := ⟨g5, 0, none⟩) (blk_ne B3.out hb5 (by decide)) _, by rw [List.length_replicate]; exact blk_set hb5 0 _, by rw [List.length_replicate]; exact Kd.R_set HD.out hb5 (by decide) _ _, Kd.R_nil _ _ _ _ _, below_set HB.out GE5.out⟩)
  generalize w5.setCell ⟨g5, 0, none⟩ (.slice (some ⟨gd, 0, none⟩) l0.length cap) = w6 at HV ⊢
  clear hc5 hf5 B3 B5 HD HB GE5
  go_wp2
  go_loopg [7, 8] K (fun kq v7 v8 w' => ∃ b : Bool, v8 = .bool b ∧ Aside0 (∃ (D : List Bool) (st : List S59), D.length = l0.length ∧ st.length ≤ 3720 ∧ (b = true → st.length + 60 * kq ≤ 3720) ∧ dmore e l0 kq b D st r ∧ Dv w g3 g5 gd cap e v7 D st w'))
  case atStart => exact ⟨true, rfl, ⟨List.replicate l0.length false, [], List.length_replicate .., by simp, fun _ => by have h_ := HK.out; simp; omega, by unfold dmore; rw [if_pos rfl]; exact HL.out, HV.out⟩⟩
  case round =>
    clear HV HL
    obtain ⟨b, rfl, HX⟩ := hrel
    obtain ⟨D0, st0, x1, x2, x3, x4, x5⟩ := HX.out
    clear HX
    cases b with
    | true =>
      unfold dmore at x4
      rw [if_pos rfl] at x4
      cases gk with
      | zero => cases x4
      | succ k1 =>
        unfold dloop at x4
        have H := Aside0.mk x4
        have HS0 := Aside0.mk (x3 rfl)
        obtain ⟨P, hP⟩ : ∃ P, P = dpass e l0 0 D0 st0 false := ⟨_, rfl⟩
        rw [← hP] at H
        have HP := Aside0.mk hP
        have HV := Aside0.mk x5
        have HDL0 := Aside0.mk x1
        clear x1 x2 x3 x4 x5 hP
        go_wp2
        go_loopg [7, 8, 19] l0.length (fun kq v7 v8 v19 w' => ∃ (x : Int) (pr : Bool), v19 = .int .i64 x ∧ v8 = .bool pr ∧ Aside0 (∃ (i : Nat) (D : List Bool) (st : List S59), x = i ∧ i + kq = l0.length ∧ D.length = l0.length ∧ st.length ≤ st0.length + i ∧ dpass e (l0.drop i) (i : Int) D st pr = P ∧ Dv w g3 g5 gd cap e v7 D st w'))
        case atStart => exact ⟨0, false, rfl, rfl, ⟨0, D0, st0, rfl, by omega, HDL0.out, by omega, by rw [List.drop_zero]; exact HP.out.symm, HV.out⟩⟩
        case round =>
          clear HV HP
          obtain ⟨x, pr, rfl, rfl, HX⟩ := hrel
          obtain ⟨i, D, st, e1, e2, e3, e4, e5, e6⟩ := HX.out
          obtain ⟨Au, cu, rfl⟩ := Kd.R_slice e6.s
          clear HX
          by_cases c : x < (l0.length : Int)
          · have c1 : decide (x < (l0.length : Int)) = true := decide_eq_true c
            obtain ⟨k2, rfl⟩ : ∃ k2, gk = k2 + 1 := ⟨gk - 1, by omega⟩
            rw [takeL l0 i (by omega), ← e1, dpass_cons] at e5
            have E1 := Aside0.mk (And.intro e1 e2)
            have HDL := Aside0.mk e3
            have E5 := Aside0.mk e5
            have p1 : 0 ≤ x := by omega
            have q2 : x < (D.length : Int) := by omega
            have HSL := Aside0.mk (show st.length ≤ st0.length + i ∧ i < 60 ∧ st0.length + 60 * (k1 + 1) ≤ 3720 from ⟨e4, by have h_ := HOK.out.n60; omega, HS0.out⟩)
            have HM := Aside0.mk (show rd_L3 l0 x ∈ l0 from by
              have e_ : rd_L3 l0 x = l0[x.toNat] := (by unfold rd_L3; simp [show x.toNat < l0.length from by omega])
              rw [e_]; exact List.getElem_mem _)
            have HSM := Aside0.mk (show (rd_L3 l0 x).length ≤ 20 ∧ ∀ r ∈ rd_L3 l0 x, r.f1.length ≤ 60 ∧ ∀ j ∈ r.f1, 0 ≤ j ∧ j < (l0.length : Int) from ⟨HOK.out.l20 _ HM.out, fun r hr => ⟨HOK.out.a60 _ HM.out r hr, HOK.out.idx _ HM.out r hr⟩⟩)
            obtain ⟨ad, A2, c2, ea, hx0, hl1, hi1⟩ := at_L3 (Kd.C_below HR0.out e6.bel) x p1 c
            cases ea
            have HRL := Aside0.mk hi1
            have HLL := Aside0.mk hl1
            have HV := Aside0.mk e6
            obtain ⟨hd0, hdf⟩ := Kd.R_celln false e6.d x p1 q2
            have hx5 : wr.cell? ⟨g5, 0, none⟩ = some (.slice (some ⟨gd, 0, none⟩) D.length cap) := (blk_cell e6.b5 0).trans rfl
            have hx3 : wr.cell? ⟨g3, 0, none⟩ = some (.int .i64 e) := (blk_cell e6.b3 0).trans rfl
            replace p1 := eq_true p1
            have q1 := eq_true c
            replace q2 := eq_true q2
            clear e1 e2 e3 e4 e5 e6 c hl1 hi1
            cases hv : rdOf false D x with
            | true =>
              rw [hv] at hd0
              have e7 := E5.out
              rw [if_pos hv] at e7
              have E7 := Aside0.mk e7
              clear e7 E5
              go_wp2
              go_roundg k2
              case measure => have := E1.out; omega
              case rel => exact ⟨wrap64 (x + 1), pr, rfl, rfl, ⟨i + 1, D, st, by have := E1.out; have h_ := HOK.out.n60; rw [w64_id' (by omega) (by omega)]; omega, by have := E1.out; omega, HDL.out, by have h_ := HSL.out; omega, by rw [← E7.out, E1.out.1]; rfl, HV.out⟩⟩
            | false =>
              rw [hv] at hd0
              cases hk : decide (ixs (appF e D) (rd_L3 l0 x) 0 ≥ 0) with
              | false =>
                have e7 := E5.out
                rw [if_neg (by rw [hv]; simp), if_neg (of_decide_eq_false hk)] at e7
                have E7 := Aside0.mk e7
                clear e7 E5
                go_wp2_with (go_at_call 39; refine (index39d A2 c2 (rd_L3 l0 x) e D g3 g5 gd cap _ HRL.out HLL.out (by have h_ := HSM.out.1; omega) HE.out.1 HE.out.2 HV.out.b3 HV.out.b5 HV.out.dC (by rw [HDL.out]; exact HSM.out.2)).mono ?_; rintro ex_ w7 ⟨rfl, hb⟩; have n1_ := Aside0.mk (HV.out.below hb); clear HV hx5 hd0 hdf hx3 hb; have HV := n1_; clear n1_; have hx5 : w7.cell? ⟨g5, 0, none⟩ = some (.slice (some ⟨gd, 0, none⟩) D.length cap) := (blk_cell HV.out.b5 0).trans rfl; have hx3 : w7.cell? ⟨g3, 0, none⟩ = some (.int .i64 e) := (blk_cell HV.out.b3 0).trans rfl; obtain ⟨hd0, hdf⟩ := Kd.R_celln false HV.out.d x (of_eq_true p1) (of_eq_true q2))
                go_roundg k2
                case measure => have := E1.out; omega
                case rel => exact ⟨wrap64 (x + 1), pr, rfl, rfl, ⟨i + 1, D, st, by have := E1.out; have h_ := HOK.out.n60; rw [w64_id' (by omega) (by omega)]; omega, by have := E1.out; omega, HDL.out, by have h_ := HSL.out; omega, by rw [← E7.out, E1.out.1]; rfl, HV.out⟩⟩
              | true =>
                have e7 := E5.out
                rw [if_neg (by rw [hv]; simp), if_pos (of_decide_eq_true hk)] at e7
                have E7 := Aside0.mk e7
                clear e7 E5
                go_upto_region 14 with (go_at_call 39; refine (index39d A2 c2 (rd_L3 l0 x) e D g3 g5 gd cap _ HRL.out HLL.out (by have h_ := HSM.out.1; omega) HE.out.1 HE.out.2 HV.out.b3 HV.out.b5 HV.out.dC (by rw [HDL.out]; exact HSM.out.2)).mono ?_; rintro ex_ w7 ⟨rfl, hb⟩; have n1_ := Aside0.mk (HV.out.below hb); clear HV hx5 hd0 hdf hx3 hb; have HV := n1_; clear n1_; have hx5 : w7.cell? ⟨g5, 0, none⟩ = some (.slice (some ⟨gd, 0, none⟩) D.length cap) := (blk_cell HV.out.b5 0).trans rfl; have hx3 : w7.cell? ⟨g3, 0, none⟩ = some (.int .i64 e) := (blk_cell HV.out.b3 0).trans rfl; obtain ⟨hd0, hdf⟩ := Kd.R_celln false HV.out.d x (of_eq_true p1) (of_eq_true q2))
                have HV8 := Aside0.mk (HV.out.mark x)
                clear hx3 hx5 hd0 hdf HV
                generalize w7.setCell ⟨gd, x.toNat, none⟩ (.bool true) = w8 at HV8 ⊢
                have hx3 : w8.cell? ⟨g3, 0, none⟩ = some (.int .i64 e) := (blk_cell HV8.out.b3 0).trans rfl
                go_wp2_with (at_builtin; refine Kd.R_append k59 (w0 := w) w.heap.size rfl (.tmp 36) (.tmp 41) 41 59 (.agg #[.int .i64 0, .int .i64 0, .int .i64 0]) 24 rfl Try.underlying41 info59 rfl (by decide) (by omega) (.slice Au st.length cu) st (⟨x, ixs (appF e D) (rd_L3 l0 x) 0, e⟩ : S59) [.int .i64 x, .int .i64 (ixs (appF e D) (rd_L3 l0 x) 0), .int .i64 e] (fun _ => True) (fun _ => False) rfl (by first | (go_simp; done) | (go_simp; rfl)) (k59_mkM _ _ _ (⟨x, ixs (appF e D) (rd_L3 l0 x) 0, e⟩ : S59)) (fun _ hk => hk.elim) (fun _ _ => trivial) HV8.out.s HV8.out.bel HV8.out.bel.size (by have h_ := HSL.out; omega) ?_; intro v1 w9 ho hb hg hat; obtain ⟨A9, n9, c9, rfl⟩ : ∃ A n c, v1 = .slice A n c := (by obtain ⟨A, c, e_⟩ := Kd.R_slice ho; exact ⟨A, _, c, e_⟩); have HV9 := Aside0.mk (HV8.out.app ho hb hg); clear ho hb hg hat HV8)
                go_roundg k2
                case measure => have := E1.out; omega
                case rel => exact ⟨wrap64 (x + 1), true, rfl, rfl, ⟨i + 1, D.set x.toNat true, st ++ [⟨x, ixs (appF e D) (rd_L3 l0 x) 0, e⟩], by have := E1.out; have h_ := HOK.out.n60; rw [w64_id' (by omega) (by omega)]; omega, by have := E1.out; omega, by rw [List.length_set]; exact HDL.out, by have h_ := HSL.out; rw [List.length_append]; simp only [List.length_cons, List.length_nil]; omega, by rw [← E7.out, E1.out.1]; rfl, HV9.out⟩⟩
          · have c1 : decide (x < (l0.length : Int)) = false := decide_eq_false c
            obtain rfl : i = l0.length := by omega
            rw [List.drop_length] at e5
            have E5 := Aside0.mk (show (D, st, pr) = P from e5)
            have E3 := Aside0.mk e3
            have E4 := Aside0.mk e4
            have HV := Aside0.mk e6
            clear e1 e2 e3 e4 e5 e6 c
            have H2 := Aside0.mk (show dmore e l0 k1 pr D st r from by
              have h_ := H.out
              rw [← E5.out] at h_
              unfold dmore
              cases pr with
              | true => rw [if_pos rfl] at h_ ⊢; exact h_
              | false => rw [if_neg (by simp)] at h_ ⊢; exact Option.some.inj h_)
            clear H
            go_wp2
            go_roundg k1
            case measure => exact Nat.lt_succ_self _
            case rel => exact ⟨pr, rfl, ⟨D, st, E3.out, by have h1_ := E4.out; have h2_ := HS0.out; have h3_ := HOK.out.n60; omega, fun _ => by have h1_ := E4.out; have h2_ := HS0.out; have h3_ := HOK.out.n60; omega, H2.out, HV.out⟩⟩
    | false =>
      unfold dmore at x4
      rw [if_neg (by simp)] at x4
      subst x4
      have HV := Aside0.mk x5
      clear x1 x2 x3 x5
      go_wp2
      go_ret
      exact ⟨_, rfl, HV.out.s, HV.out.bel⟩
end Go.Proofs.Ytgjcembdmohhkaa.Fs
