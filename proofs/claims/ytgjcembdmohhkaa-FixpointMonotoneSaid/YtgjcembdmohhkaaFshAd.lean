/- fixpoint.Solver.Add. -/
import Derived.RangeFuncNested
import Derived.RangeFuncBound
import Derived.RangeFuncCalls
import Derived.RangeFuncLeaves
import Derived.RangeFuncBox
import Derived.Shelf.Abstract
import Derived.Shelf.RegionOpen
import Derived.WalkKit
import Derived.OwnWalkIn
import Derived.TacticsInMore
import Derived.LoopNIn
import Derived.LoopIn
import Derived.BigQuiet
import Derived.Test.YtgjcembdmohhkaaFshSv
import Derived.Test.YtgjcembdmohhkaaFshSc
import Derived.Test.YtgjcembdmohhkaaFsx3
namespace Go.Proofs.Ytgjcembdmohhkaa.Fs
open Go.RowKit Go.Shelf Go.Proofs.YtgjcembdmohhkaaW.PrintWords Go.Proofs.YtgjcembdmohhkaaW.PrintLast Go.Proofs.YtgjcembdmohhkaaW.PrintMore
open Go.Proofs.Ytgjcembdmohhkaa
set_option linter.unusedVariables false
set_option linter.unusedSimpArgs false
attribute [local go_sem] Oper.semAt_some
theorem S_Cn {α : Type} {d : Kd α} {e base n c : Nat} {ok : Nat → Prop} {W : World} {A : Option Addr} {xs : List α} (h : Kd.S d e W base ok (.slice A n c) xs) (hn : xs.length = n) : Kd.C d W A n xs := by
  subst hn
  exact (Kd.S_reads' h).2.2
theorem S_kept_own {α : Type} {d : Kd α} {e base n c : Nat} {ok S : Nat → Prop} {W : World} {A : Option Addr} {xs : List α} (h : Kd.S d e W base ok (.slice A n c) xs) (hn : xs.length = n) (hok : ∀ k, ok k → ¬ S k) : ∀ W', Kept W W' S → Kd.C d W' A n xs := fun W' hk => S_Cn (Kd.S_kept h hk hok) hn
theorem prop_n (k : Nat) (A0 : Option Addr) (c0 : Nat) (l0 : List (List (S31))) (n : Nat) (P1_ : Nat → Prop) (u9000_ : Value) (l1 : List Int) (P2_ : Nat → Prop) (u9001_ : Value) (l2 : List Int) (r : List Int) (w0 w : World) (hn : l0.length = n) (hB : Below w0.heap.size w0 w) (hr0 : ∀ W_, Kept w W_ (fun k_ => P1_ k_ ∨ P2_ k_) → Kd.C (Kd.slice 31 k31) W_ A0 n l0) (hc0 : n ≤ c0) (ho1 : Kd.R (Kd.int .i64) 3 w w0.heap.size P1_ u9000_ l1) (hp1_2 : ∀ k_, P1_ k_ → ¬ P2_ k_) (ho2 : Kd.R (Kd.int .i64) 3 w w0.heap.size P2_ u9001_ l2) (hp2_1 : ∀ k_, P2_ k_ → ¬ P1_ k_) (h : fixpoint_propagate.f k l0 l1 l2 = some r) :
    Calls Try.prog 19 #[.slice A0 n c0, u9000_, u9001_] w fun e w' => e = .returned (.tuple #[]) ∧ Kd.R (Kd.int .i64) 3 w' w0.heap.size (fun k_ => ((P1_ k_ ∨ P2_ k_) ∨ w.heap.size ≤ k_)) u9000_ r ∧ Below w0.heap.size w0 w' ∧ Kept w w' (fun k_ => P1_ k_ ∨ P2_ k_) := by
  subst hn
  exact fixpoint_propagate.calls k A0 c0 l0 P1_ u9000_ l1 P2_ u9001_ l2 r w0 w hB hr0 hc0 ho1 hp1_2 ho2 hp2_1 h
set_option maxHeartbeats 8000000 in
set_option maxRecDepth 100000 in
theorem add_no (K : Nat) (w0 W : World) (gs : Nat) (vr vs : Value) (rules : List (List S31)) (sets : List Int) (s : Nat) (rule : S31) (A3 : Option Addr) (c3 : Nat) (ext : List (List S31)) (hS : Sv w0.heap.size gs vr vs rules sets W) (hb0 : Below w0.heap.size w0 W) (hs : s < rules.length) (hok : Okr rules) (hr3 : Kd.C (Kd.int .i64) W A3 rule.f1.length rule.f1) (hc3 : rule.f1.length ≤ c3) (hl3 : rule.f1.length * 8 ≤ 140737488351232) (hx : ext = rules.set s (rules.getD s [] ++ [rule])) (t : Int) (hck : fixpoint_Check.f ext = some t) (ht : t ≠ 0) :
    Calls Try.prog 12 #[.pointer (some ⟨gs, 0, none⟩), .int .i64 (s : Int), .agg #[.int .i64 rule.f0, .slice A3 rule.f1.length c3]] W fun e W' => e = .returned (.int .i64 t) ∧ Below W.heap.size W W' := by
  have hu22 := Try.underlying22
  have hu23 := Try.underlying23
  have hu31 := Try.underlying31
  have hu39 := Try.underlying39
  have hu52 := Try.underlying52
  obtain ⟨Ar, cr, rfl⟩ := Kd.S_slice hS.rul
  obtain ⟨As, cs, rfl⟩ := Kd.R_slice hS.set
  have HS := Aside0.mk hS
  have HBW0 := Aside0.mk hb0
  have HI := Aside0.mk hs
  have HN := Aside0.mk (show 0 < rules.length by omega)
  have HOK := Aside0.mk hok
  have HR3W := Aside0.mk hr3
  have HC3 := Aside0.mk hc3
  have HL3 := Aside0.mk hl3
  have HXE := Aside0.mk hx
  have HXL := Aside0.mk (show ext.length = rules.length by rw [hx, List.length_set])
  have HS20 := Aside0.mk (show (rules.getD s []).length ≤ 20 from by
    rw [List.getD_eq_getElem?_getD, List.getElem?_eq_getElem hs]
    exact hok.l20 _ (List.getElem_mem _))
  have p1 : (0 ≤ (s : Int)) = True := eq_true (by omega)
  have p2 : ((s : Int) < (rules.length : Int)) = True := eq_true (by omega)
  have p2b : (s < rules.length) = True := eq_true hs
  have p3 : decide ((s : Int) < 0) = false := decide_eq_false (by omega)
  have p4 : decide ((s : Int) ≥ (rules.length : Int)) = false := decide_eq_false (by omega)
  have p5 : decide ((rules.length : Int) ≤ (s : Int)) = false := decide_eq_false (by omega)
  have p6 : decide (rules.length ≤ s) = false := decide_eq_false (by omega)
  clear hS hb0 hs hok hr3 hc3 hl3 hx
  have HCK := Aside0.mk hck
  have t1 : (t == 0) = false := beq_eq_false_iff_ne.2 ht
  have t2 : (t != 0) = true := bne_iff_ne.2 ht
  clear hck ht
  go_enter Try.func12, Try.ntmps12
  go_wp2_with (first | ((with_reducible refine gate_dst (N := 5) rfl ?_); refine box_event ?hg (N := 5) ?hd (cs := #[.int .i64 rule.f0, .slice A3 rule.f1.length c3]) (t := 31) ?hr ?_; (case hd => rfl); (case hg => rfl); (case hr => first | (go_simp; done) | (go_simp; rfl)); intro gb hg w hbox hb; have HS0 := Aside0.mk (HS.out.below hb); have BK := Aside0.mk hbox; have HBW := Aside0.mk hb; have HR3 := Aside0.mk (Kd.C_below HR3W.out hb); have GBL := Aside0.mk (show gb < w.heap.size from blk_lt hbox); have HB := Aside0.mk (Below.refl w.heap.size w); have hc0 : w.cell? ⟨gs, 0, none⟩ = some (.slice Ar rules.length cr) := (blk_cell HS0.out.box 0).trans rfl; clear hb hbox hg HR3W) | (go_at_call 21; refine (cloneRules_calls Ar cr rules _ (Kd.S_reads' HS0.out.rul).2.2 (Kd.S_reads' HS0.out.rul).2.1 HOK.out).mono ?_; rintro e_ wk ⟨v2, rfl, hs, hb⟩; obtain ⟨g, cap, rfl, hge, _, _⟩ := Kd.S_form hs HN.out; have GE := Aside0.mk hge; have HM := Aside0.mk (show Kd.S (Kd.slice 31 k31) 39 wk w.heap.size (fun k => k ≠ gb) (.slice (some ⟨g, 0, none⟩) rules.length cap) rules from Kd.S_mono (Kd.S_bound hs) (fun k hk e_ => by have h1_ := GBL.out; have h2_ := hk.2.1; omega)); have NEG := Aside0.mk (show gb ≠ g from fun e_ => by have h1_ := GBL.out; omega); have NGB := Aside0.mk (show gb < wk.heap.size from Nat.lt_of_lt_of_le GBL.out hb.size); have n0_ := Aside0.mk (below_step HB.out hb); have n1_ := Aside0.mk (blk_below BK.out hb); clear HB BK hs hge hb hc0; have HB := n0_; have BK := n1_; clear n0_ n1_))
  obtain ⟨NN, hNN⟩ : ∃ NN, NN = wk.heap.size := ⟨_, rfl⟩
  have HMX := Aside0.mk (show Kd.S (Kd.slice 31 k31) 39 wk w.heap.size (fun k => k ≠ gb ∧ ¬ NN ≤ k) (.slice (some ⟨g, 0, none⟩) rules.length cap) (rules) from Kd.S_mono (Kd.S_bound HM.out) (fun k hk => ⟨hk.1, by have h_ := hk.2.2.1; omega⟩))
  obtain ⟨oki, cs_, hcl_, hM_, hcc_, hfr_, hoki_, hH_⟩ := Kd.S_elem HMX.out ([] : List S31) ((s : Nat) : Int) (Int.natCast_nonneg _) (by have h_ := HI.out; omega)
  obtain ⟨vo, rfl, hvo_⟩ := hM_
  have hce : wk.cell? ⟨g, s, none⟩ = some vo := by have h_ := hcc_ 0 _ rfl; rwa [Int.toNat_natCast, show s * ((Kd.slice 31 k31)).sz + 0 = s from Nat.mul_one s] at h_
  have NG := Aside0.mk (show g < NN from by rw [hNN]; exact Kd.S_lt HM.out g (by simp [Value.ownBlock]))
  have NB := Aside0.mk (show w.heap.size ≤ NN from by rw [hNN]; exact HB.out.size)
  have NO := Aside0.mk (show ∀ k, oki k → (k ≠ gb ∧ k < NN) ∧ k ≠ g from fun k hk => ⟨⟨(hoki_ k hk).1.1, by have h_ := (hoki_ k hk).1.2; omega⟩, (hoki_ k hk).2⟩)
  have NGB2 := Aside0.mk (show gb < NN from by rw [hNN]; exact NGB.out)
  have hvo2_ : Kd.R k31 31 wk w.heap.size oki vo (rules.getD s []) := by have h_ := hvo_; rwa [Int.toNat_natCast] at h_
  have HV := Aside0.mk hvo2_
  have HH := Aside0.mk hH_
  have HCE := Aside0.mk hce
  clear hcl_ hvo_ hvo2_ hcc_ hfr_ hoki_ hH_ hce HM HMX NGB
  refine start_ (n := 16) (S := fun w' => w'.cell? ⟨g, s, none⟩ = some vo ∧ w'.cell? ⟨gb, 0, none⟩ = some (.int .i64 rule.f0) ∧ w'.cell? ⟨gb, 1, none⟩ = some (.slice A3 rule.f1.length c3)) (ds := [15]) #[false, false, false, false, false, false, false, false, false, false, false, false, false, false, false, false] (by kernel_rfl) rfl rfl ⟨HCE.out, (blk_cell (blk_drew BK.out) 0).trans rfl, (blk_cell (blk_drew BK.out) 1).trans rfl⟩ (fun hHeld => ?_)
  have hb := below_drew1 (Below.refl wk.heap.size wk)
  have NW := Aside0.mk (show NN ≤ wk.drew.heap.size from by rw [hNN]; exact Nat.le_refl _)
  clear hNN
  have n0_ := Aside0.mk (below_step HB.out hb)
  have n1_ := Aside0.mk (blk_below BK.out hb)
  have n2_ := Aside0.mk (Kd.R_below HV.out hb)
  have n3_ := Aside0.mk (Kd.H_below HH.out hb)
  have n4_ := Aside0.mk ((hb.cell (World.block_lt_of_cell? _ _ HCE.out)).trans HCE.out)
  clear HB BK HV HH HCE
  have HB := n0_
  have BK := n1_
  have HV := n2_
  have HH := n3_
  have HCE := n4_
  clear n0_ n1_ n2_ n3_ n4_
  clear hb
  generalize wk.drew = w3 at HB BK HV HH HCE NW hHeld ⊢
  refine pure_ (i := 0) (N := some 25) (v := ?_) (a' := ?_) #[true, false, false, false, false, false, false, false, false, false, false, false, false, false, false, false] rfl rfl (by kernel_rfl) (fun _ _ _ h => h) (Or.inl ⟨by rfl, ?_⟩) ?_ ?_
  rotate_left
  · intro w'
    go_simp
    with_reducible rfl
  rotate_left
  · simp only [Act.put, List.setIfInBounds_toArray, List.set_cons_zero, List.set_cons_succ, i64_w, i32_w]
    rfl
  refine pure_ (i := 1) (N := some 26) (v := ?_) (a' := ?_) #[true, true, false, false, false, false, false, false, false, false, false, false, false, false, false, false] rfl rfl (by kernel_rfl) (fun _ _ _ h => h) (Or.inl ⟨by rfl, ?_⟩) ?_ ?_
  rotate_left
  · intro w'
    go_simp
    with_reducible rfl
  rotate_left
  · simp only [Act.put, List.setIfInBounds_toArray, List.set_cons_zero, List.set_cons_succ, i64_w, i32_w]
    rfl
  refine pure_ (i := 2) (N := some 27) (v := ?_) (a' := ?_) #[true, true, true, false, false, false, false, false, false, false, false, false, false, false, false, false] rfl rfl (by kernel_rfl) (fun _ _ _ h => h) (Or.inl ⟨by rfl, ?_⟩) ?_ ?_
  rotate_left
  · intro w'
    go_simp
    with_reducible rfl
  rotate_left
  · simp only [Act.put, List.setIfInBounds_toArray, List.set_cons_zero, List.set_cons_succ, i64_w, i32_w]
    rfl
  refine pure_ (i := 3) (N := some 28) (v := ?_) (a' := ?_) #[true, true, true, true, false, false, false, false, false, false, false, false, false, false, false, false] rfl rfl (by kernel_rfl) (fun _ _ _ h => h) (Or.inl ⟨by rfl, ?_⟩) ?_ ?_
  rotate_left
  · intro w'
    go_simp
    with_reducible rfl
  rotate_left
  · simp only [Act.put, List.setIfInBounds_toArray, List.set_cons_zero, List.set_cons_succ, i64_w, i32_w]
    rfl
  refine pure_ (i := 4) (N := some 29) (v := ?_) (a' := ?_) #[true, true, true, true, true, false, false, false, false, false, false, false, false, false, false, false] rfl rfl (by kernel_rfl) (fun _ _ _ h => h) (Or.inl ⟨by rfl, ?_⟩) ?_ ?_
  rotate_left
  · intro w'
    go_simp
    with_reducible rfl
  rotate_left
  · simp only [Act.put, List.setIfInBounds_toArray, List.set_cons_zero, List.set_cons_succ, i64_w, i32_w]
    rfl
  refine take_ (i := 5) (N := some 30) (v := ?_) (a' := ?_) #[true, true, true, true, true, true, false, false, false, false, false, false, false, false, false, false] rfl rfl (by kernel_rfl) (fun _ _ _ h => h) (Or.inl ⟨by rfl, ?_⟩) hHeld ?_ ?_
  rotate_left
  · rintro w' ⟨s0, s1, s2⟩
    go_simp
    with_reducible rfl
  rotate_left
  · simp only [Act.put, List.setIfInBounds_toArray, List.set_cons_zero, List.set_cons_succ, i64_w, i32_w]
    rfl
  refine pure_ (i := 6) (N := some 31) (v := ?_) (a' := ?_) #[true, true, true, true, true, true, true, false, false, false, false, false, false, false, false, false] rfl rfl (by kernel_rfl) (fun _ _ _ h => h) (Or.inl ⟨by rfl, ?_⟩) ?_ ?_
  rotate_left
  · intro w'
    go_simp
    with_reducible rfl
  rotate_left
  · simp only [Act.put, List.setIfInBounds_toArray, List.set_cons_zero, List.set_cons_succ, i64_w, i32_w]
    rfl
  refine take_ (i := 7) (N := some 32) (v := ?_) (a' := ?_) #[true, true, true, true, true, true, true, true, false, false, false, false, false, false, false, false] rfl rfl (by kernel_rfl) (fun _ _ _ h => h) (Or.inl ⟨by rfl, ?_⟩) hHeld ?_ ?_
  rotate_left
  · rintro w' ⟨s0, s1, s2⟩
    go_simp
    with_reducible rfl
  rotate_left
  · simp only [Act.put, List.setIfInBounds_toArray, List.set_cons_zero, List.set_cons_succ, i64_w, i32_w]
    rfl
  refine pure_ (i := 8) (N := some 33) (v := ?_) (a' := ?_) #[true, true, true, true, true, true, true, true, true, false, false, false, false, false, false, false] rfl rfl (by kernel_rfl) (fun _ _ _ h => h) (Or.inl ⟨by rfl, ?_⟩) ?_ ?_
  rotate_left
  · intro w'
    go_simp
    with_reducible rfl
  rotate_left
  · simp only [Act.put, List.setIfInBounds_toArray, List.set_cons_zero, List.set_cons_succ, i64_w, i32_w]
    rfl
  refine take_ (i := 9) (N := some 34) (v := ?_) (a' := ?_) #[true, true, true, true, true, true, true, true, true, true, false, false, false, false, false, false] rfl rfl (by kernel_rfl) (fun _ _ _ h => h) (Or.inl ⟨by rfl, ?_⟩) hHeld ?_ ?_
  rotate_left
  · rintro w' ⟨s0, s1, s2⟩
    go_simp
    with_reducible rfl
  rotate_left
  · simp only [Act.put, List.setIfInBounds_toArray, List.set_cons_zero, List.set_cons_succ, i64_w, i32_w]
    rfl
  refine one_ (i := 10) (N := some 35) #[true, true, true, true, true, true, true, true, true, true, true, false, false, false, false, false] rfl rfl (by kernel_rfl) (by decide) (fun K hK => ?_)
  refine goes_ Try.func22 (by kernel_rfl) rfl #[.slice A3 rule.f1.length c3] (by rfl) rfl rfl (by (try simp only [List.map_toArray, List.map_cons, List.map_nil]); first | done | rfl) ?_
  refine (clone22 A3 c3 rule.f1 _ (Kd.C_below HR3.out HB.out) HC3.out HL3.out).mono ?_
  rintro e_ wc ⟨vc, rfl, hvc, hb⟩
  refine ⟨_, rfl, ?_⟩
  obtain ⟨Ac, cc, rfl⟩ := Kd.R_slice hvc
  have HC := Aside0.mk (show Kd.R (Kd.int .i64) 3 wc w.heap.size (fun k => NN ≤ k) (.slice Ac rule.f1.length cc) rule.f1 from Kd.R_lower (Kd.R_mono (Kd.R_bound hvc) (fun k hk => Nat.le_trans NW.out hk.2.1)) HB.out.size)
  replace NW := Aside0.mk (Nat.le_trans NW.out hb.size)
  clear hvc
  have n0_ := Aside0.mk (below_step HB.out hb)
  have n1_ := Aside0.mk (blk_below BK.out hb)
  have n2_ := Aside0.mk (Kd.R_below HV.out hb)
  have n3_ := Aside0.mk (Kd.H_below HH.out hb)
  have n4_ := Aside0.mk ((hb.cell (World.block_lt_of_cell? _ _ HCE.out)).trans HCE.out)
  clear HB BK HV HH HCE
  have HB := n0_
  have BK := n1_
  have HV := n2_
  have HH := n3_
  have HCE := n4_
  clear n0_ n1_ n2_ n3_ n4_
  clear hb
  refine hK.out _ _ ⟨HCE.out, (blk_cell BK.out 0).trans rfl, (blk_cell BK.out 1).trans rfl⟩ (fun hHeld => ?_)
  clear hK K
  refine norm_ (a' := ?_) ?_ ?_
  rotate_left
  · show Act.put _ (some 35) _ = _
    simp only [Act.put, List.setIfInBounds_toArray, List.set_cons_zero, List.set_cons_succ, i64_w, i32_w]
    rfl
  refine pure_ (i := 11) (N := some 36) (v := ?_) (a' := ?_) #[true, true, true, true, true, true, true, true, true, true, true, true, false, false, false, false] rfl rfl (by kernel_rfl) (fun _ _ _ h => h) (Or.inl ⟨by rfl, ?_⟩) ?_ ?_
  rotate_left
  · intro w'
    go_simp
    with_reducible rfl
  rotate_left
  · simp only [Act.put, List.setIfInBounds_toArray, List.set_cons_zero, List.set_cons_succ, i64_w, i32_w]
    rfl
  refine one_ (i := 12) (N := some 37) #[true, true, true, true, true, true, true, true, true, true, true, true, true, false, false, false] rfl rfl (by kernel_rfl) (by decide) (fun K hK => ?_)
  refine value_ (w1 := wc.alloc (.cells #[.int .i64 rule.f0, .slice Ac rule.f1.length cc] 31 (0, 0))) (v := .slice (some ⟨wc.heap.size, 0, none⟩) 1 1) (by rfl) rfl ?_ ?_
  · go_simp
    try rfl
  refine hK.out _ _ ⟨(((below_alloc (Below.refl wc.heap.size wc) _)).cell (World.block_lt_of_cell? _ _ HCE.out)).trans HCE.out, (blk_cell (blk_alloc BK.out _) 0).trans rfl, (blk_cell (blk_alloc BK.out _) 1).trans rfl⟩ (fun hHeld => ?_)
  clear hK K
  refine norm_ (a' := ?_) ?_ ?_
  rotate_left
  · show Act.put _ (some 37) _ = _
    simp only [Act.put, List.setIfInBounds_toArray, List.set_cons_zero, List.set_cons_succ, i64_w, i32_w]
    rfl
  refine one_ (i := 13) (N := some 38) #[true, true, true, true, true, true, true, true, true, true, true, true, true, true, false, false] rfl rfl (by kernel_rfl) (by decide) (fun K hK => ?_)
  refine Kd.R_append_step k31 (w0 := w) (W := wc) w.heap.size (by rfl) (.tmp 30) (.tmp 37) 39 31 (.agg #[.int .i64 0, .slice none 0 0]) 32 rfl Try.underlying39 info31 rfl (show 0 < 2 by decide) (by omega) vo (rules.getD s []) rule [.int .i64 rule.f0, .slice Ac rule.f1.length cc] (fun k => oki k ∨ NN ≤ k) (fun k => NN ≤ k) rfl rfl (k31_mkM wc w.heap.size (fun k => NN ≤ k) rule HC.out) (fun k hk => ⟨.inr hk, fun e_ => by have h_ := (NO.out k (HV.out.1 k e_.symm)).1.2; omega⟩) (fun k hk => .inr (Nat.le_trans NW.out hk)) (Kd.R_mono HV.out (fun k hk => .inl hk)) HB.out HB.out.size (by have h_ := HS20.out; omega) ?_
  intro v1 w8 ho hb hg hat
  obtain ⟨A9, n9, c9, rfl⟩ : ∃ A n c, v1 = .slice A n c := by obtain ⟨A, c, e⟩ := Kd.R_slice ho; exact ⟨A, _, c, e⟩
  have HO := Aside0.mk ho
  have n0_ := Aside0.mk hb
  have n1_ := Aside0.mk (Kd.H_grown HH.out hg (fun k hk => HV.out.1 k hk))
  have n2_ := Aside0.mk ((World.cell?_of_block (hg.block g (Nat.lt_of_lt_of_le NG.out NW.out) (fun e_ => (NO.out g (HV.out.1 g e_.symm)).2 rfl))).trans HCE.out)
  have n3_ := Aside0.mk (blk_grown BK.out hg (fun e_ => (NO.out gb (HV.out.1 gb e_.symm)).1.1 rfl))
  clear HB HH HCE BK HV HC hb hg hat ho NW
  have HB := n0_
  have HH := n1_
  have HCE := n2_
  have BK := n3_
  clear n0_ n1_ n2_ n3_
  refine hK.out _ _ ⟨HCE.out, (blk_cell BK.out 0).trans rfl, (blk_cell BK.out 1).trans rfl⟩ (fun hHeld => ?_)
  clear hK K
  refine norm_ (a' := ?_) ?_ ?_
  rotate_left
  · show Act.put _ (some 38) _ = _
    simp only [Act.put, List.setIfInBounds_toArray, List.set_cons_zero, List.set_cons_succ, i64_w, i32_w]
    rfl
  refine pure_ (i := 14) (N := some 39) (v := ?_) (a' := ?_) #[true, true, true, true, true, true, true, true, true, true, true, true, true, true, true, false] rfl rfl (by kernel_rfl) (fun _ _ _ h => h) (Or.inl ⟨by rfl, ?_⟩) ?_ ?_
  rotate_left
  · intro w'
    go_simp
    with_reducible rfl
  rotate_left
  · simp only [Act.put, List.setIfInBounds_toArray, List.set_cons_zero, List.set_cons_succ, i64_w, i32_w]
    rfl
  refine last_ (i := 15) (N := none) #[true, true, true, true, true, true, true, true, true, true, true, true, true, true, true, true] rfl rfl (by kernel_rfl) (by decide) (fun K hK => ?_)
  have hce := HCE.out
  have hfe : w8.frozen? ⟨g, s, none⟩ = false := by obtain ⟨rows_, _, hraw_, _⟩ := Kd.H_raw HH.out (Int.natCast_nonneg _) (by have h_ := HI.out; omega); obtain ⟨cl_, hcl_⟩ := Kd.R_typed hraw_ g (by simp [Value.ownBlock]); exact blk_frozen hcl_ _
  refine skip_ (w1 := w8.setCell ⟨g, s, none⟩ (.slice A9 n9 c9)) (by rfl) rfl ?_ ?_
  · go_simp
    try rfl
  have hs_ := Kd.S_seg (okp := fun k => oki k ∨ NN ≤ k) (ok := fun k => k ≠ gb) (okg := fun k => NN ≤ k) HH.out (Int.natCast_nonneg _) (by have h_ := HI.out; omega) (seg := [.slice A9 n9 c9]) (j := 0) (show 0 + 1 ≤ 1 by decide) (x' := rules.getD s [] ++ [rule]) ⟨.slice A9 n9 c9, rfl, HO.out⟩ (fun k hk => hk) (fun k hk => ⟨fun e_ => by have h_ := NGB2.out; omega, fun e_ => by have h_ := NG.out; omega⟩)
  rw [Int.toNat_natCast, show s * ((Kd.slice 31 k31)).sz + 0 = s from Nat.mul_one s] at hs_
  obtain ⟨hm1_, hm2_⟩ := hs_
  have hm3_ : w8.grownBy (w8.setCell ⟨g, s, none⟩ (.slice A9 n9 c9)) (some g) := hm2_
  have hm4_ : Kd.S (Kd.slice 31 k31) 39 (w8.setCell ⟨g, s, none⟩ (.slice A9 n9 c9)) w.heap.size (fun k => k ≠ gb) (.slice (some ⟨g, 0, none⟩) rules.length cap) (rules.set s (rules.getD s [] ++ [rule])) := hm1_
  have n0_ := Aside0.mk (pw_below_grown HB.out (some g) HB.out.size hm3_ (fun k hk => by injection hk with hk; rw [← hk]; exact GE.out))
  have n1_ := Aside0.mk hm4_
  have n2_ := Aside0.mk (blk_grown BK.out hm3_ (fun e_ => by injection e_ with e_; exact NEG.out e_))
  clear HB HH HCE BK HO hm1_ hm2_ hm3_ hm4_ hce hfe NO NG NB NGB2
  generalize (w8.setCell ⟨g, s, none⟩ (.slice A9 n9 c9)) = w9 at n0_ n1_ n2_ ⊢
  have HB := n0_
  have HM := n1_
  have BK := n2_
  clear n0_ n1_ n2_
  refine hK.out _ _ ?_
  clear hK K
  refine done_ (by kernel_rfl) ?_
  try clear hHeld
  replace HM := Aside0.mk (show Kd.S (Kd.slice 31 k31) 39 w9 w.heap.size (fun k => k ≠ gb) (.slice (some ⟨g, 0, none⟩) rules.length cap) ext from by rw [HXE.out]; exact HM.out)
  go_wp2_with ((go_at_call 18; refine (check_n (some ⟨g, 0, none⟩) cap ext rules.length t _ HXL.out (S_Cn HM.out HXL.out) (Kd.S_reads' HM.out).2.1 HCK.out).mono ?_; rintro e_ wk2 ⟨rfl, hb⟩; have n0_ := Aside0.mk (below_step HB.out hb); have n1_ := Aside0.mk (Kd.S_below HM.out hb); clear HB HM BK hb; have HB := n0_; have HM := n1_; clear n0_ n1_; have hg0 : wk2.cell? ⟨gs, 0, none⟩ = some (.slice Ar rules.length cr) := (blk_cell (blk_below HS0.out.box HB.out) 0).trans rfl; have hf0 := blk_frozen (blk_below HS0.out.box HB.out) 0))
  go_ret
  exact ⟨rfl, below_step HBW.out HB.out⟩
set_option maxHeartbeats 8000000 in
set_option maxRecDepth 100000 in
theorem add_yes (K : Nat) (w0 W : World) (gs : Nat) (vr vs : Value) (rules : List (List S31)) (sets : List Int) (s : Nat) (rule : S31) (A3 : Option Addr) (c3 : Nat) (ext : List (List S31)) (hS : Sv w0.heap.size gs vr vs rules sets W) (hb0 : Below w0.heap.size w0 W) (hs : s < rules.length) (hok : Okr rules) (hr3 : Kd.C (Kd.int .i64) W A3 rule.f1.length rule.f1) (hc3 : rule.f1.length ≤ c3) (hl3 : rule.f1.length * 8 ≤ 140737488351232) (hx : ext = rules.set s (rules.getD s [] ++ [rule])) (r : List Int) (hck : fixpoint_Check.f ext = some 0) (hpr : fixpoint_propagate.f K ext sets [(s : Int)] = some r) :
    Calls Try.prog 12 #[.pointer (some ⟨gs, 0, none⟩), .int .i64 (s : Int), .agg #[.int .i64 rule.f0, .slice A3 rule.f1.length c3]] W fun e W' => e = .returned (.int .i64 0) ∧ ∃ vr', Sv w0.heap.size gs vr' vs ext r W' ∧ Below w0.heap.size w0 W' ∧ Kept W W' (fun k => k = gs ∨ some k = vs.ownBlock) := by
  have hu22 := Try.underlying22
  have hu23 := Try.underlying23
  have hu31 := Try.underlying31
  have hu39 := Try.underlying39
  have hu52 := Try.underlying52
  obtain ⟨Ar, cr, rfl⟩ := Kd.S_slice hS.rul
  obtain ⟨As, cs, rfl⟩ := Kd.R_slice hS.set
  have HS := Aside0.mk hS
  have HBW0 := Aside0.mk hb0
  have HI := Aside0.mk hs
  have HN := Aside0.mk (show 0 < rules.length by omega)
  have HOK := Aside0.mk hok
  have HR3W := Aside0.mk hr3
  have HC3 := Aside0.mk hc3
  have HL3 := Aside0.mk hl3
  have HXE := Aside0.mk hx
  have HXL := Aside0.mk (show ext.length = rules.length by rw [hx, List.length_set])
  have HS20 := Aside0.mk (show (rules.getD s []).length ≤ 20 from by
    rw [List.getD_eq_getElem?_getD, List.getElem?_eq_getElem hs]
    exact hok.l20 _ (List.getElem_mem _))
  have p1 : (0 ≤ (s : Int)) = True := eq_true (by omega)
  have p2 : ((s : Int) < (rules.length : Int)) = True := eq_true (by omega)
  have p2b : (s < rules.length) = True := eq_true hs
  have p3 : decide ((s : Int) < 0) = false := decide_eq_false (by omega)
  have p4 : decide ((s : Int) ≥ (rules.length : Int)) = false := decide_eq_false (by omega)
  have p5 : decide ((rules.length : Int) ≤ (s : Int)) = false := decide_eq_false (by omega)
  have p6 : decide (rules.length ≤ s) = false := decide_eq_false (by omega)
  clear hS hb0 hs hok hr3 hc3 hl3 hx
  have HCK := Aside0.mk hck
  have HPR := Aside0.mk hpr
  clear hck hpr
  go_enter Try.func12, Try.ntmps12
  go_wp2_with (first | ((with_reducible refine gate_dst (N := 5) rfl ?_); refine box_event ?hg (N := 5) ?hd (cs := #[.int .i64 rule.f0, .slice A3 rule.f1.length c3]) (t := 31) ?hr ?_; (case hd => rfl); (case hg => rfl); (case hr => first | (go_simp; done) | (go_simp; rfl)); intro gb hg w hbox hb; have HS0 := Aside0.mk (HS.out.below hb); have BK := Aside0.mk hbox; have HBW := Aside0.mk hb; have HR3 := Aside0.mk (Kd.C_below HR3W.out hb); have GBL := Aside0.mk (show gb < w.heap.size from blk_lt hbox); have HB := Aside0.mk (Below.refl w.heap.size w); have hc0 : w.cell? ⟨gs, 0, none⟩ = some (.slice Ar rules.length cr) := (blk_cell HS0.out.box 0).trans rfl; clear hb hbox hg HR3W) | (go_at_call 21; refine (cloneRules_calls Ar cr rules _ (Kd.S_reads' HS0.out.rul).2.2 (Kd.S_reads' HS0.out.rul).2.1 HOK.out).mono ?_; rintro e_ wk ⟨v2, rfl, hs, hb⟩; obtain ⟨g, cap, rfl, hge, _, _⟩ := Kd.S_form hs HN.out; have GE := Aside0.mk hge; have HM := Aside0.mk (show Kd.S (Kd.slice 31 k31) 39 wk w.heap.size (fun k => k ≠ gb) (.slice (some ⟨g, 0, none⟩) rules.length cap) rules from Kd.S_mono (Kd.S_bound hs) (fun k hk e_ => by have h1_ := GBL.out; have h2_ := hk.2.1; omega)); have NEG := Aside0.mk (show gb ≠ g from fun e_ => by have h1_ := GBL.out; omega); have NGB := Aside0.mk (show gb < wk.heap.size from Nat.lt_of_lt_of_le GBL.out hb.size); have n0_ := Aside0.mk (below_step HB.out hb); have n1_ := Aside0.mk (blk_below BK.out hb); clear HB BK hs hge hb hc0; have HB := n0_; have BK := n1_; clear n0_ n1_))
  obtain ⟨NN, hNN⟩ : ∃ NN, NN = wk.heap.size := ⟨_, rfl⟩
  have HMX := Aside0.mk (show Kd.S (Kd.slice 31 k31) 39 wk w.heap.size (fun k => k ≠ gb ∧ ¬ NN ≤ k) (.slice (some ⟨g, 0, none⟩) rules.length cap) (rules) from Kd.S_mono (Kd.S_bound HM.out) (fun k hk => ⟨hk.1, by have h_ := hk.2.2.1; omega⟩))
  obtain ⟨oki, cs_, hcl_, hM_, hcc_, hfr_, hoki_, hH_⟩ := Kd.S_elem HMX.out ([] : List S31) ((s : Nat) : Int) (Int.natCast_nonneg _) (by have h_ := HI.out; omega)
  obtain ⟨vo, rfl, hvo_⟩ := hM_
  have hce : wk.cell? ⟨g, s, none⟩ = some vo := by have h_ := hcc_ 0 _ rfl; rwa [Int.toNat_natCast, show s * ((Kd.slice 31 k31)).sz + 0 = s from Nat.mul_one s] at h_
  have NG := Aside0.mk (show g < NN from by rw [hNN]; exact Kd.S_lt HM.out g (by simp [Value.ownBlock]))
  have NB := Aside0.mk (show w.heap.size ≤ NN from by rw [hNN]; exact HB.out.size)
  have NO := Aside0.mk (show ∀ k, oki k → (k ≠ gb ∧ k < NN) ∧ k ≠ g from fun k hk => ⟨⟨(hoki_ k hk).1.1, by have h_ := (hoki_ k hk).1.2; omega⟩, (hoki_ k hk).2⟩)
  have NGB2 := Aside0.mk (show gb < NN from by rw [hNN]; exact NGB.out)
  have hvo2_ : Kd.R k31 31 wk w.heap.size oki vo (rules.getD s []) := by have h_ := hvo_; rwa [Int.toNat_natCast] at h_
  have HV := Aside0.mk hvo2_
  have HH := Aside0.mk hH_
  have HCE := Aside0.mk hce
  clear hcl_ hvo_ hvo2_ hcc_ hfr_ hoki_ hH_ hce HM HMX NGB
  refine start_ (n := 16) (S := fun w' => w'.cell? ⟨g, s, none⟩ = some vo ∧ w'.cell? ⟨gb, 0, none⟩ = some (.int .i64 rule.f0) ∧ w'.cell? ⟨gb, 1, none⟩ = some (.slice A3 rule.f1.length c3)) (ds := [15]) #[false, false, false, false, false, false, false, false, false, false, false, false, false, false, false, false] (by kernel_rfl) rfl rfl ⟨HCE.out, (blk_cell (blk_drew BK.out) 0).trans rfl, (blk_cell (blk_drew BK.out) 1).trans rfl⟩ (fun hHeld => ?_)
  have hb := below_drew1 (Below.refl wk.heap.size wk)
  have NW := Aside0.mk (show NN ≤ wk.drew.heap.size from by rw [hNN]; exact Nat.le_refl _)
  clear hNN
  have n0_ := Aside0.mk (below_step HB.out hb)
  have n1_ := Aside0.mk (blk_below BK.out hb)
  have n2_ := Aside0.mk (Kd.R_below HV.out hb)
  have n3_ := Aside0.mk (Kd.H_below HH.out hb)
  have n4_ := Aside0.mk ((hb.cell (World.block_lt_of_cell? _ _ HCE.out)).trans HCE.out)
  clear HB BK HV HH HCE
  have HB := n0_
  have BK := n1_
  have HV := n2_
  have HH := n3_
  have HCE := n4_
  clear n0_ n1_ n2_ n3_ n4_
  clear hb
  generalize wk.drew = w3 at HB BK HV HH HCE NW hHeld ⊢
  refine pure_ (i := 0) (N := some 25) (v := ?_) (a' := ?_) #[true, false, false, false, false, false, false, false, false, false, false, false, false, false, false, false] rfl rfl (by kernel_rfl) (fun _ _ _ h => h) (Or.inl ⟨by rfl, ?_⟩) ?_ ?_
  rotate_left
  · intro w'
    go_simp
    with_reducible rfl
  rotate_left
  · simp only [Act.put, List.setIfInBounds_toArray, List.set_cons_zero, List.set_cons_succ, i64_w, i32_w]
    rfl
  refine pure_ (i := 1) (N := some 26) (v := ?_) (a' := ?_) #[true, true, false, false, false, false, false, false, false, false, false, false, false, false, false, false] rfl rfl (by kernel_rfl) (fun _ _ _ h => h) (Or.inl ⟨by rfl, ?_⟩) ?_ ?_
  rotate_left
  · intro w'
    go_simp
    with_reducible rfl
  rotate_left
  · simp only [Act.put, List.setIfInBounds_toArray, List.set_cons_zero, List.set_cons_succ, i64_w, i32_w]
    rfl
  refine pure_ (i := 2) (N := some 27) (v := ?_) (a' := ?_) #[true, true, true, false, false, false, false, false, false, false, false, false, false, false, false, false] rfl rfl (by kernel_rfl) (fun _ _ _ h => h) (Or.inl ⟨by rfl, ?_⟩) ?_ ?_
  rotate_left
  · intro w'
    go_simp
    with_reducible rfl
  rotate_left
  · simp only [Act.put, List.setIfInBounds_toArray, List.set_cons_zero, List.set_cons_succ, i64_w, i32_w]
    rfl
  refine pure_ (i := 3) (N := some 28) (v := ?_) (a' := ?_) #[true, true, true, true, false, false, false, false, false, false, false, false, false, false, false, false] rfl rfl (by kernel_rfl) (fun _ _ _ h => h) (Or.inl ⟨by rfl, ?_⟩) ?_ ?_
  rotate_left
  · intro w'
    go_simp
    with_reducible rfl
  rotate_left
  · simp only [Act.put, List.setIfInBounds_toArray, List.set_cons_zero, List.set_cons_succ, i64_w, i32_w]
    rfl
  refine pure_ (i := 4) (N := some 29) (v := ?_) (a' := ?_) #[true, true, true, true, true, false, false, false, false, false, false, false, false, false, false, false] rfl rfl (by kernel_rfl) (fun _ _ _ h => h) (Or.inl ⟨by rfl, ?_⟩) ?_ ?_
  rotate_left
  · intro w'
    go_simp
    with_reducible rfl
  rotate_left
  · simp only [Act.put, List.setIfInBounds_toArray, List.set_cons_zero, List.set_cons_succ, i64_w, i32_w]
    rfl
  refine take_ (i := 5) (N := some 30) (v := ?_) (a' := ?_) #[true, true, true, true, true, true, false, false, false, false, false, false, false, false, false, false] rfl rfl (by kernel_rfl) (fun _ _ _ h => h) (Or.inl ⟨by rfl, ?_⟩) hHeld ?_ ?_
  rotate_left
  · rintro w' ⟨s0, s1, s2⟩
    go_simp
    with_reducible rfl
  rotate_left
  · simp only [Act.put, List.setIfInBounds_toArray, List.set_cons_zero, List.set_cons_succ, i64_w, i32_w]
    rfl
  refine pure_ (i := 6) (N := some 31) (v := ?_) (a' := ?_) #[true, true, true, true, true, true, true, false, false, false, false, false, false, false, false, false] rfl rfl (by kernel_rfl) (fun _ _ _ h => h) (Or.inl ⟨by rfl, ?_⟩) ?_ ?_
  rotate_left
  · intro w'
    go_simp
    with_reducible rfl
  rotate_left
  · simp only [Act.put, List.setIfInBounds_toArray, List.set_cons_zero, List.set_cons_succ, i64_w, i32_w]
    rfl
  refine take_ (i := 7) (N := some 32) (v := ?_) (a' := ?_) #[true, true, true, true, true, true, true, true, false, false, false, false, false, false, false, false] rfl rfl (by kernel_rfl) (fun _ _ _ h => h) (Or.inl ⟨by rfl, ?_⟩) hHeld ?_ ?_
  rotate_left
  · rintro w' ⟨s0, s1, s2⟩
    go_simp
    with_reducible rfl
  rotate_left
  · simp only [Act.put, List.setIfInBounds_toArray, List.set_cons_zero, List.set_cons_succ, i64_w, i32_w]
    rfl
  refine pure_ (i := 8) (N := some 33) (v := ?_) (a' := ?_) #[true, true, true, true, true, true, true, true, true, false, false, false, false, false, false, false] rfl rfl (by kernel_rfl) (fun _ _ _ h => h) (Or.inl ⟨by rfl, ?_⟩) ?_ ?_
  rotate_left
  · intro w'
    go_simp
    with_reducible rfl
  rotate_left
  · simp only [Act.put, List.setIfInBounds_toArray, List.set_cons_zero, List.set_cons_succ, i64_w, i32_w]
    rfl
  refine take_ (i := 9) (N := some 34) (v := ?_) (a' := ?_) #[true, true, true, true, true, true, true, true, true, true, false, false, false, false, false, false] rfl rfl (by kernel_rfl) (fun _ _ _ h => h) (Or.inl ⟨by rfl, ?_⟩) hHeld ?_ ?_
  rotate_left
  · rintro w' ⟨s0, s1, s2⟩
    go_simp
    with_reducible rfl
  rotate_left
  · simp only [Act.put, List.setIfInBounds_toArray, List.set_cons_zero, List.set_cons_succ, i64_w, i32_w]
    rfl
  refine one_ (i := 10) (N := some 35) #[true, true, true, true, true, true, true, true, true, true, true, false, false, false, false, false] rfl rfl (by kernel_rfl) (by decide) (fun K hK => ?_)
  refine goes_ Try.func22 (by kernel_rfl) rfl #[.slice A3 rule.f1.length c3] (by rfl) rfl rfl (by (try simp only [List.map_toArray, List.map_cons, List.map_nil]); first | done | rfl) ?_
  refine (clone22 A3 c3 rule.f1 _ (Kd.C_below HR3.out HB.out) HC3.out HL3.out).mono ?_
  rintro e_ wc ⟨vc, rfl, hvc, hb⟩
  refine ⟨_, rfl, ?_⟩
  obtain ⟨Ac, cc, rfl⟩ := Kd.R_slice hvc
  have HC := Aside0.mk (show Kd.R (Kd.int .i64) 3 wc w.heap.size (fun k => NN ≤ k) (.slice Ac rule.f1.length cc) rule.f1 from Kd.R_lower (Kd.R_mono (Kd.R_bound hvc) (fun k hk => Nat.le_trans NW.out hk.2.1)) HB.out.size)
  replace NW := Aside0.mk (Nat.le_trans NW.out hb.size)
  clear hvc
  have n0_ := Aside0.mk (below_step HB.out hb)
  have n1_ := Aside0.mk (blk_below BK.out hb)
  have n2_ := Aside0.mk (Kd.R_below HV.out hb)
  have n3_ := Aside0.mk (Kd.H_below HH.out hb)
  have n4_ := Aside0.mk ((hb.cell (World.block_lt_of_cell? _ _ HCE.out)).trans HCE.out)
  clear HB BK HV HH HCE
  have HB := n0_
  have BK := n1_
  have HV := n2_
  have HH := n3_
  have HCE := n4_
  clear n0_ n1_ n2_ n3_ n4_
  clear hb
  refine hK.out _ _ ⟨HCE.out, (blk_cell BK.out 0).trans rfl, (blk_cell BK.out 1).trans rfl⟩ (fun hHeld => ?_)
  clear hK K
  refine norm_ (a' := ?_) ?_ ?_
  rotate_left
  · show Act.put _ (some 35) _ = _
    simp only [Act.put, List.setIfInBounds_toArray, List.set_cons_zero, List.set_cons_succ, i64_w, i32_w]
    rfl
  refine pure_ (i := 11) (N := some 36) (v := ?_) (a' := ?_) #[true, true, true, true, true, true, true, true, true, true, true, true, false, false, false, false] rfl rfl (by kernel_rfl) (fun _ _ _ h => h) (Or.inl ⟨by rfl, ?_⟩) ?_ ?_
  rotate_left
  · intro w'
    go_simp
    with_reducible rfl
  rotate_left
  · simp only [Act.put, List.setIfInBounds_toArray, List.set_cons_zero, List.set_cons_succ, i64_w, i32_w]
    rfl
  refine one_ (i := 12) (N := some 37) #[true, true, true, true, true, true, true, true, true, true, true, true, true, false, false, false] rfl rfl (by kernel_rfl) (by decide) (fun K hK => ?_)
  refine value_ (w1 := wc.alloc (.cells #[.int .i64 rule.f0, .slice Ac rule.f1.length cc] 31 (0, 0))) (v := .slice (some ⟨wc.heap.size, 0, none⟩) 1 1) (by rfl) rfl ?_ ?_
  · go_simp
    try rfl
  refine hK.out _ _ ⟨(((below_alloc (Below.refl wc.heap.size wc) _)).cell (World.block_lt_of_cell? _ _ HCE.out)).trans HCE.out, (blk_cell (blk_alloc BK.out _) 0).trans rfl, (blk_cell (blk_alloc BK.out _) 1).trans rfl⟩ (fun hHeld => ?_)
  clear hK K
  refine norm_ (a' := ?_) ?_ ?_
  rotate_left
  · show Act.put _ (some 37) _ = _
    simp only [Act.put, List.setIfInBounds_toArray, List.set_cons_zero, List.set_cons_succ, i64_w, i32_w]
    rfl
  refine one_ (i := 13) (N := some 38) #[true, true, true, true, true, true, true, true, true, true, true, true, true, true, false, false] rfl rfl (by kernel_rfl) (by decide) (fun K hK => ?_)
  refine Kd.R_append_step k31 (w0 := w) (W := wc) w.heap.size (by rfl) (.tmp 30) (.tmp 37) 39 31 (.agg #[.int .i64 0, .slice none 0 0]) 32 rfl Try.underlying39 info31 rfl (show 0 < 2 by decide) (by omega) vo (rules.getD s []) rule [.int .i64 rule.f0, .slice Ac rule.f1.length cc] (fun k => oki k ∨ NN ≤ k) (fun k => NN ≤ k) rfl rfl (k31_mkM wc w.heap.size (fun k => NN ≤ k) rule HC.out) (fun k hk => ⟨.inr hk, fun e_ => by have h_ := (NO.out k (HV.out.1 k e_.symm)).1.2; omega⟩) (fun k hk => .inr (Nat.le_trans NW.out hk)) (Kd.R_mono HV.out (fun k hk => .inl hk)) HB.out HB.out.size (by have h_ := HS20.out; omega) ?_
  intro v1 w8 ho hb hg hat
  obtain ⟨A9, n9, c9, rfl⟩ : ∃ A n c, v1 = .slice A n c := by obtain ⟨A, c, e⟩ := Kd.R_slice ho; exact ⟨A, _, c, e⟩
  have HO := Aside0.mk ho
  have n0_ := Aside0.mk hb
  have n1_ := Aside0.mk (Kd.H_grown HH.out hg (fun k hk => HV.out.1 k hk))
  have n2_ := Aside0.mk ((World.cell?_of_block (hg.block g (Nat.lt_of_lt_of_le NG.out NW.out) (fun e_ => (NO.out g (HV.out.1 g e_.symm)).2 rfl))).trans HCE.out)
  have n3_ := Aside0.mk (blk_grown BK.out hg (fun e_ => (NO.out gb (HV.out.1 gb e_.symm)).1.1 rfl))
  clear HB HH HCE BK HV HC hb hg hat ho NW
  have HB := n0_
  have HH := n1_
  have HCE := n2_
  have BK := n3_
  clear n0_ n1_ n2_ n3_
  refine hK.out _ _ ⟨HCE.out, (blk_cell BK.out 0).trans rfl, (blk_cell BK.out 1).trans rfl⟩ (fun hHeld => ?_)
  clear hK K
  refine norm_ (a' := ?_) ?_ ?_
  rotate_left
  · show Act.put _ (some 38) _ = _
    simp only [Act.put, List.setIfInBounds_toArray, List.set_cons_zero, List.set_cons_succ, i64_w, i32_w]
    rfl
  refine pure_ (i := 14) (N := some 39) (v := ?_) (a' := ?_) #[true, true, true, true, true, true, true, true, true, true, true, true, true, true, true, false] rfl rfl (by kernel_rfl) (fun _ _ _ h => h) (Or.inl ⟨by rfl, ?_⟩) ?_ ?_
  rotate_left
  · intro w'
    go_simp
    with_reducible rfl
  rotate_left
  · simp only [Act.put, List.setIfInBounds_toArray, List.set_cons_zero, List.set_cons_succ, i64_w, i32_w]
    rfl
  refine last_ (i := 15) (N := none) #[true, true, true, true, true, true, true, true, true, true, true, true, true, true, true, true] rfl rfl (by kernel_rfl) (by decide) (fun K hK => ?_)
  have hce := HCE.out
  have hfe : w8.frozen? ⟨g, s, none⟩ = false := by obtain ⟨rows_, _, hraw_, _⟩ := Kd.H_raw HH.out (Int.natCast_nonneg _) (by have h_ := HI.out; omega); obtain ⟨cl_, hcl_⟩ := Kd.R_typed hraw_ g (by simp [Value.ownBlock]); exact blk_frozen hcl_ _
  refine skip_ (w1 := w8.setCell ⟨g, s, none⟩ (.slice A9 n9 c9)) (by rfl) rfl ?_ ?_
  · go_simp
    try rfl
  have hs_ := Kd.S_seg (okp := fun k => oki k ∨ NN ≤ k) (ok := fun k => k ≠ gb) (okg := fun k => NN ≤ k) HH.out (Int.natCast_nonneg _) (by have h_ := HI.out; omega) (seg := [.slice A9 n9 c9]) (j := 0) (show 0 + 1 ≤ 1 by decide) (x' := rules.getD s [] ++ [rule]) ⟨.slice A9 n9 c9, rfl, HO.out⟩ (fun k hk => hk) (fun k hk => ⟨fun e_ => by have h_ := NGB2.out; omega, fun e_ => by have h_ := NG.out; omega⟩)
  rw [Int.toNat_natCast, show s * ((Kd.slice 31 k31)).sz + 0 = s from Nat.mul_one s] at hs_
  obtain ⟨hm1_, hm2_⟩ := hs_
  have hm3_ : w8.grownBy (w8.setCell ⟨g, s, none⟩ (.slice A9 n9 c9)) (some g) := hm2_
  have hm4_ : Kd.S (Kd.slice 31 k31) 39 (w8.setCell ⟨g, s, none⟩ (.slice A9 n9 c9)) w.heap.size (fun k => k ≠ gb) (.slice (some ⟨g, 0, none⟩) rules.length cap) (rules.set s (rules.getD s [] ++ [rule])) := hm1_
  have n0_ := Aside0.mk (pw_below_grown HB.out (some g) HB.out.size hm3_ (fun k hk => by injection hk with hk; rw [← hk]; exact GE.out))
  have n1_ := Aside0.mk hm4_
  have n2_ := Aside0.mk (blk_grown BK.out hm3_ (fun e_ => by injection e_ with e_; exact NEG.out e_))
  clear HB HH HCE BK HO hm1_ hm2_ hm3_ hm4_ hce hfe NO NG NB NGB2
  generalize (w8.setCell ⟨g, s, none⟩ (.slice A9 n9 c9)) = w9 at n0_ n1_ n2_ ⊢
  have HB := n0_
  have HM := n1_
  have BK := n2_
  clear n0_ n1_ n2_
  refine hK.out _ _ ?_
  clear hK K
  refine done_ (by kernel_rfl) ?_
  try clear hHeld
  replace HM := Aside0.mk (show Kd.S (Kd.slice 31 k31) 39 w9 w.heap.size (fun k => k ≠ gb) (.slice (some ⟨g, 0, none⟩) rules.length cap) ext from by rw [HXE.out]; exact HM.out)
  go_upto_region 9 with ((go_at_call 18; refine (check_n (some ⟨g, 0, none⟩) cap ext rules.length 0 _ HXL.out (S_Cn HM.out HXL.out) (Kd.S_reads' HM.out).2.1 HCK.out).mono ?_; rintro e_ wk2 ⟨rfl, hb⟩; have n0_ := Aside0.mk (below_step HB.out hb); have n1_ := Aside0.mk (Kd.S_below HM.out hb); clear HB HM BK hb; have HB := n0_; have HM := n1_; clear n0_ n1_; have hg0 : wk2.cell? ⟨gs, 0, none⟩ = some (.slice Ar rules.length cr) := (blk_cell (blk_below HS0.out.box HB.out) 0).trans rfl; have hf0 := blk_frozen (blk_below HS0.out.box HB.out) 0))
  have F1 := Aside0.mk (show (wk2.setCell ⟨gs, 0, none⟩ (.slice (some ⟨g, 0, none⟩) rules.length cap)).heap[gs]? = some (.cells #[(.slice (some ⟨g, 0, none⟩) rules.length cap), .slice As sets.length cs] 52 (0, 0)) from blk_put (blk_below HS0.out.box HB.out) 0 _ rfl)
  have F2 := Aside0.mk (show Kd.S (Kd.slice 31 k31) 39 (wk2.setCell ⟨gs, 0, none⟩ (.slice (some ⟨g, 0, none⟩) rules.length cap)) w.heap.size (fun k => w.heap.size ≤ k ∧ k < wk2.heap.size) (.slice (some ⟨g, 0, none⟩) rules.length cap) ext from Kd.S_mono (Kd.S_set (Kd.S_bound HM.out) (blk_below HS0.out.box HB.out) (by decide) 0 _) (fun k hk => ⟨hk.2.1, hk.2.2.1⟩))
  have F3 := Aside0.mk (show Kd.R (Kd.int .i64) 3 (wk2.setCell ⟨gs, 0, none⟩ (.slice (some ⟨g, 0, none⟩) rules.length cap)) w0.heap.size (fun _ => True) (.slice As sets.length cs) sets from Kd.R_set (Kd.R_below HS0.out.set HB.out) (blk_below HS0.out.box HB.out) (by decide) 0 _)
  have F4 := Aside0.mk (show Below w0.heap.size w0 (wk2.setCell ⟨gs, 0, none⟩ (.slice (some ⟨g, 0, none⟩) rules.length cap)) from below_set (below_step (below_step HBW0.out HBW.out) HB.out) HS0.out.ge)
  have F5 := Aside0.mk (show Kept W (wk2.setCell ⟨gs, 0, none⟩ (.slice (some ⟨g, 0, none⟩) rules.length cap)) (fun k => k = gs ∨ some k = (Value.slice As sets.length cs).ownBlock) from Kept.setCell (p := ⟨gs, 0, none⟩) (Kept.of_below (below_step HBW.out HB.out) _) (.inl (.inl rfl)) _)
  have VSB := Aside0.mk (show ∀ k, (Value.slice As sets.length cs).ownBlock = some k → k < w.heap.size from Kd.R_lt HS0.out.set)
  have VSN := Aside0.mk (show some gs ≠ (Value.slice As sets.length cs).ownBlock from Kd.R_ne HS0.out.set HS0.out.box (by decide))
  have GSL := Aside0.mk (show gs < (wk2.setCell ⟨gs, 0, none⟩ (.slice (some ⟨g, 0, none⟩) rules.length cap)).heap.size from Nat.lt_of_lt_of_le (blk_lt (blk_below HS0.out.box HB.out)) (by simp [World.setCell]))
  have WST := Aside0.mk (show w.heap.size ≤ (wk2.setCell ⟨gs, 0, none⟩ (.slice (some ⟨g, 0, none⟩) rules.length cap)).heap.size from Nat.le_trans HB.out.size (by simp [World.setCell]))
  have WS2 := Aside0.mk (show wk2.heap.size ≤ (wk2.setCell ⟨gs, 0, none⟩ (.slice (some ⟨g, 0, none⟩) rules.length cap)).heap.size from by simp [World.setCell])
  have WSW := Aside0.mk (show W.heap.size ≤ (wk2.setCell ⟨gs, 0, none⟩ (.slice (some ⟨g, 0, none⟩) rules.length cap)).heap.size from F5.out.1)
  clear hg0 hf0
  have hg1 : (wk2.setCell ⟨gs, 0, none⟩ (.slice (some ⟨g, 0, none⟩) rules.length cap)).cell? ⟨gs, 1, none⟩ = some (.slice As sets.length cs) := (blk_cell F1.out 1).trans rfl
  generalize (wk2.setCell ⟨gs, 0, none⟩ (.slice (some ⟨g, 0, none⟩) rules.length cap)) = wst at F1 F2 F3 F4 F5 GSL WST WS2 WSW hg1 ⊢
  replace F2 := Aside0.mk (Kd.S_mono (ok' := fun k => w.heap.size ≤ k ∧ k < wst.heap.size) F2.out (fun k hk => ⟨hk.1, Nat.lt_of_lt_of_le hk.2 WS2.out⟩))
  clear HB HM WS2
  go_wp2_with (first | ((with_reducible refine gate_dst (N := 55) rfl ?_); refine Kd.R_lit (Kd.int .i64) _ 3 ?hg (N := 55) ?hd (xs := ([(s : Int)] : List Int)) (inner := [.int .i64 (s : Int)]) (ok := fun _ => True) (okp := fun _ => True) ?hr ?hp (fun _ hk => hk) trivial (Below.refl _ _) (Nat.le_refl _) (by simp) ?_; (case hd => rfl); (case hg => rfl); (case hr => first | (go_simp; done) | (go_simp; rfl)); (case hp => exact (Reps.one (show Kd.M (Kd.int .i64) _ _ _ (s : Int) [.int .i64 (s : Int)] from rfl) (Reps.none _ _))); intro u5 w5 ho hb hg_ hnew_; clear hg_ hnew_; have UB := Aside0.mk (show ∀ k, u5.ownBlock = some k → wst.heap.size ≤ k from Kd.R_base ho); have HU := Aside0.mk (Kd.R_lower (Kd.R_tight rfl ho) (below_size F4.out)); have m1_ := Aside0.mk (blk_below F1.out hb); have m2_ := Aside0.mk (Kd.S_below F2.out hb); have m3_ := Aside0.mk (Kd.R_below F3.out hb); have m4_ := Aside0.mk (below_step F4.out hb); have m5_ := Aside0.mk (Kept.below F5.out hb); have F6 := Aside0.mk hb.size; clear F1 F2 F3 F4 F5 hb ho; have F1 := m1_; have F2 := m2_; have F3 := m3_; have F4 := m4_; have F5 := m5_; clear m1_ m2_ m3_ m4_ m5_; obtain ⟨Au, cu, rfl⟩ := Kd.R_slice HU.out) | (go_at_call 19; refine (prop_n K (some ⟨g, 0, none⟩) cap ext rules.length (fun k => some k = (Value.slice As sets.length cs).ownBlock) (.slice As sets.length cs) sets (fun k => some k = (Value.slice Au 1 cu).ownBlock) (.slice Au 1 cu) [(s : Int)] r w0 w5 HXL.out F4.out ?q1 (Kd.S_reads' F2.out).2.1 (Kd.R_tight rfl F3.out) ?q2 HU.out ?q3 HPR.out).mono ?_; (case q1 => exact S_kept_own F2.out HXL.out (fun k hk h_ => h_.elim (fun e_ => by have h1_ := VSB.out k e_.symm; have h2_ := hk.1; omega) (fun e_ => by have h1_ := UB.out k e_.symm; have h2_ := hk.2; omega))); (case q2 => exact fun k h1 h2 => by have h1_ := VSB.out k h1.symm; have h2_ := UB.out k h2.symm; have h3_ := WST.out; omega); (case q3 => exact fun k h2 h1 => by have h1_ := VSB.out k h1.symm; have h2_ := UB.out k h2.symm; have h3_ := WST.out; omega); rintro e_ w11 ⟨rfl, hy, hb, hk⟩; have HFIN := Aside0.mk (show Sv w0.heap.size gs (.slice (some ⟨g, 0, none⟩) rules.length cap) (.slice As sets.length cs) ext r w11 ∧ Below w0.heap.size w0 w11 ∧ Kept W w11 (fun k => k = gs ∨ some k = (Value.slice As sets.length cs).ownBlock) from ⟨⟨blk_kept F1.out hk (fun h_ => h_.elim (fun e_ => by have h1_ := VSN.out; exact h1_ e_) (fun e_ => by have h1_ := UB.out gs e_.symm; have h2_ := GSL.out; omega)), HS0.out.ge, Kd.S_lower (Kd.S_mono (Kd.S_kept F2.out hk (fun k hk2 h_ => h_.elim (fun e_ => by have h1_ := VSB.out k e_.symm; have h2_ := hk2.1; omega) (fun e_ => by have h1_ := UB.out k e_.symm; have h2_ := hk2.2; omega))) (fun k hk2 e_ => by have h1_ := VSB.out k e_.symm; have h2_ := hk2.1; omega)) (Nat.le_trans HBW0.out.size HBW.out.size), Kd.R_mono hy (fun _ _ => trivial)⟩, hb, F5.out.then_ hk (fun k h_ => h_.elim (fun e_ => .inl (.inr e_)) (fun e_ => .inr (by have h1_ := UB.out k e_.symm; have h2_ := WSW.out; omega)))⟩); clear hy hb hk))
  go_ret
  exact ⟨rfl, _, HFIN.out⟩
end Go.Proofs.Ytgjcembdmohhkaa.Fs
