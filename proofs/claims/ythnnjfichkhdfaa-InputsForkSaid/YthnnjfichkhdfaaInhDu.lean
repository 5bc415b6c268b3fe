/- InputsDurability: the law's walk. No condition. -/
import Derived.Test.YthnnjfichkhdfaaInx1
import Derived.Test.YthnnjfichkhdfaaMp
import Derived.Test.YthnnjfichkhdfaaRg
import Derived.Test.YthnnjfichkhdfaaInhPl
import Derived.Lib.SliceRun
import Derived.BigQuiet
import Derived.DeepKeys4
namespace Go.Proofs.Ythnnjfichkhdfaa.In
open Go.RowKit Go.Proofs.YthnnjfichkhdfaaW.PrintWords Go.Proofs.YthnnjfichkhdfaaW.PrintLast Go.Proofs.YthnnjfichkhdfaaW.PrintMore
open Go.Proofs.Ythnnjfichkhdfaa
set_option linter.unusedVariables false
set_option linter.unusedSimpArgs false
open Go.ChangeMaps (setBlock)
structure S27 where
  f0 : Int
  f1 : Int
  f2 : Int
def z27 : S27 := ⟨0, 0, 0⟩
def k27 : Kd S27 := Kd.iso (Kd.pair (Kd.int .i64) (Kd.pair (Kd.int .i64) (Kd.int .i64))) (fun x : S27 => (x.f0, x.f1, x.f2))
theorem info27 : (Try.prog.info? 27).map (fun i => (i.zero, i.size, i.bytes)) = some (some (.agg #[.int .i64 0, .int .i64 0, .int .i64 0]), 3, 24) := by kernel_rfl
theorem k27_open {w : World} {x : S27} {cs : List Value} (h : k27.K w x cs) : cs = [.int .i64 x.f0, .int .i64 x.f1, .int .i64 x.f2] := by
  obtain ⟨_, _, rfl, rfl, ⟨_, _, rfl, rfl, rfl⟩⟩ := h
  exact rfl
def rd_T27 (xs : List S27) (i : Int) : S27 := xs.getD i.toNat z27
theorem at_T27 {w : World} {A : Option Addr} {n : Nat} {xs : List S27} (h : Kd.C k27 w A n xs) (i : Int) (h0 : 0 ≤ i) (h1 : i < n) : ∃ ad , A = some ad ∧ w.cell? (ad.add (i.toNat * 3)) = some (.int .i64 (rd_T27 xs i).f0) ∧ w.cell? ⟨(ad.add (i.toNat * 3)).block, (ad.add (i.toNat * 3)).off + 1, none⟩ = some (.int .i64 (rd_T27 xs i).f1) ∧ w.cell? ⟨(ad.add (i.toNat * 3)).block, (ad.add (i.toNat * 3)).off + 2, none⟩ = some (.int .i64 (rd_T27 xs i).f2) := by
  obtain ⟨ad, c, e, _, hK, hc0⟩ := Kd.C_get h z27 i h0 h1
  have hc : ∀ j u, c[j]? = some u → w.cell? (ad.add (i.toNat * 3 + j)) = some u := hc0
  obtain rfl := k27_open hK
  exact ⟨ad, e, hc 0 _ rfl, by rw [← add_field _ _ 1 (by omega)]; exact hc 1 _ rfl, by rw [← add_field _ _ 2 (by omega)]; exact hc 2 _ rfl⟩
theorem mod_range (a m : Int) (hm : 0 < m) (hm' : m ≤ 1000000) : ∃ r, glossatorref3_Mod.f a m = some r ∧ 0 ≤ r ∧ r < m := by
  unfold glossatorref3_Mod.f
  rw [if_neg (by omega)]
  have h1 := Int.tmod_lt_of_pos a hm
  by_cases h : Int.tmod a m < 0
  · rw [if_pos h]
    have h2 : -m < Int.tmod a m := Int.lt_tmod_of_pos a hm
    exact ⟨_, rfl, by rw [w64_id (by omega) (by omega)]; omega, by rw [w64_id (by omega) (by omega)]; omega⟩
  · rw [if_neg h]; exact ⟨_, rfl, by omega, h1⟩
theorem wf_small (a : Int) (h0 : 0 ≤ a) (h1 : a < 1000000) : (Lit.int .i64 a).wf = true := by
  simp [Lit.wf, IntKind.wrap]
  rw [show IntKind.i64.min = -9223372036854775808 from rfl]
  omega
/-- what holds of a store behind i changes -/
structure Gd (s : Sto) (i : Nat) : Prop where
  rev : 0 ≤ s.rev ∧ s.rev ≤ i
  a : s.a = s.rev
  b : s.b ≤ s.a ∧ s.c ≤ s.b ∧ 0 ≤ s.c
  cells : ∀ p ∈ s.m, (p.2.du = 0 ∨ p.2.du = 1 ∨ p.2.du = 2) ∧ p.2.ch ≤ lc s p.2.du ∧ p.2.xs.length ≤ 1
theorem gd0 : Gd s0 0 := ⟨by decide, rfl, by decide, by simp [s0]⟩
theorem Gd.old {s : Sto} {i : Nat} (h : Gd s i) (a : Int) : ((old s a).du = 0 ∨ (old s a).du = 1 ∨ (old s a).du = 2) ∧ (old s a).ch ≤ lc s (old s a).du ∧ (old s a).xs.length ≤ 1 := by
  unfold In.old
  cases hg : Mp.aget s.m (0, a, 0) with
  | none =>
    refine ⟨.inl rfl, ?_, by decide⟩
    show (0 : Int) ≤ lc s 0
    show (0 : Int) ≤ s.a
    rw [h.a]; exact h.rev.1
  | some p => exact h.cells _ (Mp.aget_mem hg)
theorem Gd.step {s : Sto} {i : Nat} (h : Gd s i) (a n e : Int) (he : e = 0 ∨ e = 1 ∨ e = 2) : Gd (stepS s a n e) (i + 1) ∧ (stepS s a n e).rev = (if same s a n e = true then s.rev else s.rev + 1) := by
  unfold stepS
  by_cases hs : same s a n e = true
  · rw [if_pos hs, if_pos hs]
    exact ⟨⟨⟨h.rev.1, by have := h.rev.2; omega⟩, h.a, h.b, h.cells⟩, rfl⟩
  · rw [if_neg hs, if_neg hs]
    refine ⟨?_, rfl⟩
    have ho := h.old a
    generalize In.old s a = o at ho
    have hr := h.rev
    have ha := h.a
    have hb := h.b
    obtain ⟨N, hN⟩ : ∃ N, (max o.du e + 1).toNat = N := ⟨_, rfl⟩
    have hN1 : o.du.toNat < N ∧ e.toNat < N ∧ 1 ≤ N ∧ N ≤ 3 := by
      rcases ho.1 with h1 | h1 | h1 <;> rcases he with h2 | h2 | h2 <;> rw [h1, h2] at hN <;> rw [h1, h2] <;> rw [← hN] <;> decide
    rw [hN]
    have hlc : ∀ d, lc s d ≤ lc (bump s N (Mp.aset s.m (0, a, 0) ⟨[n], ⟨#[]⟩, s.rev + 1, e⟩)) d := by
      intro d
      unfold lc bump
      simp only
      repeat' split
      all_goals omega
    refine ⟨⟨by show 0 ≤ s.rev + 1; omega, by show s.rev + 1 ≤ _; omega⟩, ?_, ?_, ?_⟩
    · show (if 0 < N then s.rev + 1 else s.a) = s.rev + 1
      rw [if_pos (by omega)]
    · unfold bump
      simp only
      refine ⟨?_, ?_, ?_⟩ <;> repeat' split
      all_goals omega
    · intro p hp
      rcases aset_sub hp with hp | rfl
      · have h1 := h.cells p hp
        exact ⟨h1.1, Int.le_trans h1.2.1 (hlc _), h1.2.2⟩
      · refine ⟨he, ?_, by simp⟩
        show s.rev + 1 ≤ lc _ e
        rcases he with rfl | rfl | rfl
        · show s.rev + 1 ≤ (if 0 < N then s.rev + 1 else s.a); rw [if_pos (by omega)]; exact Int.le_refl _
        · show s.rev + 1 ≤ (if 1 < N then s.rev + 1 else s.b); rw [if_pos (by have := hN1.2.1; simp at this; omega)]; exact Int.le_refl _
        · show s.rev + 1 ≤ (if 2 < N then s.rev + 1 else s.c); rw [if_pos (by have := hN1.2.1; simp at this; omega)]; exact Int.le_refl _
set_option maxHeartbeats 16000000 in
set_option maxRecDepth 100000 in
theorem du_calls (A0 : Option Addr) (c0 : Nat) (l0 : List S27) (w : World) (hr0 : Kd.C k27 w A0 l0.length l0) (hc0 : l0.length ≤ c0) :
    Calls Try.prog 3 #[.slice A0 l0.length c0] w fun e w' => e = .returned (.bool true) ∧ Below w.heap.size w w' := by
  have hu27 := Try.underlying27
  have hu24 := Try.underlying24
  have hu37 := Try.underlying37
  obtain ⟨ji, hji⟩ : ∃ j_ : Int, (if 40 < (l0.length : Int) then 40 else (l0.length : Int)) = j_ := ⟨_, rfl⟩
  have hji0 : 0 ≤ ji ∧ ji ≤ (l0.length : Int) ∧ ji ≤ 40 := by rw [← hji]; split <;> omega
  obtain ⟨y, hy⟩ : ∃ y_ : List S27, y_ = l0.take ji.toNat := ⟨_, rfl⟩
  have hyl : y.length = ji.toNat := by rw [hy, List.length_take]; omega
  obtain ⟨i05, hi05, _, hsz5, _⟩ := info_parts info27
  have hcut5 := cut_to (P := Try.prog) 22 27 .i64 Try.underlying22 hi05 A0 l0.length c0 ji hji0.1 hji0.2.1 hc0
  have hr5 := Kd.C_take (m := ji.toNat) hr0 (by omega)
  rw [← hy] at hr5
  try rw [← hyl] at hcut5
  try rw [← hyl] at hr5
  have HY := Aside0.mk hr5
  have HYL := Aside0.mk (show y.length ≤ 40 from by omega)
  clear hr0 hy hi05 hsz5 hyl hr5 hc0
  obtain ⟨hji0, hji1, hji2⟩ := hji0
  have HB := Aside0.mk (Below.refl w.heap.size w)
  go_enter Try.func3, Try.ntmps3
  go_wp2_with (first | (go_at_call 5; refine (ex_calls _).mono ?_; rintro e_ w3 ⟨rfl, hb⟩; have n1_ := Aside0.mk (below_step HB.out hb); have n2_ := Aside0.mk (HST.out.below hb); clear HB HST hb; have HB := n1_; have HST := n2_; clear n1_ n2_) | (go_at_call 5; refine (ex_calls _).mono ?_; rintro e_ w1 ⟨rfl, hb⟩; have n1_ := Aside0.mk (below_step HB.out hb); clear HB hb; have HB := n1_; clear n1_) | (go_at_call 6; refine (new_calls _).mono ?_; rintro e_ w2 ⟨gs, gm, rfl, hb, hst, h1, h2, h3, h4⟩; have HLO := Aside0.mk (show (w.heap.size ≤ gs ∧ w.heap.size ≤ gm) ∧ gs < w2.heap.size ∧ gm < w2.heap.size from ⟨⟨Nat.le_trans HB.out.size h1, Nat.le_trans HB.out.size h2⟩, h3, h4⟩); have HST := Aside0.mk (hst (fun k => k = gs ∨ k = gm) (.inl rfl) (.inr rfl)); have n1_ := Aside0.mk (below_step HB.out hb); clear HB hb hst h1 h2 h3 h4; have HB := n1_; clear n1_; have gq0 : (gs == gs) = true := beq_self_eq_true gs))
  obtain ⟨base, n1_⟩ : ∃ base, Aside0 (St (fun k => k = gs ∨ k = gm) base gs gm s0 w3) := ⟨_, HST⟩
  clear HST
  have HST := n1_
  clear n1_
  go_loopg [28, 4] y.length (fun kq v28 v4 w' => ∃ (ii : Int) (s : Sto), v28 = .int .i64 ii ∧ v4 = .int .i64 s.rev ∧ Aside0 (∃ i : Nat, ii = i ∧ i + kq = y.length ∧ Gd s i ∧ St (fun k => k = gs ∨ k = gm) base gs gm s w' ∧ Below w.heap.size w w'))
  case atStart => exact ⟨0, s0, rfl, rfl, ⟨⟨0, rfl, by omega, gd0, HST.out, HB.out⟩⟩⟩
  case round =>
    clear HB HST
    obtain ⟨ii, s, rfl, rfl, HX⟩ := hrel
    obtain ⟨i, hii, hik, hgd, hst0, hb0⟩ := HX.out
    have HGD := Aside0.mk hgd
    have HST := Aside0.mk hst0
    have HB := Aside0.mk hb0
    clear HX hgd hst0 hb0
    have HII := Aside0.mk hii
    clear hii
    by_cases c_ : ii < (y.length : Int)
    · have cz_ : decide (ii < (y.length : Int)) = true := decide_eq_true c_
      obtain ⟨k1, rfl⟩ : ∃ k1, gk = k1 + 1 := ⟨gk - 1, by have := HII.out; omega⟩
      have HIK := Aside0.mk hik
      have HIL := Aside0.mk (show i < 100 from by have := HYL.out; have := HII.out; omega)
      obtain ⟨ad, ea, hx0, hx1, hx2⟩ := at_T27 HY.out ii (by have := HII.out; omega) c_
      cases ea
      obtain ⟨x, hx⟩ : ∃ x, x = rd_T27 y ii := ⟨_, rfl⟩
      rw [← hx] at hx0 hx1 hx2
      have HX0 : ∀ w' : World, Below w.heap.size w w' → w'.cell? (ad.add (ii.toNat * 3)) = some (.int .i64 x.f0) := fun w' hb => (hb.cell (World.block_lt_of_cell? w _ hx0)).trans hx0
      have HX1 : ∀ w' : World, Below w.heap.size w w' → w'.cell? ⟨(ad.add (ii.toNat * 3)).block, (ad.add (ii.toNat * 3)).off + 1, none⟩ = some (.int .i64 x.f1) := fun w' hb => (hb.cell (World.block_lt_of_cell? w _ hx1)).trans hx1
      have HX2 : ∀ w' : World, Below w.heap.size w w' → w'.cell? ⟨(ad.add (ii.toNat * 3)).block, (ad.add (ii.toNat * 3)).off + 2, none⟩ = some (.int .i64 x.f2) := fun w' hb => (hb.cell (World.block_lt_of_cell? w _ hx2)).trans hx2
      have hy0 := HX0 wr HB.out
      have hy1 := HX1 wr HB.out
      have hy2 := HX2 wr HB.out
      obtain ⟨m1, hm1, m10, m11⟩ := mod_range x.f1 5 (by decide) (by decide)
      obtain ⟨m2, hm2, m20, m21⟩ := mod_range x.f2 3 (by decide) (by decide)
      obtain ⟨m3, hm3, m30, m31⟩ := mod_range x.f0 3 (by decide) (by decide)
      have HM1 := Aside0.mk hm1
      have HM2 := Aside0.mk hm2
      have HM3 := Aside0.mk hm3
      have HMB := Aside0.mk (show (0 ≤ m1 ∧ m1 < 5) ∧ (0 ≤ m2 ∧ m2 < 3) ∧ 0 ≤ m3 ∧ m3 < 3 from ⟨⟨m10, m11⟩, ⟨m20, m21⟩, m30, m31⟩)
      have p1 : (0 : Int) ≤ ii := by have := HII.out; omega
      have q1 : ii < (y.length : Int) := c_
      have p1 := eq_true p1
      have q1 := eq_true q1
      clear hm1 hm2 hm3 m10 m11 m20 m21 m30 m31 hx0 hx1 hx2 hx hik c_
      have hst_old := Aside0.mk HST.out.lt
      go_wp2_with (((with_reducible refine gate_dst (N := 6) rfl ?_); refine box_event ?hg (N := 6) ?hd (cs := #[.int .i64 0, .int .i64 0, .int .i64 0]) (t := 27) ?hr ?_; (case hd => rfl); (case hg => rfl); (case hr => first | (go_simp; done) | (go_simp; rfl)); intro g6 hg w5 hbox hb; have BKg6 := Aside0.mk hbox; have GEg6 := Aside0.mk (show wr.heap.size = g6 from hg.symm); have n1_ := Aside0.mk (below_step HB.out hb); have n2_ := Aside0.mk (HST.out.below hb); have HB5 := Aside0.mk hb; have HBR := HB; have HSTR := HST; clear HB HST; have HB := n1_; have HST := n2_; clear n1_ n2_; have hy0 := HX0 w5 HB.out; have hy1 := HX1 w5 HB.out; have hy2 := HX2 w5 HB.out; have hz0 : w5.cell? ⟨g6, 0, none⟩ = some (.int .i64 0) := (blk_cell hbox 0).trans rfl; have hz1 : w5.cell? ⟨g6, 1, none⟩ = some (.int .i64 0) := (blk_cell hbox 1).trans rfl; have hz2 : w5.cell? ⟨g6, 2, none⟩ = some (.int .i64 0) := (blk_cell hbox 2).trans rfl; have hf0 := blk_frozen hbox 0; have hf1 := blk_frozen hbox 1; have hf2 := blk_frozen hbox 2; clear hbox hb hg))
      have NE6 := Aside0.mk (show g6 ≠ gs ∧ g6 ≠ gm from ⟨blk_ne BKg6.out HST.out.box (by decide), fun e_ => by have h1_ := HST.out.lt.2; have h2_ := hst_old.out.2; have h3_ := GEg6.out; omega⟩)
      have n0_ := Aside0.mk (show Below wr.heap.size wr (((w5.setCell ⟨g6, 0, none⟩ (.int .i64 x.f0)).setCell ⟨g6, 1, none⟩ (.int .i64 x.f1)).setCell ⟨g6, 2, none⟩ (.int .i64 x.f2)) from below_set (below_set (below_set HB5.out (Nat.le_of_eq GEg6.out)) (Nat.le_of_eq GEg6.out)) (Nat.le_of_eq GEg6.out))
      have n1_ := Aside0.mk (show Below w.heap.size w (((w5.setCell ⟨g6, 0, none⟩ (.int .i64 x.f0)).setCell ⟨g6, 1, none⟩ (.int .i64 x.f1)).setCell ⟨g6, 2, none⟩ (.int .i64 x.f2)) from below_set (below_set (below_set HB.out (Nat.le_trans HBR.out.size (Nat.le_of_eq GEg6.out))) (Nat.le_trans HBR.out.size (Nat.le_of_eq GEg6.out))) (Nat.le_trans HBR.out.size (Nat.le_of_eq GEg6.out)))
      have n2_ := Aside0.mk (HSTR.out.below n0_.out)
      have BK6 := Aside0.mk (show ((((w5.setCell ⟨g6, 0, none⟩ (.int .i64 x.f0)).setCell ⟨g6, 1, none⟩ (.int .i64 x.f1)).setCell ⟨g6, 2, none⟩ (.int .i64 x.f2))).heap[g6]? = some (.cells #[.int .i64 x.f0, .int .i64 x.f1, .int .i64 x.f2] 27 (0, 0)) from by refine blk_put (cs := #[.int .i64 x.f0, .int .i64 x.f1, .int .i64 0]) ?_ 2 _ rfl; refine blk_put (cs := #[.int .i64 x.f0, .int .i64 0, .int .i64 0]) ?_ 1 _ rfl; refine blk_put (cs := #[.int .i64 0, .int .i64 0, .int .i64 0]) ?_ 0 _ rfl; exact BKg6.out)
      clear HB HST HSTR HB5 BKg6 hy0 hy1 hy2 HBR hz0 hz1 hz2 hf0 hf1 hf2
      generalize (((w5.setCell ⟨g6, 0, none⟩ (.int .i64 x.f0)).setCell ⟨g6, 1, none⟩ (.int .i64 x.f1)).setCell ⟨g6, 2, none⟩ (.int .i64 x.f2)) = w6 at n0_ n1_ n2_ BK6 ⊢
      have HB := n1_
      have HST := n2_
      clear n0_ n1_ n2_
      refine start_ (n := 18) (S := fun w' => w'.cell? ⟨g6, 0, none⟩ = some (.int .i64 x.f0) ∧ w'.cell? ⟨g6, 1, none⟩ = some (.int .i64 x.f1) ∧ w'.cell? ⟨g6, 2, none⟩ = some (.int .i64 x.f2)) (ds := []) #[false, false, false, false, false, false, false, false, false, false, false, false, false, false, false, false, false, false] (by kernel_rfl) rfl rfl ⟨(blk_cell (blk_drew BK6.out) 0).trans rfl, (blk_cell (blk_drew BK6.out) 1).trans rfl, (blk_cell (blk_drew BK6.out) 2).trans rfl⟩ (fun hHeld => ?_)
      have n1_ := Aside0.mk (below_drew1 HB.out)
      have n2_ := Aside0.mk (HST.out.below (below_drew1 (Below.refl _ _)))
      have n3_ := Aside0.mk (blk_drew BK6.out)
      clear HB HST BK6
      generalize w6.drew = w7 at n1_ n2_ n3_ hHeld ⊢
      have HB := n1_
      have HST := n2_
      have BK6 := n3_
      clear n1_ n2_ n3_
      refine pure_ (i := 0) (N := some 33) (v := ?_) (a' := ?_) #[true, false, false, false, false, false, false, false, false, false, false, false, false, false, false, false, false, false] rfl rfl (by kernel_rfl) (fun _ _ _ h => h) (Or.inl ⟨by rfl, ?_⟩) ?_ ?_
      rotate_left
      · intro w'
        go_simp
        with_reducible rfl
      rotate_left
      · simp only [Act.put, List.setIfInBounds_toArray, List.set_cons_zero, List.set_cons_succ, i64_w, i32_w]
        rfl
      refine pure_ (i := 1) (N := some 34) (v := ?_) (a' := ?_) #[true, true, false, false, false, false, false, false, false, false, false, false, false, false, false, false, false, false] rfl rfl (by kernel_rfl) (fun _ _ _ h => h) (Or.inl ⟨by rfl, ?_⟩) ?_ ?_
      rotate_left
      · intro w'
        go_simp
        with_reducible rfl
      rotate_left
      · simp only [Act.put, List.setIfInBounds_toArray, List.set_cons_zero, List.set_cons_succ, i64_w, i32_w]
        rfl
      refine pure_ (i := 5) (N := some 38) (v := ?_) (a' := ?_) #[true, true, false, false, false, true, false, false, false, false, false, false, false, false, false, false, false, false] rfl rfl (by kernel_rfl) (fun _ _ _ h => h) (Or.inl ⟨by rfl, ?_⟩) ?_ ?_
      rotate_left
      · intro w'
        go_simp
        with_reducible rfl
      rotate_left
      · simp only [Act.put, List.setIfInBounds_toArray, List.set_cons_zero, List.set_cons_succ, i64_w, i32_w]
        rfl
      refine pure_ (i := 9) (N := some 42) (v := ?_) (a' := ?_) #[true, true, false, false, false, true, false, false, false, true, false, false, false, false, false, false, false, false] rfl rfl (by kernel_rfl) (fun _ _ _ h => h) (Or.inl ⟨by rfl, ?_⟩) ?_ ?_
      rotate_left
      · intro w'
        go_simp
        with_reducible rfl
      rotate_left
      · simp only [Act.put, List.setIfInBounds_toArray, List.set_cons_zero, List.set_cons_succ, i64_w, i32_w]
        rfl
      refine take_ (i := 2) (N := some 35) (v := ?_) (a' := ?_) #[true, true, true, false, false, true, false, false, false, true, false, false, false, false, false, false, false, false] rfl rfl (by kernel_rfl) (fun _ _ _ h => h) (Or.inl ⟨by rfl, ?_⟩) hHeld ?_ ?_
      rotate_left
      · rintro w' ⟨s0, s1, s2⟩
        go_simp
        with_reducible rfl
      rotate_left
      · simp only [Act.put, List.setIfInBounds_toArray, List.set_cons_zero, List.set_cons_succ, i64_w, i32_w]
        rfl
      refine take_ (i := 6) (N := some 39) (v := ?_) (a' := ?_) #[true, true, true, false, false, true, true, false, false, true, false, false, false, false, false, false, false, false] rfl rfl (by kernel_rfl) (fun _ _ _ h => h) (Or.inl ⟨by rfl, ?_⟩) hHeld ?_ ?_
      rotate_left
      · rintro w' ⟨s0, s1, s2⟩
        go_simp
        with_reducible rfl
      rotate_left
      · simp only [Act.put, List.setIfInBounds_toArray, List.set_cons_zero, List.set_cons_succ, i64_w, i32_w]
        rfl
      refine take_ (i := 10) (N := some 43) (v := ?_) (a' := ?_) #[true, true, true, false, false, true, true, false, false, true, true, false, false, false, false, false, false, false] rfl rfl (by kernel_rfl) (fun _ _ _ h => h) (Or.inl ⟨by rfl, ?_⟩) hHeld ?_ ?_
      rotate_left
      · rintro w' ⟨s0, s1, s2⟩
        go_simp
        with_reducible rfl
      rotate_left
      · simp only [Act.put, List.setIfInBounds_toArray, List.set_cons_zero, List.set_cons_succ, i64_w, i32_w]
        rfl
      refine one_ (i := 3) (N := some 36) #[true, true, true, true, false, true, true, false, false, true, true, false, false, false, false, false, false, false] rfl rfl (by kernel_rfl) (by decide) (fun K hK => ?_)
      refine goes_ Try.func9 (by kernel_rfl) rfl #[.int .i64 x.f1, .int .i64 5] (by rfl) rfl rfl (by (try simp only [List.map_toArray, List.map_cons, List.map_nil]); first | done | rfl) ?_
      refine (glossatorref3_Mod.calls _ _ m1 _ HM1.out).mono ?_
      rintro e_ w8 ⟨rfl, hd_⟩
      refine ⟨_, rfl, ?_⟩
      have hb := hd_.below
      clear hd_
      have n1_ := Aside0.mk (below_step HB.out hb)
      have n2_ := Aside0.mk (HST.out.below hb)
      have n3_ := Aside0.mk (blk_below BK6.out hb)
      clear HB HST BK6
      have HB := n1_
      have HST := n2_
      have BK6 := n3_
      clear n1_ n2_ n3_
      refine hK.out _ _ ⟨(blk_cell BK6.out 0).trans rfl, (blk_cell BK6.out 1).trans rfl, (blk_cell BK6.out 2).trans rfl⟩ (fun hHeld => ?_)
      clear hK K
      refine norm_ (a' := ?_) ?_ ?_
      rotate_left
      · show Act.put _ (some 36) _ = _
        simp only [Act.put, List.setIfInBounds_toArray, List.set_cons_zero, List.set_cons_succ, i64_w, i32_w]
        rfl
      refine one_ (i := 4) (N := some 37) #[true, true, true, true, true, true, true, false, false, true, true, false, false, false, false, false, false, false] rfl rfl (by kernel_rfl) (by decide) (fun K hK => ?_)
      refine goes_ Try.func8 (by kernel_rfl) rfl #[.int .i64 m1] (by rfl) rfl rfl (by (try simp only [List.map_toArray, List.map_cons, List.map_nil]); first | done | rfl) ?_
      refine (glossatorkeep3_inputKey.calls m1 0 m1 0 _ rfl).mono ?_
      rintro e_ w9 ⟨rfl, hb⟩
      refine ⟨_, rfl, ?_⟩
      have n1_ := Aside0.mk (below_step HB.out hb)
      have n2_ := Aside0.mk (HST.out.below hb)
      have n3_ := Aside0.mk (blk_below BK6.out hb)
      clear HB HST BK6
      have HB := n1_
      have HST := n2_
      have BK6 := n3_
      clear n1_ n2_ n3_
      refine hK.out _ _ ⟨(blk_cell BK6.out 0).trans rfl, (blk_cell BK6.out 1).trans rfl, (blk_cell BK6.out 2).trans rfl⟩ (fun hHeld => ?_)
      clear hK K
      refine norm_ (a' := ?_) ?_ ?_
      rotate_left
      · show Act.put _ (some 37) _ = _
        simp only [Act.put, List.setIfInBounds_toArray, List.set_cons_zero, List.set_cons_succ, i64_w, i32_w]
        rfl
      refine one_ (i := 7) (N := some 40) #[true, true, true, true, true, true, true, true, false, true, true, false, false, false, false, false, false, false] rfl rfl (by kernel_rfl) (by decide) (fun K hK => ?_)
      refine goes_ Try.func9 (by kernel_rfl) rfl #[.int .i64 x.f2, .int .i64 3] (by rfl) rfl rfl (by (try simp only [List.map_toArray, List.map_cons, List.map_nil]); first | done | rfl) ?_
      refine (glossatorref3_Mod.calls _ _ m2 _ HM2.out).mono ?_
      rintro e_ w10 ⟨rfl, hd_⟩
      refine ⟨_, rfl, ?_⟩
      have hb := hd_.below
      clear hd_
      have n1_ := Aside0.mk (below_step HB.out hb)
      have n2_ := Aside0.mk (HST.out.below hb)
      have n3_ := Aside0.mk (blk_below BK6.out hb)
      clear HB HST BK6
      have HB := n1_
      have HST := n2_
      have BK6 := n3_
      clear n1_ n2_ n3_
      refine hK.out _ _ ⟨(blk_cell BK6.out 0).trans rfl, (blk_cell BK6.out 1).trans rfl, (blk_cell BK6.out 2).trans rfl⟩ (fun hHeld => ?_)
      clear hK K
      refine norm_ (a' := ?_) ?_ ?_
      rotate_left
      · show Act.put _ (some 40) _ = _
        simp only [Act.put, List.setIfInBounds_toArray, List.set_cons_zero, List.set_cons_succ, i64_w, i32_w]
        rfl
      refine one_ (i := 8) (N := some 41) #[true, true, true, true, true, true, true, true, true, true, true, false, false, false, false, false, false, false] rfl rfl (by kernel_rfl) (by decide) (fun K hK => ?_)
      refine goes_ Try.func10 (by kernel_rfl) rfl #[.int .i64 m2] (by rfl) rfl rfl (by (try simp only [List.map_toArray, List.map_cons, List.map_nil]); first | done | rfl) ?_
      refine (glossatorkeep3_number.calls m2 [m2] ⟨#[]⟩ _ rfl).mono ?_
      rintro e_ w11 ⟨vn, rfl, hrn, hb⟩
      refine ⟨_, rfl, ?_⟩
      obtain ⟨An, cn, rfl⟩ := Kd.R_slice hrn
      have HRN := Aside0.mk (Kd.R_mono (Kd.R_lower (base' := 0) (Kd.R_bound hrn) (Nat.zero_le _)) (fun k hk => show w10.heap.size ≤ k from hk.2.1))
      have HG10 := Aside0.mk HST.out.lt
      clear hrn
      have n1_ := Aside0.mk (below_step HB.out hb)
      have n2_ := Aside0.mk (HST.out.below hb)
      have n3_ := Aside0.mk (blk_below BK6.out hb)
      clear HB HST BK6
      have HB := n1_
      have HST := n2_
      have BK6 := n3_
      clear n1_ n2_ n3_
      refine hK.out _ _ ⟨(blk_cell BK6.out 0).trans rfl, (blk_cell BK6.out 1).trans rfl, (blk_cell BK6.out 2).trans rfl⟩ (fun hHeld => ?_)
      clear hK K
      refine norm_ (a' := ?_) ?_ ?_
      rotate_left
      · show Act.put _ (some 41) _ = _
        simp only [Act.put, List.setIfInBounds_toArray, List.set_cons_zero, List.set_cons_succ, i64_w, i32_w]
        rfl
      refine one_ (i := 11) (N := some 44) #[true, true, true, true, true, true, true, true, true, true, true, true, false, false, false, false, false, false] rfl rfl (by kernel_rfl) (by decide) (fun K hK => ?_)
      refine goes_ Try.func9 (by kernel_rfl) rfl #[.int .i64 x.f0, .int .i64 3] (by rfl) rfl rfl (by (try simp only [List.map_toArray, List.map_cons, List.map_nil]); first | done | rfl) ?_
      refine (glossatorref3_Mod.calls _ _ m3 _ HM3.out).mono ?_
      rintro e_ w12 ⟨rfl, hd_⟩
      refine ⟨_, rfl, ?_⟩
      have hb := hd_.below
      clear hd_
      have hb12 := Aside0.mk hb
      have n1_ := Aside0.mk (below_step HB.out hb)
      have n2_ := Aside0.mk (HST.out.below hb)
      have n3_ := Aside0.mk (blk_below BK6.out hb)
      clear HB HST BK6
      have HB := n1_
      have HST := n2_
      have BK6 := n3_
      clear n1_ n2_ n3_
      refine hK.out _ _ ⟨(blk_cell BK6.out 0).trans rfl, (blk_cell BK6.out 1).trans rfl, (blk_cell BK6.out 2).trans rfl⟩ (fun hHeld => ?_)
      clear hK K
      refine norm_ (a' := ?_) ?_ ?_
      rotate_left
      · show Act.put _ (some 44) _ = _
        simp only [Act.put, List.setIfInBounds_toArray, List.set_cons_zero, List.set_cons_succ, i64_w, i32_w]
        rfl
      refine one_ (i := 12) (N := some 45) #[true, true, true, true, true, true, true, true, true, true, true, true, true, false, false, false, false, false] rfl rfl (by kernel_rfl) (by decide) (fun K hK => ?_)
      refine goes_ Try.func7 (by kernel_rfl) rfl #[.pointer (some ⟨gs, 0, none⟩), .agg #[.int .i64 0, .int .i64 m1, .int .i64 0], .agg #[.slice An [m2].length cn, .string ⟨#[]⟩], .int .i64 m3] (by rfl) rfl rfl (by (try simp only [List.map_toArray, List.map_cons, List.map_nil]); first | done | rfl) ?_
      have L12 := Aside0.mk HST.out.lt
      refine (set_num (fun k => k = gs ∨ k = gm) base gs gm s w12 HST.out m1 (wf_small m1 HMB.out.1.1 (by have h_ := HMB.out.1.2; omega)) An cn m2 (Kd.R_mono (Kd.R_below HRN.out hb12.out) (fun k hk e_ => by have h_ := HG10.out.1; omega)) m3 HMB.out.2.2.1 (by have h_ := HMB.out.2.2.2; omega) (fun k hk e_ => by have h_ := L12.out; omega) (by have h_ := HGD.out.rev; have h2_ := HIL.out; omega) (by rcases (HGD.out.old m1).1 with h_ | h_ | h_ <;> rw [h_] <;> decide)).mono ?_
      rintro e_ w13 ⟨rfl, hst, hkp⟩
      refine ⟨_, rfl, ?_⟩
      have n1_ := Aside0.mk (hkp.below HB.out HB.out.size (fun k hk => by have h_ := HLO.out; omega))
      have n3_ := Aside0.mk ((hkp.block g6 (blk_lt BK6.out) (fun e_ => e_.elim (fun e_ => NE6.out.1 e_) (fun e_ => NE6.out.2 e_))).trans BK6.out)
      clear HB HST BK6
      have HB := n1_
      have HST := Aside0.mk hst
      have BK6 := n3_
      clear n1_ n3_ hst hkp
      refine hK.out _ _ ⟨(blk_cell BK6.out 0).trans rfl, (blk_cell BK6.out 1).trans rfl, (blk_cell BK6.out 2).trans rfl⟩ (fun hHeld => ?_)
      clear hK K
      refine norm_ (a' := ?_) ?_ ?_
      rotate_left
      · show Act.put _ (some 45) _ = _
        simp only [Act.put, List.setIfInBounds_toArray, List.set_cons_zero, List.set_cons_succ, i64_w, i32_w]
        rfl
      refine pure_ (i := 13) (N := some 32) (v := ?_) (a' := ?_) #[true, true, true, true, true, true, true, true, true, true, true, true, true, true, false, false, false, false] rfl rfl (by kernel_rfl) (fun _ _ _ h => h) (Or.inl ⟨by rfl, ?_⟩) ?_ ?_
      rotate_left
      · intro w'
        go_simp
        with_reducible rfl
      rotate_left
      · simp only [Act.put, List.setIfInBounds_toArray, List.set_cons_zero, List.set_cons_succ, i64_w, i32_w]
        rfl
      refine pure_ (i := 14) (N := some 46) (v := ?_) (a' := ?_) #[true, true, true, true, true, true, true, true, true, true, true, true, true, true, true, false, false, false] rfl rfl (by kernel_rfl) (fun _ _ _ h => h) (Or.inl ⟨by rfl, ?_⟩) ?_ ?_
      rotate_left
      · intro w'
        go_simp
        with_reducible rfl
      rotate_left
      · simp only [Act.put, List.setIfInBounds_toArray, List.set_cons_zero, List.set_cons_succ, i64_w, i32_w]
        rfl
      refine pure_ (i := 15) (N := some 47) (v := ?_) (a' := ?_) #[true, true, true, true, true, true, true, true, true, true, true, true, true, true, true, true, false, false] rfl rfl (by kernel_rfl) (fun _ _ _ h => h) (Or.inl ⟨by rfl, ?_⟩) ?_ ?_
      rotate_left
      · intro w'
        go_simp
        with_reducible rfl
      rotate_left
      · simp only [Act.put, List.setIfInBounds_toArray, List.set_cons_zero, List.set_cons_succ, i64_w, i32_w]
        rfl
      refine pure_ (i := 16) (N := some 7) (v := ?_) (a' := ?_) #[true, true, true, true, true, true, true, true, true, true, true, true, true, true, true, true, true, false] rfl rfl (by kernel_rfl) (fun _ _ _ h => h) (Or.inl ⟨by rfl, ?_⟩) ?_ ?_
      rotate_left
      · intro w'
        go_simp
        with_reducible rfl
      rotate_left
      · simp only [Act.put, List.setIfInBounds_toArray, List.set_cons_zero, List.set_cons_succ, i64_w, i32_w]
        rfl
      refine pure_ (i := 17) (N := some 8) (v := ?_) (a' := ?_) #[true, true, true, true, true, true, true, true, true, true, true, true, true, true, true, true, true, true] rfl rfl (by kernel_rfl) (fun _ _ _ h => h) (Or.inl ⟨by rfl, ?_⟩) ?_ ?_
      rotate_left
      · intro w'
        go_simp
        with_reducible rfl
      rotate_left
      · simp only [Act.put, List.setIfInBounds_toArray, List.set_cons_zero, List.set_cons_succ, i64_w, i32_w]
        rfl
      refine done_ (by kernel_rfl) ?_
      obtain ⟨hgd1, hrv⟩ := HGD.out.step m1 m2 m3 (by have h_ := HMB.out.2.2; omega)
      obtain ⟨s1, hs1⟩ : ∃ s1, s1 = stepS s m1 m2 m3 := ⟨_, rfl⟩
      rw [← hs1] at hgd1 hrv HST
      have HG1 := Aside0.mk hgd1
      have lq0 : lc s1 0 = s1.rev := HG1.out.a
      have t1 : decide (lc s1 1 > s1.rev) = false := decide_eq_false (by show ¬ s1.b > s1.rev; have h_ := HG1.out.b; have h2_ := HG1.out.a; omega)
      have t1b : decide (s1.rev < lc s1 1) = false := t1
      have t2 : decide (lc s1 2 > lc s1 1) = false := decide_eq_false (by show ¬ s1.c > s1.b; have h_ := HG1.out.b; omega)
      have t2b : decide (lc s1 1 < lc s1 2) = false := t2
      have hwi : wrap64 (ii + 1) = ii + 1 := w64_id (by have h_ := HII.out; omega) (by have h_ := HIL.out; have h2_ := HII.out; omega)
      have hwib : IntKind.i64.wrap (ii + 1) = ii + 1 := (i64_w _).trans hwi
      clear hs1 hgd1
      cases hsm : same s m1 m2 m3 with
      | true =>
        rw [hsm] at hrv
        rw [if_pos rfl] at hrv
        rw [← hrv]
        simp only [Bool.not_true]
        clear hrv
        go_wp2_with (first | (go_at_call 11; refine (rev_calls (fun k => k = gs ∨ k = gm) base gs gm s1 _ HST.out).mono ?_; rintro e_ wv ⟨rfl, hb⟩; have n1_ := Aside0.mk (below_step HB.out hb); have n2_ := Aside0.mk (HST.out.below hb); clear HB HST hb; have HB := n1_; have HST := n2_; clear n1_ n2_) | (go_at_call 12; refine (lc_calls (fun k => k = gs ∨ k = gm) base gs gm s1 _ HST.out _ (by decide)).mono ?_; (try rw [lq0]); rintro e_ wl ⟨rfl, hb⟩; have n1_ := Aside0.mk (below_step HB.out hb); have n2_ := Aside0.mk (HST.out.below hb); clear HB HST hb; have HB := n1_; have HST := n2_; clear n1_ n2_))
        go_loopg [79] 5 (fun kq v79 w' => ∃ j : Nat, v79 = .int .i64 j ∧ Aside0 (j + kq = 5 ∧ St (fun k => k = gs ∨ k = gm) base gs gm s1 w' ∧ Below w.heap.size w w'))
        case atStart => exact ⟨0, rfl, ⟨by omega, HST.out, HB.out⟩⟩
        case round =>
          clear HB HST
          obtain ⟨j, rfl, HX⟩ := hrel
          obtain ⟨hjk, hst0, hb0⟩ := HX.out
          have HST := Aside0.mk hst0
          have HB := Aside0.mk hb0
          clear HX hst0 hb0
          by_cases d_ : j < 5
          · have dz_ : decide ((j : Int) < 5) = true := decide_eq_true (by omega)
            obtain ⟨k2, hk2⟩ : ∃ k2, gk = k2 + 1 := ⟨gk - 1, by omega⟩
            have HJ1 := Aside0.mk (show j + 1 + k2 = 5 ∧ k2 < gk from ⟨by omega, by omega⟩)
            have HJ := Aside0.mk (show (0 : Int) ≤ (j : Int) ∧ (j : Int) < 1000000 from ⟨by omega, by omega⟩)
            have t3 : decide ((old s1 (j : Int)).ch > lc s1 (old s1 (j : Int)).du) = false := decide_eq_false (by have h_ := (HG1.out.old (j : Int)).2.1; omega)
            have t3b : decide (lc s1 (old s1 (j : Int)).du < (old s1 (j : Int)).ch) = false := t3
            have hwj : wrap64 ((j : Int) + 1) = ((j + 1 : Nat) : Int) := by rw [w64_id (by omega) (by omega)]; omega
            have hwjb : IntKind.i64.wrap ((j : Int) + 1) = ((j + 1 : Nat) : Int) := (i64_w _).trans hwj
            have HJK := Aside0.mk hjk
            clear hjk
            go_wp2_with (first | (go_at_call 8; refine (glossatorkeep3_inputKey.calls j 0 j 0 _ rfl).mono ?_; rintro e_ wk ⟨rfl, hb⟩; have n1_ := Aside0.mk (below_step HB.out hb); have n2_ := Aside0.mk (HST.out.below hb); clear HB HST hb; have HB := n1_; have HST := n2_; clear n1_ n2_) | (go_at_call 13; refine (get_calls (fun k => k = gs ∨ k = gm) base gs gm s1 _ HST.out 0 (j : Int) 0 (key0 j (wf_small j HJ.out.1 HJ.out.2)) (by have h_ := (HG1.out.old j).2.2; unfold old at h_; omega)).mono ?_; rw [show (Mp.aget s1.m (0, (j : Int), 0)).getD z0 = old s1 j from rfl]; rintro e_ wg ⟨vg, rfl, hrg, hb⟩; obtain ⟨Ag, cg, rfl⟩ := Kd.R_slice hrg; clear hrg; have n1_ := Aside0.mk (below_step HB.out hb); have n2_ := Aside0.mk (HST.out.below hb); clear HB HST hb; have HB := n1_; have HST := n2_; clear n1_ n2_) | ((with_reducible refine gate_dst (N := 10) rfl ?_); refine box_event ?hg (N := 10) ?hd (cs := #[.slice none 0 0, .string (⟨#[]⟩ : ByteArray)]) (t := 37) ?hr ?_; (case hd => rfl); (case hg => rfl); (case hr => first | (go_simp; done) | (go_simp; rfl)); intro g10 hg wa hbox hb; have BKg10 := Aside0.mk hbox; have GEg10 := Aside0.mk (show wg.heap.size = g10 from hg.symm); have n1_ := Aside0.mk (below_step HB.out hb); have n2_ := Aside0.mk (HST.out.below hb); have HBA := Aside0.mk hb; have HBG := HB; have HSG := HST; clear HB HST; have HB := n1_; have HST := n2_; clear n1_ n2_; have hg0 : wa.cell? ⟨g10, 0, none⟩ = some (.slice none 0 0) := (blk_cell hbox 0).trans rfl; have hg1 : wa.cell? ⟨g10, 1, none⟩ = some (.string ⟨#[]⟩) := (blk_cell hbox 1).trans rfl; have hg2 := blk_frozen hbox 0; have hg3 := blk_frozen hbox 1; clear hbox hb hg) | (go_at_call 12; have HB2 := Aside0.mk (below_step HBG.out (show Below wg.heap.size wg ((wa.setCell ⟨g10, 0, none⟩ (.slice Ag (old s1 j).xs.length cg)).setCell ⟨g10, 1, none⟩ (.string (old s1 j).t)) from below_set (below_set HBA.out (Nat.le_of_eq GEg10.out)) (Nat.le_of_eq GEg10.out))); have HS2 := Aside0.mk (HSG.out.below (show Below wg.heap.size wg ((wa.setCell ⟨g10, 0, none⟩ (.slice Ag (old s1 j).xs.length cg)).setCell ⟨g10, 1, none⟩ (.string (old s1 j).t)) from below_set (below_set HBA.out (Nat.le_of_eq GEg10.out)) (Nat.le_of_eq GEg10.out))); refine (lc_calls (fun k => k = gs ∨ k = gm) base gs gm s1 _ HS2.out (old s1 j).du (HG1.out.old j).1).mono ?_; rintro e_ wz ⟨rfl, hb⟩; have n1_ := Aside0.mk (below_step HB2.out hb); have n2_ := Aside0.mk (HS2.out.below hb); clear HB HST hb HB2 HS2 HBG HSG HBA hg0 hg1 hg2 hg3; have HB := n1_; have HST := n2_; clear n1_ n2_))
            go_roundg k2
            case measure => exact HJ1.out.2
            case rel => exact ⟨j + 1, rfl, ⟨HJ1.out.1, HST.out, HB.out⟩⟩
          · have dz_ : decide ((j : Int) < 5) = false := decide_eq_false (by omega)
            go_wp2
            go_roundg k1
            case measure => omega
            case rel => exact ⟨ii + 1, s1, rfl, rfl, ⟨⟨i + 1, by have := HII.out; omega, by have := HIK.out; omega, HG1.out, HST.out, HB.out⟩⟩⟩
      | false =>
        rw [hsm] at hrv
        rw [if_neg (by simp)] at hrv
        have hw3 : wrap64 (s.rev + 1) = s1.rev := by rw [hrv]; exact w64_id (by have h_ := HGD.out.rev; omega) (by have h_ := HGD.out.rev; have h2_ := HIL.out; omega)
        have hw3b : IntKind.i64.wrap (s.rev + 1) = s1.rev := (i64_w _).trans hw3
        simp only [Bool.not_false]
        clear hrv
        go_wp2_with (first | (go_at_call 11; refine (rev_calls (fun k => k = gs ∨ k = gm) base gs gm s1 _ HST.out).mono ?_; rintro e_ wv ⟨rfl, hb⟩; have n1_ := Aside0.mk (below_step HB.out hb); have n2_ := Aside0.mk (HST.out.below hb); clear HB HST hb; have HB := n1_; have HST := n2_; clear n1_ n2_) | (go_at_call 12; refine (lc_calls (fun k => k = gs ∨ k = gm) base gs gm s1 _ HST.out _ (by decide)).mono ?_; (try rw [lq0]); rintro e_ wl ⟨rfl, hb⟩; have n1_ := Aside0.mk (below_step HB.out hb); have n2_ := Aside0.mk (HST.out.below hb); clear HB HST hb; have HB := n1_; have HST := n2_; clear n1_ n2_))
        go_loopg [79] 5 (fun kq v79 w' => ∃ j : Nat, v79 = .int .i64 j ∧ Aside0 (j + kq = 5 ∧ St (fun k => k = gs ∨ k = gm) base gs gm s1 w' ∧ Below w.heap.size w w'))
        case atStart => exact ⟨0, rfl, ⟨by omega, HST.out, HB.out⟩⟩
        case round =>
          clear HB HST
          obtain ⟨j, rfl, HX⟩ := hrel
          obtain ⟨hjk, hst0, hb0⟩ := HX.out
          have HST := Aside0.mk hst0
          have HB := Aside0.mk hb0
          clear HX hst0 hb0
          by_cases d_ : j < 5
          · have dz_ : decide ((j : Int) < 5) = true := decide_eq_true (by omega)
            obtain ⟨k2, hk2⟩ : ∃ k2, gk = k2 + 1 := ⟨gk - 1, by omega⟩
            have HJ1 := Aside0.mk (show j + 1 + k2 = 5 ∧ k2 < gk from ⟨by omega, by omega⟩)
            have HJ := Aside0.mk (show (0 : Int) ≤ (j : Int) ∧ (j : Int) < 1000000 from ⟨by omega, by omega⟩)
            have t3 : decide ((old s1 (j : Int)).ch > lc s1 (old s1 (j : Int)).du) = false := decide_eq_false (by have h_ := (HG1.out.old (j : Int)).2.1; omega)
            have t3b : decide (lc s1 (old s1 (j : Int)).du < (old s1 (j : Int)).ch) = false := t3
            have hwj : wrap64 ((j : Int) + 1) = ((j + 1 : Nat) : Int) := by rw [w64_id (by omega) (by omega)]; omega
            have hwjb : IntKind.i64.wrap ((j : Int) + 1) = ((j + 1 : Nat) : Int) := (i64_w _).trans hwj
            have HJK := Aside0.mk hjk
            clear hjk
            go_wp2_with (first | (go_at_call 8; refine (glossatorkeep3_inputKey.calls j 0 j 0 _ rfl).mono ?_; rintro e_ wk ⟨rfl, hb⟩; have n1_ := Aside0.mk (below_step HB.out hb); have n2_ := Aside0.mk (HST.out.below hb); clear HB HST hb; have HB := n1_; have HST := n2_; clear n1_ n2_) | (go_at_call 13; refine (get_calls (fun k => k = gs ∨ k = gm) base gs gm s1 _ HST.out 0 (j : Int) 0 (key0 j (wf_small j HJ.out.1 HJ.out.2)) (by have h_ := (HG1.out.old j).2.2; unfold old at h_; omega)).mono ?_; rw [show (Mp.aget s1.m (0, (j : Int), 0)).getD z0 = old s1 j from rfl]; rintro e_ wg ⟨vg, rfl, hrg, hb⟩; obtain ⟨Ag, cg, rfl⟩ := Kd.R_slice hrg; clear hrg; have n1_ := Aside0.mk (below_step HB.out hb); have n2_ := Aside0.mk (HST.out.below hb); clear HB HST hb; have HB := n1_; have HST := n2_; clear n1_ n2_) | ((with_reducible refine gate_dst (N := 10) rfl ?_); refine box_event ?hg (N := 10) ?hd (cs := #[.slice none 0 0, .string (⟨#[]⟩ : ByteArray)]) (t := 37) ?hr ?_; (case hd => rfl); (case hg => rfl); (case hr => first | (go_simp; done) | (go_simp; rfl)); intro g10 hg wa hbox hb; have BKg10 := Aside0.mk hbox; have GEg10 := Aside0.mk (show wg.heap.size = g10 from hg.symm); have n1_ := Aside0.mk (below_step HB.out hb); have n2_ := Aside0.mk (HST.out.below hb); have HBA := Aside0.mk hb; have HBG := HB; have HSG := HST; clear HB HST; have HB := n1_; have HST := n2_; clear n1_ n2_; have hg0 : wa.cell? ⟨g10, 0, none⟩ = some (.slice none 0 0) := (blk_cell hbox 0).trans rfl; have hg1 : wa.cell? ⟨g10, 1, none⟩ = some (.string ⟨#[]⟩) := (blk_cell hbox 1).trans rfl; have hg2 := blk_frozen hbox 0; have hg3 := blk_frozen hbox 1; clear hbox hb hg) | (go_at_call 12; have HB2 := Aside0.mk (below_step HBG.out (show Below wg.heap.size wg ((wa.setCell ⟨g10, 0, none⟩ (.slice Ag (old s1 j).xs.length cg)).setCell ⟨g10, 1, none⟩ (.string (old s1 j).t)) from below_set (below_set HBA.out (Nat.le_of_eq GEg10.out)) (Nat.le_of_eq GEg10.out))); have HS2 := Aside0.mk (HSG.out.below (show Below wg.heap.size wg ((wa.setCell ⟨g10, 0, none⟩ (.slice Ag (old s1 j).xs.length cg)).setCell ⟨g10, 1, none⟩ (.string (old s1 j).t)) from below_set (below_set HBA.out (Nat.le_of_eq GEg10.out)) (Nat.le_of_eq GEg10.out))); refine (lc_calls (fun k => k = gs ∨ k = gm) base gs gm s1 _ HS2.out (old s1 j).du (HG1.out.old j).1).mono ?_; rintro e_ wz ⟨rfl, hb⟩; have n1_ := Aside0.mk (below_step HB2.out hb); have n2_ := Aside0.mk (HS2.out.below hb); clear HB HST hb HB2 HS2 HBG HSG HBA hg0 hg1 hg2 hg3; have HB := n1_; have HST := n2_; clear n1_ n2_))
            go_roundg k2
            case measure => exact HJ1.out.2
            case rel => exact ⟨j + 1, rfl, ⟨HJ1.out.1, HST.out, HB.out⟩⟩
          · have dz_ : decide ((j : Int) < 5) = false := decide_eq_false (by omega)
            go_wp2
            go_roundg k1
            case measure => omega
            case rel => exact ⟨ii + 1, s1, rfl, rfl, ⟨⟨i + 1, by have := HII.out; omega, by have := HIK.out; omega, HG1.out, HST.out, HB.out⟩⟩⟩
    · have cz_ : decide (ii < (y.length : Int)) = false := decide_eq_false c_
      go_wp2
      go_ret
      exact ⟨rfl, HB.out⟩
end Go.Proofs.Ythnnjfichkhdfaa.In
