/- InputsFork: the law's walk. No condition. -/
import Derived.Test.YthnnjfichkhdfaaInx1
import Derived.Test.YthnnjfichkhdfaaMp
import Derived.Test.YthnnjfichkhdfaaRg
import Derived.Test.YthnnjfichkhdfaaInhDu
import Derived.Test.YthnnjfichkhdfaaInhFo
import Derived.Lib.SliceRun
import Derived.BigQuiet
import Derived.DeepKeys4
namespace Go.Proofs.Ythnnjfichkhdfaa.In
open Go.RowKit Go.Proofs.YthnnjfichkhdfaaW.PrintWords Go.Proofs.YthnnjfichkhdfaaW.PrintLast Go.Proofs.YthnnjfichkhdfaaW.PrintMore
open Go.Proofs.Ythnnjfichkhdfaa
set_option linter.unusedVariables false
set_option linter.unusedSimpArgs false
open Go.ChangeMaps (setBlock)
structure S37 where
  f0 : List Int
  f1 : ByteArray
def z37 : S37 := ⟨[], ⟨#[]⟩⟩
def k37 : Kd S37 := Kd.iso (Kd.pair (Kd.slice 3 (Kd.int .i64)) Kd.string) (fun x : S37 => (x.f0, x.f1))
theorem info37 : (Try.prog.info? 37).map (fun i => (i.zero, i.size, i.bytes)) = some (some (.agg #[.slice none 0 0, .string ⟨#[]⟩]), 2, 40) := by kernel_rfl
theorem k37_open {w : World} {x : S37} {cs : List Value} (h : k37.K w x cs) : ∃ A1 c1, cs = [.slice A1 x.f0.length c1, .string x.f1] ∧ x.f0.length ≤ c1 ∧ (Kd.int .i64).C w A1 x.f0.length x.f0 := by
  obtain ⟨_, _, rfl, ⟨A1, c1, rfl, l1, g1⟩, rfl⟩ := h
  exact ⟨A1, c1, rfl, l1, g1⟩
theorem k37_mkM (w : World) (base : Nat) (ok : Nat → Prop) (x : S37) {v1 : Value} (g1 : (Kd.int .i64).R 3 w base ok v1 x.f0) : k37.M w base ok x [v1, .string x.f1] := ⟨[v1], [.string x.f1], rfl, ⟨v1, rfl, g1⟩, rfl⟩
def rd_T37 (xs : List S37) (i : Int) : S37 := xs.getD i.toNat z37
theorem at_T37 {w : World} {A : Option Addr} {n : Nat} {xs : List S37} (h : Kd.C k37 w A n xs) (i : Int) (h0 : 0 ≤ i) (h1 : i < n) : ∃ ad A1 c1, A = some ad ∧ w.cell? (ad.add (i.toNat * 2)) = some (.slice A1 (rd_T37 xs i).f0.length c1) ∧ w.cell? ⟨(ad.add (i.toNat * 2)).block, (ad.add (i.toNat * 2)).off + 1, none⟩ = some (.string (rd_T37 xs i).f1) ∧ (rd_T37 xs i).f0.length ≤ c1 ∧ (Kd.int .i64).C w A1 (rd_T37 xs i).f0.length (rd_T37 xs i).f0 := by
  obtain ⟨ad, c, e, _, hK, hc0⟩ := Kd.C_get h z37 i h0 h1
  have hc : ∀ j u, c[j]? = some u → w.cell? (ad.add (i.toNat * 2 + j)) = some u := hc0
  obtain ⟨A1, c1, rfl, l1, g1⟩ := k37_open hK
  exact ⟨ad, A1, c1, e, hc 0 _ rfl, by rw [← add_field _ _ 1 (by omega)]; exact hc 1 _ rfl, l1, g1⟩
theorem St.grown {X : Nat → Prop} {base gs gm : Nat} {s : Sto} {W W' : World} (h : St X base gs gm s W) {b : Nat} {ok : Nat → Prop} {u : Value} {us : List S37} (hu : Kd.R k37 37 W b ok u us) (hok : ∀ k, ok k → k ≠ gs ∧ k ≠ gm) (hg : W.grownBy W' u.ownBlock) : St X base gs gm s W' := by
  obtain ⟨l, h0, h1, h2⟩ := h.tab
  refine ⟨(hg.block gs h.lt.1 (fun e => (hok gs (hu.1 gs e.symm)).1 rfl)).trans h.box, ⟨l, h0, h1.keep (hg.block gm h.lt.2 (fun e => (hok gm (hu.1 gm e.symm)).2 rfl)), fun q hq => ?_⟩, h.xs, h.lo⟩
  refine Kd.R_mono (Kd.R_step (Kd.R_bound (h2 q hq)) (fun k hk hlt => hg.block k hlt ?_)) (fun k hk => hk.1)
  obtain ⟨q', hq', cells, hc⟩ := hk.2.2.2
  have : q' = 3 := by
    rcases List.mem_cons.1 hq' with h | h
    · exact h
    · cases h
  subst this
  exact Kd.R_ne hu hc (by decide)
/-- the values of the first j inputs -/
def vals (s : Sto) (j : Nat) : List S37 := (List.range j).map fun i : Nat => ⟨(old s (i : Int)).xs, (old s (i : Int)).t⟩
theorem vals_succ (s : Sto) (j : Nat) : vals s (j + 1) = vals s j ++ [⟨(old s (j : Int)).xs, (old s (j : Int)).t⟩] := by unfold vals; rw [List.range_succ, List.map_append]; rfl
theorem vals_len (s : Sto) (j : Nat) : (vals s j).length = j := by unfold vals; simp
theorem vals_get (s : Sto) (n j : Nat) (h : j < n) : rd_T37 (vals s n) (j : Int) = ⟨(old s (j : Int)).xs, (old s (j : Int)).t⟩ := by
  unfold rd_T37 vals
  simp [h]
theorem eqs_loop (xs : List Int) (hx : xs.length ≤ 1000) : ∀ (d i k : Nat), i + d = xs.length → d < k → slices_Equal_int_int.l0 k xs xs (xs.length : Int) (i : Int) = some true := by
  intro d
  induction d with
  | zero =>
    intro i k hi hk
    obtain ⟨k, rfl⟩ : ∃ m, k = m + 1 := ⟨k - 1, by omega⟩
    simp only [slices_Equal_int_int.l0]
    rw [if_neg (by omega)]
  | succ d ih =>
    intro i k hi hk
    obtain ⟨k, rfl⟩ : ∃ m, k = m + 1 := ⟨k - 1, by omega⟩
    simp only [slices_Equal_int_int.l0]
    rw [if_pos (by omega), if_pos (by omega), if_pos (by omega), if_pos (by omega), if_pos trivial, w64_id (by omega) (by omega), show ((i : Int) + 1) = ((i + 1 : Nat) : Int) from by omega]
    exact ih (i + 1) k (by omega) (by omega)
theorem eq_self (xs : List Int) (t : ByteArray) (hx : xs.length ≤ 1) : inputs_Equal.f 5 xs t xs t = some true := by
  unfold inputs_Equal.f
  rw [if_pos rfl]
  unfold slices_Equal_int_int.f
  rw [if_pos rfl]
  have := eqs_loop xs (by omega) xs.length 0 5 (by omega) (by omega)
  rw [show ((0 : Nat) : Int) = 0 from rfl] at this
  rw [this]; rfl
set_option maxHeartbeats 32000000 in
set_option maxRecDepth 100000 in
theorem fk_calls (A0 : Option Addr) (c0 : Nat) (l0 : List S27) (a1 : Int) (w : World) (hr0 : Kd.C k27 w A0 l0.length l0) (hc0 : l0.length ≤ c0) :
    Calls Try.prog 4 #[.slice A0 l0.length c0, .int .i64 a1] w fun e w' => e = .returned (.bool true) ∧ Below w.heap.size w w' := by
  have hu27 := Try.underlying27
  have hu24 := Try.underlying24
  have hu37 := Try.underlying37
  have hu44 := Try.underlying44
  obtain ⟨ji, hji⟩ : ∃ j_ : Int, (if 30 < (l0.length : Int) then 30 else (l0.length : Int)) = j_ := ⟨_, rfl⟩
  have hji0 : 0 ≤ ji ∧ ji ≤ (l0.length : Int) ∧ ji ≤ 30 := by rw [← hji]; split <;> omega
  obtain ⟨y, hy⟩ : ∃ y_ : List S27, y_ = l0.take ji.toNat := ⟨_, rfl⟩
  have hyl : y.length = ji.toNat := by rw [hy, List.length_take]; omega
  obtain ⟨i05, hi05, _, hsz5, _⟩ := info_parts info27
  have hcut5 := cut_to (P := Try.prog) 22 27 .i64 Try.underlying22 hi05 A0 l0.length c0 ji hji0.1 hji0.2.1 hc0
  have hr5 := Kd.C_take (m := ji.toNat) hr0 (by omega)
  rw [← hy] at hr5
  try rw [← hyl] at hcut5
  try rw [← hyl] at hr5
  have HY := Aside0.mk hr5
  have HYL := Aside0.mk (show y.length ≤ 30 from by omega)
  obtain ⟨at_, hat_, at0, at1⟩ := mod_range a1 ((y.length : Int) + 1) (by omega) (by omega)
  have HAT := Aside0.mk hat_
  have hwy : wrap64 ((y.length : Int) + 1) = (y.length : Int) + 1 := w64_id (by omega) (by omega)
  have hwyb : IntKind.i64.wrap ((y.length : Int) + 1) = (y.length : Int) + 1 := (i64_w _).trans hwy
  have hc1 : y.length ≤ c0 := by omega
  have hcutA := cut_to (P := Try.prog) 22 27 .i64 Try.underlying22 hi05 A0 y.length c0 at_ at0 (by omega) hc1
  have hcutB := cut_from (P := Try.prog) 22 27 .i64 Try.underlying22 hi05 3 hsz5 A0 y.length c0 at_ at0 (by omega)
  have hz1 := Kd.C_take (m := at_.toNat) hr5 (by omega)
  have hz2 := Kd.C_drop (m := at_.toNat) (c := c0) hr5 (by omega) hc1
  rw [show k27.sz = 3 from rfl] at hz2
  obtain ⟨A2, hA2⟩ : ∃ A2, A2 = (if c0 = at_.toNat then A0 else A0.map (·.add (at_.toNat * 3))) := ⟨_, rfl⟩
  rw [← hA2] at hz2 hcutB
  clear hA2
  obtain ⟨z1, hz1e⟩ : ∃ z1, z1 = y.take at_.toNat := ⟨_, rfl⟩
  obtain ⟨z2, hz2e⟩ : ∃ z2, z2 = y.drop at_.toNat := ⟨_, rfl⟩
  have l1 : z1.length = at_.toNat := by rw [hz1e, List.length_take]; omega
  have l2 : z2.length = y.length - at_.toNat := by rw [hz2e, List.length_drop]
  rw [← hz1e] at hz1
  rw [← hz2e] at hz2
  rw [← l1] at hcutA
  rw [← l2] at hcutB
  have HZ1 := Aside0.mk hz1
  have HZ2 := Aside0.mk hz2
  have HYL := Aside0.mk (show z1.length + z2.length ≤ 30 from by have := HYL.out; omega)
  clear hr0 hy hi05 hsz5 hyl hr5 hc0 hz1 hz2 hz1e hz2e hat_ at0 at1 l1 l2 hc1
  obtain ⟨hji0, hji1, hji2⟩ := hji0
  have HB := Aside0.mk (Below.refl w.heap.size w)
  go_enter Try.func4, Try.ntmps4
  go_wp2_with (first | (go_at_call 5; refine (ex_calls _).mono ?_; rintro e_ w3 ⟨rfl, hb⟩; have n1_ := Aside0.mk (below_step HB.out hb); have n2_ := Aside0.mk (HST.out.below hb); clear HB HST hb; have HB := n1_; have HST := n2_; clear n1_ n2_) | (go_at_call 5; refine (ex_calls _).mono ?_; rintro e_ w1 ⟨rfl, hb⟩; have n1_ := Aside0.mk (below_step HB.out hb); clear HB hb; have HB := n1_; clear n1_) | (go_at_call 6; refine (new_calls _).mono ?_; rintro e_ w2 ⟨gs, gm, rfl, hb, hst, h1, h2, h3, h4⟩; have HLO := Aside0.mk (show (w.heap.size ≤ gs ∧ w.heap.size ≤ gm) ∧ gs < w2.heap.size ∧ gm < w2.heap.size from ⟨⟨Nat.le_trans HB.out.size h1, Nat.le_trans HB.out.size h2⟩, h3, h4⟩); have HST := Aside0.mk (hst (fun k => k = gs ∨ k = gm) (.inl rfl) (.inr rfl)); have n1_ := Aside0.mk (below_step HB.out hb); clear HB hb hst h1 h2 h3 h4; have HB := n1_; clear n1_; have gq0 : (gs == gs) = true := beq_self_eq_true gs) | (go_at_call 9; refine (glossatorref3_Mod.calls a1 ((y.length : Int) + 1) at_ _ HAT.out).mono ?_; rintro e_ wm ⟨rfl, hd_⟩; have hb := hd_.below; clear hd_; have n1_ := Aside0.mk (below_step HB.out hb); have n2_ := Aside0.mk (HST.out.below hb); clear HB HST hb; have HB := n1_; have HST := n2_; clear n1_ n2_))
  obtain ⟨base, n1_⟩ : ∃ base, Aside0 (St (fun k => k = gs ∨ k = gm) base gs gm s0 wm) := ⟨_, HST⟩
  clear HST
  have HST := n1_
  clear n1_
  go_loopg [44] z1.length (fun kq vi w' => ∃ ii : Int, vi = .int .i64 ii ∧ Aside0 (∃ (i : Nat) (s : Sto), ii = i ∧ i + kq = z1.length ∧ Gd s (i + 0) ∧ 0 ≤ s.rev ∧ St (fun k => k = gs ∨ k = gm) base gs gm s w' ∧ Below w.heap.size w w'))
  case atStart => exact ⟨0, rfl, ⟨⟨0, s0, rfl, by omega, gd0, Int.le_refl _, HST.out, HB.out⟩⟩⟩
  case round =>
    clear HB HST
    obtain ⟨ii, rfl, HX⟩ := hrel
    obtain ⟨i, s, hii, hik, hgd, hrv0, hst0, hb0⟩ := HX.out
    have HGD := Aside0.mk hgd
    have HST := Aside0.mk hst0
    have HB := Aside0.mk hb0
    have HRV := Aside0.mk hrv0
    have HII := Aside0.mk hii
    clear HX hgd hst0 hb0 hii hrv0
    by_cases c_ : ii < (z1.length : Int)
    · have cz_ : decide (ii < (z1.length : Int)) = true := decide_eq_true c_
      obtain ⟨k1, rfl⟩ : ∃ k1, gk = k1 + 1 := ⟨gk - 1, by have := HII.out; omega⟩
      have HIK := Aside0.mk hik
      have HIL := Aside0.mk (show i + 0 < 100 from by have := HYL.out; have := HII.out; omega)
      obtain ⟨ad, ea, hx0, hx1, hx2⟩ := at_T27 HZ1.out ii (by have := HII.out; omega) c_
      cases ea
      obtain ⟨x, hx⟩ : ∃ x, x = rd_T27 z1 ii := ⟨_, rfl⟩
      rw [← hx] at hx0 hx1 hx2
      have HX0 : ∀ w' : World, Below w.heap.size w w' → w'.cell? (ad.add (ii.toNat * 3)) = some (.int .i64 x.f0) := fun w' hb => (hb.cell (World.block_lt_of_cell? w _ hx0)).trans hx0
      have HX1 : ∀ w' : World, Below w.heap.size w w' → w'.cell? ⟨(ad.add (ii.toNat * 3)).block, (ad.add (ii.toNat * 3)).off + 1, none⟩ = some (.int .i64 x.f1) := fun w' hb => (hb.cell (World.block_lt_of_cell? w _ hx1)).trans hx1
      have HX2 : ∀ w' : World, Below w.heap.size w w' → w'.cell? ⟨(ad.add (ii.toNat * 3)).block, (ad.add (ii.toNat * 3)).off + 2, none⟩ = some (.int .i64 x.f2) := fun w' hb => (hb.cell (World.block_lt_of_cell? w _ hx2)).trans hx2
      have hy0 := HX0 wr HB.out
      have hy1 := HX1 wr HB.out
      have hy2 := HX2 wr HB.out
      obtain ⟨m1, hm1, m10, m11⟩ := mod_range x.f1 4 (by decide) (by decide)
      obtain ⟨m3, hm3, m30, m31⟩ := mod_range x.f0 3 (by decide) (by decide)
      have HM1 := Aside0.mk hm1
      have HM3 := Aside0.mk hm3
      have HMB := Aside0.mk (show (0 ≤ m1 ∧ m1 < 4) ∧ 0 ≤ m3 ∧ m3 < 3 from ⟨⟨m10, m11⟩, m30, m31⟩)
      have p1 : (0 : Int) ≤ ii := by have := HII.out; omega
      have q1 : ii < (z1.length : Int) := c_
      have p1 := eq_true p1
      have q1 := eq_true q1
      have hwi : wrap64 (ii + 1) = ii + 1 := w64_id (by have h_ := HII.out; omega) (by have h_ := HIL.out; have h2_ := HII.out; omega)
      have hwib : IntKind.i64.wrap (ii + 1) = ii + 1 := (i64_w _).trans hwi
      obtain ⟨hgd1, hrv⟩ := HGD.out.step m1 x.f2 m3 (by have h_ := HMB.out.2; omega)
      have HG1 := Aside0.mk hgd1
      have HR1 := Aside0.mk (show 0 ≤ (stepS s m1 x.f2 m3).rev from by rw [hrv]; have h_ := HRV.out; split <;> omega)
      have HIN := Aside0.mk (show i + 1 + k1 = z1.length ∧ ii + 1 = ((i + 1 : Nat) : Int) from ⟨by omega, by have h_ := HII.out; omega⟩)
      clear hm1 hm3 m10 m11 m30 m31 hx0 hx1 hx2 hx hik c_ hgd1 hrv
      go_wp2_with (((with_reducible refine gate_dst (N := 7) rfl ?_); refine box_event ?hg (N := 7) ?hd (cs := #[.int .i64 0, .int .i64 0, .int .i64 0]) (t := 27) ?hr ?_; (case hd => rfl); (case hg => rfl); (case hr => first | (go_simp; done) | (go_simp; rfl)); intro g6 hg w5 hbox hb; have BKg6 := Aside0.mk hbox; have GEg6 := Aside0.mk (show wr.heap.size = g6 from hg.symm); have HB5 := Aside0.mk hb; have HB_ := Aside0.mk (below_step HB.out hb); have hy0 := HX0 w5 HB_.out; have hy1 := HX1 w5 HB_.out; have hy2 := HX2 w5 HB_.out; have hz0 : w5.cell? ⟨g6, 0, none⟩ = some (.int .i64 0) := (blk_cell hbox 0).trans rfl; have hz1 : w5.cell? ⟨g6, 1, none⟩ = some (.int .i64 0) := (blk_cell hbox 1).trans rfl; have hz2 : w5.cell? ⟨g6, 2, none⟩ = some (.int .i64 0) := (blk_cell hbox 2).trans rfl; have hf0 := blk_frozen hbox 0; have hf1 := blk_frozen hbox 1; have hf2 := blk_frozen hbox 2; clear hbox hb hg))
      have NE6 := Aside0.mk (show g6 ≠ gs ∧ g6 ≠ gm from ⟨fun e_ => by have h1_ := HST.out.lt.1; have h3_ := GEg6.out; omega, fun e_ => by have h1_ := HST.out.lt.2; have h3_ := GEg6.out; omega⟩)
      have hb : Below wr.heap.size wr (((w5.setCell ⟨g6, 0, none⟩ (.int .i64 x.f0)).setCell ⟨g6, 1, none⟩ (.int .i64 x.f1)).setCell ⟨g6, 2, none⟩ (.int .i64 x.f2)) := below_set (below_set (below_set HB5.out (Nat.le_of_eq GEg6.out)) (Nat.le_of_eq GEg6.out)) (Nat.le_of_eq GEg6.out)
      have BK6 := Aside0.mk (show ((((w5.setCell ⟨g6, 0, none⟩ (.int .i64 x.f0)).setCell ⟨g6, 1, none⟩ (.int .i64 x.f1)).setCell ⟨g6, 2, none⟩ (.int .i64 x.f2))).heap[g6]? = some (.cells #[.int .i64 x.f0, .int .i64 x.f1, .int .i64 x.f2] 27 (0, 0)) from by refine blk_put (cs := #[.int .i64 x.f0, .int .i64 x.f1, .int .i64 0]) ?_ 2 _ rfl; refine blk_put (cs := #[.int .i64 x.f0, .int .i64 0, .int .i64 0]) ?_ 1 _ rfl; refine blk_put (cs := #[.int .i64 0, .int .i64 0, .int .i64 0]) ?_ 0 _ rfl; exact BKg6.out)
      have n0_ := Aside0.mk (below_step HB.out hb)
      have n1_ := Aside0.mk (HST.out.below hb)
      clear HB HST
      have HB := n0_
      have HST := n1_
      clear n0_ n1_
      clear hb HB5 HB_ BKg6 hy0 hy1 hy2 hz0 hz1 hz2 hf0 hf1 hf2
      generalize (((w5.setCell ⟨g6, 0, none⟩ (.int .i64 x.f0)).setCell ⟨g6, 1, none⟩ (.int .i64 x.f1)).setCell ⟨g6, 2, none⟩ (.int .i64 x.f2)) = w6 at *
      refine start_ (n := 12) (S := fun w' => w'.cell? ⟨g6, 0, none⟩ = some (.int .i64 x.f0) ∧ w'.cell? ⟨g6, 1, none⟩ = some (.int .i64 x.f1) ∧ w'.cell? ⟨g6, 2, none⟩ = some (.int .i64 x.f2)) (ds := []) #[false, false, false, false, false, false, false, false, false, false, false, false] (by kernel_rfl) rfl rfl ⟨(blk_cell (blk_drew BK6.out) 0).trans rfl, (blk_cell (blk_drew BK6.out) 1).trans rfl, (blk_cell (blk_drew BK6.out) 2).trans rfl⟩ (fun hHeld => ?_)
      have hb := below_drew1 (Below.refl w6.heap.size w6)
      have n0_ := Aside0.mk (below_step HB.out hb)
      have n1_ := Aside0.mk (HST.out.below hb)
      have n2_ := Aside0.mk (blk_below BK6.out hb)
      clear HB HST BK6
      have HB := n0_
      have HST := n1_
      have BK6 := n2_
      clear n0_ n1_ n2_
      clear hb
      generalize w6.drew = w7 at *
      refine pure_ (i := 0) (N := some 48) (v := ?_) (a' := ?_) #[true, false, false, false, false, false, false, false, false, false, false, false] rfl rfl (by kernel_rfl) (fun _ _ _ h => h) (Or.inl ⟨by rfl, ?_⟩) ?_ ?_
      rotate_left
      · intro w'
        go_simp
        with_reducible rfl
      rotate_left
      · simp only [Act.put, List.setIfInBounds_toArray, List.set_cons_zero, List.set_cons_succ, i64_w, i32_w]
        rfl
      refine pure_ (i := 1) (N := some 49) (v := ?_) (a' := ?_) #[true, true, false, false, false, false, false, false, false, false, false, false] rfl rfl (by kernel_rfl) (fun _ _ _ h => h) (Or.inl ⟨by rfl, ?_⟩) ?_ ?_
      rotate_left
      · intro w'
        go_simp
        with_reducible rfl
      rotate_left
      · simp only [Act.put, List.setIfInBounds_toArray, List.set_cons_zero, List.set_cons_succ, i64_w, i32_w]
        rfl
      refine pure_ (i := 5) (N := some 53) (v := ?_) (a' := ?_) #[true, true, false, false, false, true, false, false, false, false, false, false] rfl rfl (by kernel_rfl) (fun _ _ _ h => h) (Or.inl ⟨by rfl, ?_⟩) ?_ ?_
      rotate_left
      · intro w'
        go_simp
        with_reducible rfl
      rotate_left
      · simp only [Act.put, List.setIfInBounds_toArray, List.set_cons_zero, List.set_cons_succ, i64_w, i32_w]
        rfl
      refine pure_ (i := 8) (N := some 56) (v := ?_) (a' := ?_) #[true, true, false, false, false, true, false, false, true, false, false, false] rfl rfl (by kernel_rfl) (fun _ _ _ h => h) (Or.inl ⟨by rfl, ?_⟩) ?_ ?_
      rotate_left
      · intro w'
        go_simp
        with_reducible rfl
      rotate_left
      · simp only [Act.put, List.setIfInBounds_toArray, List.set_cons_zero, List.set_cons_succ, i64_w, i32_w]
        rfl
      refine take_ (i := 2) (N := some 50) (v := ?_) (a' := ?_) #[true, true, true, false, false, true, false, false, true, false, false, false] rfl rfl (by kernel_rfl) (fun _ _ _ h => h) (Or.inl ⟨by rfl, ?_⟩) hHeld ?_ ?_
      rotate_left
      · rintro w' ⟨s0, s1, s2⟩
        go_simp
        with_reducible rfl
      rotate_left
      · simp only [Act.put, List.setIfInBounds_toArray, List.set_cons_zero, List.set_cons_succ, i64_w, i32_w]
        rfl
      refine take_ (i := 6) (N := some 54) (v := ?_) (a' := ?_) #[true, true, true, false, false, true, true, false, true, false, false, false] rfl rfl (by kernel_rfl) (fun _ _ _ h => h) (Or.inl ⟨by rfl, ?_⟩) hHeld ?_ ?_
      rotate_left
      · rintro w' ⟨s0, s1, s2⟩
        go_simp
        with_reducible rfl
      rotate_left
      · simp only [Act.put, List.setIfInBounds_toArray, List.set_cons_zero, List.set_cons_succ, i64_w, i32_w]
        rfl
      refine take_ (i := 9) (N := some 57) (v := ?_) (a' := ?_) #[true, true, true, false, false, true, true, false, true, true, false, false] rfl rfl (by kernel_rfl) (fun _ _ _ h => h) (Or.inl ⟨by rfl, ?_⟩) hHeld ?_ ?_
      rotate_left
      · rintro w' ⟨s0, s1, s2⟩
        go_simp
        with_reducible rfl
      rotate_left
      · simp only [Act.put, List.setIfInBounds_toArray, List.set_cons_zero, List.set_cons_succ, i64_w, i32_w]
        rfl
      refine one_ (i := 3) (N := some 51) #[true, true, true, true, false, true, true, false, true, true, false, false] rfl rfl (by kernel_rfl) (by decide) (fun K hK => ?_)
      refine goes_ Try.func9 (by kernel_rfl) rfl #[.int .i64 x.f1, .int .i64 4] (by rfl) rfl rfl (by (try simp only [List.map_toArray, List.map_cons, List.map_nil]); first | done | rfl) ?_
      refine (glossatorref3_Mod.calls _ _ _ _ HM1.out).mono ?_
      rintro e_ w8 ⟨rfl, hd_⟩
      refine ⟨_, rfl, ?_⟩
      have hb := hd_.below
      clear hd_
      have n0_ := Aside0.mk (below_step HB.out hb)
      have n1_ := Aside0.mk (HST.out.below hb)
      have n2_ := Aside0.mk (blk_below BK6.out hb)
      clear HB HST BK6
      have HB := n0_
      have HST := n1_
      have BK6 := n2_
      clear n0_ n1_ n2_
      refine hK.out _ _ ⟨(blk_cell BK6.out 0).trans rfl, (blk_cell BK6.out 1).trans rfl, (blk_cell BK6.out 2).trans rfl⟩ (fun hHeld => ?_)
      clear hK K
      refine norm_ (a' := ?_) ?_ ?_
      rotate_left
      · show Act.put _ (some 51) _ = _
        simp only [Act.put, List.setIfInBounds_toArray, List.set_cons_zero, List.set_cons_succ, i64_w, i32_w]
        rfl
      refine one_ (i := 4) (N := some 52) #[true, true, true, true, true, true, true, false, true, true, false, false] rfl rfl (by kernel_rfl) (by decide) (fun K hK => ?_)
      refine goes_ Try.func8 (by kernel_rfl) rfl #[.int .i64 m1] (by rfl) rfl rfl (by (try simp only [List.map_toArray, List.map_cons, List.map_nil]); first | done | rfl) ?_
      refine (glossatorkeep3_inputKey.calls m1 0 m1 0 _ rfl).mono ?_
      rintro e_ w9 ⟨rfl, hb⟩
      refine ⟨_, rfl, ?_⟩
      have n0_ := Aside0.mk (below_step HB.out hb)
      have n1_ := Aside0.mk (HST.out.below hb)
      have n2_ := Aside0.mk (blk_below BK6.out hb)
      clear HB HST BK6
      have HB := n0_
      have HST := n1_
      have BK6 := n2_
      clear n0_ n1_ n2_
      refine hK.out _ _ ⟨(blk_cell BK6.out 0).trans rfl, (blk_cell BK6.out 1).trans rfl, (blk_cell BK6.out 2).trans rfl⟩ (fun hHeld => ?_)
      clear hK K
      refine norm_ (a' := ?_) ?_ ?_
      rotate_left
      · show Act.put _ (some 52) _ = _
        simp only [Act.put, List.setIfInBounds_toArray, List.set_cons_zero, List.set_cons_succ, i64_w, i32_w]
        rfl
      refine one_ (i := 7) (N := some 55) #[true, true, true, true, true, true, true, true, true, true, false, false] rfl rfl (by kernel_rfl) (by decide) (fun K hK => ?_)
      refine goes_ Try.func10 (by kernel_rfl) rfl #[.int .i64 x.f2] (by rfl) rfl rfl (by (try simp only [List.map_toArray, List.map_cons, List.map_nil]); first | done | rfl) ?_
      refine (glossatorkeep3_number.calls x.f2 [x.f2] ⟨#[]⟩ _ rfl).mono ?_
      rintro e_ w11 ⟨vn, rfl, hrn, hb⟩
      refine ⟨_, rfl, ?_⟩
      obtain ⟨An, cn, rfl⟩ := Kd.R_slice hrn
      have HRN := Aside0.mk (Kd.R_mono (Kd.R_lower (base' := 0) (Kd.R_bound hrn) (Nat.zero_le _)) (fun k hk => show w9.heap.size ≤ k from hk.2.1))
      have HG10 := Aside0.mk HST.out.lt
      clear hrn
      have n0_ := Aside0.mk (below_step HB.out hb)
      have n1_ := Aside0.mk (HST.out.below hb)
      have n2_ := Aside0.mk (blk_below BK6.out hb)
      clear HB HST BK6
      have HB := n0_
      have HST := n1_
      have BK6 := n2_
      clear n0_ n1_ n2_
      refine hK.out _ _ ⟨(blk_cell BK6.out 0).trans rfl, (blk_cell BK6.out 1).trans rfl, (blk_cell BK6.out 2).trans rfl⟩ (fun hHeld => ?_)
      clear hK K
      refine norm_ (a' := ?_) ?_ ?_
      rotate_left
      · show Act.put _ (some 55) _ = _
        simp only [Act.put, List.setIfInBounds_toArray, List.set_cons_zero, List.set_cons_succ, i64_w, i32_w]
        rfl
      refine one_ (i := 10) (N := some 58) #[true, true, true, true, true, true, true, true, true, true, true, false] rfl rfl (by kernel_rfl) (by decide) (fun K hK => ?_)
      refine goes_ Try.func9 (by kernel_rfl) rfl #[.int .i64 x.f0, .int .i64 3] (by rfl) rfl rfl (by (try simp only [List.map_toArray, List.map_cons, List.map_nil]); first | done | rfl) ?_
      refine (glossatorref3_Mod.calls _ _ _ _ HM3.out).mono ?_
      rintro e_ w12 ⟨rfl, hd_⟩
      refine ⟨_, rfl, ?_⟩
      have hb := hd_.below
      clear hd_
      have hb12 := Aside0.mk hb
      have n0_ := Aside0.mk (below_step HB.out hb)
      have n1_ := Aside0.mk (HST.out.below hb)
      have n2_ := Aside0.mk (blk_below BK6.out hb)
      clear HB HST BK6
      have HB := n0_
      have HST := n1_
      have BK6 := n2_
      clear n0_ n1_ n2_
      refine hK.out _ _ ⟨(blk_cell BK6.out 0).trans rfl, (blk_cell BK6.out 1).trans rfl, (blk_cell BK6.out 2).trans rfl⟩ (fun hHeld => ?_)
      clear hK K
      refine norm_ (a' := ?_) ?_ ?_
      rotate_left
      · show Act.put _ (some 58) _ = _
        simp only [Act.put, List.setIfInBounds_toArray, List.set_cons_zero, List.set_cons_succ, i64_w, i32_w]
        rfl
      refine one_ (i := 11) (N := some 59) #[true, true, true, true, true, true, true, true, true, true, true, true] rfl rfl (by kernel_rfl) (by decide) (fun K hK => ?_)
      refine goes_ Try.func7 (by kernel_rfl) rfl #[.pointer (some ⟨gs, 0, none⟩), .agg #[.int .i64 0, .int .i64 m1, .int .i64 0], .agg #[.slice An [x.f2].length cn, .string ⟨#[]⟩], .int .i64 m3] (by rfl) rfl rfl (by (try simp only [List.map_toArray, List.map_cons, List.map_nil]); first | done | rfl) ?_
      refine (set_num (fun k => k = gs ∨ k = gm) base gs gm s w12 HST.out m1 (wf_small m1 HMB.out.1.1 (by have h_ := HMB.out.1.2; omega)) An cn x.f2 (Kd.R_mono (Kd.R_below HRN.out hb12.out) (fun k hk e_ => by have h_ := HG10.out.1; omega)) m3 HMB.out.2.1 (by have h_ := HMB.out.2.2; omega) (fun k hk e_ => by have h_ := HST.out.lt; rcases (show k = gs ∨ k = gm from e_) with e_ | e_ <;> omega) (by have h_ := HGD.out.rev; have h2_ := HIL.out; omega) (by rcases (HGD.out.old m1).1 with h_ | h_ | h_ <;> rw [h_] <;> decide)).mono ?_
      rintro e_ w13 ⟨rfl, hst, hkp⟩
      refine ⟨_, rfl, ?_⟩
      have n1_ := Aside0.mk (hkp.below HB.out HB.out.size (fun k hk => by have h_ := HLO.out; omega))
      have n3_ := Aside0.mk ((hkp.block g6 (blk_lt BK6.out) (fun e_ => e_.elim (fun e_ => NE6.out.1 e_) (fun e_ => NE6.out.2 e_))).trans BK6.out)
      clear HB HST BK6
      have HB := n1_
      have HST := Aside0.mk hst
      have BK6 := n3_
      clear n1_ n3_ hst hkp

      refine hK.out _ _ ⟨(blk_cell BK6.out 0).trans rfl, (blk_cell BK6.out 1).trans rfl, (blk_cell BK6.out 2).trans rfl⟩ (fun hHeld => ?_)
      clear hK K
      refine norm_ (a' := ?_) ?_ ?_
      rotate_left
      · show Act.put _ (some 59) _ = _
        simp only [Act.put, List.setIfInBounds_toArray, List.set_cons_zero, List.set_cons_succ, i64_w, i32_w]
        rfl
      refine done_ (by kernel_rfl) ?_
      try go_wp2
      go_roundg k1
      case measure => exact Nat.lt_succ_self _
      case rel => exact ⟨ii + 1, rfl, ⟨⟨i + 1, _, HIN.out.2, HIN.out.1, by rw [show i + 1 + 0 = i + 0 + 1 from by omega]; exact HG1.out, HR1.out, HST.out, HB.out⟩⟩⟩
    · have cz_ : decide (ii < (z1.length : Int)) = false := decide_eq_false c_
      have HIE := Aside0.mk (show i = z1.length from by have h_ := HII.out; omega)
      clear hik c_
      go_wp2_with (first | (go_at_call 14; refine (fork_calls (fun k => k = gs ∨ k = gm) base gs gm s _ HST.out).mono ?_; rintro e_ wf ⟨fs, fm, rfl, hb, h1, h2, hall⟩; have HSF0 := Aside0.mk (hall (fun k => k = gs ∨ k = gm ∨ k = fs ∨ k = fm) (fun k hk => hk.elim .inl (fun h => .inr (.inl h))) (fun k hk hlt => by rcases (show k = gs ∨ k = gm ∨ k = fs ∨ k = fm from hk) with h | h | h | h; exact .inl h; exact .inr h; omega; omega) (.inr (.inr (.inl rfl))) (.inr (.inr (.inr rfl)))); have HST0 := Aside0.mk ((HST.out.wide (X' := fun k => k = gs ∨ k = gm ∨ k = fs ∨ k = fm) (fun k hk => hk.elim .inl (fun h => .inr (.inl h))) (fun k hk hlt => by rcases (show k = gs ∨ k = gm ∨ k = fs ∨ k = fm from hk) with h | h | h | h; exact .inl h; exact .inr h; omega; omega)).below hb); have n1_ := Aside0.mk (below_step HB.out hb); have HNE := Aside0.mk (show (gs ≠ fs ∧ gs ≠ fm) ∧ gm ≠ fs ∧ gm ≠ fm from by have h_ := HST.out.lt; exact ⟨⟨by omega, by omega⟩, by omega, by omega⟩); clear HB HST hb hall h1 h2; have HB := n1_; clear n1_) | (go_at_call 11; refine (rev_calls (fun k => k = gs ∨ k = gm ∨ k = fs ∨ k = fm) base gs gm s _ HST0.out).mono ?_; rintro e_ wv ⟨rfl, hb⟩; have n1_ := Aside0.mk (below_step HB.out hb); have n2_ := Aside0.mk (HST0.out.below hb); have n3_ := Aside0.mk (HSF0.out.below hb); clear HB HST0 HSF0 hb; have HB := n1_; have HST0 := n2_; have HSF0 := n3_; clear n1_ n2_ n3_))
      obtain ⟨sF, hsF⟩ : ∃ sF, sF = s := ⟨_, rfl⟩
      subst hsF
      have HGF := Aside0.mk (show Gd sF z1.length from HIE.out ▸ HGD.out)
      have HSF := HSF0
      have HST := HST0
      clear HSF0 HST0 HGD HII HRV cz_ HIE
      go_loopg [67, 10] 4 (fun kq v67 v10 w' => ∃ j : Nat, v67 = .int .i64 j ∧ Aside0 (j + kq = 4 ∧ Kd.R k37 37 w' w.heap.size (fun k => k ≠ gs ∧ k ≠ gm ∧ k ≠ fs ∧ k ≠ fm) v10 (vals sF j) ∧ St (fun k => k = gs ∨ k = gm ∨ k = fs ∨ k = fm) base gs gm sF w' ∧ St (fun k => k = gs ∨ k = gm ∨ k = fs ∨ k = fm) base fs fm sF w' ∧ Below w.heap.size w w'))
      case atStart => exact ⟨0, rfl, ⟨by omega, (show vals sF 0 = [] from rfl) ▸ Kd.R_nil _ _ _ _ _, HST.out, HSF.out, HB.out⟩⟩
      case round =>
        clear HB HST HSF
        obtain ⟨j, rfl, HX⟩ := hrel
        obtain ⟨hjk, hu0, hst0, hsf0, hb0⟩ := HX.out
        obtain ⟨Au, cu, rfl⟩ := Kd.R_slice hu0
        have HU := Aside0.mk hu0
        have HST := Aside0.mk hst0
        have HSF := Aside0.mk hsf0
        have HB := Aside0.mk hb0
        clear HX hst0 hb0 hu0 hsf0
        by_cases d_ : j < 4
        · have dz_ : decide ((j : Int) < 4) = true := decide_eq_true (by omega)
          obtain ⟨k2, hk2⟩ : ∃ k2, gk = k2 + 1 := ⟨gk - 1, by omega⟩
          have HJ1 := Aside0.mk (show j + 1 + k2 = 4 ∧ k2 < gk from ⟨by omega, by omega⟩)
          have HJ := Aside0.mk (show (0 : Int) ≤ (j : Int) ∧ (j : Int) < 1000000 from ⟨by omega, by omega⟩)
          have hwj : wrap64 ((j : Int) + 1) = ((j + 1 : Nat) : Int) := by rw [w64_id (by omega) (by omega)]; omega
          have hwjb : IntKind.i64.wrap ((j : Int) + 1) = ((j + 1 : Nat) : Int) := (i64_w _).trans hwj
          have HLU := Aside0.mk (show (vals sF j).length = j ∧ j < 4 from ⟨vals_len _ _, d_⟩)
          clear hjk d_
          go_wp2_with (first | (go_at_call 8; refine (glossatorkeep3_inputKey.calls j 0 j 0 _ rfl).mono ?_; rintro e_ wk ⟨rfl, hb⟩; have n1_ := Aside0.mk (below_step HB.out hb); have n2_ := Aside0.mk (HST.out.below hb); have n3_ := Aside0.mk (HSF.out.below hb); have n4_ := Aside0.mk (Kd.R_below HU.out hb); clear HB HST HSF HU hb; have HB := n1_; have HST := n2_; have HSF := n3_; have HU := n4_; clear n1_ n2_ n3_ n4_) | (go_at_call 13; refine (get_calls (fun k => k = gs ∨ k = gm ∨ k = fs ∨ k = fm) base fs fm sF _ HSF.out 0 (j : Int) 0 (key0 j (wf_small j HJ.out.1 HJ.out.2)) (by have h_ := (HGF.out.old (j : Int)).2.2; unfold old at h_; omega)).mono ?_; rw [show (Mp.aget sF.m (0, (j : Int), 0)).getD z0 = old sF j from rfl]; rintro e_ wg ⟨vg, rfl, hrg, hb⟩; obtain ⟨Ag, cg, rfl⟩ := Kd.R_slice hrg; have HRG := Aside0.mk (Kd.R_tight rfl hrg); have HRB := Aside0.mk (Kd.R_base hrg); have LG := Aside0.mk (show w.heap.size ≤ wk.heap.size ∧ (gs < wk.heap.size ∧ gm < wk.heap.size) ∧ (fs < wk.heap.size ∧ fm < wk.heap.size) ∧ (∀ k, some k = (Value.slice Au (vals sF j).length cu).ownBlock → k < wk.heap.size) from ⟨HB.out.size, HST.out.lt, HSF.out.lt, fun k hk => Kd.R_lt HU.out k hk.symm⟩); clear hrg; have HBK := Aside0.mk hb; have n1_ := Aside0.mk (below_step HB.out hb); have n2_ := Aside0.mk (HST.out.below hb); have n3_ := Aside0.mk (HSF.out.below hb); have n4_ := Aside0.mk (Kd.R_below HU.out hb); clear HB HST HSF HU hb; have HB := n1_; have HST := n2_; have HSF := n3_; have HU := n4_; clear n1_ n2_ n3_ n4_) | ((with_reducible refine gate_dst (N := 12) rfl ?_); refine box_event ?hg (N := 12) ?hd (cs := #[.slice none 0 0, .string (⟨#[]⟩ : ByteArray)]) (t := 37) ?hr ?_; (case hd => rfl); (case hg => rfl); (case hr => first | (go_simp; done) | (go_simp; rfl)); intro g10 hg wa hbox hb; have BKg10 := Aside0.mk hbox; have GEg10 := Aside0.mk (show wg.heap.size = g10 from hg.symm); have HBA := Aside0.mk hb; have hg0 : wa.cell? ⟨g10, 0, none⟩ = some (.slice none 0 0) := (blk_cell hbox 0).trans rfl; have hg1 : wa.cell? ⟨g10, 1, none⟩ = some (.string ⟨#[]⟩) := (blk_cell hbox 1).trans rfl; have hg2 := blk_frozen hbox 0; have hg3 := blk_frozen hbox 1; clear hbox hb hg) | (at_builtin; have HBW := Aside0.mk (show Below wg.heap.size wg ((wa.setCell ⟨g10, 0, none⟩ (.slice Ag (old sF (j : Int)).xs.length cg)).setCell ⟨g10, 1, none⟩ (.string (old sF (j : Int)).t)) from below_set (below_set HBA.out (Nat.le_of_eq GEg10.out)) (Nat.le_of_eq GEg10.out)); have n1_ := Aside0.mk (below_step HB.out HBW.out); have n2_ := Aside0.mk (HST.out.below HBW.out); have n3_ := Aside0.mk (HSF.out.below HBW.out); have n4_ := Aside0.mk (Kd.R_below HU.out HBW.out); have n5_ := Aside0.mk (Kd.R_lower (Kd.R_below HRG.out HBW.out) LG.out.1); have n6_ := Aside0.mk (show wk.heap.size ≤ (((wa.setCell ⟨g10, 0, none⟩ (.slice Ag (old sF (j : Int)).xs.length cg)).setCell ⟨g10, 1, none⟩ (.string (old sF (j : Int)).t))).heap.size from Nat.le_trans HBK.out.size HBW.out.size); refine Kd.R_append k37 (w0 := w) w.heap.size rfl (.tmp 78) (.tmp 80) 44 37 (.agg #[.slice none 0 0, .string ⟨#[]⟩]) 40 rfl Try.underlying44 info37 rfl (by decide) (by omega) (.slice Au (vals sF j).length cu) (vals sF j) (⟨(old sF (j : Int)).xs, (old sF (j : Int)).t⟩ : S37) [.slice Ag (old sF (j : Int)).xs.length cg, .string (old sF (j : Int)).t] (fun k => k ≠ gs ∧ k ≠ gm ∧ k ≠ fs ∧ k ≠ fm) (fun k => some k = (Value.slice Ag (old sF (j : Int)).xs.length cg).ownBlock) rfl (by first | (go_simp; done) | (go_simp; rfl)) (k37_mkM _ _ _ (⟨(old sF (j : Int)).xs, (old sF (j : Int)).t⟩ : S37) n5_.out) (fun k hk => ⟨by have h1_ := HRB.out k hk.symm; have h2_ := LG.out; exact ⟨by omega, by omega, by omega, by omega⟩, fun e_ => by have h1_ := HRB.out k hk.symm; have h2_ := LG.out.2.2.2 k e_; omega⟩) (fun k hk => by have h1_ := n6_.out; have h2_ := LG.out; exact ⟨by omega, by omega, by omega, by omega⟩) n4_.out n1_.out n1_.out.size (by have h_ := HLU.out; omega) ?_; intro u1 wz ho hb hg hat; obtain ⟨A9, n9, c9, rfl⟩ : ∃ A n c, u1 = .slice A n c := (by obtain ⟨A, c, e⟩ := Kd.R_slice ho; exact ⟨A, _, c, e⟩); have n7_ := Aside0.mk (show Kd.R k37 37 wz w.heap.size (fun k => k ≠ gs ∧ k ≠ gm ∧ k ≠ fs ∧ k ≠ fm) (.slice A9 n9 c9) (vals sF (j + 1)) from (vals_succ sF j).symm ▸ ho); have n8_ := Aside0.mk (n2_.out.grown n4_.out (fun k hk => ⟨hk.1, hk.2.1⟩) hg); have n9_ := Aside0.mk (n3_.out.grown n4_.out (fun k hk => ⟨hk.2.2.1, hk.2.2.2⟩) hg); have na_ := Aside0.mk hb; clear ho hb hg hat HB HST HSF HU n1_ n2_ n3_ n4_ n5_ n6_; have HB := na_; have HST := n8_; have HSF := n9_; have HU := n7_; clear n7_ n8_ n9_ na_))
          go_roundg k2
          case measure => exact HJ1.out.2
          case rel => exact ⟨j + 1, rfl, ⟨HJ1.out.1, HU.out, HST.out, HSF.out, HB.out⟩⟩
        · have dz_ : decide ((j : Int) < 4) = false := decide_eq_false (by omega)
          obtain rfl : j = 4 := by omega
          clear hjk d_
          have HLU := Aside0.mk (show (vals sF 4).length = 4 from vals_len _ _)
          go_wp2
          go_loopg [87] z2.length (fun kq vi w' => ∃ ii : Int, vi = .int .i64 ii ∧ Aside0 (∃ (i : Nat) (s : Sto), ii = i ∧ i + kq = z2.length ∧ Gd s (i + z1.length) ∧ sF.rev ≤ s.rev ∧ St (fun k => k = gs ∨ k = gm ∨ k = fs ∨ k = fm) base gs gm s w' ∧ Below w.heap.size w w' ∧ St (fun k => k = gs ∨ k = gm ∨ k = fs ∨ k = fm) base fs fm sF w' ∧ Kd.R k37 37 w' w.heap.size (fun k => k ≠ gs ∧ k ≠ gm ∧ k ≠ fs ∧ k ≠ fm) (.slice Au (vals sF 4).length cu) (vals sF 4)))
          case atStart => exact ⟨0, rfl, ⟨⟨0, sF, rfl, by omega, (show Gd sF (0 + z1.length) from (Nat.zero_add z1.length).symm ▸ HGF.out), Int.le_refl _, HST.out, HB.out, HSF.out, HU.out⟩⟩⟩
          case round =>
            clear HB HST HSF HU
            obtain ⟨ii, rfl, HX⟩ := hrel
            obtain ⟨i, s, hii, hik, hgd, hrv0, hst0, hb0, e0_, e1_⟩ := HX.out
            have HGD := Aside0.mk hgd
            have HST := Aside0.mk hst0
            have HB := Aside0.mk hb0
            have HRV := Aside0.mk hrv0
            have HSF := Aside0.mk e0_
            have HU := Aside0.mk e1_
            have HII := Aside0.mk hii
            clear HX hgd hst0 hb0 hii hrv0 e0_ e1_
            by_cases c_ : ii < (z2.length : Int)
            · have cz_ : decide (ii < (z2.length : Int)) = true := decide_eq_true c_
              obtain ⟨k1, rfl⟩ : ∃ k1, gk = k1 + 1 := ⟨gk - 1, by have := HII.out; omega⟩
              have HIK := Aside0.mk hik
              have HIL := Aside0.mk (show i + z1.length < 100 from by have := HYL.out; have := HII.out; omega)
              obtain ⟨ad, ea, hx0, hx1, hx2⟩ := at_T27 HZ2.out ii (by have := HII.out; omega) c_
              cases ea
              obtain ⟨x, hx⟩ : ∃ x, x = rd_T27 z2 ii := ⟨_, rfl⟩
              rw [← hx] at hx0 hx1 hx2
              have HX0 : ∀ w' : World, Below w.heap.size w w' → w'.cell? (ad.add (ii.toNat * 3)) = some (.int .i64 x.f0) := fun w' hb => (hb.cell (World.block_lt_of_cell? w _ hx0)).trans hx0
              have HX1 : ∀ w' : World, Below w.heap.size w w' → w'.cell? ⟨(ad.add (ii.toNat * 3)).block, (ad.add (ii.toNat * 3)).off + 1, none⟩ = some (.int .i64 x.f1) := fun w' hb => (hb.cell (World.block_lt_of_cell? w _ hx1)).trans hx1
              have HX2 : ∀ w' : World, Below w.heap.size w w' → w'.cell? ⟨(ad.add (ii.toNat * 3)).block, (ad.add (ii.toNat * 3)).off + 2, none⟩ = some (.int .i64 x.f2) := fun w' hb => (hb.cell (World.block_lt_of_cell? w _ hx2)).trans hx2
              have hy0 := HX0 wr HB.out
              have hy1 := HX1 wr HB.out
              have hy2 := HX2 wr HB.out
              obtain ⟨m1, hm1, m10, m11⟩ := mod_range x.f1 4 (by decide) (by decide)
              obtain ⟨m3, hm3, m30, m31⟩ := mod_range x.f0 3 (by decide) (by decide)
              have HM1 := Aside0.mk hm1
              have HM3 := Aside0.mk hm3
              have HMB := Aside0.mk (show (0 ≤ m1 ∧ m1 < 4) ∧ 0 ≤ m3 ∧ m3 < 3 from ⟨⟨m10, m11⟩, m30, m31⟩)
              have p1 : (0 : Int) ≤ ii := by have := HII.out; omega
              have q1 : ii < (z2.length : Int) := c_
              have p1 := eq_true p1
              have q1 := eq_true q1
              have hwi : wrap64 (ii + 1) = ii + 1 := w64_id (by have h_ := HII.out; omega) (by have h_ := HIL.out; have h2_ := HII.out; omega)
              have hwib : IntKind.i64.wrap (ii + 1) = ii + 1 := (i64_w _).trans hwi
              obtain ⟨hgd1, hrv⟩ := HGD.out.step m1 x.f2 m3 (by have h_ := HMB.out.2; omega)
              have HG1 := Aside0.mk hgd1
              have HR1 := Aside0.mk (show sF.rev ≤ (stepS s m1 x.f2 m3).rev from by rw [hrv]; have h_ := HRV.out; split <;> omega)
              have HIN := Aside0.mk (show i + 1 + k1 = z2.length ∧ ii + 1 = ((i + 1 : Nat) : Int) from ⟨by omega, by have h_ := HII.out; omega⟩)
              clear hm1 hm3 m10 m11 m30 m31 hx0 hx1 hx2 hx hik c_ hgd1 hrv
              go_wp2_with (((with_reducible refine gate_dst (N := 16) rfl ?_); refine box_event ?hg (N := 16) ?hd (cs := #[.int .i64 0, .int .i64 0, .int .i64 0]) (t := 27) ?hr ?_; (case hd => rfl); (case hg => rfl); (case hr => first | (go_simp; done) | (go_simp; rfl)); intro g6 hg w5 hbox hb; have BKg6 := Aside0.mk hbox; have GEg6 := Aside0.mk (show wr.heap.size = g6 from hg.symm); have HB5 := Aside0.mk hb; have HB_ := Aside0.mk (below_step HB.out hb); have hy0 := HX0 w5 HB_.out; have hy1 := HX1 w5 HB_.out; have hy2 := HX2 w5 HB_.out; have hz0 : w5.cell? ⟨g6, 0, none⟩ = some (.int .i64 0) := (blk_cell hbox 0).trans rfl; have hz1 : w5.cell? ⟨g6, 1, none⟩ = some (.int .i64 0) := (blk_cell hbox 1).trans rfl; have hz2 : w5.cell? ⟨g6, 2, none⟩ = some (.int .i64 0) := (blk_cell hbox 2).trans rfl; have hf0 := blk_frozen hbox 0; have hf1 := blk_frozen hbox 1; have hf2 := blk_frozen hbox 2; clear hbox hb hg))
              have NE6 := Aside0.mk (show g6 ≠ gs ∧ g6 ≠ gm from ⟨fun e_ => by have h1_ := HST.out.lt.1; have h3_ := GEg6.out; omega, fun e_ => by have h1_ := HST.out.lt.2; have h3_ := GEg6.out; omega⟩)
              have hb : Below wr.heap.size wr (((w5.setCell ⟨g6, 0, none⟩ (.int .i64 x.f0)).setCell ⟨g6, 1, none⟩ (.int .i64 x.f1)).setCell ⟨g6, 2, none⟩ (.int .i64 x.f2)) := below_set (below_set (below_set HB5.out (Nat.le_of_eq GEg6.out)) (Nat.le_of_eq GEg6.out)) (Nat.le_of_eq GEg6.out)
              have BK6 := Aside0.mk (show ((((w5.setCell ⟨g6, 0, none⟩ (.int .i64 x.f0)).setCell ⟨g6, 1, none⟩ (.int .i64 x.f1)).setCell ⟨g6, 2, none⟩ (.int .i64 x.f2))).heap[g6]? = some (.cells #[.int .i64 x.f0, .int .i64 x.f1, .int .i64 x.f2] 27 (0, 0)) from by refine blk_put (cs := #[.int .i64 x.f0, .int .i64 x.f1, .int .i64 0]) ?_ 2 _ rfl; refine blk_put (cs := #[.int .i64 x.f0, .int .i64 0, .int .i64 0]) ?_ 1 _ rfl; refine blk_put (cs := #[.int .i64 0, .int .i64 0, .int .i64 0]) ?_ 0 _ rfl; exact BKg6.out)
              have n0_ := Aside0.mk (below_step HB.out hb)
              have n1_ := Aside0.mk (HST.out.below hb)
              have n2_ := Aside0.mk (HSF.out.below hb)
              have n3_ := Aside0.mk (Kd.R_below HU.out hb)
              clear HB HST HSF HU
              have HB := n0_
              have HST := n1_
              have HSF := n2_
              have HU := n3_
              clear n0_ n1_ n2_ n3_
              clear hb HB5 HB_ BKg6 hy0 hy1 hy2 hz0 hz1 hz2 hf0 hf1 hf2
              generalize (((w5.setCell ⟨g6, 0, none⟩ (.int .i64 x.f0)).setCell ⟨g6, 1, none⟩ (.int .i64 x.f1)).setCell ⟨g6, 2, none⟩ (.int .i64 x.f2)) = w6 at *
              refine start_ (n := 12) (S := fun w' => w'.cell? ⟨g6, 0, none⟩ = some (.int .i64 x.f0) ∧ w'.cell? ⟨g6, 1, none⟩ = some (.int .i64 x.f1) ∧ w'.cell? ⟨g6, 2, none⟩ = some (.int .i64 x.f2)) (ds := []) #[false, false, false, false, false, false, false, false, false, false, false, false] (by kernel_rfl) rfl rfl ⟨(blk_cell (blk_drew BK6.out) 0).trans rfl, (blk_cell (blk_drew BK6.out) 1).trans rfl, (blk_cell (blk_drew BK6.out) 2).trans rfl⟩ (fun hHeld => ?_)
              have hb := below_drew1 (Below.refl w6.heap.size w6)
              have n0_ := Aside0.mk (below_step HB.out hb)
              have n1_ := Aside0.mk (HST.out.below hb)
              have n2_ := Aside0.mk (HSF.out.below hb)
              have n3_ := Aside0.mk (Kd.R_below HU.out hb)
              have n4_ := Aside0.mk (blk_below BK6.out hb)
              clear HB HST HSF HU BK6
              have HB := n0_
              have HST := n1_
              have HSF := n2_
              have HU := n3_
              have BK6 := n4_
              clear n0_ n1_ n2_ n3_ n4_
              clear hb
              generalize w6.drew = w7 at *
              refine pure_ (i := 0) (N := some 91) (v := ?_) (a' := ?_) #[true, false, false, false, false, false, false, false, false, false, false, false] rfl rfl (by kernel_rfl) (fun _ _ _ h => h) (Or.inl ⟨by rfl, ?_⟩) ?_ ?_
              rotate_left
              · intro w'
                go_simp
                with_reducible rfl
              rotate_left
              · simp only [Act.put, List.setIfInBounds_toArray, List.set_cons_zero, List.set_cons_succ, i64_w, i32_w]
                rfl
              refine pure_ (i := 1) (N := some 92) (v := ?_) (a' := ?_) #[true, true, false, false, false, false, false, false, false, false, false, false] rfl rfl (by kernel_rfl) (fun _ _ _ h => h) (Or.inl ⟨by rfl, ?_⟩) ?_ ?_
              rotate_left
              · intro w'
                go_simp
                with_reducible rfl
              rotate_left
              · simp only [Act.put, List.setIfInBounds_toArray, List.set_cons_zero, List.set_cons_succ, i64_w, i32_w]
                rfl
              refine pure_ (i := 5) (N := some 96) (v := ?_) (a' := ?_) #[true, true, false, false, false, true, false, false, false, false, false, false] rfl rfl (by kernel_rfl) (fun _ _ _ h => h) (Or.inl ⟨by rfl, ?_⟩) ?_ ?_
              rotate_left
              · intro w'
                go_simp
                with_reducible rfl
              rotate_left
              · simp only [Act.put, List.setIfInBounds_toArray, List.set_cons_zero, List.set_cons_succ, i64_w, i32_w]
                rfl
              refine pure_ (i := 8) (N := some 99) (v := ?_) (a' := ?_) #[true, true, false, false, false, true, false, false, true, false, false, false] rfl rfl (by kernel_rfl) (fun _ _ _ h => h) (Or.inl ⟨by rfl, ?_⟩) ?_ ?_
              rotate_left
              · intro w'
                go_simp
                with_reducible rfl
              rotate_left
              · simp only [Act.put, List.setIfInBounds_toArray, List.set_cons_zero, List.set_cons_succ, i64_w, i32_w]
                rfl
              refine take_ (i := 2) (N := some 93) (v := ?_) (a' := ?_) #[true, true, true, false, false, true, false, false, true, false, false, false] rfl rfl (by kernel_rfl) (fun _ _ _ h => h) (Or.inl ⟨by rfl, ?_⟩) hHeld ?_ ?_
              rotate_left
              · rintro w' ⟨s0, s1, s2⟩
                go_simp
                with_reducible rfl
              rotate_left
              · simp only [Act.put, List.setIfInBounds_toArray, List.set_cons_zero, List.set_cons_succ, i64_w, i32_w]
                rfl
              refine take_ (i := 6) (N := some 97) (v := ?_) (a' := ?_) #[true, true, true, false, false, true, true, false, true, false, false, false] rfl rfl (by kernel_rfl) (fun _ _ _ h => h) (Or.inl ⟨by rfl, ?_⟩) hHeld ?_ ?_
              rotate_left
              · rintro w' ⟨s0, s1, s2⟩
                go_simp
                with_reducible rfl
              rotate_left
              · simp only [Act.put, List.setIfInBounds_toArray, List.set_cons_zero, List.set_cons_succ, i64_w, i32_w]
                rfl
              refine take_ (i := 9) (N := some 100) (v := ?_) (a' := ?_) #[true, true, true, false, false, true, true, false, true, true, false, false] rfl rfl (by kernel_rfl) (fun _ _ _ h => h) (Or.inl ⟨by rfl, ?_⟩) hHeld ?_ ?_
              rotate_left
              · rintro w' ⟨s0, s1, s2⟩
                go_simp
                with_reducible rfl
              rotate_left
              · simp only [Act.put, List.setIfInBounds_toArray, List.set_cons_zero, List.set_cons_succ, i64_w, i32_w]
                rfl
              refine one_ (i := 3) (N := some 94) #[true, true, true, true, false, true, true, false, true, true, false, false] rfl rfl (by kernel_rfl) (by decide) (fun K hK => ?_)
              refine goes_ Try.func9 (by kernel_rfl) rfl #[.int .i64 x.f1, .int .i64 4] (by rfl) rfl rfl (by (try simp only [List.map_toArray, List.map_cons, List.map_nil]); first | done | rfl) ?_
              refine (glossatorref3_Mod.calls _ _ _ _ HM1.out).mono ?_
              rintro e_ w8 ⟨rfl, hd_⟩
              refine ⟨_, rfl, ?_⟩
              have hb := hd_.below
              clear hd_
              have n0_ := Aside0.mk (below_step HB.out hb)
              have n1_ := Aside0.mk (HST.out.below hb)
              have n2_ := Aside0.mk (HSF.out.below hb)
              have n3_ := Aside0.mk (Kd.R_below HU.out hb)
              have n4_ := Aside0.mk (blk_below BK6.out hb)
              clear HB HST HSF HU BK6
              have HB := n0_
              have HST := n1_
              have HSF := n2_
              have HU := n3_
              have BK6 := n4_
              clear n0_ n1_ n2_ n3_ n4_
              refine hK.out _ _ ⟨(blk_cell BK6.out 0).trans rfl, (blk_cell BK6.out 1).trans rfl, (blk_cell BK6.out 2).trans rfl⟩ (fun hHeld => ?_)
              clear hK K
              refine norm_ (a' := ?_) ?_ ?_
              rotate_left
              · show Act.put _ (some 94) _ = _
                simp only [Act.put, List.setIfInBounds_toArray, List.set_cons_zero, List.set_cons_succ, i64_w, i32_w]
                rfl
              refine one_ (i := 4) (N := some 95) #[true, true, true, true, true, true, true, false, true, true, false, false] rfl rfl (by kernel_rfl) (by decide) (fun K hK => ?_)
              refine goes_ Try.func8 (by kernel_rfl) rfl #[.int .i64 m1] (by rfl) rfl rfl (by (try simp only [List.map_toArray, List.map_cons, List.map_nil]); first | done | rfl) ?_
              refine (glossatorkeep3_inputKey.calls m1 0 m1 0 _ rfl).mono ?_
              rintro e_ w9 ⟨rfl, hb⟩
              refine ⟨_, rfl, ?_⟩
              have n0_ := Aside0.mk (below_step HB.out hb)
              have n1_ := Aside0.mk (HST.out.below hb)
              have n2_ := Aside0.mk (HSF.out.below hb)
              have n3_ := Aside0.mk (Kd.R_below HU.out hb)
              have n4_ := Aside0.mk (blk_below BK6.out hb)
              clear HB HST HSF HU BK6
              have HB := n0_
              have HST := n1_
              have HSF := n2_
              have HU := n3_
              have BK6 := n4_
              clear n0_ n1_ n2_ n3_ n4_
              refine hK.out _ _ ⟨(blk_cell BK6.out 0).trans rfl, (blk_cell BK6.out 1).trans rfl, (blk_cell BK6.out 2).trans rfl⟩ (fun hHeld => ?_)
              clear hK K
              refine norm_ (a' := ?_) ?_ ?_
              rotate_left
              · show Act.put _ (some 95) _ = _
                simp only [Act.put, List.setIfInBounds_toArray, List.set_cons_zero, List.set_cons_succ, i64_w, i32_w]
                rfl
              refine one_ (i := 7) (N := some 98) #[true, true, true, true, true, true, true, true, true, true, false, false] rfl rfl (by kernel_rfl) (by decide) (fun K hK => ?_)
              refine goes_ Try.func10 (by kernel_rfl) rfl #[.int .i64 x.f2] (by rfl) rfl rfl (by (try simp only [List.map_toArray, List.map_cons, List.map_nil]); first | done | rfl) ?_
              refine (glossatorkeep3_number.calls x.f2 [x.f2] ⟨#[]⟩ _ rfl).mono ?_
              rintro e_ w11 ⟨vn, rfl, hrn, hb⟩
              refine ⟨_, rfl, ?_⟩
              obtain ⟨An, cn, rfl⟩ := Kd.R_slice hrn
              have HRN := Aside0.mk (Kd.R_mono (Kd.R_lower (base' := 0) (Kd.R_bound hrn) (Nat.zero_le _)) (fun k hk => show w9.heap.size ≤ k from hk.2.1))
              have HG10 := Aside0.mk HST.out.lt
              clear hrn
              have n0_ := Aside0.mk (below_step HB.out hb)
              have n1_ := Aside0.mk (HST.out.below hb)
              have n2_ := Aside0.mk (HSF.out.below hb)
              have n3_ := Aside0.mk (Kd.R_below HU.out hb)
              have n4_ := Aside0.mk (blk_below BK6.out hb)
              clear HB HST HSF HU BK6
              have HB := n0_
              have HST := n1_
              have HSF := n2_
              have HU := n3_
              have BK6 := n4_
              clear n0_ n1_ n2_ n3_ n4_
              refine hK.out _ _ ⟨(blk_cell BK6.out 0).trans rfl, (blk_cell BK6.out 1).trans rfl, (blk_cell BK6.out 2).trans rfl⟩ (fun hHeld => ?_)
              clear hK K
              refine norm_ (a' := ?_) ?_ ?_
              rotate_left
              · show Act.put _ (some 98) _ = _
                simp only [Act.put, List.setIfInBounds_toArray, List.set_cons_zero, List.set_cons_succ, i64_w, i32_w]
                rfl
              refine one_ (i := 10) (N := some 101) #[true, true, true, true, true, true, true, true, true, true, true, false] rfl rfl (by kernel_rfl) (by decide) (fun K hK => ?_)
              refine goes_ Try.func9 (by kernel_rfl) rfl #[.int .i64 x.f0, .int .i64 3] (by rfl) rfl rfl (by (try simp only [List.map_toArray, List.map_cons, List.map_nil]); first | done | rfl) ?_
              refine (glossatorref3_Mod.calls _ _ _ _ HM3.out).mono ?_
              rintro e_ w12 ⟨rfl, hd_⟩
              refine ⟨_, rfl, ?_⟩
              have hb := hd_.below
              clear hd_
              have hb12 := Aside0.mk hb
              have n0_ := Aside0.mk (below_step HB.out hb)
              have n1_ := Aside0.mk (HST.out.below hb)
              have n2_ := Aside0.mk (HSF.out.below hb)
              have n3_ := Aside0.mk (Kd.R_below HU.out hb)
              have n4_ := Aside0.mk (blk_below BK6.out hb)
              clear HB HST HSF HU BK6
              have HB := n0_
              have HST := n1_
              have HSF := n2_
              have HU := n3_
              have BK6 := n4_
              clear n0_ n1_ n2_ n3_ n4_
              refine hK.out _ _ ⟨(blk_cell BK6.out 0).trans rfl, (blk_cell BK6.out 1).trans rfl, (blk_cell BK6.out 2).trans rfl⟩ (fun hHeld => ?_)
              clear hK K
              refine norm_ (a' := ?_) ?_ ?_
              rotate_left
              · show Act.put _ (some 101) _ = _
                simp only [Act.put, List.setIfInBounds_toArray, List.set_cons_zero, List.set_cons_succ, i64_w, i32_w]
                rfl
              refine one_ (i := 11) (N := some 102) #[true, true, true, true, true, true, true, true, true, true, true, true] rfl rfl (by kernel_rfl) (by decide) (fun K hK => ?_)
              refine goes_ Try.func7 (by kernel_rfl) rfl #[.pointer (some ⟨gs, 0, none⟩), .agg #[.int .i64 0, .int .i64 m1, .int .i64 0], .agg #[.slice An [x.f2].length cn, .string ⟨#[]⟩], .int .i64 m3] (by rfl) rfl rfl (by (try simp only [List.map_toArray, List.map_cons, List.map_nil]); first | done | rfl) ?_
              refine (set_num (fun k => k = gs ∨ k = gm ∨ k = fs ∨ k = fm) base gs gm s w12 HST.out m1 (wf_small m1 HMB.out.1.1 (by have h_ := HMB.out.1.2; omega)) An cn x.f2 (Kd.R_mono (Kd.R_below HRN.out hb12.out) (fun k hk e_ => by have h_ := HG10.out.1; omega)) m3 HMB.out.2.1 (by have h_ := HMB.out.2.2; omega) (fun k hk e_ => by have h_ := HST.out.lt; have h2_ := HSF.out.lt; rcases (show k = gs ∨ k = gm ∨ k = fs ∨ k = fm from e_) with e_ | e_ | e_ | e_ <;> omega) (by have h_ := HGD.out.rev; have h2_ := HIL.out; omega) (by rcases (HGD.out.old m1).1 with h_ | h_ | h_ <;> rw [h_] <;> decide)).mono ?_
              rintro e_ w13 ⟨rfl, hst, hkp⟩
              refine ⟨_, rfl, ?_⟩
              have n1_ := Aside0.mk (hkp.below HB.out HB.out.size (fun k hk => by have h_ := HLO.out; omega))
              have n3_ := Aside0.mk ((hkp.block g6 (blk_lt BK6.out) (fun e_ => e_.elim (fun e_ => NE6.out.1 e_) (fun e_ => NE6.out.2 e_))).trans BK6.out)
              have k0_ := Aside0.mk (HSF.out.keep hkp (fun k hk => by have h_ := HNE.out; rcases hk with rfl | rfl; exact ⟨.inl rfl, h_.1.1, h_.1.2⟩; exact ⟨.inr (.inl rfl), h_.2.1, h_.2.2⟩))
              have k1_ := Aside0.mk (Kd.R_step HU.out (fun k ho hlt => hkp.block k hlt (fun e_ => e_.elim ho.1 ho.2.1)))
              clear HB HST BK6
              have HB := n1_
              have HST := Aside0.mk hst
              have BK6 := n3_
              clear n1_ n3_ hst hkp
              clear HSF
              have HSF := k0_
              clear k0_
              clear HU
              have HU := k1_
              clear k1_

              refine hK.out _ _ ⟨(blk_cell BK6.out 0).trans rfl, (blk_cell BK6.out 1).trans rfl, (blk_cell BK6.out 2).trans rfl⟩ (fun hHeld => ?_)
              clear hK K
              refine norm_ (a' := ?_) ?_ ?_
              rotate_left
              · show Act.put _ (some 102) _ = _
                simp only [Act.put, List.setIfInBounds_toArray, List.set_cons_zero, List.set_cons_succ, i64_w, i32_w]
                rfl
              refine done_ (by kernel_rfl) ?_
              try go_wp2
              go_roundg k1
              case measure => exact Nat.lt_succ_self _
              case rel => exact ⟨ii + 1, rfl, ⟨⟨i + 1, _, HIN.out.2, HIN.out.1, by rw [show i + 1 + z1.length = i + z1.length + 1 from by omega]; exact HG1.out, HR1.out, HST.out, HB.out, HSF.out, HU.out⟩⟩⟩
            · have cz_ : decide (ii < (z2.length : Int)) = false := decide_eq_false c_
              have HIE := Aside0.mk (show i = z2.length from by have h_ := HII.out; omega)
              clear hik c_
              go_wp2
              go_loopg [104] 4 (fun kq v104 w' => ∃ jj : Int, v104 = .int .i64 jj ∧ Aside0 (∃ j : Nat, jj = j ∧ j + kq = 4 ∧ Kd.R k37 37 w' w.heap.size (fun k => k ≠ gs ∧ k ≠ gm ∧ k ≠ fs ∧ k ≠ fm) (.slice Au (vals sF 4).length cu) (vals sF 4) ∧ St (fun k => k = gs ∨ k = gm ∨ k = fs ∨ k = fm) base gs gm s w' ∧ St (fun k => k = gs ∨ k = gm ∨ k = fs ∨ k = fm) base fs fm sF w' ∧ Below w.heap.size w w'))
              case atStart => exact ⟨0, rfl, ⟨⟨0, rfl, by omega, HU.out, HST.out, HSF.out, HB.out⟩⟩⟩
              case round =>
                clear HB HST HSF HU
                obtain ⟨jj, rfl, HX⟩ := hrel
                obtain ⟨j, hjj, hjk, hu0, hst0, hsf0, hb0⟩ := HX.out
                have HU := Aside0.mk hu0
                have HST := Aside0.mk hst0
                have HSF := Aside0.mk hsf0
                have HB := Aside0.mk hb0
                clear HX hst0 hb0 hu0 hsf0
                by_cases d_ : jj < 4
                · have dz_ : decide (jj < 4) = true := decide_eq_true d_
                  obtain ⟨k2, hk2⟩ : ∃ k2, gk = k2 + 1 := ⟨gk - 1, by omega⟩
                  have HJ1 := Aside0.mk (show (j + 1 + k2 = 4 ∧ k2 < gk) ∧ jj + 1 = ((j + 1 : Nat) : Int) from ⟨⟨by omega, by omega⟩, by omega⟩)
                  have HJ := Aside0.mk (show (0 : Int) ≤ jj ∧ jj < 1000000 from ⟨by omega, by omega⟩)
                  have HJ4 := Aside0.mk d_
                  have HVG := Aside0.mk (show rd_T37 (vals sF 4) jj = ⟨(old sF jj).xs, (old sF jj).t⟩ from by rw [hjj]; exact vals_get sF 4 j (by omega))
                  have hwj : wrap64 (jj + 1) = jj + 1 := w64_id (by omega) (by omega)
                  have hwjb : IntKind.i64.wrap (jj + 1) = jj + 1 := (i64_w _).trans hwj
                  clear hjk d_ hjj
                  go_wp2_with (first | (go_at_call 8; refine (glossatorkeep3_inputKey.calls jj 0 jj 0 _ rfl).mono ?_; rintro e_ wk ⟨rfl, hb⟩; have n1_ := Aside0.mk (below_step HB.out hb); have n2_ := Aside0.mk (HST.out.below hb); have n3_ := Aside0.mk (HSF.out.below hb); have n4_ := Aside0.mk (Kd.R_below HU.out hb); clear HB HST HSF HU hb; have HB := n1_; have HST := n2_; have HSF := n3_; have HU := n4_; clear n1_ n2_ n3_ n4_) | (go_at_call 13; refine (get_calls (fun k => k = gs ∨ k = gm ∨ k = fs ∨ k = fm) base fs fm sF _ HSF.out 0 jj 0 (key0 jj (wf_small jj HJ.out.1 HJ.out.2)) (by have h_ := (HGF.out.old jj).2.2; unfold old at h_; omega)).mono ?_; rw [show (Mp.aget sF.m (0, jj, 0)).getD z0 = old sF jj from rfl]; rintro e_ wg ⟨vg, rfl, hrg, hb⟩; obtain ⟨Ag, cg, rfl⟩ := Kd.R_slice hrg; have HRG := Aside0.mk (Kd.R_tight rfl hrg); clear hrg; have n1_ := Aside0.mk (below_step HB.out hb); have n2_ := Aside0.mk (HST.out.below hb); have n3_ := Aside0.mk (HSF.out.below hb); have n4_ := Aside0.mk (Kd.R_below HU.out hb); clear HB HST HSF HU hb; have HB := n1_; have HST := n2_; have HSF := n3_; have HU := n4_; clear n1_ n2_ n3_ n4_) | ((with_reducible refine gate_dst (N := 18) rfl ?_); refine box_event ?hg (N := 18) ?hd (cs := #[.slice none 0 0, .string (⟨#[]⟩ : ByteArray)]) (t := 37) ?hr ?_; (case hd => rfl); (case hg => rfl); (case hr => first | (go_simp; done) | (go_simp; rfl)); intro g10 hg wa hbox hb; have BKg10 := Aside0.mk hbox; have GEg10 := Aside0.mk (show wg.heap.size = g10 from hg.symm); have HBA := Aside0.mk hb; have hg0 : wa.cell? ⟨g10, 0, none⟩ = some (.slice none 0 0) := (blk_cell hbox 0).trans rfl; have hg1 : wa.cell? ⟨g10, 1, none⟩ = some (.string ⟨#[]⟩) := (blk_cell hbox 1).trans rfl; have hg2 := blk_frozen hbox 0; have hg3 := blk_frozen hbox 1; clear hbox hb hg))
                  have hb : Below wg.heap.size wg ((wa.setCell ⟨g10, 0, none⟩ (.slice Ag (old sF jj).xs.length cg)).setCell ⟨g10, 1, none⟩ (.string (old sF jj).t)) := below_set (below_set HBA.out (Nat.le_of_eq GEg10.out)) (Nat.le_of_eq GEg10.out)
                  have BK10 := Aside0.mk (show (((wa.setCell ⟨g10, 0, none⟩ (.slice Ag (old sF jj).xs.length cg)).setCell ⟨g10, 1, none⟩ (.string (old sF jj).t))).heap[g10]? = some (.cells #[.slice Ag (old sF jj).xs.length cg, .string (old sF jj).t] 37 (0, 0)) from by refine blk_put (cs := #[.slice Ag (old sF jj).xs.length cg, .string ⟨#[]⟩]) ?_ 1 _ rfl; refine blk_put (cs := #[.slice none 0 0, .string ⟨#[]⟩]) ?_ 0 _ rfl; exact BKg10.out)
                  have HRG6 := Aside0.mk (Kd.R_below HRG.out hb)
                  have n1_ := Aside0.mk (below_step HB.out hb)
                  have n2_ := Aside0.mk (HST.out.below hb)
                  have n3_ := Aside0.mk (HSF.out.below hb)
                  have n4_ := Aside0.mk (Kd.R_below HU.out hb)
                  clear HB HST HSF HU hb
                  have HB := n1_
                  have HST := n2_
                  have HSF := n3_
                  have HU := n4_
                  clear n1_ n2_ n3_ n4_
                  clear HBA BKg10 HRG hg0 hg1 hg2 hg3
                  generalize ((wa.setCell ⟨g10, 0, none⟩ (.slice Ag (old sF jj).xs.length cg)).setCell ⟨g10, 1, none⟩ (.string (old sF jj).t)) = w6 at *
                  obtain ⟨ad, A1, c1, ea, he0, he1, hel, hec⟩ := at_T37 (Kd.R_reads' HU.out).2.2 jj HJ.out.1 (by rw [vals_len]; have h_ := HJ4.out; omega)
                  rw [HVG.out] at he0 he1 hel hec
                  simp only at he0 he1 hel hec
                  cases ea
                  have HE0 := Aside0.mk he0
                  have HE1 := Aside0.mk he1
                  have HEL := Aside0.mk hel
                  have HEC := Aside0.mk hec
                  clear he0 he1 hel hec
                  have p1 : ((0 : Int) ≤ jj) = True := eq_true HJ.out.1
                  have q1 : (jj < ((vals sF 4).length : Int)) = True := eq_true (by rw [vals_len]; have h_ := HJ4.out; omega)
                  refine start_ (n := 7) (S := fun w' => w'.cell? ⟨g10, 0, none⟩ = some (.slice Ag (old sF jj).xs.length cg) ∧ w'.cell? ⟨g10, 1, none⟩ = some (.string (old sF jj).t) ∧ w'.cell? (ad.add (jj.toNat * 2)) = some (.slice A1 (old sF jj).xs.length c1) ∧ w'.cell? ⟨(ad.add (jj.toNat * 2)).block, (ad.add (jj.toNat * 2)).off + 1, none⟩ = some (.string (old sF jj).t)) (ds := []) #[false, false, false, false, false, false, false] (by kernel_rfl) rfl rfl ⟨(blk_cell (blk_drew BK10.out) 0).trans rfl, (blk_cell (blk_drew BK10.out) 1).trans rfl, ((below_drew1 (Below.refl w6.heap.size w6)).cell (World.block_lt_of_cell? w6 _ HE0.out)).trans HE0.out, ((below_drew1 (Below.refl w6.heap.size w6)).cell (World.block_lt_of_cell? w6 _ HE1.out)).trans HE1.out⟩ (fun hHeld => ?_)
                  have hb := below_drew1 (Below.refl w6.heap.size w6)
                  have m1_ := Aside0.mk (Kd.C_below HEC.out hb)
                  have m2_ := Aside0.mk (Kd.R_below HRG6.out hb)
                  have n1_ := Aside0.mk (below_step HB.out hb)
                  have n2_ := Aside0.mk (HST.out.below hb)
                  have n3_ := Aside0.mk (HSF.out.below hb)
                  have n4_ := Aside0.mk (Kd.R_below HU.out hb)
                  clear HB HST HSF HU hb
                  have HB := n1_
                  have HST := n2_
                  have HSF := n3_
                  have HU := n4_
                  clear n1_ n2_ n3_ n4_
                  clear HEC HRG6 BK10 HE0 HE1
                  generalize w6.drew = w7 at *
                  refine pure_ (i := 1) (N := some 116) (v := ?_) (a' := ?_) #[false, true, false, false, false, false, false] rfl rfl (by kernel_rfl) (fun _ _ _ h => h) (Or.inl ⟨by rfl, ?_⟩) ?_ ?_
                  rotate_left
                  · intro w'
                    go_simp
                    with_reducible rfl
                  rotate_left
                  · simp only [Act.put, List.setIfInBounds_toArray, List.set_cons_zero, List.set_cons_succ, i64_w, i32_w]
                    rfl
                  refine pure_ (i := 2) (N := some 117) (v := ?_) (a' := ?_) #[false, true, true, false, false, false, false] rfl rfl (by kernel_rfl) (fun _ _ _ h => h) (Or.inl ⟨by rfl, ?_⟩) ?_ ?_
                  rotate_left
                  · intro w'
                    go_simp
                    with_reducible rfl
                  rotate_left
                  · simp only [Act.put, List.setIfInBounds_toArray, List.set_cons_zero, List.set_cons_succ, i64_w, i32_w]
                    rfl
                  refine take_ (i := 0) (N := some 115) (v := ?_) (a' := ?_) #[true, true, true, false, false, false, false] rfl rfl (by kernel_rfl) (fun _ _ _ h => h) (Or.inl ⟨by rfl, ?_⟩) hHeld ?_ ?_
                  rotate_left
                  · rintro w' ⟨s0, s1, s2, s3⟩
                    go_simp
                    with_reducible rfl
                  rotate_left
                  · simp only [Act.put, List.setIfInBounds_toArray, List.set_cons_zero, List.set_cons_succ, i64_w, i32_w]
                    rfl
                  refine pure_ (i := 3) (N := some 118) (v := ?_) (a' := ?_) #[true, true, true, true, false, false, false] rfl rfl (by kernel_rfl) (fun _ _ _ h => h) (Or.inl ⟨by rfl, ?_⟩) ?_ ?_
                  rotate_left
                  · intro w'
                    go_simp
                    with_reducible rfl
                  rotate_left
                  · simp only [Act.put, List.setIfInBounds_toArray, List.set_cons_zero, List.set_cons_succ, i64_w, i32_w]
                    rfl
                  refine take_ (i := 4) (N := some 119) (v := ?_) (a' := ?_) #[true, true, true, true, true, false, false] rfl rfl (by kernel_rfl) (fun _ _ _ h => h) (Or.inl ⟨by rfl, ?_⟩) hHeld ?_ ?_
                  rotate_left
                  · rintro w' ⟨s0, s1, s2, s3⟩
                    go_simp
                    with_reducible rfl
                  rotate_left
                  · simp only [Act.put, List.setIfInBounds_toArray, List.set_cons_zero, List.set_cons_succ, i64_w, i32_w]
                    rfl
                  refine one_ (i := 5) (N := some 120) #[true, true, true, true, true, true, false] rfl rfl (by kernel_rfl) (by decide) (fun K hK => ?_)
                  refine goes_ Try.func15 (by kernel_rfl) rfl #[.agg #[.slice Ag (old sF jj).xs.length cg, .string (old sF jj).t], .agg #[.slice A1 (old sF jj).xs.length c1, .string (old sF jj).t]] (by rfl) rfl rfl (by (try simp only [List.map_toArray, List.map_cons, List.map_nil]); first | done | rfl) ?_
                  refine (inputs_Equal.calls 5 Ag cg (old sF jj).xs (old sF jj).t A1 c1 (old sF jj).xs (old sF jj).t true _ (Kd.R_reads' m2_.out).2.2 (Kd.R_reads' m2_.out).2.1 m1_.out HEL.out (eq_self _ _ (HGF.out.old jj).2.2)).mono ?_
                  rintro e_ w8 ⟨rfl, hb⟩
                  refine ⟨_, rfl, ?_⟩
                  have hbb := Aside0.mk hb
                  have n1_ := Aside0.mk (below_step HB.out hb)
                  have n2_ := Aside0.mk (HST.out.below hb)
                  have n3_ := Aside0.mk (HSF.out.below hb)
                  have n4_ := Aside0.mk (Kd.R_below HU.out hb)
                  clear HB HST HSF HU hb
                  have HB := n1_
                  have HST := n2_
                  have HSF := n3_
                  have HU := n4_
                  clear n1_ n2_ n3_ n4_
                  clear m1_ m2_
                  refine hK.out _ _ ⟨(hbb.out.cell (World.block_lt_of_cell? _ _ hHeld.1)).trans hHeld.1, (hbb.out.cell (World.block_lt_of_cell? _ _ hHeld.2.1)).trans hHeld.2.1, (hbb.out.cell (World.block_lt_of_cell? _ _ hHeld.2.2.1)).trans hHeld.2.2.1, (hbb.out.cell (World.block_lt_of_cell? _ _ hHeld.2.2.2)).trans hHeld.2.2.2⟩ (fun hHeld => ?_)
                  clear hK K
                  refine norm_ (a' := ?_) ?_ ?_
                  rotate_left
                  · show Act.put _ (some 120) _ = _
                    simp only [Act.put, List.setIfInBounds_toArray, List.set_cons_zero, List.set_cons_succ, i64_w, i32_w]
                    rfl
                  refine pure_ (i := 6) (N := some 121) (v := ?_) (a' := ?_) #[true, true, true, true, true, true, true] rfl rfl (by kernel_rfl) (fun _ _ _ h => h) (Or.inl ⟨by rfl, ?_⟩) ?_ ?_
                  rotate_left
                  · intro w'
                    go_simp
                    with_reducible rfl
                  rotate_left
                  · simp only [Act.put, List.setIfInBounds_toArray, List.set_cons_zero, List.set_cons_succ, i64_w, i32_w]
                    rfl
                  refine done_ (by kernel_rfl) ?_
                  try go_wp2
                  go_roundg k2
                  case measure => exact HJ1.out.1.2
                  case rel => exact ⟨jj + 1, rfl, ⟨⟨j + 1, HJ1.out.2, HJ1.out.1.1, HU.out, HST.out, HSF.out, HB.out⟩⟩⟩
                · have dz_ : decide (jj < 4) = false := decide_eq_false d_
                  have t1 : decide (s.rev ≥ sF.rev) = true := decide_eq_true HRV.out
                  have t2 : decide (sF.rev ≤ s.rev) = true := decide_eq_true HRV.out
                  clear hjk d_ hjj
                  go_wp2_with (first | (go_at_call_of 11 (Value.pointer (some ⟨fs, 0, none⟩)); refine (rev_calls (fun k => k = gs ∨ k = gm ∨ k = fs ∨ k = fm) base fs fm sF _ HSF.out).mono ?_; rintro e_ wv ⟨rfl, hb⟩; have n1_ := Aside0.mk (below_step HB.out hb); have n2_ := Aside0.mk (HST.out.below hb); have n3_ := Aside0.mk (HSF.out.below hb); have n4_ := Aside0.mk (Kd.R_below HU.out hb); clear HB HST HSF HU hb; have HB := n1_; have HST := n2_; have HSF := n3_; have HU := n4_; clear n1_ n2_ n3_ n4_) | (go_at_call_of 11 (Value.pointer (some ⟨gs, 0, none⟩)); refine (rev_calls (fun k => k = gs ∨ k = gm ∨ k = fs ∨ k = fm) base gs gm s _ HST.out).mono ?_; rintro e_ wv ⟨rfl, hb⟩; have n1_ := Aside0.mk (below_step HB.out hb); have n2_ := Aside0.mk (HST.out.below hb); have n3_ := Aside0.mk (HSF.out.below hb); have n4_ := Aside0.mk (Kd.R_below HU.out hb); clear HB HST HSF HU hb; have HB := n1_; have HST := n2_; have HSF := n3_; have HU := n4_; clear n1_ n2_ n3_ n4_))
                  go_ret
                  exact ⟨rfl, HB.out⟩
end Go.Proofs.Ythnnjfichkhdfaa.In
