/- FilewatchIncremental: the law's own walk, where it answers true. -/
import Derived.Test.YtgigbllohagfmaaFix0
import Derived.Test.YtgigbllohagfmaaFihTb
import Derived.Test.YtgigbllohagfmaaFihNb
import Derived.Test.YtgigbllohagfmaaFihCl
import Derived.Test.YtgigbllohagfmaaFix4
import Derived.Test.YtgigbllohagfmaaFix5
import Derived.BigQuiet
namespace Go.Proofs.Ytgigbllohagfmaa.Fi
open Go.RowKit Go.Proofs.YtgigbllohagfmaaW.PrintWords Go.Proofs.YtgigbllohagfmaaW.PrintLast Go.Proofs.YtgigbllohagfmaaW.PrintMore
open Go.Proofs.Ytgigbllohagfmaa
set_option linter.unusedVariables false
set_option linter.unusedSimpArgs false
def pollS (d t : Int) (evs : List S33) (got : List S31) : Option (List S33 × List S31) := if cpl d t evs = true then (filewatch_newBatch.f evs d).bind fun b => some ([], if b.2.length = 0 then got else got ++ [⟨b.1, b.2⟩]) else some (evs, got)
def okAdd (d now : Int) (e : S33) (evs : List S33) : Bool := vk e.f2 && decide (0 ≤ e.f0) && decide (e.f0 ≤ 1000000000000) && decide (now ≤ e.f0) && !(cpl d e.f0 evs)
def incS (d : Int) : List S33 → Int → List S33 → List S31 → Option (List S33 × List S31)
  | [], now, evs, got => if now ≤ 1000000 then pollS d 1000000 evs got else none
  | e :: r, now, evs, got => if now ≤ e.f0 then (pollS d e.f0 evs got).bind fun p => if okAdd d e.f0 e p.1 = true then incS d r e.f0 (p.1 ++ [e]) p.2 else none else none
theorem incS_cons (d : Int) (e : S33) (r : List S33) (now : Int) (evs : List S33) (got : List S31) : incS d (e :: r) now evs got = if now ≤ e.f0 then (pollS d e.f0 evs got).bind fun p => if okAdd d e.f0 e p.1 = true then incS d r e.f0 (p.1 ++ [e]) p.2 else none else none := rfl
theorem pollS_len {d t : Int} {evs evs1 : List S33} {got got1 : List S31} (h : pollS d t evs got = some (evs1, got1)) : evs1.length ≤ evs.length ∧ got1.length ≤ got.length + 1 := by
  unfold pollS at h
  split at h
  · obtain ⟨b, _, h⟩ := Option.bind_eq_some_iff.1 h
    simp only [Option.some.injEq, Prod.mk.injEq] at h
    obtain ⟨rfl, rfl⟩ := h
    refine ⟨by simp, ?_⟩
    split <;> simp
  · simp only [Option.some.injEq, Prod.mk.injEq] at h
    obtain ⟨rfl, rfl⟩ := h
    omega
theorem p14 (wb : World) (gw g7 gb : Nat) (d now t : Int) (evs evs1 : List S33) (v u : Value) (got got1 : List S31) (W : World) (hi : Inc wb gw g7 gb d now evs v u got W) (hl : evs.length < 1000000000) (hgl : got.length < 1000000000) (ht : now ≤ t) (h : pollS d t evs got = some (evs1, got1)) :
    Calls Try.prog 14 #[.int .i64 t, .pointer (some ⟨g7, 0, none⟩), .pointer (some ⟨gb, 0, none⟩)] W fun E W' => E = .returned (.tuple #[]) ∧ ∃ v1 u1, Inc wb gw g7 gb d t evs1 v1 u1 got1 W' := by
  unfold pollS at h
  cases hc : cpl d t evs with
  | false =>
    rw [if_neg (by rw [hc]; simp)] at h
    simp only [Option.some.injEq, Prod.mk.injEq] at h
    obtain ⟨rfl, rfl⟩ := h
    refine (p14_no wb gw g7 gb d now t evs evs v v u got W hi (fun _ h => h) (poll_no wb gw d now t evs v W hi.wt hl (by omega) hc)).mono ?_
    rintro E W' ⟨rfl, hi'⟩
    exact ⟨rfl, v, u, hi'⟩
  | true =>
    rw [if_pos hc] at h
    obtain ⟨⟨bt, be⟩, hb, h⟩ := Option.bind_eq_some_iff.1 h
    simp only [Option.some.injEq, Prod.mk.injEq] at h
    obtain ⟨rfl, rfl⟩ := h
    by_cases h0 : be.length = 0
    · obtain rfl := List.eq_nil_of_length_eq_zero h0
      rw [show (if ([] : List S33).length = 0 then got else got ++ [(⟨bt, []⟩ : S31)]) = got from if_pos rfl]
      refine (p14_no wb gw g7 gb d now t evs [] v (.slice none 0 0) u got W hi (fun k e => by cases e) (poll_empty wb gw d now t bt evs v W hi.wt hl (by omega) hc hb trivial)).mono ?_
      rintro E W' ⟨rfl, hi'⟩
      exact ⟨rfl, _, u, hi'⟩
    · rw [show (if be.length = 0 then got else got ++ [(⟨bt, be⟩ : S31)]) = got ++ [(⟨bt, be⟩ : S31)] from if_neg h0]
      refine (p14_yes wb gw g7 gb d now t evs v u got W hi bt be hgl ((poll_more wb gw d now t bt evs be v W hi.wt hl (by omega) hc hb (by omega)).mono ?_)).mono ?_
      · rintro E W' ⟨vb, h1, h2, h3, h4⟩
        exact ⟨⟨vb, h1, h2⟩, h3, h4⟩
      · rintro E W' ⟨rfl, u1, hi'⟩
        exact ⟨rfl, _, u1, hi'⟩
theorem take33d (l : List S33) (i : Nat) (h : i < l.length) : l.drop i = rd_T33 l (i : Int) :: l.drop (i + 1) := by
  rw [List.drop_eq_getElem_cons h]
  unfold rd_T33
  simp [h]
set_option maxHeartbeats 8000000 in
set_option maxRecDepth 100000 in
theorem inc_calls (k : Nat) (A0 : Option Addr) (c0 : Nat) (l0 : List S33) (a1 : Int) (w : World) (hr0 : Kd.C k33 w A0 l0.length l0) (hc0 : l0.length ≤ c0) (es : List S33) (d : Int) (want : List S31)
    (hex : glossatorkeep3_watchExample.f k = some true) (htm : glossatorkeep3_timed.f k l0 = some es) (hmd : glossatorref3_Mod.f a1 60 = some d) (hbt : filewatch_Batches.f k es d = some (want, 0)) (hd0 : ¬ d < 0) (hd1 : ¬ d > 1000000) (hlen : es.length < 1000000)
    (evF : List S33) (gotF : List S31) (hs : incS d es 0 [] [] = some (evF, gotF)) (heq : glossatorref3_EqualBatches.f k gotF want = some true) :
    Calls Try.prog 5 #[.slice A0 l0.length c0, .int .i64 a1] w fun e w' => e = .returned (.bool true) ∧ Below w.heap.size w w' := by
  have hu33 := Try.underlying33
  have HR0 := Aside0.mk hr0
  have HC0 := Aside0.mk hc0
  have HEX := Aside0.mk hex
  have HTM := Aside0.mk htm
  have HMD := Aside0.mk hmd
  have HBT := Aside0.mk hbt
  have HLE := Aside0.mk hlen
  have HS := Aside0.mk hs
  have HEQ := Aside0.mk heq
  have HD := Aside0.mk (And.intro hd0 hd1)
  clear hr0 hc0 hex htm hmd hbt hlen hs heq hd0 hd1
  have HB := Aside0.mk (Below.refl w.heap.size w)
  have z0 : ((0 : Int) != 0) = false := rfl
  go_enter Try.func5, Try.ntmps5
  go_wp2_with (first | (go_at_call 6; refine (glossatorkeep3_watchExample.calls k true _ HEX.out).mono ?_; rintro e_ w3 ⟨rfl, hb⟩; have n1_ := Aside0.mk (below_step HB.out hb); clear HB hb; have HB := n1_; clear n1_) | (go_at_call 7; refine (glossatorkeep3_timed.calls k A0 c0 l0 es _ (Kd.C_below HR0.out HB.out) HC0.out HTM.out).mono ?_; rintro e_ w4 ⟨v0_, rfl, hr, hb⟩; obtain ⟨A, c, rfl⟩ := Kd.R_slice hr; have HCE := Aside0.mk (Kd.R_reads' hr).2.2; have HCC := Aside0.mk (Kd.R_reads' hr).2.1; clear hr; have n1_ := Aside0.mk (below_step HB.out hb); clear HB hb; have HB := n1_; clear n1_) | (go_at_call 8; refine (glossatorref3_Mod.calls a1 60 d _ HMD.out).mono ?_; rintro e_ w5 ⟨rfl, hd_⟩; have hb := hd_.below; clear hd_; have n1_ := Aside0.mk (below_step HB.out hb); have n2_ := Aside0.mk (Kd.C_below HCE.out hb); clear HB HCE hb; have HB := n1_; have HCE := n2_; clear n1_ n2_) | (go_at_call 9; refine (filewatch_Batches.calls k A c es d want 0 _ HCE.out HCC.out HBT.out).mono ?_; rintro e_ w6 ⟨v0_, rfl, hr, hb⟩; obtain ⟨Aw, cw, rfl⟩ := Kd.R_slice (Kd.S_R hr); have HCW := Aside0.mk (Kd.R_reads' (Kd.S_R hr)).2.2; have HCX := Aside0.mk (Kd.R_reads' (Kd.S_R hr)).2.1; clear hr; have n1_ := Aside0.mk (below_step HB.out hb); have n2_ := Aside0.mk (Kd.C_below HCE.out hb); clear HB HCE hb; have HB := n1_; have HCE := n2_; clear n1_ n2_) | (go_at_call 13; refine (nw_calls d _ (by have h_ := HD.out.1; omega) (by have h_ := HD.out.2; omega)).mono ?_; rintro e_ w7 ⟨gw, rfl, hb, hwt⟩; have HWT := Aside0.mk hwt; have HB6 := HB; have n1_ := Aside0.mk (below_step HB.out hb); clear HB hb; have HB := n1_; clear n1_; clear hwt) | ((with_reducible refine gate_dst (N := 7) rfl ?_); refine box_event ?hg (N := 7) ?hd (cs := #[.pointer none]) (t := 40) ?hr ?_; (case hd => rfl); (case hg => rfl); (case hr => first | (go_simp; done) | (go_simp; rfl)); intro g7 hg w8 hbox hb; have HB8 := Aside0.mk (show Below w7.heap.size w7 w8 from hb); have BK7 := Aside0.mk hbox; have GE7 := Aside0.mk (show w7.heap.size ≤ g7 from Nat.le_of_eq hg.symm); clear hb hbox hg; have hc7 : w8.cell? ⟨g7, 0, none⟩ = some (.pointer none) := (blk_cell BK7.out 0).trans rfl; have hf7 := blk_frozen BK7.out 0) | ((with_reducible refine gate_dst (N := 9) rfl ?_); refine box_event ?hg (N := 9) ?hd (cs := #[.slice none 0 0]) (t := 26) ?hr ?_; (case hd => rfl); (case hg => rfl); (case hr => first | (go_simp; done) | (go_simp; rfl)); intro gb hg w10 hbox hb; have HI := Aside0.mk (show Inc w6 gw g7 gb d 0 [] (.slice none 0 0) (.slice none 0 0) [] w10 from ⟨(HWT.out.below (below_set HB8.out GE7.out)).below hb, Nat.le_trans HWT.out.wbl.size GE7.out, Nat.le_trans HWT.out.wbl.size (by rw [hg]; exact below_size (below_set HB8.out GE7.out)), blk_below (show ((w8.setCell ⟨g7, 0, none⟩ (.pointer (some ⟨gw, 0, none⟩)))).heap[g7]? = some (.cells #[.pointer (some ⟨gw, 0, none⟩)] 40 (0, 0)) from blk_put BK7.out 0 _ rfl) hb, hbox, Kd.R_nil _ _ _ _ _⟩); clear hb hbox hg hc7 hf7))
  go_loopg [42, 11] es.length (fun kq v42 v11 w' => ∃ x : Int, v42 = .int .i64 x ∧ Aside0 (∃ (i : Nat) (now : Int) (evs : List S33) (v u : Value) (got : List S31), x = i ∧ i + kq = es.length ∧ evs.length ≤ i ∧ got.length ≤ i ∧ incS d (es.drop i) now evs got = some (evF, gotF) ∧ Inc w6 gw g7 gb d now evs v u got w'))
  case atStart => exact ⟨0, rfl, ⟨⟨0, 0, [], _, _, [], rfl, by omega, Nat.le_refl _, Nat.le_refl _, HS.out, HI.out⟩⟩⟩
  case round =>
    clear HI
    obtain ⟨x, rfl, HX⟩ := hrel
    by_cases c_ : x < (es.length : Int)
    · have c1 : decide (x < (es.length : Int)) = true := decide_eq_true c_
      obtain ⟨i, now, evs, v, u, got, e1, e2, hl1, hl2, e3, e4⟩ := HX.out
      clear HX
      obtain ⟨k1, rfl⟩ : ∃ k1, gk = k1 + 1 := ⟨gk - 1, by omega⟩
      have E1 := Aside0.mk (And.intro e1 e2)
      have HLN := Aside0.mk (show evs.length ≤ i ∧ got.length ≤ i ∧ i < 1000000 from ⟨hl1, hl2, by have := HLE.out; omega⟩)
      rw [take33d es i (by omega), ← e1, incS_cons] at e3
      split at e3
      case isFalse => cases e3
      rename_i ht
      obtain ⟨⟨evs1, got1⟩, hps, e3⟩ := Option.bind_eq_some_iff.1 e3
      split at e3
      case isFalse => cases e3
      rename_i hok
      simp only [okAdd, Bool.and_eq_true, decide_eq_true_eq, Bool.not_eq_true'] at hok
      have HL1 := Aside0.mk (pollS_len hps)
      have HT := Aside0.mk ht
      have HPS := Aside0.mk hps
      have HOK := Aside0.mk (show vk (rd_T33 es x).f2 = true ∧ ¬ (rd_T33 es x).f0 < 0 ∧ ¬ (rd_T33 es x).f0 > 1000000000000 ∧ cpl d (rd_T33 es x).f0 evs1 = false from ⟨hok.1.1.1.1, by omega, by omega, hok.2⟩)
      have HREST := Aside0.mk e3
      have HI := Aside0.mk e4
      have p1 : 0 ≤ (x : Int) := by omega
      obtain ⟨ad, ea, hx0, hx1, hx2⟩ := at_T33 HCE.out x p1 c_
      cases ea
      have HX0 : ∀ w' : World, Below w6.heap.size w6 w' → w'.cell? (ad.add (x.toNat * 3)) = some (.int .i64 (rd_T33 es x).f0) := fun w' hb => (hb.cell (World.block_lt_of_cell? w6 _ hx0)).trans hx0
      have HX1 : ∀ w' : World, Below w6.heap.size w6 w' → w'.cell? ⟨(ad.add (x.toNat * 3)).block, (ad.add (x.toNat * 3)).off + 1, none⟩ = some (.string (rd_T33 es x).f1) := fun w' hb => (hb.cell (World.block_lt_of_cell? w6 _ hx1)).trans hx1
      have HX2 : ∀ w' : World, Below w6.heap.size w6 w' → w'.cell? ⟨(ad.add (x.toNat * 3)).block, (ad.add (x.toNat * 3)).off + 2, none⟩ = some (.int .i64 (rd_T33 es x).f2) := fun w' hb => (hb.cell (World.block_lt_of_cell? w6 _ hx2)).trans hx2
      have hy0 := HX0 wr HI.out.wt.wbl
      have p1 := eq_true p1
      have q1 := eq_true c_
      clear e1 e2 e3 e4 hl1 hl2 c_ ht hps hok hx0 hx1 hx2
      go_wp2_with ((go_at_call 14; refine (p14 w6 gw g7 gb d now (rd_T33 es x).f0 evs evs1 v u got got1 _ HI.out (by have h_ := HLN.out; omega) (by have h_ := HLN.out; omega) HT.out HPS.out).mono ?_; rintro e_ w12 ⟨rfl, v1, u1, hi⟩; have HI2 := Aside0.mk hi; clear hi HI))
      refine start_ (n := 7) (S := fun w' => w'.cell? ⟨g7, 0, none⟩ = some (.pointer (some ⟨gw, 0, none⟩)) ∧ w'.cell? (ad.add (x.toNat * 3)) = some (.int .i64 (rd_T33 es x).f0) ∧ w'.cell? ⟨(ad.add (x.toNat * 3)).block, (ad.add (x.toNat * 3)).off + 1, none⟩ = some (.string (rd_T33 es x).f1) ∧ w'.cell? ⟨(ad.add (x.toNat * 3)).block, (ad.add (x.toNat * 3)).off + 2, none⟩ = some (.int .i64 (rd_T33 es x).f2)) (ds := []) #[false, false, false, false, false, false, false] (by kernel_rfl) rfl rfl ⟨(blk_cell HI2.out.b7 0).trans rfl, (HX0 _ (below_drew1 HI2.out.wt.wbl)), (HX1 _ (below_drew1 HI2.out.wt.wbl)), (HX2 _ (below_drew1 HI2.out.wt.wbl))⟩ (fun hHeld => ?_)
      have n1_ := Aside0.mk (HI2.out.below (below_drew1 (Below.refl _ _)))
      clear HI2
      generalize w12.drew = w13 at n1_ hHeld ⊢
      have HI2 := n1_
      clear n1_
      refine pure_ (i := 1) (N := some 53) (v := ?_) (a' := ?_) #[false, true, false, false, false, false, false] rfl rfl (by kernel_rfl) (fun _ _ _ h => h) (Or.inl ⟨by rfl, ?_⟩) ?_ ?_
      rotate_left
      · intro w'
        go_simp
        with_reducible rfl
      rotate_left
      · simp only [Act.put, List.setIfInBounds_toArray, List.set_cons_zero, List.set_cons_succ, i64_w, i32_w]
        rfl
      refine pure_ (i := 2) (N := some 54) (v := ?_) (a' := ?_) #[false, true, true, false, false, false, false] rfl rfl (by kernel_rfl) (fun _ _ _ h => h) (Or.inl ⟨by rfl, ?_⟩) ?_ ?_
      rotate_left
      · intro w'
        go_simp
        with_reducible rfl
      rotate_left
      · simp only [Act.put, List.setIfInBounds_toArray, List.set_cons_zero, List.set_cons_succ, i64_w, i32_w]
        rfl
      refine pure_ (i := 3) (N := some 55) (v := ?_) (a' := ?_) #[false, true, true, true, false, false, false] rfl rfl (by kernel_rfl) (fun _ _ _ h => h) (Or.inl ⟨by rfl, ?_⟩) ?_ ?_
      rotate_left
      · intro w'
        go_simp
        with_reducible rfl
      rotate_left
      · simp only [Act.put, List.setIfInBounds_toArray, List.set_cons_zero, List.set_cons_succ, i64_w, i32_w]
        rfl
      refine take_ (i := 0) (N := some 52) (v := ?_) (a' := ?_) #[true, true, true, true, false, false, false] rfl rfl (by kernel_rfl) (fun _ _ _ h => h) (Or.inl ⟨by rfl, ?_⟩) hHeld ?_ ?_
      rotate_left
      · rintro w' ⟨s0, s1, s2, s3⟩
        go_simp
        with_reducible rfl
      rotate_left
      · simp only [Act.put, List.setIfInBounds_toArray, List.set_cons_zero, List.set_cons_succ, i64_w, i32_w]
        rfl
      refine take_ (i := 4) (N := some 56) (v := ?_) (a' := ?_) #[true, true, true, true, true, false, false] rfl rfl (by kernel_rfl) (fun _ _ _ h => h) (Or.inl ⟨by rfl, ?_⟩) hHeld ?_ ?_
      rotate_left
      · rintro w' ⟨s0, s1, s2, s3⟩
        go_simp
        with_reducible rfl
      rotate_left
      · simp only [Act.put, List.setIfInBounds_toArray, List.set_cons_zero, List.set_cons_succ, i64_w, i32_w]
        rfl
      refine one_ (i := 5) (N := some 57) #[true, true, true, true, true, true, false] rfl rfl (by kernel_rfl) (by decide) (fun K hK => ?_)
      refine goes_ Try.func16 (by kernel_rfl) rfl #[.pointer (some ⟨gw, 0, none⟩), .agg #[.int .i64 (rd_T33 es x).f0, .string (rd_T33 es x).f1, .int .i64 (rd_T33 es x).f2]] (by rfl) rfl rfl (by (try simp only [List.map_toArray, List.map_cons, List.map_nil]); first | done | rfl) ?_
      refine (add_calls w6 gw d (rd_T33 es x).f0 (rd_T33 es x) evs1 v1 _ HI2.out.wt (by have h_ := HLN.out; have h2_ := HL1.out; omega) HOK.out.1 (by have h_ := HOK.out.2.1; omega) (by have h_ := HOK.out.2.2.1; omega) (by omega) HOK.out.2.2.2).mono ?_
      rintro e_ w15 ⟨rfl, v2, hw2, hk2, hat2⟩
      refine ⟨_, rfl, ?_⟩
      have HI3 := Aside0.mk (HI2.out.more hk2 hw2 hat2)
      clear HI2 hw2 hk2 hat2
      refine hK.out _ _ ⟨(blk_cell HI3.out.b7 0).trans rfl, (HX0 _ HI3.out.wt.wbl), (HX1 _ HI3.out.wt.wbl), (HX2 _ HI3.out.wt.wbl)⟩ (fun hHeld => ?_)
      clear hK K
      refine norm_ (a' := ?_) ?_ ?_
      rotate_left
      · show Act.put _ (some 57) _ = _
        simp only [Act.put, List.setIfInBounds_toArray, List.set_cons_zero, List.set_cons_succ, i64_w, i32_w]
        rfl
      refine pure_ (i := 6) (N := some 58) (v := ?_) (a' := ?_) #[true, true, true, true, true, true, true] rfl rfl (by kernel_rfl) (fun _ _ _ h => h) (Or.inl ⟨by rfl, ?_⟩) ?_ ?_
      rotate_left
      · intro w'
        go_simp
        with_reducible rfl
      rotate_left
      · simp only [Act.put, List.setIfInBounds_toArray, List.set_cons_zero, List.set_cons_succ, i64_w, i32_w]
        rfl
      refine done_ (by kernel_rfl) ?_
      try go_wp2
      go_roundg k1
      case measure => have := E1.out; omega
      case rel => exact ⟨wrap64 (x + 1), rfl, ⟨⟨i + 1, _, _, _, _, _, by have := E1.out; rw [w64_id (by omega) (by have := HLE.out; omega)]; omega, by have := E1.out; omega, by have h_ := HLN.out; have h2_ := HL1.out; simp only [List.length_append, List.length_singleton]; omega, by have h_ := HLN.out; have h2_ := HL1.out; omega, HREST.out, HI3.out⟩⟩⟩
    · have c1 : decide (x < (es.length : Int)) = false := decide_eq_false c_
      obtain ⟨i, now, evs, v, u, got, e1, e2, hl1, hl2, e3, e4⟩ := HX.out
      clear HX
      obtain rfl : i = es.length := by omega
      rw [List.drop_length] at e3
      unfold incS at e3
      split at e3
      case isFalse => cases e3
      rename_i ht
      have HLN := Aside0.mk (show evs.length < 1000000 ∧ got.length < 1000000 from ⟨by have := HLE.out; omega, by have := HLE.out; omega⟩)
      have HT := Aside0.mk ht
      have HPS := Aside0.mk e3
      have HI := Aside0.mk e4
      clear e1 e2 e3 e4 hl1 hl2 c_ ht
      go_wp2_with (first | (go_at_call 14; refine (p14 w6 gw g7 gb d now 1000000 evs evF v u got gotF _ HI.out (by have h_ := HLN.out; omega) (by have h_ := HLN.out; omega) HT.out HPS.out).mono ?_; rintro e_ w12 ⟨rfl, v1, u1, hi⟩; obtain ⟨Ag, cg, rfl⟩ := Kd.R_slice hi.rg; have HI2 := Aside0.mk hi; clear hi HI) | (go_at_call 6; refine (glossatorkeep3_watchExample.calls k true _ HEX.out).mono ?_; rintro e_ w13 ⟨rfl, hb⟩; have HI3 := Aside0.mk (HI2.out.below hb); clear hb HI2; have hxb : w13.cell? ⟨gb, 0, none⟩ = some (.slice Ag gotF.length cg) := (blk_cell HI3.out.bb 0).trans rfl) | (go_at_call 17; refine (glossatorref3_EqualBatches.calls k Ag cg gotF Aw cw want true _ (Kd.R_reads' HI3.out.rg).2.2 (Kd.R_reads' HI3.out.rg).2.1 (Kd.C_below HCW.out HI3.out.wt.wbl) HCX.out HEQ.out).mono ?_; rintro e_ w14 ⟨rfl, hb⟩; have HBF := Aside0.mk (below_step (below_then HB6.out HB6.out.size HI3.out.wt.wbl) hb); clear hb))
      go_ret
      exact ⟨rfl, HBF.out⟩
end Go.Proofs.Ytgigbllohagfmaa.Fi
