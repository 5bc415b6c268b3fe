/- filewatch.Watcher.Poll. Condition: fewer than 1000000000 events. -/
import Derived.Test.YtgigbllohagfmaaFix0
import Derived.Test.YtgigbllohagfmaaFihTb
import Derived.Test.YtgigbllohagfmaaFihNb
import Derived.Test.YtgigbllohagfmaaFihWt
import Derived.BigQuiet
namespace Go.Proofs.Ytgigbllohagfmaa.Fi
open Go.RowKit Go.Proofs.YtgigbllohagfmaaW.PrintWords Go.Proofs.YtgigbllohagfmaaW.PrintLast Go.Proofs.YtgigbllohagfmaaW.PrintMore
open Go.Proofs.Ytgigbllohagfmaa
set_option linter.unusedVariables false
set_option linter.unusedSimpArgs false
set_option maxHeartbeats 8000000 in
set_option maxRecDepth 100000 in
theorem poll_no (wb : World) (gw : Nat) (d now t : Int) (evs : List S33) (v : Value) (W : World) (hw : Wt wb gw d now evs v W) (hl : evs.length < 1000000000) (ht : ¬ t < now) (hc : cpl d t evs = false) :
    Calls Try.prog 15 #[.pointer (some ⟨gw, 0, none⟩), .int .i64 t] W fun E W' => E = .returned (.tuple #[.agg #[.int .i64 0, .slice none 0 0], .bool false]) ∧ Wt wb gw d t evs v W' ∧ Kp W W' (fun k => k = gw) := by
  have hu58 := Try.underlying58
  have hu33 := Try.underlying33
  have hu31 := Try.underlying31
  obtain ⟨A, c, rfl⟩ := Kd.R_slice hw.row
  have f2 : decide (t < now) = false := decide_eq_false ht
  have HW := Aside0.mk hw
  have HL := Aside0.mk hl
  have HC := Aside0.mk hc
  clear hw hl hc
  go_enter Try.func15, Try.ntmps15
  go_wp2_with (first | ((with_reducible refine gate_dst (N := 4) rfl ?_); refine box_event ?hg (N := 4) ?hd (cs := #[.int .i64 0, .slice none 0 0]) (t := 31) ?hr ?_; (case hd => rfl); (case hg => rfl); (case hr => first | (go_simp; done) | (go_simp; rfl)); intro g4 hg w3 hbox hb; have HB := Aside0.mk hb; have BK4 := Aside0.mk hbox; have NE4 := Aside0.mk (show W.heap.size ≤ g4 from Nat.le_of_eq hg.symm); have HW3 := Aside0.mk (HW.out.below hb); have NEW := Aside0.mk (show g4 ≠ gw from fun e_ => by have h1_ := blk_lt HW.out.box; have h2_ := NE4.out; omega); clear hb hbox hg; have hx1 : w3.cell? ⟨gw, 1, none⟩ = some (.int .i64 now) := (blk_cell HW3.out.box 1).trans rfl; have hf1 := blk_frozen HW3.out.box 1) | (go_at_call 24; refine (cpl_calls wb gw d t t evs (.slice A evs.length c) _ (HW3.out.setNow t) HL.out).mono ?_; rw [HC.out]; rintro e_ w5 ⟨rfl, hb⟩; have HW5 := Aside0.mk ((HW3.out.setNow t).below hb); have HK5 := Aside0.mk (show Kp W w5 (fun k => k = gw) from ((Kp.of_below HB.out (fun k => k = gw)).then_ (Kp.of_set w3 gw 1 (.int .i64 t)) (fun k hk => .inl hk)).then_ (Kp.of_below hb (fun _ => False)) (fun _ hk => hk.elim)); have n2_ := Aside0.mk (blk_below (g := g4) (o := .cells #[.int .i64 0, .slice none 0 0] 31 (0, 0)) ((Below.heap_setCell w3 ⟨gw, 1, none⟩ (.int .i64 t) g4 NEW.out).trans BK4.out) hb); clear HW3 HB BK4 hb hx1 hf1; have BK4 := n2_; clear n2_; have hc4_0 : w5.cell? ⟨g4, 0, none⟩ = some (.int .i64 0) := (blk_cell BK4.out 0).trans rfl; have hc4_1 : w5.cell? ⟨g4, 1, none⟩ = some (.slice none 0 0) := (blk_cell BK4.out 1).trans rfl; have hf4_0 := blk_frozen BK4.out 0; have hf4_1 := blk_frozen BK4.out 1))
  refine bodyPost_ret (results_ct rfl _ _ g4 31 #[.int .i64 0, .slice none 0 0] (0, 0) _ rfl (by refine blk_put (cs := #[.int .i64 0, .slice none 0 0]) ?_ 1 _ rfl; refine blk_put (cs := #[.int .i64 0, .slice none 0 0]) ?_ 0 _ rfl; exact BK4.out) Try.underlying31 rfl (by kernel_rfl)) rfl ?_
  refine ⟨rfl, HW5.out.keep (S := fun k => k = g4) (((Kp.of_set w5 g4 0 _)).then_ (Kp.of_set _ g4 1 _) (fun k hk => .inl hk)) (fun k hk => hk ▸ ⟨Nat.le_trans HW.out.wbl.size NE4.out, NEW.out, fun e_ => by have h1_ := Kd.R_lt HW.out.row g4 e_.symm; have h2_ := NE4.out; omega⟩), (HK5.out.then_ (Kp.of_set w5 g4 0 _) (fun k hk => .inr (hk ▸ NE4.out))).then_ (Kp.of_set _ g4 1 _) (fun k hk => .inr (hk ▸ NE4.out))⟩
set_option maxHeartbeats 8000000 in
set_option maxRecDepth 100000 in
theorem poll_empty (wb : World) (gw : Nat) (d now t bt : Int) (evs : List S33) (v : Value) (W : World) (hw : Wt wb gw d now evs v W) (hl : evs.length < 1000000000) (ht : ¬ t < now) (hc : cpl d t evs = true) (hnb : filewatch_newBatch.f evs d = some (bt, [])) (he : True) :
    Calls Try.prog 15 #[.pointer (some ⟨gw, 0, none⟩), .int .i64 t] W fun E W' => E = .returned (.tuple #[.agg #[.int .i64 0, .slice none 0 0], .bool false]) ∧ Wt wb gw d t [] (.slice none 0 0) W' ∧ Kp W W' (fun k => k = gw) := by
  have hu58 := Try.underlying58
  have hu33 := Try.underlying33
  have hu31 := Try.underlying31
  obtain ⟨A, c, rfl⟩ := Kd.R_slice hw.row
  have f2 : decide (t < now) = false := decide_eq_false ht
  have HW := Aside0.mk hw
  have HL := Aside0.mk hl
  have HC := Aside0.mk hc
  clear hw hl hc
  have HNB := Aside0.mk hnb
  have g0_ : ((0 : Int) == 0) = true := rfl
  have g1_ := he
  clear hnb he
  go_enter Try.func15, Try.ntmps15
  go_wp2_with (first | ((with_reducible refine gate_dst (N := 4) rfl ?_); refine box_event ?hg (N := 4) ?hd (cs := #[.int .i64 0, .slice none 0 0]) (t := 31) ?hr ?_; (case hd => rfl); (case hg => rfl); (case hr => first | (go_simp; done) | (go_simp; rfl)); intro g4 hg w3 hbox hb; have HB := Aside0.mk hb; have BK4 := Aside0.mk hbox; have NE4 := Aside0.mk (show W.heap.size ≤ g4 from Nat.le_of_eq hg.symm); have HW3 := Aside0.mk (HW.out.below hb); have NEW := Aside0.mk (show g4 ≠ gw from fun e_ => by have h1_ := blk_lt HW.out.box; have h2_ := NE4.out; omega); clear hb hbox hg; have hx1 : w3.cell? ⟨gw, 1, none⟩ = some (.int .i64 now) := (blk_cell HW3.out.box 1).trans rfl; have hf1 := blk_frozen HW3.out.box 1) | (go_at_call 24; refine (cpl_calls wb gw d t t evs (.slice A evs.length c) _ (HW3.out.setNow t) HL.out).mono ?_; rw [HC.out]; rintro e_ w5 ⟨rfl, hb⟩; have HW5 := Aside0.mk ((HW3.out.setNow t).below hb); have HK5 := Aside0.mk (show Kp W w5 (fun k => k = gw) from ((Kp.of_below HB.out (fun k => k = gw)).then_ (Kp.of_set w3 gw 1 (.int .i64 t)) (fun k hk => .inl hk)).then_ (Kp.of_below hb (fun _ => False)) (fun _ hk => hk.elim)); have n2_ := Aside0.mk (blk_below (g := g4) (o := .cells #[.int .i64 0, .slice none 0 0] 31 (0, 0)) ((Below.heap_setCell w3 ⟨gw, 1, none⟩ (.int .i64 t) g4 NEW.out).trans BK4.out) hb); clear HW3 HB BK4 hb hx1 hf1; have BK4 := n2_; clear n2_; have hc4_0 : w5.cell? ⟨g4, 0, none⟩ = some (.int .i64 0) := (blk_cell BK4.out 0).trans rfl; have hc4_1 : w5.cell? ⟨g4, 1, none⟩ = some (.slice none 0 0) := (blk_cell BK4.out 1).trans rfl; have hf4_0 := blk_frozen BK4.out 0; have hf4_1 := blk_frozen BK4.out 1))
  refine start_ (n := 11) (S := fun w' => w'.cell? ⟨gw, 2, none⟩ = some (.slice A evs.length c) ∧ w'.cell? ⟨gw, 0, none⟩ = some (.int .i64 d)) (ds := [10]) #[false, false, false, false, false, false, false, false, false, false, false] (by kernel_rfl) rfl rfl ⟨(blk_cell HW5.out.box 2).trans rfl, (blk_cell HW5.out.box 0).trans rfl⟩ (fun hHeld => ?_)
  have n1_ := Aside0.mk (HW5.out.below (below_drew1 (Below.refl _ _)))
  have n2_ := Aside0.mk (HK5.out.then_ (Kp.of_below (below_drew1 (Below.refl _ _)) (fun _ => False)) (fun _ hk => hk.elim))
  have n3_ := Aside0.mk (blk_drew BK4.out)
  clear HW5 HK5 BK4 hc4_0 hc4_1 hf4_0 hf4_1
  generalize w5.drew = w6 at n1_ n2_ n3_ hHeld ⊢
  have HW5 := n1_
  have HK5 := n2_
  have BK4 := n3_
  clear n1_ n2_ n3_
  refine pure_ (i := 0) (N := some 23) (v := ?_) (a' := ?_) #[true, false, false, false, false, false, false, false, false, false, false] rfl rfl (by kernel_rfl) (fun _ _ _ h => h) (Or.inl ⟨by rfl, ?_⟩) ?_ ?_
  rotate_left
  · intro w'
    go_simp
    with_reducible rfl
  rotate_left
  · simp only [Act.put, List.setIfInBounds_toArray, List.set_cons_zero, List.set_cons_succ, i64_w, i32_w]
    rfl
  refine pure_ (i := 1) (N := some 24) (v := ?_) (a' := ?_) #[true, true, false, false, false, false, false, false, false, false, false] rfl rfl (by kernel_rfl) (fun _ _ _ h => h) (Or.inl ⟨by rfl, ?_⟩) ?_ ?_
  rotate_left
  · intro w'
    go_simp
    with_reducible rfl
  rotate_left
  · simp only [Act.put, List.setIfInBounds_toArray, List.set_cons_zero, List.set_cons_succ, i64_w, i32_w]
    rfl
  refine pure_ (i := 2) (N := some 25) (v := ?_) (a' := ?_) #[true, true, true, false, false, false, false, false, false, false, false] rfl rfl (by kernel_rfl) (fun _ _ _ h => h) (Or.inl ⟨by rfl, ?_⟩) ?_ ?_
  rotate_left
  · intro w'
    go_simp
    with_reducible rfl
  rotate_left
  · simp only [Act.put, List.setIfInBounds_toArray, List.set_cons_zero, List.set_cons_succ, i64_w, i32_w]
    rfl
  refine pure_ (i := 4) (N := some 27) (v := ?_) (a' := ?_) #[true, true, true, false, true, false, false, false, false, false, false] rfl rfl (by kernel_rfl) (fun _ _ _ h => h) (Or.inl ⟨by rfl, ?_⟩) ?_ ?_
  rotate_left
  · intro w'
    go_simp
    with_reducible rfl
  rotate_left
  · simp only [Act.put, List.setIfInBounds_toArray, List.set_cons_zero, List.set_cons_succ, i64_w, i32_w]
    rfl
  refine pure_ (i := 5) (N := some 28) (v := ?_) (a' := ?_) #[true, true, true, false, true, true, false, false, false, false, false] rfl rfl (by kernel_rfl) (fun _ _ _ h => h) (Or.inl ⟨by rfl, ?_⟩) ?_ ?_
  rotate_left
  · intro w'
    go_simp
    with_reducible rfl
  rotate_left
  · simp only [Act.put, List.setIfInBounds_toArray, List.set_cons_zero, List.set_cons_succ, i64_w, i32_w]
    rfl
  refine pure_ (i := 6) (N := some 29) (v := ?_) (a' := ?_) #[true, true, true, false, true, true, true, false, false, false, false] rfl rfl (by kernel_rfl) (fun _ _ _ h => h) (Or.inl ⟨by rfl, ?_⟩) ?_ ?_
  rotate_left
  · intro w'
    go_simp
    with_reducible rfl
  rotate_left
  · simp only [Act.put, List.setIfInBounds_toArray, List.set_cons_zero, List.set_cons_succ, i64_w, i32_w]
    rfl
  refine take_ (i := 3) (N := some 26) (v := ?_) (a' := ?_) #[true, true, true, true, true, true, true, false, false, false, false] rfl rfl (by kernel_rfl) (fun _ _ _ h => h) (Or.inl ⟨by rfl, ?_⟩) hHeld ?_ ?_
  rotate_left
  · rintro w' ⟨s0, s1⟩
    go_simp
    with_reducible rfl
  rotate_left
  · simp only [Act.put, List.setIfInBounds_toArray, List.set_cons_zero, List.set_cons_succ, i64_w, i32_w]
    rfl
  refine take_ (i := 7) (N := some 30) (v := ?_) (a' := ?_) #[true, true, true, true, true, true, true, true, false, false, false] rfl rfl (by kernel_rfl) (fun _ _ _ h => h) (Or.inl ⟨by rfl, ?_⟩) hHeld ?_ ?_
  rotate_left
  · rintro w' ⟨s0, s1⟩
    go_simp
    with_reducible rfl
  rotate_left
  · simp only [Act.put, List.setIfInBounds_toArray, List.set_cons_zero, List.set_cons_succ, i64_w, i32_w]
    rfl
  refine two_ (i := 8) (j := 9) (Ni := some 31) (Nj := some 6) #[true, true, true, true, true, true, true, true, true, false, false] #[true, true, true, true, true, true, true, true, false, true, false] rfl rfl rfl rfl (by kernel_rfl) (by decide) (by decide) (fun K hK => ?_) (fun K hK => ?_)
  · refine goes_ Try.func20 (by kernel_rfl) rfl #[.slice A evs.length c, .int .i64 d] (by rfl) rfl rfl (by (try simp only [List.map_toArray, List.map_cons, List.map_nil]); first | done | rfl) ?_
    refine (filewatch_newBatch.calls A c evs d bt [] _ (Kd.R_reads' HW5.out.row).2.2 (Kd.R_reads' HW5.out.row).2.1 HNB.out).mono ?_
    rintro e_ w7 ⟨vb, rfl, hr, hb⟩
    refine ⟨_, rfl, ?_⟩
    obtain ⟨Ab, cb, rfl⟩ := Kd.R_slice hr
    have n1_ := Aside0.mk (HW5.out.below hb)
    have n2_ := Aside0.mk (HK5.out.then_ (Kp.of_below hb (fun _ => False)) (fun _ hk => hk.elim))
    have HRB := Aside0.mk (Kd.R_tight rfl (Kd.R_lower hr HK5.out.size))
    have o0_ := Aside0.mk (blk_below BK4.out hb)
    clear HW5 HK5 hr BK4 hb
    have HW5 := n1_
    have HK5 := n2_
    have BK4 := o0_
    clear n1_ n2_ o0_
    refine hK.out _ _ ⟨(blk_cell HW5.out.box 2).trans rfl, (blk_cell HW5.out.box 0).trans rfl⟩ (fun hHeld => ?_)
    clear hK K
    refine norm_ (a' := ?_) ?_ ?_
    rotate_left
    · show Act.put _ (some 31) _ = _
      simp only [Act.put, List.setIfInBounds_toArray, List.set_cons_zero, List.set_cons_succ, i64_w, i32_w]
      rfl
    refine one_ (i := 9) (N := some 6) #[true, true, true, true, true, true, true, true, true, true, false] rfl rfl (by kernel_rfl) (by decide) (fun K hK => ?_)
    refine value_ (w1 := ?_) (v := ?_) (by rfl) rfl ?_ ?_
    rotate_left 2
    · go_simp
      constructor
      · rfl
      · rfl
    have hb8 : Below w7.heap.size w7 (w7.alloc (.cells #[.int .i64 0, .slice none 0 0] 31 (0, 0))) := below_alloc (Below.refl _ _) _
    have hx8 : (w7.alloc (.cells #[.int .i64 0, .slice none 0 0] 31 (0, 0))).heap[w7.heap.size]? = some (.cells #[.int .i64 0, .slice none 0 0] 31 (0, 0)) := blk_new w7 _
    have n1_ := Aside0.mk (HW5.out.below hb8)
    have n2_ := Aside0.mk (HK5.out.then_ (Kp.of_below hb8 (fun _ => False)) (fun _ hk => hk.elim))
    have n3_ := Aside0.mk (blk_below BK4.out hb8)
    have n4_ := Aside0.mk (Kd.R_below HRB.out hb8)
    have NE6 := Aside0.mk (show W.heap.size ≤ w7.heap.size ∧ g4 ≠ w7.heap.size ∧ w7.heap.size ≠ gw from ⟨HK5.out.size, fun e_ => by have h1_ := blk_lt BK4.out; omega, fun e_ => by have h1_ := blk_lt HW5.out.box; omega⟩)
    have NB6 := Aside0.mk (show some w7.heap.size ≠ (Value.slice Ab ([] : List S33).length cb).ownBlock from fun e_ => by have h1_ := Kd.R_lt HRB.out _ e_.symm; omega)
    clear HW5 HK5 BK4 hb8 HRB
    generalize hg6 : w7.heap.size = g6 at hx8 NE6 NB6 ⊢
    generalize (w7.alloc (.cells #[.int .i64 0, .slice none 0 0] 31 (0, 0))) = w8 at hx8 n1_ n2_ n3_ n4_ ⊢
    have HW5 := n1_
    have HK5 := n2_
    have BK4 := n3_
    have BK6 := Aside0.mk hx8
    have HRB := n4_
    clear n4_
    clear n1_ n2_ n3_ hx8 hg6
    refine hK.out _ _ ⟨(blk_cell HW5.out.box 2).trans rfl, (blk_cell HW5.out.box 0).trans rfl⟩ (fun hHeld => ?_)
    clear hK K
    refine norm_ (a' := ?_) ?_ ?_
    rotate_left
    · show Act.put _ (some 6) _ = _
      simp only [Act.put, List.setIfInBounds_toArray, List.set_cons_zero, List.set_cons_succ, i64_w, i32_w]
      rfl
    have HWF := HW5
    have hx2 : w8.cell? ⟨gw, 2, none⟩ = some (.slice A evs.length c) := (blk_cell HW5.out.box 2).trans rfl
    have hf2 := blk_frozen HW5.out.box 2
    have hc4_0 : w8.cell? ⟨g4, 0, none⟩ = some (.int .i64 0) := (blk_cell BK4.out 0).trans rfl
    have hc4_1 : w8.cell? ⟨g4, 1, none⟩ = some (.slice none 0 0) := (blk_cell BK4.out 1).trans rfl
    have hf4_0 := blk_frozen BK4.out 0
    have hf4_1 := blk_frozen BK4.out 1
    have hc6_0 : w8.cell? ⟨g6, 0, none⟩ = some (.int .i64 0) := (blk_cell BK6.out 0).trans rfl
    have hc6_1 : w8.cell? ⟨g6, 1, none⟩ = some (.slice none 0 0) := (blk_cell BK6.out 1).trans rfl
    have hf6_0 := blk_frozen BK6.out 0
    have hf6_1 := blk_frozen BK6.out 1
    have a1_ : (g4 = gw) = False := eq_false NEW.out
    have a2_ : (gw = g4) = False := eq_false NEW.out.symm
    have a3_ : (g6 = gw) = False := eq_false NE6.out.2.2
    have a4_ : (gw = g6) = False := eq_false NE6.out.2.2.symm
    have a5_ : (g4 = g6) = False := eq_false NE6.out.2.1
    have a6_ : (g6 = g4) = False := eq_false NE6.out.2.1.symm
    refine last_ (i := 10) (N := none) #[true, true, true, true, true, true, true, true, true, true, true] rfl rfl (by kernel_rfl) (by decide) (fun K hK => ?_)
    refine skip_ (w1 := ?_) (by rfl) rfl ?_ ?_
    rotate_left
    · go_simp
      rfl
    refine hK.out _ _ ?_
    clear hK K
    refine done_ (by kernel_rfl) ?_
    go_wp2
    refine bodyPost_ret (results_ct rfl _ _ g4 31 #[.int .i64 0, .slice none 0 0] (0, 0) _ rfl (by refine blk_put (cs := #[.int .i64 0, .slice none 0 0]) ?_ 1 _ rfl; refine blk_put (cs := #[.int .i64 0, .slice none 0 0]) ?_ 0 _ rfl; exact (by refine (Below.heap_setCell _ _ _ g4 NEW.out).trans ?_; refine (Below.heap_setCell _ _ _ g4 NE6.out.2.1).trans ?_; refine (Below.heap_setCell _ _ _ g4 NE6.out.2.1).trans ?_; exact BK4.out)) Try.underlying31 rfl (by kernel_rfl)) rfl ?_
    have WA_ := (HW5.out.keep (S := fun k => k = g6) ((Kp.of_set w8 g6 0 (.int .i64 bt)).then_ (Kp.of_set _ g6 1 (.slice Ab ([] : List S33).length cb)) (fun k hk => .inl hk)) (fun k hk => hk ▸ ⟨Nat.le_trans HW.out.wbl.size NE6.out.1, NE6.out.2.2, fun e_ => Kd.R_ne HW5.out.row BK6.out (by decide) e_⟩)).clear
    have WB_ := WA_.keep (S := fun k => k = g4) ((Kp.of_set _ g4 0 (.int .i64 0)).then_ (Kp.of_set _ g4 1 (.slice none 0 0)) (fun k hk => .inl hk)) (fun k hk => hk ▸ ⟨Nat.le_trans HW.out.wbl.size NE4.out, NEW.out, fun e_ => by cases e_⟩)
    have K0_ := ((((HK5.out.then_ (Kp.of_set w8 g6 0 (.int .i64 bt)) (fun k hk => .inr (hk ▸ NE6.out.1))).then_ (Kp.of_set _ g6 1 (.slice Ab ([] : List S33).length cb)) (fun k hk => .inr (hk ▸ NE6.out.1))).then_ (Kp.of_set _ gw 2 (.slice none 0 0)) (fun k hk => .inl hk)).then_ (Kp.of_set _ g4 0 (.int .i64 0)) (fun k hk => .inr (hk ▸ NE4.out))).then_ (Kp.of_set _ g4 1 (.slice none 0 0)) (fun k hk => .inr (hk ▸ NE4.out))
    exact ⟨rfl, WB_, K0_⟩
  · refine value_ (w1 := ?_) (v := ?_) (by rfl) rfl ?_ ?_
    rotate_left 2
    · go_simp
      constructor
      · rfl
      · rfl
    have hb8 : Below w6.heap.size w6 (w6.alloc (.cells #[.int .i64 0, .slice none 0 0] 31 (0, 0))) := below_alloc (Below.refl _ _) _
    have hx8 : (w6.alloc (.cells #[.int .i64 0, .slice none 0 0] 31 (0, 0))).heap[w6.heap.size]? = some (.cells #[.int .i64 0, .slice none 0 0] 31 (0, 0)) := blk_new w6 _
    have n1_ := Aside0.mk (HW5.out.below hb8)
    have n2_ := Aside0.mk (HK5.out.then_ (Kp.of_below hb8 (fun _ => False)) (fun _ hk => hk.elim))
    have n3_ := Aside0.mk (blk_below BK4.out hb8)
    have NE6 := Aside0.mk (show W.heap.size ≤ w6.heap.size ∧ g4 ≠ w6.heap.size ∧ w6.heap.size ≠ gw from ⟨HK5.out.size, fun e_ => by have h1_ := blk_lt BK4.out; omega, fun e_ => by have h1_ := blk_lt HW5.out.box; omega⟩)
    clear HW5 HK5 BK4 hb8 
    generalize hg6 : w6.heap.size = g6 at hx8 NE6  ⊢
    generalize (w6.alloc (.cells #[.int .i64 0, .slice none 0 0] 31 (0, 0))) = w7 at hx8 n1_ n2_ n3_  ⊢
    have HW5 := n1_
    have HK5 := n2_
    have BK4 := n3_
    have BK6 := Aside0.mk hx8
    clear n1_ n2_ n3_ hx8 hg6
    refine hK.out _ _ ⟨(blk_cell HW5.out.box 2).trans rfl, (blk_cell HW5.out.box 0).trans rfl⟩ (fun hHeld => ?_)
    clear hK K
    refine norm_ (a' := ?_) ?_ ?_
    rotate_left
    · show Act.put _ (some 6) _ = _
      simp only [Act.put, List.setIfInBounds_toArray, List.set_cons_zero, List.set_cons_succ, i64_w, i32_w]
      rfl
    refine one_ (i := 8) (N := some 31) #[true, true, true, true, true, true, true, true, true, true, false] rfl rfl (by kernel_rfl) (by decide) (fun K hK => ?_)
    refine goes_ Try.func20 (by kernel_rfl) rfl #[.slice A evs.length c, .int .i64 d] (by rfl) rfl rfl (by (try simp only [List.map_toArray, List.map_cons, List.map_nil]); first | done | rfl) ?_
    refine (filewatch_newBatch.calls A c evs d bt [] _ (Kd.R_reads' HW5.out.row).2.2 (Kd.R_reads' HW5.out.row).2.1 HNB.out).mono ?_
    rintro e_ w8 ⟨vb, rfl, hr, hb⟩
    refine ⟨_, rfl, ?_⟩
    obtain ⟨Ab, cb, rfl⟩ := Kd.R_slice hr
    have n1_ := Aside0.mk (HW5.out.below hb)
    have n2_ := Aside0.mk (HK5.out.then_ (Kp.of_below hb (fun _ => False)) (fun _ hk => hk.elim))
    have HRB := Aside0.mk (Kd.R_tight rfl (Kd.R_lower hr HK5.out.size))
    have o0_ := Aside0.mk (blk_below BK4.out hb)
    have o1_ := Aside0.mk (blk_below BK6.out hb)
    clear HW5 HK5 hr BK4 BK6 hb
    have HW5 := n1_
    have HK5 := n2_
    have BK4 := o0_
    have BK6 := o1_
    clear n1_ n2_ o0_ o1_
    refine hK.out _ _ ⟨(blk_cell HW5.out.box 2).trans rfl, (blk_cell HW5.out.box 0).trans rfl⟩ (fun hHeld => ?_)
    clear hK K
    refine norm_ (a' := ?_) ?_ ?_
    rotate_left
    · show Act.put _ (some 31) _ = _
      simp only [Act.put, List.setIfInBounds_toArray, List.set_cons_zero, List.set_cons_succ, i64_w, i32_w]
      rfl
    have NB6 := Aside0.mk (Kd.R_ne HRB.out BK6.out (by decide))
    have HWF := HW5
    have hx2 : w8.cell? ⟨gw, 2, none⟩ = some (.slice A evs.length c) := (blk_cell HW5.out.box 2).trans rfl
    have hf2 := blk_frozen HW5.out.box 2
    have hc4_0 : w8.cell? ⟨g4, 0, none⟩ = some (.int .i64 0) := (blk_cell BK4.out 0).trans rfl
    have hc4_1 : w8.cell? ⟨g4, 1, none⟩ = some (.slice none 0 0) := (blk_cell BK4.out 1).trans rfl
    have hf4_0 := blk_frozen BK4.out 0
    have hf4_1 := blk_frozen BK4.out 1
    have hc6_0 : w8.cell? ⟨g6, 0, none⟩ = some (.int .i64 0) := (blk_cell BK6.out 0).trans rfl
    have hc6_1 : w8.cell? ⟨g6, 1, none⟩ = some (.slice none 0 0) := (blk_cell BK6.out 1).trans rfl
    have hf6_0 := blk_frozen BK6.out 0
    have hf6_1 := blk_frozen BK6.out 1
    have a1_ : (g4 = gw) = False := eq_false NEW.out
    have a2_ : (gw = g4) = False := eq_false NEW.out.symm
    have a3_ : (g6 = gw) = False := eq_false NE6.out.2.2
    have a4_ : (gw = g6) = False := eq_false NE6.out.2.2.symm
    have a5_ : (g4 = g6) = False := eq_false NE6.out.2.1
    have a6_ : (g6 = g4) = False := eq_false NE6.out.2.1.symm
    refine last_ (i := 10) (N := none) #[true, true, true, true, true, true, true, true, true, true, true] rfl rfl (by kernel_rfl) (by decide) (fun K hK => ?_)
    refine skip_ (w1 := ?_) (by rfl) rfl ?_ ?_
    rotate_left
    · go_simp
      rfl
    refine hK.out _ _ ?_
    clear hK K
    refine done_ (by kernel_rfl) ?_
    go_wp2
    refine bodyPost_ret (results_ct rfl _ _ g4 31 #[.int .i64 0, .slice none 0 0] (0, 0) _ rfl (by refine blk_put (cs := #[.int .i64 0, .slice none 0 0]) ?_ 1 _ rfl; refine blk_put (cs := #[.int .i64 0, .slice none 0 0]) ?_ 0 _ rfl; exact (by refine (Below.heap_setCell _ _ _ g4 NEW.out).trans ?_; refine (Below.heap_setCell _ _ _ g4 NE6.out.2.1).trans ?_; refine (Below.heap_setCell _ _ _ g4 NE6.out.2.1).trans ?_; exact BK4.out)) Try.underlying31 rfl (by kernel_rfl)) rfl ?_
    have WA_ := (HW5.out.keep (S := fun k => k = g6) ((Kp.of_set w8 g6 0 (.int .i64 bt)).then_ (Kp.of_set _ g6 1 (.slice Ab ([] : List S33).length cb)) (fun k hk => .inl hk)) (fun k hk => hk ▸ ⟨Nat.le_trans HW.out.wbl.size NE6.out.1, NE6.out.2.2, fun e_ => Kd.R_ne HW5.out.row BK6.out (by decide) e_⟩)).clear
    have WB_ := WA_.keep (S := fun k => k = g4) ((Kp.of_set _ g4 0 (.int .i64 0)).then_ (Kp.of_set _ g4 1 (.slice none 0 0)) (fun k hk => .inl hk)) (fun k hk => hk ▸ ⟨Nat.le_trans HW.out.wbl.size NE4.out, NEW.out, fun e_ => by cases e_⟩)
    have K0_ := ((((HK5.out.then_ (Kp.of_set w8 g6 0 (.int .i64 bt)) (fun k hk => .inr (hk ▸ NE6.out.1))).then_ (Kp.of_set _ g6 1 (.slice Ab ([] : List S33).length cb)) (fun k hk => .inr (hk ▸ NE6.out.1))).then_ (Kp.of_set _ gw 2 (.slice none 0 0)) (fun k hk => .inl hk)).then_ (Kp.of_set _ g4 0 (.int .i64 0)) (fun k hk => .inr (hk ▸ NE4.out))).then_ (Kp.of_set _ g4 1 (.slice none 0 0)) (fun k hk => .inr (hk ▸ NE4.out))
    exact ⟨rfl, WB_, K0_⟩

set_option maxHeartbeats 8000000 in
set_option maxRecDepth 100000 in
theorem poll_more (wb : World) (gw : Nat) (d now t bt : Int) (evs be : List S33) (v : Value) (W : World) (hw : Wt wb gw d now evs v W) (hl : evs.length < 1000000000) (ht : ¬ t < now) (hc : cpl d t evs = true) (hnb : filewatch_newBatch.f evs d = some (bt, be)) (he : 0 < be.length) :
    Calls Try.prog 15 #[.pointer (some ⟨gw, 0, none⟩), .int .i64 t] W fun E W' => ∃ vb, E = .returned (.tuple #[.agg #[.int .i64 bt, vb], .bool true]) ∧ Kd.R k33 33 W' W.heap.size (fun _ => True) vb be ∧ Wt wb gw d t [] (.slice none 0 0) W' ∧ Kp W W' (fun k => k = gw) := by
  have hu58 := Try.underlying58
  have hu33 := Try.underlying33
  have hu31 := Try.underlying31
  obtain ⟨A, c, rfl⟩ := Kd.R_slice hw.row
  have f2 : decide (t < now) = false := decide_eq_false ht
  have HW := Aside0.mk hw
  have HL := Aside0.mk hl
  have HC := Aside0.mk hc
  clear hw hl hc
  have HNB := Aside0.mk hnb
  have g0_ : ((be.length : Int) == 0) = false := beq_eq_false_iff_ne.mpr (by omega)
  have g1_ := (show be ≠ [] from fun e_ => by rw [e_] at he; cases he)
  clear hnb he
  go_enter Try.func15, Try.ntmps15
  go_wp2_with (first | ((with_reducible refine gate_dst (N := 4) rfl ?_); refine box_event ?hg (N := 4) ?hd (cs := #[.int .i64 0, .slice none 0 0]) (t := 31) ?hr ?_; (case hd => rfl); (case hg => rfl); (case hr => first | (go_simp; done) | (go_simp; rfl)); intro g4 hg w3 hbox hb; have HB := Aside0.mk hb; have BK4 := Aside0.mk hbox; have NE4 := Aside0.mk (show W.heap.size ≤ g4 from Nat.le_of_eq hg.symm); have HW3 := Aside0.mk (HW.out.below hb); have NEW := Aside0.mk (show g4 ≠ gw from fun e_ => by have h1_ := blk_lt HW.out.box; have h2_ := NE4.out; omega); clear hb hbox hg; have hx1 : w3.cell? ⟨gw, 1, none⟩ = some (.int .i64 now) := (blk_cell HW3.out.box 1).trans rfl; have hf1 := blk_frozen HW3.out.box 1) | (go_at_call 24; refine (cpl_calls wb gw d t t evs (.slice A evs.length c) _ (HW3.out.setNow t) HL.out).mono ?_; rw [HC.out]; rintro e_ w5 ⟨rfl, hb⟩; have HW5 := Aside0.mk ((HW3.out.setNow t).below hb); have HK5 := Aside0.mk (show Kp W w5 (fun k => k = gw) from ((Kp.of_below HB.out (fun k => k = gw)).then_ (Kp.of_set w3 gw 1 (.int .i64 t)) (fun k hk => .inl hk)).then_ (Kp.of_below hb (fun _ => False)) (fun _ hk => hk.elim)); have n2_ := Aside0.mk (blk_below (g := g4) (o := .cells #[.int .i64 0, .slice none 0 0] 31 (0, 0)) ((Below.heap_setCell w3 ⟨gw, 1, none⟩ (.int .i64 t) g4 NEW.out).trans BK4.out) hb); clear HW3 HB BK4 hb hx1 hf1; have BK4 := n2_; clear n2_; have hc4_0 : w5.cell? ⟨g4, 0, none⟩ = some (.int .i64 0) := (blk_cell BK4.out 0).trans rfl; have hc4_1 : w5.cell? ⟨g4, 1, none⟩ = some (.slice none 0 0) := (blk_cell BK4.out 1).trans rfl; have hf4_0 := blk_frozen BK4.out 0; have hf4_1 := blk_frozen BK4.out 1))
  refine start_ (n := 11) (S := fun w' => w'.cell? ⟨gw, 2, none⟩ = some (.slice A evs.length c) ∧ w'.cell? ⟨gw, 0, none⟩ = some (.int .i64 d)) (ds := [10]) #[false, false, false, false, false, false, false, false, false, false, false] (by kernel_rfl) rfl rfl ⟨(blk_cell HW5.out.box 2).trans rfl, (blk_cell HW5.out.box 0).trans rfl⟩ (fun hHeld => ?_)
  have n1_ := Aside0.mk (HW5.out.below (below_drew1 (Below.refl _ _)))
  have n2_ := Aside0.mk (HK5.out.then_ (Kp.of_below (below_drew1 (Below.refl _ _)) (fun _ => False)) (fun _ hk => hk.elim))
  have n3_ := Aside0.mk (blk_drew BK4.out)
  clear HW5 HK5 BK4 hc4_0 hc4_1 hf4_0 hf4_1
  generalize w5.drew = w6 at n1_ n2_ n3_ hHeld ⊢
  have HW5 := n1_
  have HK5 := n2_
  have BK4 := n3_
  clear n1_ n2_ n3_
  refine pure_ (i := 0) (N := some 23) (v := ?_) (a' := ?_) #[true, false, false, false, false, false, false, false, false, false, false] rfl rfl (by kernel_rfl) (fun _ _ _ h => h) (Or.inl ⟨by rfl, ?_⟩) ?_ ?_
  rotate_left
  · intro w'
    go_simp
    with_reducible rfl
  rotate_left
  · simp only [Act.put, List.setIfInBounds_toArray, List.set_cons_zero, List.set_cons_succ, i64_w, i32_w]
    rfl
  refine pure_ (i := 1) (N := some 24) (v := ?_) (a' := ?_) #[true, true, false, false, false, false, false, false, false, false, false] rfl rfl (by kernel_rfl) (fun _ _ _ h => h) (Or.inl ⟨by rfl, ?_⟩) ?_ ?_
  rotate_left
  · intro w'
    go_simp
    with_reducible rfl
  rotate_left
  · simp only [Act.put, List.setIfInBounds_toArray, List.set_cons_zero, List.set_cons_succ, i64_w, i32_w]
    rfl
  refine pure_ (i := 2) (N := some 25) (v := ?_) (a' := ?_) #[true, true, true, false, false, false, false, false, false, false, false] rfl rfl (by kernel_rfl) (fun _ _ _ h => h) (Or.inl ⟨by rfl, ?_⟩) ?_ ?_
  rotate_left
  · intro w'
    go_simp
    with_reducible rfl
  rotate_left
  · simp only [Act.put, List.setIfInBounds_toArray, List.set_cons_zero, List.set_cons_succ, i64_w, i32_w]
    rfl
  refine pure_ (i := 4) (N := some 27) (v := ?_) (a' := ?_) #[true, true, true, false, true, false, false, false, false, false, false] rfl rfl (by kernel_rfl) (fun _ _ _ h => h) (Or.inl ⟨by rfl, ?_⟩) ?_ ?_
  rotate_left
  · intro w'
    go_simp
    with_reducible rfl
  rotate_left
  · simp only [Act.put, List.setIfInBounds_toArray, List.set_cons_zero, List.set_cons_succ, i64_w, i32_w]
    rfl
  refine pure_ (i := 5) (N := some 28) (v := ?_) (a' := ?_) #[true, true, true, false, true, true, false, false, false, false, false] rfl rfl (by kernel_rfl) (fun _ _ _ h => h) (Or.inl ⟨by rfl, ?_⟩) ?_ ?_
  rotate_left
  · intro w'
    go_simp
    with_reducible rfl
  rotate_left
  · simp only [Act.put, List.setIfInBounds_toArray, List.set_cons_zero, List.set_cons_succ, i64_w, i32_w]
    rfl
  refine pure_ (i := 6) (N := some 29) (v := ?_) (a' := ?_) #[true, true, true, false, true, true, true, false, false, false, false] rfl rfl (by kernel_rfl) (fun _ _ _ h => h) (Or.inl ⟨by rfl, ?_⟩) ?_ ?_
  rotate_left
  · intro w'
    go_simp
    with_reducible rfl
  rotate_left
  · simp only [Act.put, List.setIfInBounds_toArray, List.set_cons_zero, List.set_cons_succ, i64_w, i32_w]
    rfl
  refine take_ (i := 3) (N := some 26) (v := ?_) (a' := ?_) #[true, true, true, true, true, true, true, false, false, false, false] rfl rfl (by kernel_rfl) (fun _ _ _ h => h) (Or.inl ⟨by rfl, ?_⟩) hHeld ?_ ?_
  rotate_left
  · rintro w' ⟨s0, s1⟩
    go_simp
    with_reducible rfl
  rotate_left
  · simp only [Act.put, List.setIfInBounds_toArray, List.set_cons_zero, List.set_cons_succ, i64_w, i32_w]
    rfl
  refine take_ (i := 7) (N := some 30) (v := ?_) (a' := ?_) #[true, true, true, true, true, true, true, true, false, false, false] rfl rfl (by kernel_rfl) (fun _ _ _ h => h) (Or.inl ⟨by rfl, ?_⟩) hHeld ?_ ?_
  rotate_left
  · rintro w' ⟨s0, s1⟩
    go_simp
    with_reducible rfl
  rotate_left
  · simp only [Act.put, List.setIfInBounds_toArray, List.set_cons_zero, List.set_cons_succ, i64_w, i32_w]
    rfl
  refine two_ (i := 8) (j := 9) (Ni := some 31) (Nj := some 6) #[true, true, true, true, true, true, true, true, true, false, false] #[true, true, true, true, true, true, true, true, false, true, false] rfl rfl rfl rfl (by kernel_rfl) (by decide) (by decide) (fun K hK => ?_) (fun K hK => ?_)
  · refine goes_ Try.func20 (by kernel_rfl) rfl #[.slice A evs.length c, .int .i64 d] (by rfl) rfl rfl (by (try simp only [List.map_toArray, List.map_cons, List.map_nil]); first | done | rfl) ?_
    refine (filewatch_newBatch.calls A c evs d bt be _ (Kd.R_reads' HW5.out.row).2.2 (Kd.R_reads' HW5.out.row).2.1 HNB.out).mono ?_
    rintro e_ w7 ⟨vb, rfl, hr, hb⟩
    refine ⟨_, rfl, ?_⟩
    obtain ⟨Ab, cb, rfl⟩ := Kd.R_slice hr
    have n1_ := Aside0.mk (HW5.out.below hb)
    have n2_ := Aside0.mk (HK5.out.then_ (Kp.of_below hb (fun _ => False)) (fun _ hk => hk.elim))
    have HRB := Aside0.mk (Kd.R_tight rfl (Kd.R_lower hr HK5.out.size))
    have o0_ := Aside0.mk (blk_below BK4.out hb)
    clear HW5 HK5 hr BK4 hb
    have HW5 := n1_
    have HK5 := n2_
    have BK4 := o0_
    clear n1_ n2_ o0_
    refine hK.out _ _ ⟨(blk_cell HW5.out.box 2).trans rfl, (blk_cell HW5.out.box 0).trans rfl⟩ (fun hHeld => ?_)
    clear hK K
    refine norm_ (a' := ?_) ?_ ?_
    rotate_left
    · show Act.put _ (some 31) _ = _
      simp only [Act.put, List.setIfInBounds_toArray, List.set_cons_zero, List.set_cons_succ, i64_w, i32_w]
      rfl
    refine one_ (i := 9) (N := some 6) #[true, true, true, true, true, true, true, true, true, true, false] rfl rfl (by kernel_rfl) (by decide) (fun K hK => ?_)
    refine value_ (w1 := ?_) (v := ?_) (by rfl) rfl ?_ ?_
    rotate_left 2
    · go_simp
      constructor
      · rfl
      · rfl
    have hb8 : Below w7.heap.size w7 (w7.alloc (.cells #[.int .i64 0, .slice none 0 0] 31 (0, 0))) := below_alloc (Below.refl _ _) _
    have hx8 : (w7.alloc (.cells #[.int .i64 0, .slice none 0 0] 31 (0, 0))).heap[w7.heap.size]? = some (.cells #[.int .i64 0, .slice none 0 0] 31 (0, 0)) := blk_new w7 _
    have n1_ := Aside0.mk (HW5.out.below hb8)
    have n2_ := Aside0.mk (HK5.out.then_ (Kp.of_below hb8 (fun _ => False)) (fun _ hk => hk.elim))
    have n3_ := Aside0.mk (blk_below BK4.out hb8)
    have n4_ := Aside0.mk (Kd.R_below HRB.out hb8)
    have NE6 := Aside0.mk (show W.heap.size ≤ w7.heap.size ∧ g4 ≠ w7.heap.size ∧ w7.heap.size ≠ gw from ⟨HK5.out.size, fun e_ => by have h1_ := blk_lt BK4.out; omega, fun e_ => by have h1_ := blk_lt HW5.out.box; omega⟩)
    have NB6 := Aside0.mk (show some w7.heap.size ≠ (Value.slice Ab be.length cb).ownBlock from fun e_ => by have h1_ := Kd.R_lt HRB.out _ e_.symm; omega)
    clear HW5 HK5 BK4 hb8 HRB
    generalize hg6 : w7.heap.size = g6 at hx8 NE6 NB6 ⊢
    generalize (w7.alloc (.cells #[.int .i64 0, .slice none 0 0] 31 (0, 0))) = w8 at hx8 n1_ n2_ n3_ n4_ ⊢
    have HW5 := n1_
    have HK5 := n2_
    have BK4 := n3_
    have BK6 := Aside0.mk hx8
    have HRB := n4_
    clear n4_
    clear n1_ n2_ n3_ hx8 hg6
    refine hK.out _ _ ⟨(blk_cell HW5.out.box 2).trans rfl, (blk_cell HW5.out.box 0).trans rfl⟩ (fun hHeld => ?_)
    clear hK K
    refine norm_ (a' := ?_) ?_ ?_
    rotate_left
    · show Act.put _ (some 6) _ = _
      simp only [Act.put, List.setIfInBounds_toArray, List.set_cons_zero, List.set_cons_succ, i64_w, i32_w]
      rfl
    have HWF := HW5
    have hx2 : w8.cell? ⟨gw, 2, none⟩ = some (.slice A evs.length c) := (blk_cell HW5.out.box 2).trans rfl
    have hf2 := blk_frozen HW5.out.box 2
    have hc4_0 : w8.cell? ⟨g4, 0, none⟩ = some (.int .i64 0) := (blk_cell BK4.out 0).trans rfl
    have hc4_1 : w8.cell? ⟨g4, 1, none⟩ = some (.slice none 0 0) := (blk_cell BK4.out 1).trans rfl
    have hf4_0 := blk_frozen BK4.out 0
    have hf4_1 := blk_frozen BK4.out 1
    have hc6_0 : w8.cell? ⟨g6, 0, none⟩ = some (.int .i64 0) := (blk_cell BK6.out 0).trans rfl
    have hc6_1 : w8.cell? ⟨g6, 1, none⟩ = some (.slice none 0 0) := (blk_cell BK6.out 1).trans rfl
    have hf6_0 := blk_frozen BK6.out 0
    have hf6_1 := blk_frozen BK6.out 1
    have a1_ : (g4 = gw) = False := eq_false NEW.out
    have a2_ : (gw = g4) = False := eq_false NEW.out.symm
    have a3_ : (g6 = gw) = False := eq_false NE6.out.2.2
    have a4_ : (gw = g6) = False := eq_false NE6.out.2.2.symm
    have a5_ : (g4 = g6) = False := eq_false NE6.out.2.1
    have a6_ : (g6 = g4) = False := eq_false NE6.out.2.1.symm
    refine last_ (i := 10) (N := none) #[true, true, true, true, true, true, true, true, true, true, true] rfl rfl (by kernel_rfl) (by decide) (fun K hK => ?_)
    refine skip_ (w1 := ?_) (by rfl) rfl ?_ ?_
    rotate_left
    · go_simp
      rfl
    refine hK.out _ _ ?_
    clear hK K
    refine done_ (by kernel_rfl) ?_
    go_wp2
    refine bodyPost_ret (results_ct rfl _ _ g4 31 #[.int .i64 bt, .slice Ab be.length cb] (0, 0) _ rfl (by refine blk_put (cs := #[.int .i64 bt, .slice none 0 0]) ?_ 1 _ rfl; refine blk_put (cs := #[.int .i64 0, .slice none 0 0]) ?_ 0 _ rfl; exact (by refine (Below.heap_setCell _ _ _ g4 NEW.out).trans ?_; refine (Below.heap_setCell _ _ _ g4 NE6.out.2.1).trans ?_; refine (Below.heap_setCell _ _ _ g4 NE6.out.2.1).trans ?_; exact BK4.out)) Try.underlying31 rfl (by kernel_rfl)) rfl ?_
    have WA_ := (HW5.out.keep (S := fun k => k = g6) ((Kp.of_set w8 g6 0 (.int .i64 bt)).then_ (Kp.of_set _ g6 1 (.slice Ab be.length cb)) (fun k hk => .inl hk)) (fun k hk => hk ▸ ⟨Nat.le_trans HW.out.wbl.size NE6.out.1, NE6.out.2.2, fun e_ => Kd.R_ne HW5.out.row BK6.out (by decide) e_⟩)).clear
    have WB_ := WA_.keep (S := fun k => k = g4) ((Kp.of_set _ g4 0 (.int .i64 bt)).then_ (Kp.of_set _ g4 1 (.slice Ab be.length cb)) (fun k hk => .inl hk)) (fun k hk => hk ▸ ⟨Nat.le_trans HW.out.wbl.size NE4.out, NEW.out, fun e_ => by cases e_⟩)
    have K0_ := ((((HK5.out.then_ (Kp.of_set w8 g6 0 (.int .i64 bt)) (fun k hk => .inr (hk ▸ NE6.out.1))).then_ (Kp.of_set _ g6 1 (.slice Ab be.length cb)) (fun k hk => .inr (hk ▸ NE6.out.1))).then_ (Kp.of_set _ gw 2 (.slice none 0 0)) (fun k hk => .inl hk)).then_ (Kp.of_set _ g4 0 (.int .i64 bt)) (fun k hk => .inr (hk ▸ NE4.out))).then_ (Kp.of_set _ g4 1 (.slice Ab be.length cb)) (fun k hk => .inr (hk ▸ NE4.out))
    have R0_ : ∀ g : Nat, some g ≠ (Value.slice Ab be.length cb).ownBlock → ∀ k, some k = (Value.slice Ab be.length cb).ownBlock → k ≠ g := fun g hg k hk e_ => hg (by rw [← e_]; exact hk)
    have N4_ := Kd.R_ne HRB.out BK4.out (by decide)
    have NW_ := Kd.R_ne HRB.out HW5.out.box (by decide)
    exact ⟨_, rfl, Kd.R_mono (Kd.R_far (Kd.R_far (Kd.R_far (Kd.R_far (Kd.R_far HRB.out (R0_ _ NB6.out) _) (R0_ _ NB6.out) _) (R0_ _ NW_) _) (R0_ _ N4_) _) (R0_ _ N4_) _) (fun _ _ => trivial), WB_, K0_⟩
  · refine value_ (w1 := ?_) (v := ?_) (by rfl) rfl ?_ ?_
    rotate_left 2
    · go_simp
      constructor
      · rfl
      · rfl
    have hb8 : Below w6.heap.size w6 (w6.alloc (.cells #[.int .i64 0, .slice none 0 0] 31 (0, 0))) := below_alloc (Below.refl _ _) _
    have hx8 : (w6.alloc (.cells #[.int .i64 0, .slice none 0 0] 31 (0, 0))).heap[w6.heap.size]? = some (.cells #[.int .i64 0, .slice none 0 0] 31 (0, 0)) := blk_new w6 _
    have n1_ := Aside0.mk (HW5.out.below hb8)
    have n2_ := Aside0.mk (HK5.out.then_ (Kp.of_below hb8 (fun _ => False)) (fun _ hk => hk.elim))
    have n3_ := Aside0.mk (blk_below BK4.out hb8)
    have NE6 := Aside0.mk (show W.heap.size ≤ w6.heap.size ∧ g4 ≠ w6.heap.size ∧ w6.heap.size ≠ gw from ⟨HK5.out.size, fun e_ => by have h1_ := blk_lt BK4.out; omega, fun e_ => by have h1_ := blk_lt HW5.out.box; omega⟩)
    clear HW5 HK5 BK4 hb8 
    generalize hg6 : w6.heap.size = g6 at hx8 NE6  ⊢
    generalize (w6.alloc (.cells #[.int .i64 0, .slice none 0 0] 31 (0, 0))) = w7 at hx8 n1_ n2_ n3_  ⊢
    have HW5 := n1_
    have HK5 := n2_
    have BK4 := n3_
    have BK6 := Aside0.mk hx8
    clear n1_ n2_ n3_ hx8 hg6
    refine hK.out _ _ ⟨(blk_cell HW5.out.box 2).trans rfl, (blk_cell HW5.out.box 0).trans rfl⟩ (fun hHeld => ?_)
    clear hK K
    refine norm_ (a' := ?_) ?_ ?_
    rotate_left
    · show Act.put _ (some 6) _ = _
      simp only [Act.put, List.setIfInBounds_toArray, List.set_cons_zero, List.set_cons_succ, i64_w, i32_w]
      rfl
    refine one_ (i := 8) (N := some 31) #[true, true, true, true, true, true, true, true, true, true, false] rfl rfl (by kernel_rfl) (by decide) (fun K hK => ?_)
    refine goes_ Try.func20 (by kernel_rfl) rfl #[.slice A evs.length c, .int .i64 d] (by rfl) rfl rfl (by (try simp only [List.map_toArray, List.map_cons, List.map_nil]); first | done | rfl) ?_
    refine (filewatch_newBatch.calls A c evs d bt be _ (Kd.R_reads' HW5.out.row).2.2 (Kd.R_reads' HW5.out.row).2.1 HNB.out).mono ?_
    rintro e_ w8 ⟨vb, rfl, hr, hb⟩
    refine ⟨_, rfl, ?_⟩
    obtain ⟨Ab, cb, rfl⟩ := Kd.R_slice hr
    have n1_ := Aside0.mk (HW5.out.below hb)
    have n2_ := Aside0.mk (HK5.out.then_ (Kp.of_below hb (fun _ => False)) (fun _ hk => hk.elim))
    have HRB := Aside0.mk (Kd.R_tight rfl (Kd.R_lower hr HK5.out.size))
    have o0_ := Aside0.mk (blk_below BK4.out hb)
    have o1_ := Aside0.mk (blk_below BK6.out hb)
    clear HW5 HK5 hr BK4 BK6 hb
    have HW5 := n1_
    have HK5 := n2_
    have BK4 := o0_
    have BK6 := o1_
    clear n1_ n2_ o0_ o1_
    refine hK.out _ _ ⟨(blk_cell HW5.out.box 2).trans rfl, (blk_cell HW5.out.box 0).trans rfl⟩ (fun hHeld => ?_)
    clear hK K
    refine norm_ (a' := ?_) ?_ ?_
    rotate_left
    · show Act.put _ (some 31) _ = _
      simp only [Act.put, List.setIfInBounds_toArray, List.set_cons_zero, List.set_cons_succ, i64_w, i32_w]
      rfl
    have NB6 := Aside0.mk (Kd.R_ne HRB.out BK6.out (by decide))
    have HWF := HW5
    have hx2 : w8.cell? ⟨gw, 2, none⟩ = some (.slice A evs.length c) := (blk_cell HW5.out.box 2).trans rfl
    have hf2 := blk_frozen HW5.out.box 2
    have hc4_0 : w8.cell? ⟨g4, 0, none⟩ = some (.int .i64 0) := (blk_cell BK4.out 0).trans rfl
    have hc4_1 : w8.cell? ⟨g4, 1, none⟩ = some (.slice none 0 0) := (blk_cell BK4.out 1).trans rfl
    have hf4_0 := blk_frozen BK4.out 0
    have hf4_1 := blk_frozen BK4.out 1
    have hc6_0 : w8.cell? ⟨g6, 0, none⟩ = some (.int .i64 0) := (blk_cell BK6.out 0).trans rfl
    have hc6_1 : w8.cell? ⟨g6, 1, none⟩ = some (.slice none 0 0) := (blk_cell BK6.out 1).trans rfl
    have hf6_0 := blk_frozen BK6.out 0
    have hf6_1 := blk_frozen BK6.out 1
    have a1_ : (g4 = gw) = False := eq_false NEW.out
    have a2_ : (gw = g4) = False := eq_false NEW.out.symm
    have a3_ : (g6 = gw) = False := eq_false NE6.out.2.2
    have a4_ : (gw = g6) = False := eq_false NE6.out.2.2.symm
    have a5_ : (g4 = g6) = False := eq_false NE6.out.2.1
    have a6_ : (g6 = g4) = False := eq_false NE6.out.2.1.symm
    refine last_ (i := 10) (N := none) #[true, true, true, true, true, true, true, true, true, true, true] rfl rfl (by kernel_rfl) (by decide) (fun K hK => ?_)
    refine skip_ (w1 := ?_) (by rfl) rfl ?_ ?_
    rotate_left
    · go_simp
      rfl
    refine hK.out _ _ ?_
    clear hK K
    refine done_ (by kernel_rfl) ?_
    go_wp2
    refine bodyPost_ret (results_ct rfl _ _ g4 31 #[.int .i64 bt, .slice Ab be.length cb] (0, 0) _ rfl (by refine blk_put (cs := #[.int .i64 bt, .slice none 0 0]) ?_ 1 _ rfl; refine blk_put (cs := #[.int .i64 0, .slice none 0 0]) ?_ 0 _ rfl; exact (by refine (Below.heap_setCell _ _ _ g4 NEW.out).trans ?_; refine (Below.heap_setCell _ _ _ g4 NE6.out.2.1).trans ?_; refine (Below.heap_setCell _ _ _ g4 NE6.out.2.1).trans ?_; exact BK4.out)) Try.underlying31 rfl (by kernel_rfl)) rfl ?_
    have WA_ := (HW5.out.keep (S := fun k => k = g6) ((Kp.of_set w8 g6 0 (.int .i64 bt)).then_ (Kp.of_set _ g6 1 (.slice Ab be.length cb)) (fun k hk => .inl hk)) (fun k hk => hk ▸ ⟨Nat.le_trans HW.out.wbl.size NE6.out.1, NE6.out.2.2, fun e_ => Kd.R_ne HW5.out.row BK6.out (by decide) e_⟩)).clear
    have WB_ := WA_.keep (S := fun k => k = g4) ((Kp.of_set _ g4 0 (.int .i64 bt)).then_ (Kp.of_set _ g4 1 (.slice Ab be.length cb)) (fun k hk => .inl hk)) (fun k hk => hk ▸ ⟨Nat.le_trans HW.out.wbl.size NE4.out, NEW.out, fun e_ => by cases e_⟩)
    have K0_ := ((((HK5.out.then_ (Kp.of_set w8 g6 0 (.int .i64 bt)) (fun k hk => .inr (hk ▸ NE6.out.1))).then_ (Kp.of_set _ g6 1 (.slice Ab be.length cb)) (fun k hk => .inr (hk ▸ NE6.out.1))).then_ (Kp.of_set _ gw 2 (.slice none 0 0)) (fun k hk => .inl hk)).then_ (Kp.of_set _ g4 0 (.int .i64 bt)) (fun k hk => .inr (hk ▸ NE4.out))).then_ (Kp.of_set _ g4 1 (.slice Ab be.length cb)) (fun k hk => .inr (hk ▸ NE4.out))
    have R0_ : ∀ g : Nat, some g ≠ (Value.slice Ab be.length cb).ownBlock → ∀ k, some k = (Value.slice Ab be.length cb).ownBlock → k ≠ g := fun g hg k hk e_ => hg (by rw [← e_]; exact hk)
    have N4_ := Kd.R_ne HRB.out BK4.out (by decide)
    have NW_ := Kd.R_ne HRB.out HW5.out.box (by decide)
    exact ⟨_, rfl, Kd.R_mono (Kd.R_far (Kd.R_far (Kd.R_far (Kd.R_far (Kd.R_far HRB.out (R0_ _ NB6.out) _) (R0_ _ NB6.out) _) (R0_ _ NW_) _) (R0_ _ N4_) _) (R0_ _ N4_) _) (fun _ _ => trivial), WB_, K0_⟩

end Go.Proofs.Ytgigbllohagfmaa.Fi
