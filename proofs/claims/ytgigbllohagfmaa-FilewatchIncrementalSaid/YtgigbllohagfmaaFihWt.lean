/- filewatch.Watcher: NewWatcher, complete, Add, Poll. Condition: fewer than 1000000000 events. -/
import Derived.Test.YtgigbllohagfmaaFix0
import Derived.Test.YtgigbllohagfmaaFihTb
import Derived.Test.YtgigbllohagfmaaFihNb
import Derived.BigQuiet
namespace Go.Proofs.Ytgigbllohagfmaa.Fi
open Go.RowKit Go.Proofs.YtgigbllohagfmaaW.PrintWords Go.Proofs.YtgigbllohagfmaaW.PrintLast Go.Proofs.YtgigbllohagfmaaW.PrintMore
open Go.Proofs.Ytgigbllohagfmaa
set_option linter.unusedVariables false
set_option linter.unusedSimpArgs false
/-- what a call keeps: all but the blocks of S and what is new since -/
structure Kp (W W' : World) (S : Nat → Prop) : Prop where
  os : W'.os = W.os
  tape : W'.tape = W.tape
  output : W'.output = W.output
  size : W.heap.size ≤ W'.heap.size
  block : ∀ k, k < W.heap.size → ¬ S k → W'.heap[k]? = W.heap[k]?
theorem Kp.refl (W : World) (S : Nat → Prop) : Kp W W S := ⟨rfl, rfl, rfl, Nat.le_refl _, fun _ _ _ => rfl⟩
theorem Kp.of_below {W W' : World} (h : Below W.heap.size W W') (S : Nat → Prop) : Kp W W' S := ⟨h.os, h.tape, h.output, h.size, fun k hk _ => h.block k hk⟩
theorem Kp.of_grown {W W' : World} {row : Option Nat} (h : W.grownBy W' row) : Kp W W' (fun k => some k = row) := ⟨h.os, h.tape, h.output, h.size, fun k hk hn => h.block k hk hn⟩
theorem Kp.of_set (W : World) (g j : Nat) (u : Value) : Kp W (W.setCell ⟨g, j, none⟩ u) (fun k => k = g) :=
  ⟨rfl, rfl, rfl, by simp [World.setCell], fun k _ hn => Below.heap_setCell W ⟨g, j, none⟩ u k hn⟩
theorem Kp.then_ {W W1 W2 : World} {S S2 : Nat → Prop} (h : Kp W W1 S) (k : Kp W1 W2 S2) (hs : ∀ k, S2 k → S k ∨ W.heap.size ≤ k) : Kp W W2 S :=
  ⟨k.os.trans h.os, k.tape.trans h.tape, k.output.trans h.output, Nat.le_trans h.size k.size, fun i hi hn => (k.block i (Nat.lt_of_lt_of_le hi h.size) (fun h2 => (hs i h2).elim hn (fun h3 => by omega))).trans (h.block i hi hn)⟩
theorem Kp.below {n : Nat} {w W W' : World} {S : Nat → Prop} (h : Kp W W' S) (hb : Below n w W) (hn : n ≤ W.heap.size) (hS : ∀ k, S k → n ≤ k) : Below n w W' :=
  ⟨h.os.trans hb.os, h.tape.trans hb.tape, h.output.trans hb.output, Nat.le_trans hb.size h.size, fun k hk => (h.block k (by omega) (fun hs => by have := hS k hs; omega)).trans (hb.block k hk)⟩
theorem Kp.mono {W W' : World} {S S' : Nat → Prop} (h : Kp W W' S) (hs : ∀ k, S k → S' k) : Kp W W' S' := ⟨h.os, h.tape, h.output, h.size, fun k hk hn => h.block k hk (fun e => hn (hs k e))⟩
/-- a watcher in memory -/
structure Wt (wb : World) (gw : Nat) (d now : Int) (evs : List S33) (v : Value) (W : World) : Prop where
  wbl : Below wb.heap.size wb W
  gwl : wb.heap.size ≤ gw
  box : W.heap[gw]? = some (.cells #[.int .i64 d, .int .i64 now, v] 58 (0, 0))
  row : Kd.R k33 33 W wb.heap.size (fun k => some k = v.ownBlock) v evs
theorem Wt.keep {wb : World} {gw : Nat} {d now : Int} {evs : List S33} {v : Value} {W W' : World} (h : Wt wb gw d now evs v W) {S : Nat → Prop} (hk : Kp W W' S) (hS : ∀ k, S k → wb.heap.size ≤ k ∧ k ≠ gw ∧ some k ≠ v.ownBlock) : Wt wb gw d now evs v W' :=
  ⟨hk.below h.wbl h.wbl.size (fun k hk => (hS k hk).1), h.gwl, (hk.block gw (blk_lt h.box) (fun e => (hS _ e).2.1 rfl)).trans h.box, Kd.R_step h.row (fun k ho hlt => hk.block k hlt (fun e => (hS _ e).2.2 ho))⟩
theorem Wt.below {wb : World} {gw : Nat} {d now : Int} {evs : List S33} {v : Value} {W W' : World} (h : Wt wb gw d now evs v W) (hb : Below W.heap.size W W') : Wt wb gw d now evs v W' := h.keep (Kp.of_below hb (fun _ => False)) (fun _ hk => hk.elim)
/-- whether the events form a batch at a time -/
def cpl (d t : Int) (evs : List S33) : Bool := decide (0 < evs.length) && decide (d ≤ wrap64 (t - (rd_T33 evs (wrap64 ((evs.length : Int) - 1))).f0))
theorem w64_id {n : Int} (h : -9223372036854775808 ≤ n) (h' : n ≤ 9223372036854775807) : wrap64 n = n := by unfold wrap64; omega
set_option maxHeartbeats 8000000 in
set_option maxRecDepth 100000 in
theorem nw_calls (d : Int) (w : World) (h0 : ¬ d < 0) (h1 : ¬ d > 1000000) : Calls Try.prog 13 #[.int .i64 d] w fun e w' => ∃ gw, e = .returned (.tuple #[.pointer (some ⟨gw, 0, none⟩), .int .i64 0]) ∧ Below w.heap.size w w' ∧ Wt w gw d 0 [] (.slice none 0 0) w' := by
  have hu58 := Try.underlying58
  have f0 : decide (d < 0) = false := decide_eq_false h0
  have f1 : decide (d > 1000000) = false := decide_eq_false h1
  have f2 : decide (1000000 < d) = false := decide_eq_false h1
  go_enter Try.func13, Try.ntmps13
  go_wp2_with ((with_reducible refine gate_dst (N := 12) rfl ?_); refine box_event ?hg (N := 12) ?hd (cs := #[.int .i64 d, .int .i64 0, .slice none 0 0]) (t := 58) ?hr ?_; (case hd => rfl); (case hg => rfl); (case hr => first | (go_simp; done) | (go_simp; rfl)); intro gw hg w3 hbox hb; have BK := Aside0.mk hbox; have HB := Aside0.mk hb; have HG := Aside0.mk hg; clear hbox hb hg)
  go_ret2
  exact ⟨gw, rfl, HB.out, HB.out, Nat.le_of_eq HG.out.symm, BK.out, Kd.R_nil _ _ _ _ _⟩
set_option maxHeartbeats 8000000 in
set_option maxRecDepth 100000 in
theorem cpl_calls (wb : World) (gw : Nat) (d now t : Int) (evs : List S33) (v : Value) (W : World) (hw : Wt wb gw d now evs v W) (hl : evs.length < 1000000000) : Calls Try.prog 24 #[.pointer (some ⟨gw, 0, none⟩), .int .i64 t] W fun e W' => e = .returned (.bool (cpl d t evs)) ∧ Below W.heap.size W W' := by
  have hu58 := Try.underlying58
  have hu33 := Try.underlying33
  obtain ⟨A, c, rfl⟩ := Kd.R_slice hw.row
  have hx0 : W.cell? ⟨gw, 0, none⟩ = some (.int .i64 d) := (blk_cell hw.box 0).trans rfl
  have hx2 : W.cell? ⟨gw, 2, none⟩ = some (.slice A evs.length c) := (blk_cell hw.box 2).trans rfl
  have HB := Aside0.mk (Below.refl W.heap.size W)
  unfold cpl
  by_cases h0 : 0 < evs.length
  · have f0 : decide ((evs.length : Int) > 0) = true := decide_eq_true (by omega)
    have f1 : decide ((0 : Int) < (evs.length : Int)) = true := decide_eq_true (by omega)
    have f2 : decide (0 < evs.length) = true := decide_eq_true h0
    have f3 := eq_true h0
    rw [decide_eq_true h0, Bool.true_and]
    have p1 : 0 ≤ wrap64 ((evs.length : Int) - 1) := by rw [w64_id (by omega) (by omega)]; omega
    have q1 : wrap64 ((evs.length : Int) - 1) < (evs.length : Int) := by rw [w64_id (by omega) (by omega)]; omega
    obtain ⟨j, hj⟩ : ∃ j, wrap64 ((evs.length : Int) - 1) = j := ⟨_, rfl⟩
    rw [hj] at p1 q1 ⊢
    have hwi : IntKind.i64.wrap ((evs.length : Int) - 1) = j := by rw [← hj]; simp only [i64_w]
    obtain ⟨ad, ea, hy0, hy1, hy2⟩ := at_T33 (Kd.R_reads' hw.row).2.2 _ p1 q1
    cases ea
    have p1 := eq_true p1
    have q1 := eq_true q1
    clear hw hy1 hy2
    go_enter Try.func24, Try.ntmps24
    go_wp2
    go_quiet (fail)
    go_wp2
    go_ret
    exact ⟨rfl, by repeat (first | exact HB.out | apply below_drew1 | apply pw_below_drewN)⟩
  · have e0 : evs.length = 0 := by omega
    rw [decide_eq_false h0, Bool.false_and]
    rw [e0] at hx2
    clear hw h0
    go_enter Try.func24, Try.ntmps24
    go_wp2
    go_quiet (fail)
    go_wp2
    go_ret
    exact ⟨rfl, by repeat (first | exact HB.out | apply below_drew1 | apply pw_below_drewN)⟩
section
variable {wb : World} {gw : Nat} {d now : Int} {evs : List S33} {v : Value} {W W' : World}
theorem Wt.ne (h : Wt wb gw d now evs v W) : some gw ≠ v.ownBlock := Kd.R_ne h.row h.box (by decide)
theorem Wt.setNow (h : Wt wb gw d now evs v W) (t : Int) : Wt wb gw d t evs v (W.setCell ⟨gw, 1, none⟩ (.int .i64 t)) :=
  ⟨(Kp.of_set W gw 1 _).below h.wbl h.wbl.size (fun k hk => hk ▸ h.gwl), h.gwl, blk_put (cs := #[.int .i64 d, .int .i64 now, v]) h.box 1 _ rfl, Kd.R_far h.row (fun k hk e => by have e' : k = gw := e; exact h.ne (by rw [← e']; exact hk)) _⟩
theorem Wt.clear (h : Wt wb gw d now evs v W) : Wt wb gw d now [] (.slice none 0 0) (W.setCell ⟨gw, 2, none⟩ (.slice none 0 0)) :=
  ⟨(Kp.of_set W gw 2 _).below h.wbl h.wbl.size (fun k hk => hk ▸ h.gwl), h.gwl, blk_put (cs := #[.int .i64 d, .int .i64 now, v]) h.box 2 _ rfl, Kd.R_nil _ _ _ _ _⟩
theorem Wt.more (h : Wt wb gw d now evs v W) {v1 : Value} {e : S33} {ok : Nat → Prop} (hg : W.grownBy W' v.ownBlock) (hR : Kd.R k33 33 W' wb.heap.size ok v1 (evs ++ [e])) : Wt wb gw d now (evs ++ [e]) v1 (W'.setCell ⟨gw, 2, none⟩ v1) := by
  have hb := blk_grown h.box hg h.ne
  have hk : Kp W (W'.setCell ⟨gw, 2, none⟩ v1) (fun k => some k = v.ownBlock ∨ k = gw) :=
    ⟨hg.os, hg.tape, hg.output, by simpa [World.setCell] using hg.size, fun k hk hn => ((Kp.of_set W' gw 2 v1).block k (Nat.lt_of_lt_of_le hk hg.size) (fun e => hn (.inr e))).trans (hg.block k hk (fun e => hn (.inl e)))⟩
  refine ⟨hk.below h.wbl h.wbl.size (fun k hk => hk.elim (fun e => Kd.R_base h.row k e.symm) (fun e => e ▸ h.gwl)), h.gwl, blk_put (cs := #[.int .i64 d, .int .i64 now, v]) hb 2 _ rfl, Kd.R_far (Kd.R_tight rfl hR) (fun k hk e => ?_) _⟩
  have e' : k = gw := e
  exact Kd.R_ne hR hb (by decide) (by rw [← e']; exact hk)
end
set_option maxHeartbeats 8000000 in
set_option maxRecDepth 100000 in
theorem add_calls (wb : World) (gw : Nat) (d now : Int) (e : S33) (evs : List S33) (v : Value) (W : World) (hw : Wt wb gw d now evs v W) (hl : evs.length < 1000000000) (hk : vk e.f2 = true) (h0 : ¬ e.f0 < 0) (h1 : ¬ e.f0 > 1000000000000) (h2 : ¬ e.f0 < now) (hc : cpl d e.f0 evs = false) :
    Calls Try.prog 16 #[.pointer (some ⟨gw, 0, none⟩), .agg #[.int .i64 e.f0, .string e.f1, .int .i64 e.f2]] W fun E W' => E = .returned (.int .i64 0) ∧ ∃ v', Wt wb gw d e.f0 (evs ++ [e]) v' W' ∧ Kp W W' (fun k => k = gw ∨ some k = v.ownBlock) ∧ (v'.ownBlock = v.ownBlock ∨ ∃ b, v'.ownBlock = some b ∧ W.heap.size ≤ b) := by
  have hu58 := Try.underlying58
  have hu33 := Try.underlying33
  obtain ⟨A, n, c, rfl⟩ : ∃ A n c, v = .slice A n c := by obtain ⟨A, c, e⟩ := Kd.R_slice hw.row; exact ⟨A, _, c, e⟩
  have f0 : decide (e.f0 < 0) = false := decide_eq_false h0
  have f1 : decide (e.f0 > 1000000000000) = false := decide_eq_false h1
  have f1' : decide (1000000000000 < e.f0) = false := decide_eq_false h1
  have f2 : decide (e.f0 < now) = false := decide_eq_false h2
  have HW := Aside0.mk hw
  have NR := Aside0.mk (Kd.R_lt hw.row)
  have HL := Aside0.mk hl
  have HK := Aside0.mk hk
  have HC := Aside0.mk hc
  clear hw hl hk hc
  go_enter Try.func16, Try.ntmps16
  go_wp2_with (first | ((with_reducible refine gate_dst (N := 3) rfl ?_); refine box_event ?hg (N := 3) ?hd (cs := #[.int .i64 e.f0, .string e.f1, .int .i64 e.f2]) (t := 33) ?hr ?_; (case hd => rfl); (case hg => rfl); (case hr => first | (go_simp; done) | (go_simp; rfl)); intro g3 hg w3 hbox hb; have HB := Aside0.mk hb; have BK3 := Aside0.mk hbox; have NE3 := Aside0.mk (show W.heap.size ≤ g3 from Nat.le_of_eq hg.symm); have HW3 := Aside0.mk (HW.out.below hb); clear hb hbox hg; have hc3_0 : w3.cell? ⟨g3, 0, none⟩ = some (.int .i64 e.f0) := (blk_cell BK3.out 0).trans rfl; have hc3_2 : w3.cell? ⟨g3, 2, none⟩ = some (.int .i64 e.f2) := (blk_cell BK3.out 2).trans rfl; have hx1 : w3.cell? ⟨gw, 1, none⟩ = some (.int .i64 now) := (blk_cell HW3.out.box 1).trans rfl) | (go_at_call 21; refine (vk_calls _ _).mono ?_; rw [HK.out]; rintro e_ w5 ⟨rfl, rfl⟩))
  go_quiet (fail)
  go_wp2_with ((go_at_call 24; refine (cpl_calls wb gw d now e.f0 evs (.slice A n c) _ (HW.out.below (by repeat (first | exact HB.out | apply below_drew1 | apply pw_below_drewN))) HL.out).mono ?_; rw [HC.out]; rintro e_ w7 ⟨rfl, hb⟩; have n1_ := Aside0.mk (below_step (by repeat (first | exact HB.out | apply below_drew1 | apply pw_below_drewN)) hb); have n2_ := Aside0.mk (blk_below (g := g3) (o := .cells #[.int .i64 e.f0, .string e.f1, .int .i64 e.f2] 33 (0, 0)) (by first | exact BK3.out | exact blk_drewN BK3.out _ | exact blk_drew BK3.out) hb); clear HB BK3 hb hc3_0 hc3_2 hx1; have HB := n1_; have BK3 := n2_; clear n1_ n2_; have HW7 := Aside0.mk (HW.out.below HB.out); have hc3_0 : w7.cell? ⟨g3, 0, none⟩ = some (.int .i64 e.f0) := (blk_cell BK3.out 0).trans rfl; have hf1 := blk_frozen HW7.out.box 1; have hx1 : w7.cell? ⟨gw, 1, none⟩ = some (.int .i64 now) := (blk_cell HW7.out.box 1).trans rfl))
  have HW8 := Aside0.mk (HW7.out.setNow e.f0)
  have BK8 := Aside0.mk ((Below.heap_setCell w7 ⟨gw, 1, none⟩ (.int .i64 e.f0) g3 (show g3 ≠ gw from fun e_ => by have h1_ := blk_lt HW.out.box; have h2_ := NE3.out; omega)).trans BK3.out)
  refine start_ (n := 11) (S := fun w' => w'.cell? ⟨gw, 2, none⟩ = some (.slice A n c) ∧ w'.cell? ⟨g3, 0, none⟩ = some (.int .i64 e.f0) ∧ w'.cell? ⟨g3, 1, none⟩ = some (.string e.f1) ∧ w'.cell? ⟨g3, 2, none⟩ = some (.int .i64 e.f2)) (ds := [10]) #[false, false, false, false, false, false, false, false, false, false, false] (by kernel_rfl) rfl rfl ⟨(blk_cell HW8.out.box 2).trans rfl, (blk_cell BK8.out 0).trans rfl, (blk_cell BK8.out 1).trans rfl, (blk_cell BK8.out 2).trans rfl⟩ (fun hHeld => ?_)
  have n1_ := Aside0.mk (show Wt wb gw d e.f0 evs (.slice A n c) (w7.setCell ⟨gw, 1, none⟩ (.int .i64 e.f0)).drew from HW8.out.below (below_drew1 (Below.refl _ _)))
  have n2_ := Aside0.mk (show (w7.setCell ⟨gw, 1, none⟩ (.int .i64 e.f0)).drew.heap[g3]? = some (.cells #[.int .i64 e.f0, .string e.f1, .int .i64 e.f2] 33 (0, 0)) from blk_drew BK8.out)
  have n3_ := Aside0.mk (show Kp W (w7.setCell ⟨gw, 1, none⟩ (.int .i64 e.f0)).drew (fun k => k = gw ∨ some k = (Value.slice A n c).ownBlock) from ((Kp.of_below HB.out (fun k => k = gw ∨ some k = (Value.slice A n c).ownBlock)).then_ (Kp.of_set w7 gw 1 _) (fun k hk => .inl (.inl hk))).then_ (Kp.of_below (below_drew1 (Below.refl _ _)) (fun _ => False)) (fun _ hk => hk.elim))
  clear HW7 HW8 BK3 BK8 HB hc3_0 hx1 hf1
  generalize (w7.setCell ⟨gw, 1, none⟩ (.int .i64 e.f0)).drew = w9 at n1_ n2_ n3_ hHeld ⊢
  have HW := n1_
  have BK3 := n2_
  have HK9 := n3_
  clear n1_ n2_ n3_
  refine pure_ (i := 0) (N := some 38) (v := ?_) (a' := ?_) #[true, false, false, false, false, false, false, false, false, false, false] rfl rfl (by kernel_rfl) (fun _ _ _ h => h) (Or.inl ⟨by rfl, ?_⟩) ?_ ?_
  rotate_left
  · intro w'
    go_simp
    with_reducible rfl
  rotate_left
  · simp only [Act.put, List.setIfInBounds_toArray, List.set_cons_zero, List.set_cons_succ, i64_w, i32_w]
    rfl
  refine pure_ (i := 1) (N := some 39) (v := ?_) (a' := ?_) #[true, true, false, false, false, false, false, false, false, false, false] rfl rfl (by kernel_rfl) (fun _ _ _ h => h) (Or.inl ⟨by rfl, ?_⟩) ?_ ?_
  rotate_left
  · intro w'
    go_simp
    with_reducible rfl
  rotate_left
  · simp only [Act.put, List.setIfInBounds_toArray, List.set_cons_zero, List.set_cons_succ, i64_w, i32_w]
    rfl
  refine pure_ (i := 2) (N := some 40) (v := ?_) (a' := ?_) #[true, true, true, false, false, false, false, false, false, false, false] rfl rfl (by kernel_rfl) (fun _ _ _ h => h) (Or.inl ⟨by rfl, ?_⟩) ?_ ?_
  rotate_left
  · intro w'
    go_simp
    with_reducible rfl
  rotate_left
  · simp only [Act.put, List.setIfInBounds_toArray, List.set_cons_zero, List.set_cons_succ, i64_w, i32_w]
    rfl
  refine pure_ (i := 3) (N := some 41) (v := ?_) (a' := ?_) #[true, true, true, true, false, false, false, false, false, false, false] rfl rfl (by kernel_rfl) (fun _ _ _ h => h) (Or.inl ⟨by rfl, ?_⟩) ?_ ?_
  rotate_left
  · intro w'
    go_simp
    with_reducible rfl
  rotate_left
  · simp only [Act.put, List.setIfInBounds_toArray, List.set_cons_zero, List.set_cons_succ, i64_w, i32_w]
    rfl
  refine take_ (i := 4) (N := some 42) (v := ?_) (a' := ?_) #[true, true, true, true, true, false, false, false, false, false, false] rfl rfl (by kernel_rfl) (fun _ _ _ h => h) (Or.inl ⟨by rfl, ?_⟩) hHeld ?_ ?_
  rotate_left
  · rintro w' ⟨s0, s1, s2, s3⟩
    go_simp
    with_reducible rfl
  rotate_left
  · simp only [Act.put, List.setIfInBounds_toArray, List.set_cons_zero, List.set_cons_succ, i64_w, i32_w]
    rfl
  refine take_ (i := 5) (N := some 43) (v := ?_) (a' := ?_) #[true, true, true, true, true, true, false, false, false, false, false] rfl rfl (by kernel_rfl) (fun _ _ _ h => h) (Or.inl ⟨by rfl, ?_⟩) hHeld ?_ ?_
  rotate_left
  · rintro w' ⟨s0, s1, s2, s3⟩
    go_simp
    with_reducible rfl
  rotate_left
  · simp only [Act.put, List.setIfInBounds_toArray, List.set_cons_zero, List.set_cons_succ, i64_w, i32_w]
    rfl
  refine one_ (i := 6) (N := some 44) #[true, true, true, true, true, true, true, false, false, false, false] rfl rfl (by kernel_rfl) (by decide) (fun K hK => ?_)
  refine value_ (w1 := ?_) (v := ?_) (by rfl) rfl ?_ ?_
  rotate_left 2
  · go_simp
    constructor
    · rfl
    · rfl
  refine hK.out _ _ ⟨(blk_cell (blk_alloc HW.out.box _) 2).trans rfl, (blk_cell (blk_alloc BK3.out _) 0).trans rfl, (blk_cell (blk_alloc BK3.out _) 1).trans rfl, (blk_cell (blk_alloc BK3.out _) 2).trans rfl⟩ (fun hHeld => ?_)
  clear hK K
  refine norm_ (a' := ?_) ?_ ?_
  rotate_left
  · show Act.put _ (some 44) _ = _
    simp only [Act.put, List.setIfInBounds_toArray, List.set_cons_zero, List.set_cons_succ, i64_w, i32_w]
    rfl
  refine one_ (i := 7) (N := some 45) #[true, true, true, true, true, true, true, true, false, false, false] rfl rfl (by kernel_rfl) (by decide) (fun K hK => ?_)
  refine Kd.R_append_step k33 (w0 := w9) wb.heap.size (by rfl) (.tmp 42) (.tmp 44) 22 33 (.agg #[(.int .i64 0), (.string ⟨#[]⟩), (.int .i64 0)]) 32 rfl Try.underlying22 info33 rfl (by decide) (by omega) (.slice A n c) evs e [.int .i64 e.f0, .string e.f1, .int .i64 e.f2] (fun _ => True) (fun _ => False) rfl rfl (k33_mkM _ _ _ e) (fun _ hk => hk.elim) (fun _ _ => trivial) (Kd.R_mono HW.out.row (fun _ _ => trivial)) (Below.refl _ _) HW.out.wbl.size (by have := HL.out; omega) ?_
  intro v1 w16 ho hb hg hat
  obtain ⟨A9, n9, c9, rfl⟩ : ∃ A n c, v1 = .slice A n c := by obtain ⟨A, c, e⟩ := Kd.R_slice ho; exact ⟨A, _, c, e⟩
  have HWF := Aside0.mk (HW.out.more hg ho)
  have HKF := Aside0.mk (HK9.out.then_ (S2 := fun k => some k = (Value.slice A n c).ownBlock ∨ k = gw) (show Kp w9 (w16.setCell ⟨gw, 2, none⟩ (.slice A9 n9 c9)) _ from ⟨hg.os, hg.tape, hg.output, by simpa [World.setCell] using hg.size, fun k hk hn => ((Kp.of_set w16 gw 2 (.slice A9 n9 c9)).block k (Nat.lt_of_lt_of_le hk hg.size) (fun e => hn (.inr e))).trans (hg.block k hk (fun e => hn (.inl e)))⟩) (fun k hk => .inl hk.symm))
  have HAT := Aside0.mk (show (Value.slice A9 n9 c9).ownBlock = (Value.slice A n c).ownBlock ∨ ∃ b, (Value.slice A9 n9 c9).ownBlock = some b ∧ W.heap.size ≤ b from hat.imp_right (fun ⟨b, h1, h2⟩ => ⟨b, h1, Nat.le_trans HK9.out.size h2⟩))
  have BX := Aside0.mk (blk_grown HW.out.box hg HW.out.ne)
  have BK16 := Aside0.mk (blk_grown BK3.out hg (fun e => by have h1_ := NR.out g3 e.symm; have h2_ := NE3.out; omega))
  clear ho hb hg hat
  have hx2 : w16.cell? ⟨gw, 2, none⟩ = some (.slice A n c) := (blk_cell BX.out 2).trans rfl
  have hf2 := blk_frozen BX.out 2
  refine hK.out _ _ ⟨(blk_cell BX.out 2).trans rfl, (blk_cell BK16.out 0).trans rfl, (blk_cell BK16.out 1).trans rfl, (blk_cell BK16.out 2).trans rfl⟩ (fun hHeld => ?_)
  clear hK K
  refine norm_ (a' := ?_) ?_ ?_
  rotate_left
  · show Act.put _ (some 45) _ = _
    simp only [Act.put, List.setIfInBounds_toArray, List.set_cons_zero, List.set_cons_succ, i64_w, i32_w]
    rfl
  refine pure_ (i := 8) (N := some 46) (v := ?_) (a' := ?_) #[true, true, true, true, true, true, true, true, true, false, false] rfl rfl (by kernel_rfl) (fun _ _ _ h => h) (Or.inl ⟨by rfl, ?_⟩) ?_ ?_
  rotate_left
  · intro w'
    go_simp
    with_reducible rfl
  rotate_left
  · simp only [Act.put, List.setIfInBounds_toArray, List.set_cons_zero, List.set_cons_succ, i64_w, i32_w]
    rfl
  refine pure_ (i := 9) (N := some 47) (v := ?_) (a' := ?_) #[true, true, true, true, true, true, true, true, true, true, false] rfl rfl (by kernel_rfl) (fun _ _ _ h => h) (Or.inl ⟨by rfl, ?_⟩) ?_ ?_
  rotate_left
  · intro w'
    go_simp
    with_reducible rfl
  rotate_left
  · simp only [Act.put, List.setIfInBounds_toArray, List.set_cons_zero, List.set_cons_succ, i64_w, i32_w]
    rfl
  refine last_ (i := 10) (N := none) #[true, true, true, true, true, true, true, true, true, true, true] rfl rfl (by kernel_rfl) (by decide) (fun K hK => ?_)
  refine skip_ (w1 := ?_) (by rfl) rfl ?_ ?_
  rotate_left
  · go_simp
    rfl
  refine hK.out _ _ ?_
  clear hK K
  refine done_ (by kernel_rfl) ?_
  go_wp2
  go_ret
  exact ⟨rfl, _, HWF.out, HKF.out, HAT.out⟩
end Go.Proofs.Ytgigbllohagfmaa.Fi
