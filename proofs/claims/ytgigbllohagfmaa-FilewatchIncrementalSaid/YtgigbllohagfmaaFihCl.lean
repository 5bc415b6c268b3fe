/- FilewatchIncremental's closure. Condition: fewer than 1000000000 batches. -/
import Derived.Test.YtgigbllohagfmaaFix0
import Derived.Test.YtgigbllohagfmaaFihTb
import Derived.Test.YtgigbllohagfmaaFihNb
import Derived.Test.YtgigbllohagfmaaFihPo
import Derived.BigQuiet
namespace Go.Proofs.Ytgigbllohagfmaa.Fi
open Go.RowKit Go.Proofs.YtgigbllohagfmaaW.PrintWords Go.Proofs.YtgigbllohagfmaaW.PrintLast Go.Proofs.YtgigbllohagfmaaW.PrintMore
open Go.Proofs.Ytgigbllohagfmaa
set_option linter.unusedVariables false
set_option linter.unusedSimpArgs false
/-- the law's watcher, the variable that holds it, the batches got -/
structure Inc (wb : World) (gw g7 gb : Nat) (d now : Int) (evs : List S33) (v u : Value) (got : List S31) (W : World) : Prop where
  wt : Wt wb gw d now evs v W
  l7 : wb.heap.size ≤ g7
  lb : wb.heap.size ≤ gb
  b7 : W.heap[g7]? = some (.cells #[.pointer (some ⟨gw, 0, none⟩)] 40 (0, 0))
  bb : W.heap[gb]? = some (.cells #[u] 26 (0, 0))
  rg : Kd.R k31 31 W wb.heap.size (fun k => (k ≠ gw ∧ k ≠ g7 ∧ k ≠ gb) ∧ some k ≠ v.ownBlock) u got
section
variable {wb : World} {gw g7 gb : Nat} {d now : Int} {evs : List S33} {v u : Value} {got : List S31} {W W' : World}
theorem Inc.ne (h : Inc wb gw g7 gb d now evs v u got W) : g7 ≠ gw ∧ gb ≠ gw ∧ gb ≠ g7 := ⟨blk_ne h.b7 h.wt.box (by decide), blk_ne h.bb h.wt.box (by decide), blk_ne h.bb h.b7 (by decide)⟩
theorem Inc.keep (h : Inc wb gw g7 gb d now evs v u got W) {t : Int} {evs1 : List S33} {v1 : Value} (hk : Kp W W' (fun k => k = gw)) (hw : Wt wb gw d t evs1 v1 W') (hv : ∀ k, some k = v1.ownBlock → some k = v.ownBlock) : Inc wb gw g7 gb d t evs1 v1 u got W' :=
  ⟨hw, h.l7, h.lb, (hk.block g7 (blk_lt h.b7) h.ne.1).trans h.b7, (hk.block gb (blk_lt h.bb) h.ne.2.1).trans h.bb, Kd.R_mono (Kd.R_step h.rg (fun k ho hlt => hk.block k hlt ho.1.1)) (fun k ho => ⟨ho.1, fun e => ho.2 (hv k e)⟩)⟩
theorem Inc.below (h : Inc wb gw g7 gb d now evs v u got W) (hb : Below W.heap.size W W') : Inc wb gw g7 gb d now evs v u got W' :=
  ⟨h.wt.below hb, h.l7, h.lb, blk_below h.b7 hb, blk_below h.bb hb, Kd.R_below h.rg hb⟩
/-- an event more -/
theorem Inc.more (h : Inc wb gw g7 gb d now evs v u got W) {t : Int} {evs1 : List S33} {v1 : Value} (hk : Kp W W' (fun k => k = gw ∨ some k = v.ownBlock)) (hw : Wt wb gw d t evs1 v1 W') (hat : v1.ownBlock = v.ownBlock ∨ ∃ b, v1.ownBlock = some b ∧ W.heap.size ≤ b) : Inc wb gw g7 gb d t evs1 v1 u got W' :=
  ⟨hw, h.l7, h.lb, (hk.block g7 (blk_lt h.b7) (fun e => e.elim h.ne.1 (fun e => Kd.R_ne h.wt.row h.b7 (by decide) e))).trans h.b7, (hk.block gb (blk_lt h.bb) (fun e => e.elim h.ne.2.1 (fun e => Kd.R_ne h.wt.row h.bb (by decide) e))).trans h.bb,
    Kd.R_mono (Kd.R_step (Kd.R_bound h.rg) (fun k ho hlt => hk.block k hlt (fun e => e.elim ho.1.1.1 ho.1.2))) (fun k ho => ⟨ho.1.1, fun e => by
      rcases hat with e1 | ⟨b, e1, e2⟩
      · exact ho.1.2 (e.trans e1)
      · rw [e1] at e; injection e with e; have := ho.2.2.1; omega⟩)⟩
/-- a batch more -/
theorem Inc.push (h : Inc wb gw g7 gb d now evs (.slice none 0 0) u got W) {u1 : Value} {b : S31} (hg : W.grownBy W' u.ownBlock) (hR : Kd.R k31 31 W' wb.heap.size (fun k => k ≠ gw ∧ k ≠ g7 ∧ k ≠ gb) u1 (got ++ [b])) : Inc wb gw g7 gb d now evs (.slice none 0 0) u1 (got ++ [b]) (W'.setCell ⟨gb, 0, none⟩ u1) := by
  have hk : Kp W (W'.setCell ⟨gb, 0, none⟩ u1) (fun k => some k = u.ownBlock ∨ k = gb) :=
    ⟨hg.os, hg.tape, hg.output, by simpa [World.setCell] using hg.size, fun k hk hn => ((Kp.of_set W' gb 0 u1).block k (Nat.lt_of_lt_of_le hk hg.size) (fun e => hn (.inr e))).trans (hg.block k hk (fun e => hn (.inl e)))⟩
  have hbb := blk_grown h.bb hg (Kd.R_ne h.rg h.bb (by decide))
  refine ⟨h.wt.keep hk (fun k hk' => ?_), h.l7, h.lb, (hk.block g7 (blk_lt h.b7) (fun e => e.elim (fun e => Kd.R_ne h.rg h.b7 (by decide) e) (fun e => h.ne.2.2 e.symm))).trans h.b7, blk_put (cs := #[u]) hbb 0 u1 rfl, Kd.R_mono (Kd.R_far hR (fun k hk' => hk'.2.2) u1) (fun k hk' => ⟨hk', fun e => by cases e⟩)⟩
  refine ⟨hk'.elim (fun e => Kd.R_base h.rg k e.symm) (fun e => e ▸ h.lb), fun e => ?_, fun e => by cases e⟩
  subst e
  exact hk'.elim (fun e => Kd.R_ne h.rg h.wt.box (by decide) e) (fun e => h.ne.2.1 e.symm)
end
set_option maxHeartbeats 8000000 in
set_option maxRecDepth 100000 in
theorem p14_no (wb : World) (gw g7 gb : Nat) (d now t : Int) (evs evs1 : List S33) (v v1 u : Value) (got : List S31) (W : World) (hi : Inc wb gw g7 gb d now evs v u got W) (hv : ∀ k, some k = v1.ownBlock → some k = v.ownBlock)
    (hp : Calls Try.prog 15 #[.pointer (some ⟨gw, 0, none⟩), .int .i64 t] W fun E W' => E = .returned (.tuple #[.agg #[.int .i64 0, .slice none 0 0], .bool false]) ∧ Wt wb gw d t evs1 v1 W' ∧ Kp W W' (fun k => k = gw)) :
    Calls Try.prog 14 #[.int .i64 t, .pointer (some ⟨g7, 0, none⟩), .pointer (some ⟨gb, 0, none⟩)] W fun E W' => E = .returned (.tuple #[]) ∧ Inc wb gw g7 gb d t evs1 v1 u got W' := by
  have hu31 := Try.underlying31
  have hx7 : W.cell? ⟨g7, 0, none⟩ = some (.pointer (some ⟨gw, 0, none⟩)) := (blk_cell hi.b7 0).trans rfl
  have HI := Aside0.mk hi
  have HP := Aside0.mk hp
  have HV := Aside0.mk hv
  clear hi hp hv
  go_enter Try.func14, Try.ntmps14
  go_wp2_with (first | (go_at_call 15; refine HP.out.mono ?_; rintro e_ w2 ⟨rfl, hw, hk⟩; have HI2 := Aside0.mk (HI.out.keep hk hw HV.out); clear hw hk) | ((with_reducible refine gate_dst (N := 4) rfl ?_); refine box_event ?hg (N := 4) ?hd (cs := #[.int .i64 0, .slice none 0 0]) (t := 31) ?hr ?_; (case hd => rfl); (case hg => rfl); (case hr => first | (go_simp; done) | (go_simp; rfl)); intro g4 hg w3 hbox hb; have HB := Aside0.mk hb; have BK4 := Aside0.mk hbox; have NE4 := Aside0.mk (show w2.heap.size ≤ g4 from Nat.le_of_eq hg.symm); clear hb hbox hg; have hc4_0 : w3.cell? ⟨g4, 0, none⟩ = some (.int .i64 0) := (blk_cell BK4.out 0).trans rfl; have hc4_1 : w3.cell? ⟨g4, 1, none⟩ = some (.slice none 0 0) := (blk_cell BK4.out 1).trans rfl; have hf4_0 := blk_frozen BK4.out 0; have hf4_1 := blk_frozen BK4.out 1))
  try simp only [Exit.inBlock, Exit.then]
  first | (refine bodyPost_end (results_none rfl _ _ _) rfl ?_) | (refine bodyPost_ret (results_none rfl _ _ _) rfl ?_)
  exact ⟨rfl, HI2.out.below (below_set (below_set HB.out NE4.out) NE4.out)⟩
set_option maxHeartbeats 8000000 in
set_option maxRecDepth 100000 in
theorem p14_yes (wb : World) (gw g7 gb : Nat) (d now t : Int) (evs : List S33) (v u : Value) (got : List S31) (W : World) (hi : Inc wb gw g7 gb d now evs v u got W) (bt : Int) (be : List S33) (hgl : got.length < 1000000000)
    (hp : Calls Try.prog 15 #[.pointer (some ⟨gw, 0, none⟩), .int .i64 t] W fun E W' => (∃ vb, E = .returned (.tuple #[.agg #[.int .i64 bt, vb], .bool true]) ∧ Kd.R k33 33 W' W.heap.size (fun _ => True) vb be) ∧ Wt wb gw d t [] (.slice none 0 0) W' ∧ Kp W W' (fun k => k = gw)) :
    Calls Try.prog 14 #[.int .i64 t, .pointer (some ⟨g7, 0, none⟩), .pointer (some ⟨gb, 0, none⟩)] W fun E W' => E = .returned (.tuple #[]) ∧ ∃ u1, Inc wb gw g7 gb d t [] (.slice none 0 0) u1 (got ++ [⟨bt, be⟩]) W' := by
  have hu31 := Try.underlying31
  have hx7 : W.cell? ⟨g7, 0, none⟩ = some (.pointer (some ⟨gw, 0, none⟩)) := (blk_cell hi.b7 0).trans rfl
  obtain ⟨Au, cu, rfl⟩ := Kd.R_slice hi.rg
  have HI := Aside0.mk hi
  have HP := Aside0.mk hp
  have HGL := Aside0.mk hgl
  clear hi hp hgl
  go_enter Try.func14, Try.ntmps14
  go_wp2_with (first | (go_at_call 15; refine HP.out.mono ?_; rintro e_ w2 ⟨⟨vb, rfl, hr⟩, hw, hk⟩; have HI2 := Aside0.mk (HI.out.keep hk hw (fun k e => by cases e)); obtain ⟨Ab, cb, rfl⟩ := Kd.R_slice hr; have HR := Aside0.mk (Kd.R_tight rfl hr); have NWS := Aside0.mk (show W.heap.size ≤ w2.heap.size from hk.size); clear hw hk hr; have _c4 := trivial) | ((with_reducible refine gate_dst (N := 4) rfl ?_); refine box_event ?hg (N := 4) ?hd (cs := #[.int .i64 0, .slice none 0 0]) (t := 31) ?hr ?_; (case hd => rfl); (case hg => rfl); (case hr => first | (go_simp; done) | (go_simp; rfl)); intro g4 hg w3 hbox hb; have HB := Aside0.mk hb; have BK4 := Aside0.mk hbox; have NE4 := Aside0.mk (show w2.heap.size ≤ g4 from Nat.le_of_eq hg.symm); clear hb hbox hg; have hc4_0 : w3.cell? ⟨g4, 0, none⟩ = some (.int .i64 0) := (blk_cell BK4.out 0).trans rfl; have hc4_1 : w3.cell? ⟨g4, 1, none⟩ = some (.slice none 0 0) := (blk_cell BK4.out 1).trans rfl; have hf4_0 := blk_frozen BK4.out 0; have hf4_1 := blk_frozen BK4.out 1; have NE4b := Aside0.mk (show gb ≠ g4 from fun e_ => by have h1_ := blk_lt HI2.out.bb; have h2_ := NE4.out; omega); have a1_ : (gb = g4) = False := eq_false NE4b.out; have a2_ : (g4 = gb) = False := eq_false NE4b.out.symm; have hxb : w3.cell? ⟨gb, 0, none⟩ = some (.slice Au got.length cu) := (blk_cell (blk_below HI2.out.bb HB.out) 0).trans rfl) | (at_builtin; have HB4 := Aside0.mk (show Below w2.heap.size w2 ((w3.setCell ⟨g4, 0, none⟩ (.int .i64 bt)).setCell ⟨g4, 1, none⟩ (.slice Ab be.length cb)) from below_set (below_set HB.out NE4.out) NE4.out); have HI3 := Aside0.mk (HI2.out.below HB4.out); have HR3 := Aside0.mk (Kd.R_lower (Kd.R_below HR.out HB4.out) (Nat.le_trans HI.out.wt.wbl.size (Nat.le_refl _))); have NR := Aside0.mk (Kd.R_base HR.out); have NRG := Aside0.mk (Kd.R_lt HI.out.rg); refine Kd.R_append k31 (w0 := W) wb.heap.size rfl (.tmp 13) (.tmp 15) 26 31 (.agg #[(.int .i64 0), (.slice none 0 0)]) 32 rfl Try.underlying26 info31 rfl (by decide) (by omega) (.slice Au got.length cu) got (⟨bt, be⟩ : S31) [.int .i64 bt, .slice Ab be.length cb] (fun k => k ≠ gw ∧ k ≠ g7 ∧ k ≠ gb) (fun k => some k = (Value.slice Ab be.length cb).ownBlock) rfl (by first | (go_simp; done) | (go_simp; rfl)) (k31_mkM _ _ _ (⟨bt, be⟩ : S31) HR3.out) (fun k hk => ⟨⟨fun e_ => by have h1_ := NR.out k hk.symm; have h2_ := blk_lt HI.out.wt.box; omega, fun e_ => by have h1_ := NR.out k hk.symm; have h2_ := blk_lt HI.out.b7; omega, fun e_ => by have h1_ := NR.out k hk.symm; have h2_ := blk_lt HI.out.bb; omega⟩, fun e_ => by have h1_ := NR.out k hk.symm; have h2_ := NRG.out k e_.symm; omega⟩) (fun k hk => ⟨fun e_ => by have h2_ := blk_lt HI3.out.wt.box; omega, fun e_ => by have h2_ := blk_lt HI3.out.b7; omega, fun e_ => by have h2_ := blk_lt HI3.out.bb; omega⟩) (Kd.R_mono HI3.out.rg (fun k hk => hk.1)) (show Below wb.heap.size W _ from (⟨HI3.out.wt.wbl.os.trans HI.out.wt.wbl.os.symm, HI3.out.wt.wbl.tape.trans HI.out.wt.wbl.tape.symm, HI3.out.wt.wbl.output.trans HI.out.wt.wbl.output.symm, Nat.le_trans NWS.out (below_size HB4.out), fun k hk => (HI3.out.wt.wbl.block k hk).trans (HI.out.wt.wbl.block k hk).symm⟩)) HI3.out.wt.wbl.size (by have := HGL.out; omega) ?_; intro u1 w6 ho hb hg hat; obtain ⟨A9, n9, c9, rfl⟩ : ∃ A n c, u1 = .slice A n c := (by obtain ⟨A, c, e⟩ := Kd.R_slice ho; exact ⟨A, _, c, e⟩); have HIF := Aside0.mk (HI3.out.push hg ho); have BXF := Aside0.mk (blk_grown HI3.out.bb hg (Kd.R_ne HI3.out.rg HI3.out.bb (by decide))); clear ho hb hg hat hxb hc4_0 hc4_1 hf4_0 hf4_1; have hxb : w6.cell? ⟨gb, 0, none⟩ = some (.slice Au got.length cu) := (blk_cell BXF.out 0).trans rfl; have hfb := blk_frozen BXF.out 0))
  try simp only [Exit.inBlock, Exit.then]
  first | (refine bodyPost_end (results_none rfl _ _ _) rfl ?_) | (refine bodyPost_ret (results_none rfl _ _ _) rfl ?_)
  exact ⟨rfl, _, HIF.out⟩
end Go.Proofs.Ytgigbllohagfmaa.Fi
