/- docsync.Room: Join, Open. Condition: the client is new, and greater than those that opened the document. -/
import Derived.Test.YtficalhfbopjbaaDsx0
import Derived.Test.YtficalhfbopjbaaDshJn
import Derived.Deep.QuietTactic
import Derived.RangeFuncNested
import Derived.RangeFuncBound
import Derived.RangeFuncCalls
import Derived.RangeFuncLeaves
import Derived.RangeFuncBox
import Derived.Shelf.Abstract
import Derived.Shelf.RegionOpen
import Derived.WalkKit
import Derived.BigQuiet
namespace Go.Proofs.Ytficalhfbopjbaa.Ds
open Go.RowKit Go.Shelf Go.Proofs.YtficalhfbopjbaaW.PrintWords Go.Proofs.YtficalhfbopjbaaW.PrintLast Go.Proofs.YtficalhfbopjbaaW.PrintMore
open Go.Proofs.Ytficalhfbopjbaa
set_option linter.unusedVariables false
set_option linter.unusedSimpArgs false
attribute [local go_sem] Oper.semAt_some
theorem lit_C (w : World) (x : Int) : Kd.C (Kd.int .i64) (w.alloc (.cells #[.int .i64 x] 3 (0, 0))) (some ⟨w.heap.size, 0, none⟩) 1 [x] :=
  ⟨rfl, by simp, fun _ => ⟨_, rfl, fun j p hj => by
    cases j with
    | zero =>
      injection hj with hj
      subst hj
      exact ⟨[.int .i64 x], rfl, rfl, fun i u hu => by
        cases i with
        | zero => injection hu with hu; subst hu; exact (blk_cell (blk_new w _) 0).trans rfl
        | succ i => cases hu⟩
    | succ j => cases hj⟩⟩
theorem info3 : (Try.prog.info? 3).map (fun i => (i.zero, i.size, i.bytes)) = some (some (.int .i64 0), 1, 8) := by kernel_rfl
section
variable {base gr gD gd cD : Nat} {vC vH vR : Value} {nm : ByteArray} {v : Int} {t : ByteArray} {hist : List (List S56)} {rd cl : List Int} {W : World}
theorem Rm.set {g : Nat} {cs : Array Value} {ty : TypeId} (h : Rm base gr gD gd cD vC vH vR nm v t hist rd cl W) (hb : W.heap[g]? = some (.cells cs ty (0, 0))) (ht : ty ≠ 61 ∧ ty ≠ 62 ∧ ty ≠ 64 ∧ ty ≠ 3 ∧ ty ≠ 42 ∧ ty ≠ 56) (j : Nat) (u : Value) : Rm base gr gD gd cD vC vH vR nm v t hist rd cl (W.setCell ⟨g, j, none⟩ u) := by
  obtain ⟨t1, t2, t3, t4, t5, t6⟩ := ht
  obtain ⟨csD, hD, hD0⟩ := h.dcell
  have q1 : ∀ q, q ∈ 42 :: (Kd.slice 56 k56).E → q ≠ ty := fun q hq e => by
    have hq2 : q = 42 ∨ q = 56 := by
      have h_ : q ∈ ([42, 56] : List Nat) := hq
      simpa using h_
    rcases hq2 with h | h
    · exact t5 (e ▸ h)
    · exact t6 (e ▸ h)
  have q2 : ∀ q, q ∈ 3 :: (Kd.int .i64).E → q ≠ ty := fun q hq e => by
    have h_ : q ∈ ([3] : List Nat) := hq
    rw [List.mem_singleton] at h_
    exact t4 (e ▸ h_)
  exact ⟨(Below.heap_setCell W ⟨g, j, none⟩ u gr (fun e => ne_types h.rbox hb (fun e => t1 e.symm) e)).trans h.rbox, h.rge, ⟨csD, (Below.heap_setCell W ⟨g, j, none⟩ u gD (fun e => ne_types hD hb (fun e => t2 e.symm) e)).trans hD, hD0⟩, h.dge, (Below.heap_setCell W ⟨g, j, none⟩ u gd (fun e => ne_types h.dbox hb (fun e => t3 e.symm) e)).trans h.dbox, h.oge, Kd.S_set h.his hb q1 j u, Kd.R_set h.rds hb q2 j u, Kd.R_set h.cls hb q2 j u⟩
theorem KeepT.set_new {w w' : World} {g : Nat} (h : KeepT w w') (hg : w.heap.size ≤ g) (j : Nat) (u : Value) : KeepT w (w'.setCell ⟨g, j, none⟩ u) := fun i cs t h1 h2 h3 h4 h5 hb => by
  refine (Below.heap_setCell w' ⟨g, j, none⟩ u i (fun e_ => ?_)).trans (h i cs t h1 h2 h3 h4 h5 hb)
  have e2 : i = g := e_
  have := blk_lt hb
  omega
theorem Rm.joined {w1 : World} {v1 : Value} {cl' : List Int} (h : Rm base gr gD gd cD vC vH vR nm v t hist rd cl W) (hg : W.grownBy w1 vC.ownBlock) (ho : Kd.R (Kd.int .i64) 3 w1 base (fun k => some k ≠ vR.ownBlock) v1 cl') :
    Rm base gr gD gd cD v1 vH vR nm v t hist rd cl' (w1.setCell ⟨gr, 1, none⟩ v1) ∧ KeepT W (w1.setCell ⟨gr, 1, none⟩ v1) := by
  have b1 : w1.heap[gr]? = some (.cells #[.slice (some ⟨gD, 0, none⟩) 1 cD, vC] 61 (0, 0)) := blk_grown h.rbox hg (Kd.R_ne h.cls h.rbox (by decide))
  obtain ⟨csD, hD, hD0⟩ := h.dcell
  have b2 := blk_grown hD hg (Kd.R_ne h.cls hD (by decide))
  have b3 := blk_grown h.dbox hg (Kd.R_ne h.cls h.dbox (by decide))
  have s1 := Kd.S_over' h.his (Kd.R_typed h.cls) (by decide) hg
  have r1 : Kd.R (Kd.int .i64) 3 w1 base (fun k => some k = vR.ownBlock) vR rd := Kd.R_step (Kd.R_tight rfl h.rds) (fun k hk hlt => hg.block k hlt (fun e => h.rds.1 k hk.symm e))
  refine ⟨⟨blk_put b1 1 _ rfl, h.rge, ⟨csD, (Below.heap_setCell w1 ⟨gr, 1, none⟩ _ gD (fun e => ne_types b2 b1 (by decide) e)).trans b2, hD0⟩, h.dge, (Below.heap_setCell w1 ⟨gr, 1, none⟩ _ gd (fun e => ne_types b3 b1 (by decide) e)).trans b3, h.oge, Kd.S_set s1 b1 (by decide) 1 _, Kd.R_mono (Kd.R_set r1 b1 (by decide) 1 _) (fun k hk e => ho.1 k e.symm hk), Kd.R_set ho b1 (by decide) 1 _⟩, ?_⟩
  exact (KeepT.grown hg (Kd.R_typed h.cls) (by decide)).trans (KeepT.set b1 (by decide) 1 _)
theorem Rm.opened {w1 : World} {v1 : Value} {rd' : List Int} (h : Rm base gr gD gd cD vC vH vR nm v t hist rd cl W) (hg : W.grownBy w1 vR.ownBlock) (ho : Kd.R (Kd.int .i64) 3 w1 base (fun k => some k ≠ vC.ownBlock) v1 rd') :
    Rm base gr gD gd cD vC vH v1 nm v t hist rd' cl (w1.setCell ⟨gd, 4, none⟩ v1) ∧ KeepT W (w1.setCell ⟨gd, 4, none⟩ v1) := by
  have b1 : w1.heap[gd]? = some (.cells #[.string nm, .int .i64 v, .string t, vH, vR] 64 (0, 0)) := blk_grown h.dbox hg (Kd.R_ne h.rds h.dbox (by decide))
  obtain ⟨csD, hD, hD0⟩ := h.dcell
  have b2 := blk_grown hD hg (Kd.R_ne h.rds hD (by decide))
  have b3 := blk_grown h.rbox hg (Kd.R_ne h.rds h.rbox (by decide))
  have s1 := Kd.S_over' h.his (Kd.R_typed h.rds) (by decide) hg
  have r1 : Kd.R (Kd.int .i64) 3 w1 base (fun k => some k = vC.ownBlock) vC cl := Kd.R_step (Kd.R_tight rfl h.cls) (fun k hk hlt => hg.block k hlt (fun e => h.cls.1 k hk.symm e))
  refine ⟨⟨(Below.heap_setCell w1 ⟨gd, 4, none⟩ _ gr (fun e => ne_types b3 b1 (by decide) e)).trans b3, h.rge, ⟨csD, (Below.heap_setCell w1 ⟨gd, 4, none⟩ _ gD (fun e => ne_types b2 b1 (by decide) e)).trans b2, hD0⟩, h.dge, blk_put b1 4 _ rfl, h.oge, Kd.S_set s1 b1 (by decide) 4 _, Kd.R_set ho b1 (by decide) 4 _, Kd.R_mono (Kd.R_set r1 b1 (by decide) 4 _) (fun k hk e => ho.1 k e.symm hk)⟩, ?_⟩
  exact (KeepT.grown hg (Kd.R_typed h.rds) (by decide)).trans (KeepT.set b1 (by decide) 4 _)
set_option maxHeartbeats 4000000 in
set_option maxRecDepth 100000 in
theorem join7 (w0 : World) (client : Int) (hc0 : 0 ≤ client) (hc8 : client < 8) (hn : client ∉ cl) (hl : cl.length ≤ 1000) (hR : Rm w0.heap.size gr gD gd cD vC vH vR nm v t hist rd cl W) (hb0 : Below w0.heap.size w0 W) :
    Calls Try.prog 7 #[.pointer (some ⟨gr, 0, none⟩), .int .i64 client] W fun e w' => e = .returned (.int .i64 0) ∧ ∃ vC', Rm w0.heap.size gr gD gd cD vC' vH vR nm v t hist rd (cl ++ [client]) w' ∧ Below w0.heap.size w0 w' ∧ KeepT W w' := by
  have hu61 := Try.underlying61
  have hu59 := Try.underlying59
  obtain ⟨Ac, cc, rfl⟩ := Kd.R_slice hR.cls
  have q1 := hR.c1
  have HR := Aside0.mk hR
  have HF := Aside0.mk (show slices_Contains_int_int.f 1001 cl client = some false from by rw [cont_is cl client hl, decide_eq_false hn])
  have HL := Aside0.mk hl
  have HB := Aside0.mk (Below.refl W.heap.size W)
  have HB0 := Aside0.mk hb0
  have e1 : decide (client < 0) = false := decide_eq_false (by omega)
  have e2 : decide (client ≥ 8) = false := decide_eq_false (by omega)
  have e3 : decide (8 ≤ client) = false := decide_eq_false (by omega)
  clear hR hl hn hb0 hc0 hc8
  go_enter Try.func7, Try.ntmps7
  go_wp2_with (first
    | (go_at_call 18; refine (slices_Contains_int_int.calls 1001 _ _ cl client false _ (Kd.R_reads' (HR.out.below HB.out).cls).2.2 (Kd.R_reads' (HR.out.below HB.out).cls).2.1 HF.out).mono ?_; rintro e_ w2 ⟨rfl, hd_⟩; have n1_ := Aside0.mk (below_step HB.out hd_.below); clear HB hd_ q1; have HB := n1_; clear n1_; have q1 := (HR.out.below HB.out).c1)
    | (at_builtin; refine Kd.R_append (Kd.int .i64) (w0 := w0) (W := w2) w0.heap.size rfl (.tmp 23) (.tmp 25) 59 3 (.int .i64 0) 8 rfl Try.underlying59 info3 rfl (by decide) (by omega) (.slice Ac cl.length cc) cl client [.int .i64 client] (fun k => some k ≠ vR.ownBlock) (fun _ => False) rfl rfl rfl (fun _ h => h.elim) (fun k hk e_ => by have h_ := Kd.R_lt (HR.out.below HB.out).rds k e_.symm; omega) (HR.out.below HB.out).cls (below_step HB0.out HB.out) (Nat.le_trans HB0.out.size HB.out.size) (by have h_ := HL.out; omega) ?_; intro v1 w3 ho hb hg hat; obtain ⟨A1, n1, c1, rfl⟩ : ∃ A n c, v1 = .slice A n c := (by obtain ⟨A, c, e⟩ := Kd.R_slice ho; exact ⟨A, _, c, e⟩); obtain ⟨hj1, hj2⟩ := (HR.out.below HB.out).joined hg ho; have HJ := Aside0.mk hj1; have HK := Aside0.mk ((KeepT.below HB.out).trans hj2); have n1_ := Aside0.mk (below_set (j := 1) (v := .slice A1 n1 c1) hb HR.out.rge); have b1 := blk_grown (HR.out.below HB.out).rbox hg (Kd.R_ne (HR.out.below HB.out).cls (HR.out.below HB.out).rbox (by decide)); have p1 : w3.cell? ⟨gr, 1, none⟩ = some (.slice Ac cl.length cc) := (blk_cell b1 1).trans rfl; have p2 := blk_frozen b1 1; clear HB hb hg hat ho hj1 hj2 q1 b1; have HB := n1_; clear n1_))
  go_ret
  exact ⟨rfl, _, HJ.out, HB.out, HK.out⟩
set_option maxHeartbeats 4000000 in
set_option maxRecDepth 100000 in
theorem insert21 (w0 : World) (x : Int) (Ar : Option Addr) (cr : Nat) (ad : Addr) (c2 : Nat) (ok : Nat → Prop) (ho : Kd.R (Kd.int .i64) 3 W w0.heap.size ok (.slice Ar rd.length cr) rd) (hf : ∀ k, W.heap.size ≤ k → ok k) (hx : Kd.C (Kd.int .i64) W (some ad) 1 [x]) (hc2 : 1 ≤ c2) (hl : rd.length ≤ 1000) (hb0 : Below w0.heap.size w0 W) :
    Calls Try.prog 21 #[.slice Ar rd.length cr, .int .i64 rd.length, .slice (some ad) 1 c2] W fun e w' => ∃ v1, e = .returned v1 ∧ Kd.R (Kd.int .i64) 3 w' w0.heap.size ok v1 (rd ++ [x]) ∧ Below w0.heap.size w0 w' ∧ W.grownBy w' (Value.slice Ar rd.length cr).ownBlock := by
  have hu59 := Try.underlying59
  have HO := Aside0.mk ho
  have HF := Aside0.mk hf
  have HX := Aside0.mk hx
  have HL := Aside0.mk hl
  have HB0 := Aside0.mk hb0
  have hcr := (Kd.R_reads' ho).2.1
  have HC := Aside0.mk hcr
  clear ho hf hx hl hb0
  by_cases hcap : rd.length = cr
  · subst hcap
    have h1 : decide (rd.length ≤ rd.length) = true := decide_eq_true (Nat.le_refl _)
    clear hcr
    go_enter Try.func21, Try.ntmps21
    go_wp2_with (at_builtin; refine Kd.R_append_rows (Kd.int .i64) (w0 := w0) (W := W) w0.heap.size rfl (.tmp 23) (.tmp 24) 59 3 (.int .i64 0) 8 rfl Try.underlying59 info3 rfl (by decide) (by omega) _ rd [x] _ _ _ ok (fun _ => False) rfl rfl HO.out HX.out (fun _ _ h => h) (fun _ h => h.elim) HF.out HB0.out HB0.out.size (by have h_ := HL.out; omega) ?_; intro v1 w3 ho hb hg hat; have HO1 := Aside0.mk ho; have HB1 := Aside0.mk hb; have HG1 := Aside0.mk hg; clear ho hb hg hat)
    go_ret
    exact ⟨_, rfl, HO1.out, HB1.out, HG1.out⟩
  · have hlt : rd.length < cr := by omega
    go_enter Try.func21, Try.ntmps21
    go_wp2_with (at_builtin; refine Kd.R_append_rows (Kd.int .i64) (w0 := w0) (W := W) w0.heap.size rfl (.tmp 23) (.tmp 24) 59 3 (.int .i64 0) 8 rfl Try.underlying59 info3 rfl (by decide) (by omega) _ rd [x] _ _ _ ok (fun _ => False) rfl rfl HO.out HX.out (fun _ _ h => h) (fun _ h => h.elim) HF.out HB0.out HB0.out.size (by have h_ := HL.out; omega) ?_; intro v1 w3 ho hb hg hat; have HO1 := Aside0.mk ho; have HB1 := Aside0.mk hb; have HG1 := Aside0.mk hg; clear ho hb hg hat)
    go_ret
    exact ⟨_, rfl, HO1.out, HB1.out, HG1.out⟩
set_option maxHeartbeats 8000000 in
set_option maxRecDepth 100000 in
theorem open8 (w0 : World) (client : Int) (kb : Nat) (hcl : client ∈ cl) (hl : cl.length ≤ 1000) (hl2 : rd.length ≤ 1000) (hbs : slices_BinarySearch_int_int.f kb rd client = some ((rd.length : Int), false)) (hR : Rm w0.heap.size gr gD gd cD vC vH vR nm v t hist rd cl W) (hb0 : Below w0.heap.size w0 W) :
    Calls Try.prog 8 #[.pointer (some ⟨gr, 0, none⟩), .int .i64 client, .string nm] W fun e w' => e = .returned (.tuple #[.agg #[.string nm, .int .i64 v, .string t], .int .i64 0]) ∧ ∃ vR', Rm w0.heap.size gr gD gd cD vC vH vR' nm v t hist (rd ++ [client]) cl w' ∧ Below w0.heap.size w0 w' ∧ KeepT W w' := by
  have hu64 := Try.underlying64
  have hu30 := Try.underlying30
  have hu59 := Try.underlying59
  obtain ⟨Ar, cr, rfl⟩ := Kd.R_slice hR.rds
  have HR := Aside0.mk hR
  have HC := Aside0.mk (And.intro hcl hl)
  have HL := Aside0.mk hl2
  have HS := Aside0.mk hbs
  have HB := Aside0.mk (Below.refl W.heap.size W)
  have HB0 := Aside0.mk hb0
  clear hR hcl hl hl2 hbs hb0
  go_enter Try.func8, Try.ntmps8
  go_wp2_with (first
    | ((with_reducible refine gate_dst (N := 6) rfl ?_); refine box_event ?hg (N := 6) ?hd (cs := #[.string ByteArray.empty, .int .i64 0, .string ByteArray.empty]) (t := 30) ?hr ?_; (case hd => rfl); (case hg => rfl); (case hr => first | (go_simp; done) | (go_simp; rfl)); intro g6 hg w6 hbox hb; have BK6 := Aside0.mk hbox; have GE6 := Aside0.mk (show W.heap.size ≤ g6 from by rw [hg]; exact HB.out.size); have n1_ := Aside0.mk (below_step HB.out hb); clear HB; have HB := n1_; clear n1_; clear hbox hb hg)
    | (go_at_call 19; refine (forClient19 client HC.out.1 HC.out.2 (HR.out.below HB.out)).mono ?_; rintro e_ w1 ⟨rfl, hb⟩; have n1_ := Aside0.mk (below_step HB.out hb); have n2_ := Aside0.mk (blk_below BK6.out hb); clear HB hb BK6; have HB := n1_; have BK6 := n2_; clear n1_ n2_; have q4 := (HR.out.below HB.out).d4)
    | (go_at_call 20; refine (slices_BinarySearch_int_int.calls kb _ _ rd client (rd.length : Int) false _ (Kd.R_reads' (HR.out.below HB.out).rds).2.2 (Kd.R_reads' (HR.out.below HB.out).rds).2.1 HS.out).mono ?_; rintro e_ w2 ⟨rfl, hd_⟩; have n1_ := Aside0.mk (below_step HB.out hd_.below); have n2_ := Aside0.mk (blk_below BK6.out hd_.below); clear HB hd_ q4 BK6; have HB := n1_; have BK6 := n2_; clear n1_ n2_; have q4 := (HR.out.below HB.out).d4)
    | (go_at_call 21; have hb2 := below_alloc (Below.refl w2.heap.size w2) (.cells #[.int .i64 client] 3 (0, 0)); have HBA := Aside0.mk (below_step HB.out hb2); have BK6A := Aside0.mk (blk_below BK6.out hb2); refine (insert21 w0 client Ar cr ⟨w2.heap.size, 0, none⟩ 1 (fun k => some k ≠ vC.ownBlock) (HR.out.below HBA.out).rds (fun k hk e_ => by have h_ := Kd.R_lt (HR.out.below HBA.out).cls k e_.symm; omega) (lit_C w2 client) (Nat.le_refl _) HL.out (below_step HB0.out HBA.out)).mono ?_; rintro e_ w3 ⟨v1, rfl, ho, hb, hg⟩; obtain ⟨A1, n1, c1, rfl⟩ : ∃ A n c, v1 = .slice A n c := (by obtain ⟨A, c, e⟩ := Kd.R_slice ho; exact ⟨A, _, c, e⟩); obtain ⟨hj1, hj2⟩ := (HR.out.below HBA.out).opened hg ho; have HJ := Aside0.mk hj1; have HK := Aside0.mk ((KeepT.below HBA.out).trans hj2); have n1_ := Aside0.mk (below_set (j := 4) (v := .slice A1 n1 c1) hb HR.out.oge); have b1 := blk_grown (HR.out.below HBA.out).dbox hg (Kd.R_ne (HR.out.below HBA.out).rds (HR.out.below HBA.out).dbox (by decide)); have p1 : w3.cell? ⟨gd, 4, none⟩ = some (.slice Ar rd.length cr) := (blk_cell b1 4).trans rfl; have p2 := blk_frozen b1 4; have b6 := blk_grown BK6A.out hg (Kd.R_ne (HR.out.below HBA.out).rds BK6A.out (by decide)); have n2_ := Aside0.mk ((Below.heap_setCell w3 ⟨gd, 4, none⟩ (.slice A1 n1 c1) g6 (fun e => ne_types b6 b1 (by decide) e)).trans b6); clear HB BK6 hb hg ho hj1 hj2 q4 b1 b6 hb2 HBA BK6A; have HB := n1_; have BK6 := n2_; clear n1_ n2_; have q5 := HJ.out.d0; have q6 := HJ.out.d1; have q7 := HJ.out.d2; have hc6_0 := (blk_cell BK6.out 0).trans rfl; have hf6_0 := blk_frozen BK6.out 0; have hc6_1 := (blk_cell BK6.out 1).trans rfl; have hf6_1 := blk_frozen BK6.out 1; have hc6_2 := (blk_cell BK6.out 2).trans rfl; have hf6_2 := blk_frozen BK6.out 2))
  clear hc6_0 hf6_0 hc6_1 hf6_1 hc6_2 hf6_2 q5 q6 q7 p1 p2
  have m0_ : ((w3.setCell ⟨gd, 4, none⟩ (.slice A1 n1 c1)).setCell ⟨g6, 0, none⟩ (.string nm)).heap[g6]? = some (.cells #[.string nm, .int .i64 0, .string ByteArray.empty] 30 (0, 0)) := blk_put BK6.out 0 _ rfl
  have m1_ : (((w3.setCell ⟨gd, 4, none⟩ (.slice A1 n1 c1)).setCell ⟨g6, 0, none⟩ (.string nm)).setCell ⟨g6, 1, none⟩ (.int .i64 v)).heap[g6]? = some (.cells #[.string nm, .int .i64 v, .string ByteArray.empty] 30 (0, 0)) := blk_put m0_ 1 _ rfl
  have m2_ : ((((w3.setCell ⟨gd, 4, none⟩ (.slice A1 n1 c1)).setCell ⟨g6, 0, none⟩ (.string nm)).setCell ⟨g6, 1, none⟩ (.int .i64 v)).setCell ⟨g6, 2, none⟩ (.string t)).heap[g6]? = some (.cells #[.string nm, .int .i64 v, .string t] 30 (0, 0)) := blk_put m1_ 2 _ rfl
  have HJ2 := ((HJ.out.set BK6.out (by decide) 0 (.string nm)).set m0_ (by decide) 1 (.int .i64 v)).set m1_ (by decide) 2 (.string t)
  have gl := Nat.le_trans HB0.out.size GE6.out
  have HB2 : Below w0.heap.size w0 ((((w3.setCell ⟨gd, 4, none⟩ (.slice A1 n1 c1)).setCell ⟨g6, 0, none⟩ (.string nm)).setCell ⟨g6, 1, none⟩ (.int .i64 v)).setCell ⟨g6, 2, none⟩ (.string t)) := below_set (below_set (below_set HB.out gl) gl) gl
  have HK2 : KeepT W ((((w3.setCell ⟨gd, 4, none⟩ (.slice A1 n1 c1)).setCell ⟨g6, 0, none⟩ (.string nm)).setCell ⟨g6, 1, none⟩ (.int .i64 v)).setCell ⟨g6, 2, none⟩ (.string t)) := ((HK.out.set_new GE6.out 0 _).set_new GE6.out 1 _).set_new GE6.out 2 _
  generalize ((((w3.setCell ⟨gd, 4, none⟩ (.slice A1 n1 c1)).setCell ⟨g6, 0, none⟩ (.string nm)).setCell ⟨g6, 1, none⟩ (.int .i64 v)).setCell ⟨g6, 2, none⟩ (.string t)) = wE at m2_ HJ2 HB2 HK2 ⊢
  have e0 : wE.cell? ⟨g6, 0, none⟩ = some (.string nm) := (blk_cell m2_ 0).trans rfl
  have e1 : wE.cell? ⟨g6, 1, none⟩ = some (.int .i64 v) := (blk_cell m2_ 1).trans rfl
  have e2 : wE.cell? ⟨g6, 2, none⟩ = some (.string t) := (blk_cell m2_ 2).trans rfl
  exact bodyPost_ret (v := .tuple #[.agg #[.string nm, .int .i64 v, .string t], .int .i64 0]) (by simp [results, Try.results8, go_sem, hu30, e0, e1, e2]) rfl ⟨rfl, _, HJ2, HB2, HK2⟩
end
end Go.Proofs.Ytficalhfbopjbaa.Ds
