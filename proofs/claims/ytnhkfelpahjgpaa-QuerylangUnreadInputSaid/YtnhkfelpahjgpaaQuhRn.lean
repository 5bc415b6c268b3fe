/- querylang.run: the stack machine. Condition: fewer than 1000000000 instructions. -/
import Derived.Test.YtnhkfelpahjgpaaQux0
import Derived.BigQuiet
import Derived.Test.YtnhkfelpahjgpaaQuhPp
namespace Go.Proofs.Ytnhkfelpahjgpaa.Qu
open Go.RowKit Go.Proofs.YtnhkfelpahjgpaaW.PrintWords Go.Proofs.YtnhkfelpahjgpaaW.PrintLast Go.Proofs.YtnhkfelpahjgpaaW.PrintMore
open Go.Proofs.Ytnhkfelpahjgpaa
set_option linter.unusedVariables false
set_option linter.unusedSimpArgs false

theorem take43 (l : List S43) (i : Nat) (h : i < l.length) : l.drop i = rd_T43 l (i : Int) :: l.drop (i + 1) := by
  rw [List.drop_eq_getElem_cons h]
  unfold rd_T43
  simp [h]
set_option maxHeartbeats 16000000 in
set_option maxRecDepth 100000 in
theorem run_calls (F : FuncId) (fn : Func) (hf : Try.prog.funcs[F]? = some fn) (hname : (fn.name == "runtime.NumGoroutine") = false) (hbody : fn.body.isSome = true) (bnd cap : Array Value) (gt : Int → Int → Option Int) (Inv : World → List K3 → (Nat → Prop) → Prop) (B0 : Nat → Prop) (wb W0 : World) (A0 : Option Addr) (c0 : Nat) (l : List S43) (idx : Int)
    (hC : Kd.C k43 wb A0 l.length l) (hlc : l.length ≤ c0) (hll : l.length < 1000000000) (hwb : Below wb.heap.size wb W0) (hB0 : ∀ k, B0 k → wb.heap.size ≤ k) (hclo : Clo W0 Inv)
    (hget : ∀ W tr B a b v, tr.length < 1000000000 → W0.heap.size ≤ W.heap.size → Inv W tr B → gt a b = some v → Calls Try.prog F ((bnd ++ #[.agg #[.int .i64 a, .int .i64 b, .int .i64 0]]) ++ cap) W fun e W' => e = .returned (.int .i64 v) ∧ ∃ B', Kp W W' B ∧ Inv W' (tr ++ [(a, b, 0)]) B' ∧ ∀ k, B' k → B k ∨ W.heap.size ≤ k)
    (h0 : Inv W0 [] B0) (x0 : Int) (st0 : List Int) (tr0 : List K3) (h : goT gt idx l [] [] = some (x0 :: st0, tr0)) :
    Calls Try.prog 20 #[.slice A0 l.length c0, .int .i64 idx, .func (.func F) bnd cap] W0 fun e W' => e = .returned (.int .i64 x0) ∧ ∃ B', Kp W0 W' B0 ∧ Inv W' tr0 B' ∧ ∀ k, B' k → B0 k ∨ W0.heap.size ≤ k := by
  have hu43 := Try.underlying43
  have hu40 := Try.underlying40
  have HC := Aside0.mk hC
  have HLL := Aside0.mk hll
  have HWB := Aside0.mk hwb
  have HB0 := Aside0.mk hB0
  have HCLO := Aside0.mk hclo
  have HGET := Aside0.mk hget
  have H0 := Aside0.mk h0
  have HG := Aside0.mk h
  clear hC hll hwb hB0 hclo hget h0 h
  go_enter Try.func20, Try.ntmps20
  go_wp2_with ((with_reducible refine gate_dst (N := 7) rfl ?_); refine box_event ?hg (N := 7) ?hd (cs := #[.slice none 0 0]) (t := 25) ?hr ?_; (case hd => rfl); (case hg => rfl); (case hr => first | (go_simp; done) | (go_simp; rfl)); intro g7 hg w2 hbox hb; have HS := Aside0.mk (show St W0 B0 g7 Inv [] [] B0 w2 from ⟨Kp.of_below hb _, fun k hk => .inl hk, Nat.le_of_eq hg.symm, fun hk => by have := HCLO.out.lt _ _ _ _ H0.out hk; omega, ⟨_, hbox, Kd.R_nil _ _ _ _ _⟩, HCLO.out.st _ _ _ _ H0.out (Kp.of_below hb _)⟩); clear hb hbox hg)
  go_loopg [19] l.length (fun kq v19 w' => ∃ x : Int, v19 = .int .i64 x ∧ Aside0 (∃ (i : Nat) (st : List Int) (tr : List K3) (B : Nat → Prop), x = i ∧ i + kq = l.length ∧ st.length ≤ i ∧ tr.length ≤ i ∧ goT gt idx (l.drop i) st tr = some (x0 :: st0, tr0) ∧ St W0 B0 g7 Inv st tr B w'))
  case atStart => exact ⟨0, rfl, ⟨⟨0, [], [], B0, rfl, by omega, Nat.le_refl _, Nat.le_refl _, HG.out, HS.out⟩⟩⟩
  case round =>
    clear HS
    obtain ⟨x, rfl, HX⟩ := hrel
    by_cases c : x < (l.length : Int)
    · have c1 : decide (x < (l.length : Int)) = true := decide_eq_true c
      obtain ⟨i, st, tr, B, e1, e2, hlen_, htl_, e3, e4⟩ := HX.out
      clear HX
      obtain ⟨k1, rfl⟩ : ∃ k1, gk = k1 + 1 := ⟨gk - 1, by omega⟩
      have E1 := Aside0.mk (And.intro e1 e2)
      rw [take43 l i (by omega), ← e1, goT_cons] at e3
      obtain ⟨⟨st1, tr1⟩, hs1, hrest⟩ := Option.bind_eq_some_iff.1 e3
      clear e3
      have HS := Aside0.mk e4
      have p1 : 0 ≤ (x : Int) := by omega
      have hbw : Below wb.heap.size wb wr := HS.out.kp.below HWB.out HWB.out.size HB0.out
      obtain ⟨ad, ea, hx0, hx1, hx2⟩ := at_T43 HC.out x p1 c
      cases ea
      replace hx0 := (hbw.cell (World.block_lt_of_cell? wb _ hx0)).trans hx0
      replace hx1 := (hbw.cell (World.block_lt_of_cell? wb _ hx1)).trans hx1
      replace hx2 := (hbw.cell (World.block_lt_of_cell? wb _ hx2)).trans hx2
      have HB := Aside0.mk (Below.refl wr.heap.size wr)
      have hlen2 : st.length < 1000000000 := by have := HLL.out; omega
      clear hbw
      replace p1 := eq_true p1
      have q1_ := eq_true c
      have hlen_ : st.length ≤ i ∧ i < 1000000000 := ⟨hlen_, by have := HLL.out; omega⟩
      have HTL := Aside0.mk (show tr.length ≤ i ∧ i < 1000000000 from ⟨htl_, hlen_.2⟩)
      clear htl_
      clear e1 e2 c hlen2 e4
      unfold stepT at hs1
      by_cases c : (rd_T43 l x).f0 = 4
      · skip
        have ho : (rd_T43 l x).f0 = 4 ∨ (rd_T43 l x).f0 = 5 := .inl c
        rw [if_pos ho] at hs1
        obtain ⟨⟨stk, n⟩, hp, hs1⟩ := Option.bind_eq_some_iff.1 hs1
        obtain ⟨⟨q1, q2, q3, q4⟩, hq, hs1⟩ := Option.bind_eq_some_iff.1 hs1
        obtain ⟨v, hv, hs1⟩ := Option.bind_eq_some_iff.1 hs1
        simp only [Option.some.injEq, Prod.mk.injEq] at hs1
        obtain ⟨rfl, rfl⟩ := hs1
        obtain rfl := popL_some hp
        obtain ⟨rfl, rfl⟩ := ok_reads (by omega) hq
        have HQ := Aside0.mk hq
        have HV := Aside0.mk hv
        have HLEN := Aside0.mk hlen_
        have HREST := Aside0.mk hrest
        clear hrest hlen_
        have e4_ : ((rd_T43 l x).f0 == 4) = true := beq_iff_eq.mpr c
        have f4_ : ((rd_T43 l x).f0 != 4) = false := bne_eq_false_iff_eq.mpr c
        have e5_ : ((rd_T43 l x).f0 == 5) = false := beq_eq_false_iff_ne.mpr (by omega)
        have f5_ : ((rd_T43 l x).f0 != 5) = true := bne_iff_ne.mpr (by omega)
        clear hp hq hv ho c
        go_wp2_with (first | ((with_reducible refine gate_dst (N := 10) rfl ?_); refine box_event ?hg (N := 10) ?hd (cs := #[Value.int .i64 0, Value.int .i64 0, Value.int .i64 0]) (t := 43) ?hr ?_; (case hd => rfl); (case hg => rfl); (case hr => first | (go_simp; done) | (go_simp; rfl)); intro g10 hg w10 hbox hb; have n1_ := Aside0.mk (below_step (by repeat (first | exact HB.out | refine below_set ?_ GE10.out | refine below_set ?_ GE12.out)) hb); have BK10 := Aside0.mk (hbox); have GE10 := Aside0.mk ((by rw [hg]; exact (below_size (by repeat (first | exact HB.out | refine below_set ?_ GE10.out | refine below_set ?_ GE12.out))) : wr.heap.size ≤ g10)); have NE10 := Aside0.mk (show g10 ≠ g7 from by have h1_ := HS.out.lt; have h2_ := GE10.out; omega); clear HB; have HB := n1_; clear n1_; clear hb hbox hg; have hc10_0 : w10.cell? ⟨g10, 0, none⟩ = some (Value.int .i64 0) := (blk_cell BK10.out 0).trans rfl; have hf10_0 := blk_frozen BK10.out 0; have hc10_1 : w10.cell? ⟨g10, 1, none⟩ = some (Value.int .i64 0) := (blk_cell BK10.out 1).trans rfl; have hf10_1 := blk_frozen BK10.out 1; have hc10_2 : w10.cell? ⟨g10, 2, none⟩ = some (Value.int .i64 0) := (blk_cell BK10.out 2).trans rfl; have hf10_2 := blk_frozen BK10.out 2) | (go_at_call 28; refine (pop_st (g1 := g10) (o := .cells #[.int .i64 (rd_T43 l x).f0, .int .i64 (rd_T43 l x).f1, .int .i64 (rd_T43 l x).f2] 43 (0, 0)) HCLO.out (HS.out.step HCLO.out (by repeat (first | exact HB.out | refine below_set ?_ GE10.out | refine below_set ?_ GE12.out))) (by first | exact BK10.out | (refine (Below.heap_setCell _ _ _ g10 NE1012.out).trans ?_; refine (Below.heap_setCell _ _ _ g10 NE1012.out).trans ?_; refine (Below.heap_setCell _ _ _ g10 NE1012.out).trans ?_; exact BK10.out) | (refine blk_put (cs := #[.int .i64 (rd_T43 l x).f0, .int .i64 (rd_T43 l x).f1, .int .i64 0]) ?_ 2 _ rfl; refine blk_put (cs := #[.int .i64 (rd_T43 l x).f0, .int .i64 0, .int .i64 0]) ?_ 1 _ rfl; refine blk_put (cs := #[.int .i64 0, .int .i64 0, .int .i64 0]) ?_ 0 _ rfl; exact BK10.out)) NE10.out (by have h_ := HLEN.out; (try simp only [List.length_append, List.length_singleton] at h_ ⊢); omega)).mono ?_; rintro e w7 ⟨rfl, hs_, bk_⟩; clear HB HS BK10; have HS := Aside0.mk hs_; have BK10 := Aside0.mk bk_; have HB := Aside0.mk (Below.refl w7.heap.size w7); clear hs_ bk_; (try clear hd_0 hd_1 hd_2); have hd_0 : w7.cell? ⟨g10, 0, none⟩ = some (.int .i64 (rd_T43 l x).f0) := (blk_cell BK10.out 0).trans rfl; have hd_1 : w7.cell? ⟨g10, 1, none⟩ = some (.int .i64 (rd_T43 l x).f1) := (blk_cell BK10.out 1).trans rfl; have hd_2 : w7.cell? ⟨g10, 2, none⟩ = some (.int .i64 (rd_T43 l x).f2) := (blk_cell BK10.out 2).trans rfl) | (go_at_call 29; refine (querylang_operandKey.calls _ _ _ _ _ _ _ _ _ _ HQ.out).mono ?_; rintro e w8 ⟨rfl, hb⟩; have n1_ := Aside0.mk (HS.out.step HCLO.out (below_step (by repeat (first | exact HB.out | refine below_set ?_ GE10.out | refine below_set ?_ GE12.out)) hb)); have n2_ := Aside0.mk (blk_below (g := g10) (o := .cells #[.int .i64 (rd_T43 l x).f0, .int .i64 (rd_T43 l x).f1, .int .i64 (rd_T43 l x).f2] 43 (0, 0)) (by first | exact BK10.out | (refine (Below.heap_setCell _ _ _ g10 NE1012.out).trans ?_; refine (Below.heap_setCell _ _ _ g10 NE1012.out).trans ?_; refine (Below.heap_setCell _ _ _ g10 NE1012.out).trans ?_; exact BK10.out) | (refine blk_put (cs := #[.int .i64 (rd_T43 l x).f0, .int .i64 (rd_T43 l x).f1, .int .i64 0]) ?_ 2 _ rfl; refine blk_put (cs := #[.int .i64 (rd_T43 l x).f0, .int .i64 0, .int .i64 0]) ?_ 1 _ rfl; refine blk_put (cs := #[.int .i64 0, .int .i64 0, .int .i64 0]) ?_ 0 _ rfl; exact BK10.out)) hb); clear HB HS BK10 hb; have HS := n1_; have BK10 := n2_; have HB := Aside0.mk (Below.refl w8.heap.size w8); clear n1_ n2_; (try clear hd_0 hd_1 hd_2); have hd_0 : w8.cell? ⟨g10, 0, none⟩ = some (.int .i64 (rd_T43 l x).f0) := (blk_cell BK10.out 0).trans rfl; have hd_1 : w8.cell? ⟨g10, 1, none⟩ = some (.int .i64 (rd_T43 l x).f1) := (blk_cell BK10.out 1).trans rfl; have hd_2 : w8.cell? ⟨g10, 2, none⟩ = some (.int .i64 (rd_T43 l x).f2) := (blk_cell BK10.out 2).trans rfl) | ((with_reducible refine gate_dst (N := 12) rfl ?_); refine box_event ?hg (N := 12) ?hd (cs := #[Value.int .i64 0, Value.int .i64 0, Value.int .i64 0]) (t := 40) ?hr ?_; (case hd => rfl); (case hg => rfl); (case hr => first | (go_simp; done) | (go_simp; rfl)); intro g12 hg w12 hbox hb; have n1_ := Aside0.mk (below_step (by repeat (first | exact HB.out | refine below_set ?_ GE10.out | refine below_set ?_ GE12.out)) hb); have BK12 := Aside0.mk (hbox); have GE12 := Aside0.mk ((by rw [hg]; exact (below_size (by repeat (first | exact HB.out | refine below_set ?_ GE10.out | refine below_set ?_ GE12.out))) : w8.heap.size ≤ g12)); have NE1012 := Aside0.mk (show g10 ≠ g12 from by have h1_ := blk_lt BK10.out; have h2_ := GE12.out; omega); have NB12 := Aside0.mk (show ¬ B g12 ∧ g7 ≠ g12 from ⟨fun hb_ => by have h1_ := HCLO.out.lt _ _ _ _ HS.out.inv hb_; have h2_ := GE12.out; omega, by have h1_ := HS.out.lt; have h2_ := GE12.out; omega⟩); have ne1012 : (g10 = g12) = False := eq_false NE1012.out; have ne1210 : (g12 = g10) = False := eq_false NE1012.out.symm; have n2_ := Aside0.mk (blk_below BK10.out hb); clear BK10; have BK10 := n2_; clear n2_; clear hd_0 hd_1 hd_2; have hd_0 : w12.cell? ⟨g10, 0, none⟩ = some (.int .i64 (rd_T43 l x).f0) := (blk_cell BK10.out 0).trans rfl; have hd_1 : w12.cell? ⟨g10, 1, none⟩ = some (.int .i64 (rd_T43 l x).f1) := (blk_cell BK10.out 1).trans rfl; have hd_2 : w12.cell? ⟨g10, 2, none⟩ = some (.int .i64 (rd_T43 l x).f2) := (blk_cell BK10.out 2).trans rfl; clear HB; have HB := n1_; clear n1_; clear hb hbox hg; have hc12_0 : w12.cell? ⟨g12, 0, none⟩ = some (Value.int .i64 0) := (blk_cell BK12.out 0).trans rfl; have hf12_0 := blk_frozen BK12.out 0; have hc12_1 : w12.cell? ⟨g12, 1, none⟩ = some (Value.int .i64 0) := (blk_cell BK12.out 1).trans rfl; have hf12_1 := blk_frozen BK12.out 1; have hc12_2 : w12.cell? ⟨g12, 2, none⟩ = some (Value.int .i64 0) := (blk_cell BK12.out 2).trans rfl; have hf12_2 := blk_frozen BK12.out 2))
        have n1_ := Aside0.mk (HS.out.step (W' := (((w12.setCell ⟨g12, 0, none⟩ (.int .i64 q1)).setCell ⟨g12, 1, none⟩ (.int .i64 q2)).setCell ⟨g12, 2, none⟩ (.int .i64 0)).drew) HCLO.out (below_drew1 (by repeat (first | exact HB.out | refine below_set ?_ GE10.out | refine below_set ?_ GE12.out))))
        have n2_ := Aside0.mk (show ((((w12.setCell ⟨g12, 0, none⟩ (.int .i64 q1)).setCell ⟨g12, 1, none⟩ (.int .i64 q2)).setCell ⟨g12, 2, none⟩ (.int .i64 0))).drew.heap[g10]? = some (.cells #[.int .i64 (rd_T43 l x).f0, .int .i64 (rd_T43 l x).f1, .int .i64 (rd_T43 l x).f2] 43 (0, 0)) from blk_drew (by first | exact BK10.out | (refine (Below.heap_setCell _ _ _ g10 NE1012.out).trans ?_; refine (Below.heap_setCell _ _ _ g10 NE1012.out).trans ?_; refine (Below.heap_setCell _ _ _ g10 NE1012.out).trans ?_; exact BK10.out) | (refine blk_put (cs := #[.int .i64 (rd_T43 l x).f0, .int .i64 (rd_T43 l x).f1, .int .i64 0]) ?_ 2 _ rfl; refine blk_put (cs := #[.int .i64 (rd_T43 l x).f0, .int .i64 0, .int .i64 0]) ?_ 1 _ rfl; refine blk_put (cs := #[.int .i64 0, .int .i64 0, .int .i64 0]) ?_ 0 _ rfl; exact BK10.out)))
        have n3_ := Aside0.mk (show ((((w12.setCell ⟨g12, 0, none⟩ (.int .i64 q1)).setCell ⟨g12, 1, none⟩ (.int .i64 q2)).setCell ⟨g12, 2, none⟩ (.int .i64 0))).drew.heap[g12]? = some (.cells #[.int .i64 q1, .int .i64 q2, .int .i64 0] 40 (0, 0)) from blk_drew (by refine blk_put (cs := #[.int .i64 q1, .int .i64 q2, .int .i64 0]) ?_ 2 _ rfl; refine blk_put (cs := #[.int .i64 q1, .int .i64 0, .int .i64 0]) ?_ 1 _ rfl; refine blk_put (cs := #[.int .i64 0, .int .i64 0, .int .i64 0]) ?_ 0 _ rfl; exact BK12.out))
        clear HB HS BK10 BK12
        generalize (((w12.setCell ⟨g12, 0, none⟩ (.int .i64 q1)).setCell ⟨g12, 1, none⟩ (.int .i64 q2)).setCell ⟨g12, 2, none⟩ (.int .i64 0)) = w9 at n1_ n2_ n3_ ⊢
        have HS := n1_
        have BK10 := n2_
        have BK12 := n3_
        clear n1_ n2_ n3_
        obtain ⟨v_, hb1, hr1⟩ := HS.out.box
        have HR_ := Aside0.mk hr1
        have BX_ := Aside0.mk hb1
        clear hb1 hr1
        refine start_ (n := 7) (S := fun w' => w'.cell? ⟨g7, 0, none⟩ = some v_ ∧ w'.cell? ⟨g12, 0, none⟩ = some (.int .i64 q1) ∧ w'.cell? ⟨g12, 1, none⟩ = some (.int .i64 q2) ∧ w'.cell? ⟨g12, 2, none⟩ = some (.int .i64 0)) (ds := [6]) #[false, false, false, false, false, false, false] (by kernel_rfl) rfl rfl ⟨(blk_cell BX_.out 0).trans rfl, (blk_cell BK12.out 0).trans rfl, (blk_cell BK12.out 1).trans rfl, (blk_cell BK12.out 2).trans rfl⟩ (fun hHeld => ?_)
        generalize w9.drew = w15 at HS BK10 BK12 HR_ BX_ hHeld ⊢
        refine pure_ (i := 1) (N := some 42) (v := ?_) (a' := ?_) #[false, true, false, false, false, false, false] rfl rfl (by kernel_rfl) (fun _ _ _ h => h) (Or.inl ⟨by rfl, ?_⟩) ?_ ?_
        rotate_left
        · intro w'
          go_simp
          with_reducible rfl
        rotate_left
        · simp only [Act.put, List.setIfInBounds_toArray, List.set_cons_zero, List.set_cons_succ, i64_w, i32_w]
          rfl
        refine take_ (i := 0) (N := some 41) (v := ?_) (a' := ?_) #[true, true, false, false, false, false, false] rfl rfl (by kernel_rfl) (fun _ _ _ h => h) (Or.inl ⟨by rfl, ?_⟩) hHeld ?_ ?_
        rotate_left
        · rintro w' ⟨s0, s1, s2, s3⟩
          go_simp
          with_reducible rfl
        rotate_left
        · simp only [Act.put, List.setIfInBounds_toArray, List.set_cons_zero, List.set_cons_succ, i64_w, i32_w]
          rfl
        refine take_ (i := 2) (N := some 43) (v := ?_) (a' := ?_) #[true, true, true, false, false, false, false] rfl rfl (by kernel_rfl) (fun _ _ _ h => h) (Or.inl ⟨by rfl, ?_⟩) hHeld ?_ ?_
        rotate_left
        · rintro w' ⟨s0, s1, s2, s3⟩
          go_simp
          with_reducible rfl
        rotate_left
        · simp only [Act.put, List.setIfInBounds_toArray, List.set_cons_zero, List.set_cons_succ, i64_w, i32_w]
          rfl
        refine one_ (i := 3) (N := some 44) #[true, true, true, true, false, false, false] rfl rfl (by kernel_rfl) (by decide) (fun K hK => ?_)
        refine goesV_ bnd cap hf hname hbody #[.agg #[.int .i64 q1, .int .i64 q2, .int .i64 0]] (by rfl) rfl rfl rfl (by (try simp only [List.map_toArray, List.map_cons, List.map_nil]); first | done | rfl) ?_
        refine (HGET.out _ _ _ _ _ _ (by have h_ := HTL.out; omega) HS.out.kp.size HS.out.inv HV.out).mono ?_
        rintro e w11 ⟨rfl, B', hk1, hi1, hB1⟩
        refine ⟨_, rfl, ?_⟩
        have n1_ := Aside0.mk (HS.out.called HCLO.out hk1 hi1 hB1)
        have n2_ := Aside0.mk ((hk1.block g7 (blk_lt BX_.out) HS.out.nb).trans BX_.out)
        have n3_ := Aside0.mk ((hk1.block g12 (blk_lt BK12.out) NB12.out.1).trans BK12.out)
        have n4_ : Aside0 (Kd.R (Kd.int .i64) 3 w11 W0.heap.size (fun k => k ≠ g7 ∧ ¬ B' k) v_ stk) := ⟨Kd.R_mono (Kd.R_step (Kd.R_bound HR_.out) (fun k hk' hlt => hk1.block k hlt hk'.1.2)) (fun k hk' => ⟨hk'.1.1, fun hb_ => (hB1 k hb_).elim hk'.1.2 (fun e => by have := hk'.2.2; omega)⟩)⟩
        clear HS BX_ BK10 HR_ hk1 hi1 hB1 BK12
        have HS := n1_
        have BX_ := n2_
        have BK12 := n3_
        have HR_ := n4_
        clear n1_ n2_ n3_ n4_
        refine hK.out _ _ ⟨(blk_cell BX_.out 0).trans rfl, (blk_cell BK12.out 0).trans rfl, (blk_cell BK12.out 1).trans rfl, (blk_cell BK12.out 2).trans rfl⟩ (fun hHeld => ?_)
        clear hK K
        refine norm_ (a' := ?_) ?_ ?_
        rotate_left
        · show Act.put _ (some 44) _ = _
          simp only [Act.put, List.setIfInBounds_toArray, List.set_cons_zero, List.set_cons_succ, i64_w, i32_w]
          rfl
        refine one_ (i := 4) (N := some 45) #[true, true, true, true, true, false, false] rfl rfl (by kernel_rfl) (by decide) (fun K hK => ?_)
        refine value_ (w1 := ?_) (v := ?_) (by rfl) rfl ?_ ?_
        rotate_left 2
        · go_simp
          constructor
          · rfl
          · rfl
        refine hK.out _ _ ⟨(blk_cell (blk_alloc BX_.out _) 0).trans rfl, (blk_cell (blk_alloc BK12.out _) 0).trans rfl, (blk_cell (blk_alloc BK12.out _) 1).trans rfl, (blk_cell (blk_alloc BK12.out _) 2).trans rfl⟩ (fun hHeld => ?_)
        clear hK K
        refine norm_ (a' := ?_) ?_ ?_
        rotate_left
        · show Act.put _ (some 45) _ = _
          simp only [Act.put, List.setIfInBounds_toArray, List.set_cons_zero, List.set_cons_succ, i64_w, i32_w]
          rfl
        refine one_ (i := 5) (N := some 46) #[true, true, true, true, true, true, false] rfl rfl (by kernel_rfl) (by decide) (fun K hK => ?_)
        refine Kd.R_append_step (Kd.int .i64) (w0 := w11) W0.heap.size (by rfl) (.tmp 41) (.tmp 45) 25 3 (.int .i64 0) 8 rfl Try.underlying25 info3 rfl (by decide) (by omega) v_ stk v [.int .i64 v] (fun k => k ≠ g7 ∧ ¬ B' k) (fun _ => False) rfl rfl rfl (fun _ hk => hk.elim) ?aF HR_.out (Below.refl _ _) HS.out.kp.size ?aL ?_
        (case aF => exact (fun k hk => ⟨by have h1_ := HS.out.lt; omega, fun hb_ => by have h1_ := HCLO.out.lt _ _ _ _ HS.out.inv hb_; omega⟩))
        (case aL => have h_ := HLEN.out; (try simp only [List.length_append, List.length_singleton] at h_ ⊢); omega)
        intro v1_ w16 ho hb hg hat
        obtain ⟨A9, n9, c9, rfl⟩ : ∃ A n c, v1_ = .slice A n c := by obtain ⟨A, c, e⟩ := Kd.R_slice ho; exact ⟨A, _, c, e⟩
        have hu_ : w16.heap[g7]? = some (.cells #[v_] 25 (0, 0)) := blk_grown BX_.out hg (fun e => (HR_.out.1 g7 e.symm).1 rfl)
        have n1_ := Aside0.mk (show St W0 B0 g7 Inv (stk ++ [v]) _ _ (w16.setCell ⟨g7, 0, none⟩ (.slice A9 n9 c9)) from HS.out.put HCLO.out hg (fun k hk => ⟨Kd.R_base HR_.out k hk, (HR_.out.1 k hk).2⟩) ho ⟨_, hu_⟩)
        have n2_ := Aside0.mk (blk_grown BK12.out hg (Kd.R_ne HR_.out BK12.out (by decide)))
        have n3_ := Aside0.mk hu_
        clear HS HR_ BX_ BK12 hb hg hat ho hu_
        have HS := n1_
        have BK12 := n2_
        have BX_ := n3_
        clear n1_ n2_ n3_
        have hx7 : w16.cell? ⟨g7, 0, none⟩ = some v_ := (blk_cell BX_.out 0).trans rfl
        have hf7 := blk_frozen BX_.out 0
        refine hK.out _ _ ⟨(blk_cell BX_.out 0).trans rfl, (blk_cell BK12.out 0).trans rfl, (blk_cell BK12.out 1).trans rfl, (blk_cell BK12.out 2).trans rfl⟩ (fun hHeld => ?_)
        clear hK K
        refine norm_ (a' := ?_) ?_ ?_
        rotate_left
        · show Act.put _ (some 46) _ = _
          simp only [Act.put, List.setIfInBounds_toArray, List.set_cons_zero, List.set_cons_succ, i64_w, i32_w]
          rfl
        refine last_ (i := 6) (N := none) #[true, true, true, true, true, true, true] rfl rfl (by kernel_rfl) (by decide) (fun K hK => ?_)
        refine skip_ (w1 := ?_) (by rfl) rfl ?_ ?_
        rotate_left
        · go_simp
          rfl
        refine hK.out _ _ ?_
        clear hK K
        refine done_ (by kernel_rfl) ?_
        try go_wp2
        go_roundg k1
        case measure => have := E1.out; omega
        case rel => exact ⟨wrap64 (x + 1), rfl, ⟨⟨i + 1, _, _, _, by have := E1.out; rw [w64_id _ (by omega) (by have := HLL.out; omega)]; omega, by have := E1.out; omega, by have h_ := HLEN.out; (try simp only [List.length_append, List.length_singleton] at h_ ⊢); omega, (by have h_ := HTL.out; (try simp only [List.length_append, List.length_singleton]); omega), HREST.out, HS.out⟩⟩⟩
      by_cases c_ : (rd_T43 l x).f0 = 5
      · have c := c_
        clear c_
        have ho : (rd_T43 l x).f0 = 4 ∨ (rd_T43 l x).f0 = 5 := .inr c
        rw [if_pos ho] at hs1
        obtain ⟨⟨stk, n⟩, hp, hs1⟩ := Option.bind_eq_some_iff.1 hs1
        obtain ⟨⟨q1, q2, q3, q4⟩, hq, hs1⟩ := Option.bind_eq_some_iff.1 hs1
        obtain ⟨v, hv, hs1⟩ := Option.bind_eq_some_iff.1 hs1
        simp only [Option.some.injEq, Prod.mk.injEq] at hs1
        obtain ⟨rfl, rfl⟩ := hs1
        obtain rfl := popL_some hp
        obtain ⟨rfl, rfl⟩ := ok_reads (by omega) hq
        have HQ := Aside0.mk hq
        have HV := Aside0.mk hv
        have HLEN := Aside0.mk hlen_
        have HREST := Aside0.mk hrest
        clear hrest hlen_
        have e4_ : ((rd_T43 l x).f0 == 4) = false := beq_eq_false_iff_ne.mpr (by omega)
        have f4_ : ((rd_T43 l x).f0 != 4) = true := bne_iff_ne.mpr (by omega)
        have e5_ : ((rd_T43 l x).f0 == 5) = true := beq_iff_eq.mpr c
        have f5_ : ((rd_T43 l x).f0 != 5) = false := bne_eq_false_iff_eq.mpr c
        clear hp hq hv ho c
        go_wp2_with (first | ((with_reducible refine gate_dst (N := 10) rfl ?_); refine box_event ?hg (N := 10) ?hd (cs := #[Value.int .i64 0, Value.int .i64 0, Value.int .i64 0]) (t := 43) ?hr ?_; (case hd => rfl); (case hg => rfl); (case hr => first | (go_simp; done) | (go_simp; rfl)); intro g10 hg w10 hbox hb; have n1_ := Aside0.mk (below_step (by repeat (first | exact HB.out | refine below_set ?_ GE10.out | refine below_set ?_ GE12.out)) hb); have BK10 := Aside0.mk (hbox); have GE10 := Aside0.mk ((by rw [hg]; exact (below_size (by repeat (first | exact HB.out | refine below_set ?_ GE10.out | refine below_set ?_ GE12.out))) : wr.heap.size ≤ g10)); have NE10 := Aside0.mk (show g10 ≠ g7 from by have h1_ := HS.out.lt; have h2_ := GE10.out; omega); clear HB; have HB := n1_; clear n1_; clear hb hbox hg; have hc10_0 : w10.cell? ⟨g10, 0, none⟩ = some (Value.int .i64 0) := (blk_cell BK10.out 0).trans rfl; have hf10_0 := blk_frozen BK10.out 0; have hc10_1 : w10.cell? ⟨g10, 1, none⟩ = some (Value.int .i64 0) := (blk_cell BK10.out 1).trans rfl; have hf10_1 := blk_frozen BK10.out 1; have hc10_2 : w10.cell? ⟨g10, 2, none⟩ = some (Value.int .i64 0) := (blk_cell BK10.out 2).trans rfl; have hf10_2 := blk_frozen BK10.out 2) | (go_at_call 28; refine (pop_st (g1 := g10) (o := .cells #[.int .i64 (rd_T43 l x).f0, .int .i64 (rd_T43 l x).f1, .int .i64 (rd_T43 l x).f2] 43 (0, 0)) HCLO.out (HS.out.step HCLO.out (by repeat (first | exact HB.out | refine below_set ?_ GE10.out | refine below_set ?_ GE12.out))) (by first | exact BK10.out | (refine (Below.heap_setCell _ _ _ g10 NE1012.out).trans ?_; refine (Below.heap_setCell _ _ _ g10 NE1012.out).trans ?_; refine (Below.heap_setCell _ _ _ g10 NE1012.out).trans ?_; exact BK10.out) | (refine blk_put (cs := #[.int .i64 (rd_T43 l x).f0, .int .i64 (rd_T43 l x).f1, .int .i64 0]) ?_ 2 _ rfl; refine blk_put (cs := #[.int .i64 (rd_T43 l x).f0, .int .i64 0, .int .i64 0]) ?_ 1 _ rfl; refine blk_put (cs := #[.int .i64 0, .int .i64 0, .int .i64 0]) ?_ 0 _ rfl; exact BK10.out)) NE10.out (by have h_ := HLEN.out; (try simp only [List.length_append, List.length_singleton] at h_ ⊢); omega)).mono ?_; rintro e w7 ⟨rfl, hs_, bk_⟩; clear HB HS BK10; have HS := Aside0.mk hs_; have BK10 := Aside0.mk bk_; have HB := Aside0.mk (Below.refl w7.heap.size w7); clear hs_ bk_; (try clear hd_0 hd_1 hd_2); have hd_0 : w7.cell? ⟨g10, 0, none⟩ = some (.int .i64 (rd_T43 l x).f0) := (blk_cell BK10.out 0).trans rfl; have hd_1 : w7.cell? ⟨g10, 1, none⟩ = some (.int .i64 (rd_T43 l x).f1) := (blk_cell BK10.out 1).trans rfl; have hd_2 : w7.cell? ⟨g10, 2, none⟩ = some (.int .i64 (rd_T43 l x).f2) := (blk_cell BK10.out 2).trans rfl) | (go_at_call 29; refine (querylang_operandKey.calls _ _ _ _ _ _ _ _ _ _ HQ.out).mono ?_; rintro e w8 ⟨rfl, hb⟩; have n1_ := Aside0.mk (HS.out.step HCLO.out (below_step (by repeat (first | exact HB.out | refine below_set ?_ GE10.out | refine below_set ?_ GE12.out)) hb)); have n2_ := Aside0.mk (blk_below (g := g10) (o := .cells #[.int .i64 (rd_T43 l x).f0, .int .i64 (rd_T43 l x).f1, .int .i64 (rd_T43 l x).f2] 43 (0, 0)) (by first | exact BK10.out | (refine (Below.heap_setCell _ _ _ g10 NE1012.out).trans ?_; refine (Below.heap_setCell _ _ _ g10 NE1012.out).trans ?_; refine (Below.heap_setCell _ _ _ g10 NE1012.out).trans ?_; exact BK10.out) | (refine blk_put (cs := #[.int .i64 (rd_T43 l x).f0, .int .i64 (rd_T43 l x).f1, .int .i64 0]) ?_ 2 _ rfl; refine blk_put (cs := #[.int .i64 (rd_T43 l x).f0, .int .i64 0, .int .i64 0]) ?_ 1 _ rfl; refine blk_put (cs := #[.int .i64 0, .int .i64 0, .int .i64 0]) ?_ 0 _ rfl; exact BK10.out)) hb); clear HB HS BK10 hb; have HS := n1_; have BK10 := n2_; have HB := Aside0.mk (Below.refl w8.heap.size w8); clear n1_ n2_; (try clear hd_0 hd_1 hd_2); have hd_0 : w8.cell? ⟨g10, 0, none⟩ = some (.int .i64 (rd_T43 l x).f0) := (blk_cell BK10.out 0).trans rfl; have hd_1 : w8.cell? ⟨g10, 1, none⟩ = some (.int .i64 (rd_T43 l x).f1) := (blk_cell BK10.out 1).trans rfl; have hd_2 : w8.cell? ⟨g10, 2, none⟩ = some (.int .i64 (rd_T43 l x).f2) := (blk_cell BK10.out 2).trans rfl) | ((with_reducible refine gate_dst (N := 12) rfl ?_); refine box_event ?hg (N := 12) ?hd (cs := #[Value.int .i64 0, Value.int .i64 0, Value.int .i64 0]) (t := 40) ?hr ?_; (case hd => rfl); (case hg => rfl); (case hr => first | (go_simp; done) | (go_simp; rfl)); intro g12 hg w12 hbox hb; have n1_ := Aside0.mk (below_step (by repeat (first | exact HB.out | refine below_set ?_ GE10.out | refine below_set ?_ GE12.out)) hb); have BK12 := Aside0.mk (hbox); have GE12 := Aside0.mk ((by rw [hg]; exact (below_size (by repeat (first | exact HB.out | refine below_set ?_ GE10.out | refine below_set ?_ GE12.out))) : w8.heap.size ≤ g12)); have NE1012 := Aside0.mk (show g10 ≠ g12 from by have h1_ := blk_lt BK10.out; have h2_ := GE12.out; omega); have NB12 := Aside0.mk (show ¬ B g12 ∧ g7 ≠ g12 from ⟨fun hb_ => by have h1_ := HCLO.out.lt _ _ _ _ HS.out.inv hb_; have h2_ := GE12.out; omega, by have h1_ := HS.out.lt; have h2_ := GE12.out; omega⟩); have ne1012 : (g10 = g12) = False := eq_false NE1012.out; have ne1210 : (g12 = g10) = False := eq_false NE1012.out.symm; have n2_ := Aside0.mk (blk_below BK10.out hb); clear BK10; have BK10 := n2_; clear n2_; clear hd_0 hd_1 hd_2; have hd_0 : w12.cell? ⟨g10, 0, none⟩ = some (.int .i64 (rd_T43 l x).f0) := (blk_cell BK10.out 0).trans rfl; have hd_1 : w12.cell? ⟨g10, 1, none⟩ = some (.int .i64 (rd_T43 l x).f1) := (blk_cell BK10.out 1).trans rfl; have hd_2 : w12.cell? ⟨g10, 2, none⟩ = some (.int .i64 (rd_T43 l x).f2) := (blk_cell BK10.out 2).trans rfl; clear HB; have HB := n1_; clear n1_; clear hb hbox hg; have hc12_0 : w12.cell? ⟨g12, 0, none⟩ = some (Value.int .i64 0) := (blk_cell BK12.out 0).trans rfl; have hf12_0 := blk_frozen BK12.out 0; have hc12_1 : w12.cell? ⟨g12, 1, none⟩ = some (Value.int .i64 0) := (blk_cell BK12.out 1).trans rfl; have hf12_1 := blk_frozen BK12.out 1; have hc12_2 : w12.cell? ⟨g12, 2, none⟩ = some (Value.int .i64 0) := (blk_cell BK12.out 2).trans rfl; have hf12_2 := blk_frozen BK12.out 2))
        have n1_ := Aside0.mk (HS.out.step (W' := (((w12.setCell ⟨g12, 0, none⟩ (.int .i64 q1)).setCell ⟨g12, 1, none⟩ (.int .i64 q2)).setCell ⟨g12, 2, none⟩ (.int .i64 0)).drew) HCLO.out (below_drew1 (by repeat (first | exact HB.out | refine below_set ?_ GE10.out | refine below_set ?_ GE12.out))))
        have n2_ := Aside0.mk (show ((((w12.setCell ⟨g12, 0, none⟩ (.int .i64 q1)).setCell ⟨g12, 1, none⟩ (.int .i64 q2)).setCell ⟨g12, 2, none⟩ (.int .i64 0))).drew.heap[g10]? = some (.cells #[.int .i64 (rd_T43 l x).f0, .int .i64 (rd_T43 l x).f1, .int .i64 (rd_T43 l x).f2] 43 (0, 0)) from blk_drew (by first | exact BK10.out | (refine (Below.heap_setCell _ _ _ g10 NE1012.out).trans ?_; refine (Below.heap_setCell _ _ _ g10 NE1012.out).trans ?_; refine (Below.heap_setCell _ _ _ g10 NE1012.out).trans ?_; exact BK10.out) | (refine blk_put (cs := #[.int .i64 (rd_T43 l x).f0, .int .i64 (rd_T43 l x).f1, .int .i64 0]) ?_ 2 _ rfl; refine blk_put (cs := #[.int .i64 (rd_T43 l x).f0, .int .i64 0, .int .i64 0]) ?_ 1 _ rfl; refine blk_put (cs := #[.int .i64 0, .int .i64 0, .int .i64 0]) ?_ 0 _ rfl; exact BK10.out)))
        have n3_ := Aside0.mk (show ((((w12.setCell ⟨g12, 0, none⟩ (.int .i64 q1)).setCell ⟨g12, 1, none⟩ (.int .i64 q2)).setCell ⟨g12, 2, none⟩ (.int .i64 0))).drew.heap[g12]? = some (.cells #[.int .i64 q1, .int .i64 q2, .int .i64 0] 40 (0, 0)) from blk_drew (by refine blk_put (cs := #[.int .i64 q1, .int .i64 q2, .int .i64 0]) ?_ 2 _ rfl; refine blk_put (cs := #[.int .i64 q1, .int .i64 0, .int .i64 0]) ?_ 1 _ rfl; refine blk_put (cs := #[.int .i64 0, .int .i64 0, .int .i64 0]) ?_ 0 _ rfl; exact BK12.out))
        clear HB HS BK10 BK12
        generalize (((w12.setCell ⟨g12, 0, none⟩ (.int .i64 q1)).setCell ⟨g12, 1, none⟩ (.int .i64 q2)).setCell ⟨g12, 2, none⟩ (.int .i64 0)) = w9 at n1_ n2_ n3_ ⊢
        have HS := n1_
        have BK10 := n2_
        have BK12 := n3_
        clear n1_ n2_ n3_
        obtain ⟨v_, hb1, hr1⟩ := HS.out.box
        have HR_ := Aside0.mk hr1
        have BX_ := Aside0.mk hb1
        clear hb1 hr1
        refine start_ (n := 7) (S := fun w' => w'.cell? ⟨g7, 0, none⟩ = some v_ ∧ w'.cell? ⟨g12, 0, none⟩ = some (.int .i64 q1) ∧ w'.cell? ⟨g12, 1, none⟩ = some (.int .i64 q2) ∧ w'.cell? ⟨g12, 2, none⟩ = some (.int .i64 0)) (ds := [6]) #[false, false, false, false, false, false, false] (by kernel_rfl) rfl rfl ⟨(blk_cell BX_.out 0).trans rfl, (blk_cell BK12.out 0).trans rfl, (blk_cell BK12.out 1).trans rfl, (blk_cell BK12.out 2).trans rfl⟩ (fun hHeld => ?_)
        generalize w9.drew = w15 at HS BK10 BK12 HR_ BX_ hHeld ⊢
        refine pure_ (i := 1) (N := some 42) (v := ?_) (a' := ?_) #[false, true, false, false, false, false, false] rfl rfl (by kernel_rfl) (fun _ _ _ h => h) (Or.inl ⟨by rfl, ?_⟩) ?_ ?_
        rotate_left
        · intro w'
          go_simp
          with_reducible rfl
        rotate_left
        · simp only [Act.put, List.setIfInBounds_toArray, List.set_cons_zero, List.set_cons_succ, i64_w, i32_w]
          rfl
        refine take_ (i := 0) (N := some 41) (v := ?_) (a' := ?_) #[true, true, false, false, false, false, false] rfl rfl (by kernel_rfl) (fun _ _ _ h => h) (Or.inl ⟨by rfl, ?_⟩) hHeld ?_ ?_
        rotate_left
        · rintro w' ⟨s0, s1, s2, s3⟩
          go_simp
          with_reducible rfl
        rotate_left
        · simp only [Act.put, List.setIfInBounds_toArray, List.set_cons_zero, List.set_cons_succ, i64_w, i32_w]
          rfl
        refine take_ (i := 2) (N := some 43) (v := ?_) (a' := ?_) #[true, true, true, false, false, false, false] rfl rfl (by kernel_rfl) (fun _ _ _ h => h) (Or.inl ⟨by rfl, ?_⟩) hHeld ?_ ?_
        rotate_left
        · rintro w' ⟨s0, s1, s2, s3⟩
          go_simp
          with_reducible rfl
        rotate_left
        · simp only [Act.put, List.setIfInBounds_toArray, List.set_cons_zero, List.set_cons_succ, i64_w, i32_w]
          rfl
        refine one_ (i := 3) (N := some 44) #[true, true, true, true, false, false, false] rfl rfl (by kernel_rfl) (by decide) (fun K hK => ?_)
        refine goesV_ bnd cap hf hname hbody #[.agg #[.int .i64 q1, .int .i64 q2, .int .i64 0]] (by rfl) rfl rfl rfl (by (try simp only [List.map_toArray, List.map_cons, List.map_nil]); first | done | rfl) ?_
        refine (HGET.out _ _ _ _ _ _ (by have h_ := HTL.out; omega) HS.out.kp.size HS.out.inv HV.out).mono ?_
        rintro e w11 ⟨rfl, B', hk1, hi1, hB1⟩
        refine ⟨_, rfl, ?_⟩
        have n1_ := Aside0.mk (HS.out.called HCLO.out hk1 hi1 hB1)
        have n2_ := Aside0.mk ((hk1.block g7 (blk_lt BX_.out) HS.out.nb).trans BX_.out)
        have n3_ := Aside0.mk ((hk1.block g12 (blk_lt BK12.out) NB12.out.1).trans BK12.out)
        have n4_ : Aside0 (Kd.R (Kd.int .i64) 3 w11 W0.heap.size (fun k => k ≠ g7 ∧ ¬ B' k) v_ stk) := ⟨Kd.R_mono (Kd.R_step (Kd.R_bound HR_.out) (fun k hk' hlt => hk1.block k hlt hk'.1.2)) (fun k hk' => ⟨hk'.1.1, fun hb_ => (hB1 k hb_).elim hk'.1.2 (fun e => by have := hk'.2.2; omega)⟩)⟩
        clear HS BX_ BK10 HR_ hk1 hi1 hB1 BK12
        have HS := n1_
        have BX_ := n2_
        have BK12 := n3_
        have HR_ := n4_
        clear n1_ n2_ n3_ n4_
        refine hK.out _ _ ⟨(blk_cell BX_.out 0).trans rfl, (blk_cell BK12.out 0).trans rfl, (blk_cell BK12.out 1).trans rfl, (blk_cell BK12.out 2).trans rfl⟩ (fun hHeld => ?_)
        clear hK K
        refine norm_ (a' := ?_) ?_ ?_
        rotate_left
        · show Act.put _ (some 44) _ = _
          simp only [Act.put, List.setIfInBounds_toArray, List.set_cons_zero, List.set_cons_succ, i64_w, i32_w]
          rfl
        refine one_ (i := 4) (N := some 45) #[true, true, true, true, true, false, false] rfl rfl (by kernel_rfl) (by decide) (fun K hK => ?_)
        refine value_ (w1 := ?_) (v := ?_) (by rfl) rfl ?_ ?_
        rotate_left 2
        · go_simp
          constructor
          · rfl
          · rfl
        refine hK.out _ _ ⟨(blk_cell (blk_alloc BX_.out _) 0).trans rfl, (blk_cell (blk_alloc BK12.out _) 0).trans rfl, (blk_cell (blk_alloc BK12.out _) 1).trans rfl, (blk_cell (blk_alloc BK12.out _) 2).trans rfl⟩ (fun hHeld => ?_)
        clear hK K
        refine norm_ (a' := ?_) ?_ ?_
        rotate_left
        · show Act.put _ (some 45) _ = _
          simp only [Act.put, List.setIfInBounds_toArray, List.set_cons_zero, List.set_cons_succ, i64_w, i32_w]
          rfl
        refine one_ (i := 5) (N := some 46) #[true, true, true, true, true, true, false] rfl rfl (by kernel_rfl) (by decide) (fun K hK => ?_)
        refine Kd.R_append_step (Kd.int .i64) (w0 := w11) W0.heap.size (by rfl) (.tmp 41) (.tmp 45) 25 3 (.int .i64 0) 8 rfl Try.underlying25 info3 rfl (by decide) (by omega) v_ stk v [.int .i64 v] (fun k => k ≠ g7 ∧ ¬ B' k) (fun _ => False) rfl rfl rfl (fun _ hk => hk.elim) ?aF HR_.out (Below.refl _ _) HS.out.kp.size ?aL ?_
        (case aF => exact (fun k hk => ⟨by have h1_ := HS.out.lt; omega, fun hb_ => by have h1_ := HCLO.out.lt _ _ _ _ HS.out.inv hb_; omega⟩))
        (case aL => have h_ := HLEN.out; (try simp only [List.length_append, List.length_singleton] at h_ ⊢); omega)
        intro v1_ w16 ho hb hg hat
        obtain ⟨A9, n9, c9, rfl⟩ : ∃ A n c, v1_ = .slice A n c := by obtain ⟨A, c, e⟩ := Kd.R_slice ho; exact ⟨A, _, c, e⟩
        have hu_ : w16.heap[g7]? = some (.cells #[v_] 25 (0, 0)) := blk_grown BX_.out hg (fun e => (HR_.out.1 g7 e.symm).1 rfl)
        have n1_ := Aside0.mk (show St W0 B0 g7 Inv (stk ++ [v]) _ _ (w16.setCell ⟨g7, 0, none⟩ (.slice A9 n9 c9)) from HS.out.put HCLO.out hg (fun k hk => ⟨Kd.R_base HR_.out k hk, (HR_.out.1 k hk).2⟩) ho ⟨_, hu_⟩)
        have n2_ := Aside0.mk (blk_grown BK12.out hg (Kd.R_ne HR_.out BK12.out (by decide)))
        have n3_ := Aside0.mk hu_
        clear HS HR_ BX_ BK12 hb hg hat ho hu_
        have HS := n1_
        have BK12 := n2_
        have BX_ := n3_
        clear n1_ n2_ n3_
        have hx7 : w16.cell? ⟨g7, 0, none⟩ = some v_ := (blk_cell BX_.out 0).trans rfl
        have hf7 := blk_frozen BX_.out 0
        refine hK.out _ _ ⟨(blk_cell BX_.out 0).trans rfl, (blk_cell BK12.out 0).trans rfl, (blk_cell BK12.out 1).trans rfl, (blk_cell BK12.out 2).trans rfl⟩ (fun hHeld => ?_)
        clear hK K
        refine norm_ (a' := ?_) ?_ ?_
        rotate_left
        · show Act.put _ (some 46) _ = _
          simp only [Act.put, List.setIfInBounds_toArray, List.set_cons_zero, List.set_cons_succ, i64_w, i32_w]
          rfl
        refine last_ (i := 6) (N := none) #[true, true, true, true, true, true, true] rfl rfl (by kernel_rfl) (by decide) (fun K hK => ?_)
        refine skip_ (w1 := ?_) (by rfl) rfl ?_ ?_
        rotate_left
        · go_simp
          rfl
        refine hK.out _ _ ?_
        clear hK K
        refine done_ (by kernel_rfl) ?_
        try go_wp2
        go_roundg k1
        case measure => have := E1.out; omega
        case rel => exact ⟨wrap64 (x + 1), rfl, ⟨⟨i + 1, _, _, _, by have := E1.out; rw [w64_id _ (by omega) (by have := HLL.out; omega)]; omega, by have := E1.out; omega, by have h_ := HLEN.out; (try simp only [List.length_append, List.length_singleton] at h_ ⊢); omega, (by have h_ := HTL.out; (try simp only [List.length_append, List.length_singleton]); omega), HREST.out, HS.out⟩⟩⟩
      by_cases c2_ : (rd_T43 l x).f0 = 2 ∨ (rd_T43 l x).f0 = 3
      · have c := c2_
        clear c2_
        have ho : ¬ ((rd_T43 l x).f0 = 4 ∨ (rd_T43 l x).f0 = 5) := by omega
        rw [if_neg ho, if_pos c] at hs1
        obtain ⟨⟨q1, q2, q3, q4⟩, hq, hs1⟩ := Option.bind_eq_some_iff.1 hs1
        obtain ⟨v, hv, hs1⟩ := Option.bind_eq_some_iff.1 hs1
        simp only [Option.some.injEq, Prod.mk.injEq] at hs1
        obtain ⟨rfl, rfl⟩ := hs1
        obtain ⟨rfl, rfl⟩ := ok_reads (by omega) hq
        have HQ := Aside0.mk hq
        have HV := Aside0.mk hv
        have HLEN := Aside0.mk hlen_
        have HREST := Aside0.mk hrest
        clear hrest hlen_
        have e4_ : ((rd_T43 l x).f0 == 4) = false := beq_eq_false_iff_ne.mpr (by omega)
        have f4_ : ((rd_T43 l x).f0 != 4) = true := bne_iff_ne.mpr (by omega)
        have e5_ : ((rd_T43 l x).f0 == 5) = false := beq_eq_false_iff_ne.mpr (by omega)
        have f5_ : ((rd_T43 l x).f0 != 5) = true := bne_iff_ne.mpr (by omega)
        clear hq hv ho c
        go_wp2_with (first | ((with_reducible refine gate_dst (N := 10) rfl ?_); refine box_event ?hg (N := 10) ?hd (cs := #[Value.int .i64 0, Value.int .i64 0, Value.int .i64 0]) (t := 43) ?hr ?_; (case hd => rfl); (case hg => rfl); (case hr => first | (go_simp; done) | (go_simp; rfl)); intro g10 hg w10 hbox hb; have n1_ := Aside0.mk (below_step (by repeat (first | exact HB.out | refine below_set ?_ GE10.out | refine below_set ?_ GE12.out)) hb); have BK10 := Aside0.mk (hbox); have GE10 := Aside0.mk ((by rw [hg]; exact (below_size (by repeat (first | exact HB.out | refine below_set ?_ GE10.out | refine below_set ?_ GE12.out))) : wr.heap.size ≤ g10)); have NE10 := Aside0.mk (show g10 ≠ g7 from by have h1_ := HS.out.lt; have h2_ := GE10.out; omega); clear HB; have HB := n1_; clear n1_; clear hb hbox hg; have hc10_0 : w10.cell? ⟨g10, 0, none⟩ = some (Value.int .i64 0) := (blk_cell BK10.out 0).trans rfl; have hf10_0 := blk_frozen BK10.out 0; have hc10_1 : w10.cell? ⟨g10, 1, none⟩ = some (Value.int .i64 0) := (blk_cell BK10.out 1).trans rfl; have hf10_1 := blk_frozen BK10.out 1; have hc10_2 : w10.cell? ⟨g10, 2, none⟩ = some (Value.int .i64 0) := (blk_cell BK10.out 2).trans rfl; have hf10_2 := blk_frozen BK10.out 2) | (go_at_call 29; refine (querylang_operandKey.calls _ _ _ _ _ _ _ _ _ _ HQ.out).mono ?_; rintro e w8 ⟨rfl, hb⟩; have n1_ := Aside0.mk (HS.out.step HCLO.out (below_step (by repeat (first | exact HB.out | refine below_set ?_ GE10.out | refine below_set ?_ GE12.out)) hb)); have n2_ := Aside0.mk (blk_below (g := g10) (o := .cells #[.int .i64 (rd_T43 l x).f0, .int .i64 (rd_T43 l x).f1, .int .i64 (rd_T43 l x).f2] 43 (0, 0)) (by first | exact BK10.out | (refine (Below.heap_setCell _ _ _ g10 NE1012.out).trans ?_; refine (Below.heap_setCell _ _ _ g10 NE1012.out).trans ?_; refine (Below.heap_setCell _ _ _ g10 NE1012.out).trans ?_; exact BK10.out) | (refine blk_put (cs := #[.int .i64 (rd_T43 l x).f0, .int .i64 (rd_T43 l x).f1, .int .i64 0]) ?_ 2 _ rfl; refine blk_put (cs := #[.int .i64 (rd_T43 l x).f0, .int .i64 0, .int .i64 0]) ?_ 1 _ rfl; refine blk_put (cs := #[.int .i64 0, .int .i64 0, .int .i64 0]) ?_ 0 _ rfl; exact BK10.out)) hb); clear HB HS BK10 hb; have HS := n1_; have BK10 := n2_; have HB := Aside0.mk (Below.refl w8.heap.size w8); clear n1_ n2_; (try clear hd_0 hd_1 hd_2); have hd_0 : w8.cell? ⟨g10, 0, none⟩ = some (.int .i64 (rd_T43 l x).f0) := (blk_cell BK10.out 0).trans rfl; have hd_1 : w8.cell? ⟨g10, 1, none⟩ = some (.int .i64 (rd_T43 l x).f1) := (blk_cell BK10.out 1).trans rfl; have hd_2 : w8.cell? ⟨g10, 2, none⟩ = some (.int .i64 (rd_T43 l x).f2) := (blk_cell BK10.out 2).trans rfl) | ((with_reducible refine gate_dst (N := 12) rfl ?_); refine box_event ?hg (N := 12) ?hd (cs := #[Value.int .i64 0, Value.int .i64 0, Value.int .i64 0]) (t := 40) ?hr ?_; (case hd => rfl); (case hg => rfl); (case hr => first | (go_simp; done) | (go_simp; rfl)); intro g12 hg w12 hbox hb; have n1_ := Aside0.mk (below_step (by repeat (first | exact HB.out | refine below_set ?_ GE10.out | refine below_set ?_ GE12.out)) hb); have BK12 := Aside0.mk (hbox); have GE12 := Aside0.mk ((by rw [hg]; exact (below_size (by repeat (first | exact HB.out | refine below_set ?_ GE10.out | refine below_set ?_ GE12.out))) : w8.heap.size ≤ g12)); have NE1012 := Aside0.mk (show g10 ≠ g12 from by have h1_ := blk_lt BK10.out; have h2_ := GE12.out; omega); have NB12 := Aside0.mk (show ¬ B g12 ∧ g7 ≠ g12 from ⟨fun hb_ => by have h1_ := HCLO.out.lt _ _ _ _ HS.out.inv hb_; have h2_ := GE12.out; omega, by have h1_ := HS.out.lt; have h2_ := GE12.out; omega⟩); have ne1012 : (g10 = g12) = False := eq_false NE1012.out; have ne1210 : (g12 = g10) = False := eq_false NE1012.out.symm; have n2_ := Aside0.mk (blk_below BK10.out hb); clear BK10; have BK10 := n2_; clear n2_; clear hd_0 hd_1 hd_2; have hd_0 : w12.cell? ⟨g10, 0, none⟩ = some (.int .i64 (rd_T43 l x).f0) := (blk_cell BK10.out 0).trans rfl; have hd_1 : w12.cell? ⟨g10, 1, none⟩ = some (.int .i64 (rd_T43 l x).f1) := (blk_cell BK10.out 1).trans rfl; have hd_2 : w12.cell? ⟨g10, 2, none⟩ = some (.int .i64 (rd_T43 l x).f2) := (blk_cell BK10.out 2).trans rfl; clear HB; have HB := n1_; clear n1_; clear hb hbox hg; have hc12_0 : w12.cell? ⟨g12, 0, none⟩ = some (Value.int .i64 0) := (blk_cell BK12.out 0).trans rfl; have hf12_0 := blk_frozen BK12.out 0; have hc12_1 : w12.cell? ⟨g12, 1, none⟩ = some (Value.int .i64 0) := (blk_cell BK12.out 1).trans rfl; have hf12_1 := blk_frozen BK12.out 1; have hc12_2 : w12.cell? ⟨g12, 2, none⟩ = some (Value.int .i64 0) := (blk_cell BK12.out 2).trans rfl; have hf12_2 := blk_frozen BK12.out 2))
        have n1_ := Aside0.mk (HS.out.step (W' := (((w12.setCell ⟨g12, 0, none⟩ (.int .i64 q1)).setCell ⟨g12, 1, none⟩ (.int .i64 q2)).setCell ⟨g12, 2, none⟩ (.int .i64 0)).drew) HCLO.out (below_drew1 (by repeat (first | exact HB.out | refine below_set ?_ GE10.out | refine below_set ?_ GE12.out))))
        have n2_ := Aside0.mk (show ((((w12.setCell ⟨g12, 0, none⟩ (.int .i64 q1)).setCell ⟨g12, 1, none⟩ (.int .i64 q2)).setCell ⟨g12, 2, none⟩ (.int .i64 0))).drew.heap[g10]? = some (.cells #[.int .i64 (rd_T43 l x).f0, .int .i64 (rd_T43 l x).f1, .int .i64 (rd_T43 l x).f2] 43 (0, 0)) from blk_drew (by first | exact BK10.out | (refine (Below.heap_setCell _ _ _ g10 NE1012.out).trans ?_; refine (Below.heap_setCell _ _ _ g10 NE1012.out).trans ?_; refine (Below.heap_setCell _ _ _ g10 NE1012.out).trans ?_; exact BK10.out) | (refine blk_put (cs := #[.int .i64 (rd_T43 l x).f0, .int .i64 (rd_T43 l x).f1, .int .i64 0]) ?_ 2 _ rfl; refine blk_put (cs := #[.int .i64 (rd_T43 l x).f0, .int .i64 0, .int .i64 0]) ?_ 1 _ rfl; refine blk_put (cs := #[.int .i64 0, .int .i64 0, .int .i64 0]) ?_ 0 _ rfl; exact BK10.out)))
        have n3_ := Aside0.mk (show ((((w12.setCell ⟨g12, 0, none⟩ (.int .i64 q1)).setCell ⟨g12, 1, none⟩ (.int .i64 q2)).setCell ⟨g12, 2, none⟩ (.int .i64 0))).drew.heap[g12]? = some (.cells #[.int .i64 q1, .int .i64 q2, .int .i64 0] 40 (0, 0)) from blk_drew (by refine blk_put (cs := #[.int .i64 q1, .int .i64 q2, .int .i64 0]) ?_ 2 _ rfl; refine blk_put (cs := #[.int .i64 q1, .int .i64 0, .int .i64 0]) ?_ 1 _ rfl; refine blk_put (cs := #[.int .i64 0, .int .i64 0, .int .i64 0]) ?_ 0 _ rfl; exact BK12.out))
        clear HB HS BK10 BK12
        generalize (((w12.setCell ⟨g12, 0, none⟩ (.int .i64 q1)).setCell ⟨g12, 1, none⟩ (.int .i64 q2)).setCell ⟨g12, 2, none⟩ (.int .i64 0)) = w9 at n1_ n2_ n3_ ⊢
        have HS := n1_
        have BK10 := n2_
        have BK12 := n3_
        clear n1_ n2_ n3_
        obtain ⟨v_, hb1, hr1⟩ := HS.out.box
        have HR_ := Aside0.mk hr1
        have BX_ := Aside0.mk hb1
        clear hb1 hr1
        refine start_ (n := 7) (S := fun w' => w'.cell? ⟨g7, 0, none⟩ = some v_ ∧ w'.cell? ⟨g12, 0, none⟩ = some (.int .i64 q1) ∧ w'.cell? ⟨g12, 1, none⟩ = some (.int .i64 q2) ∧ w'.cell? ⟨g12, 2, none⟩ = some (.int .i64 0)) (ds := [6]) #[false, false, false, false, false, false, false] (by kernel_rfl) rfl rfl ⟨(blk_cell BX_.out 0).trans rfl, (blk_cell BK12.out 0).trans rfl, (blk_cell BK12.out 1).trans rfl, (blk_cell BK12.out 2).trans rfl⟩ (fun hHeld => ?_)
        generalize w9.drew = w15 at HS BK10 BK12 HR_ BX_ hHeld ⊢
        refine pure_ (i := 1) (N := some 42) (v := ?_) (a' := ?_) #[false, true, false, false, false, false, false] rfl rfl (by kernel_rfl) (fun _ _ _ h => h) (Or.inl ⟨by rfl, ?_⟩) ?_ ?_
        rotate_left
        · intro w'
          go_simp
          with_reducible rfl
        rotate_left
        · simp only [Act.put, List.setIfInBounds_toArray, List.set_cons_zero, List.set_cons_succ, i64_w, i32_w]
          rfl
        refine take_ (i := 0) (N := some 41) (v := ?_) (a' := ?_) #[true, true, false, false, false, false, false] rfl rfl (by kernel_rfl) (fun _ _ _ h => h) (Or.inl ⟨by rfl, ?_⟩) hHeld ?_ ?_
        rotate_left
        · rintro w' ⟨s0, s1, s2, s3⟩
          go_simp
          with_reducible rfl
        rotate_left
        · simp only [Act.put, List.setIfInBounds_toArray, List.set_cons_zero, List.set_cons_succ, i64_w, i32_w]
          rfl
        refine take_ (i := 2) (N := some 43) (v := ?_) (a' := ?_) #[true, true, true, false, false, false, false] rfl rfl (by kernel_rfl) (fun _ _ _ h => h) (Or.inl ⟨by rfl, ?_⟩) hHeld ?_ ?_
        rotate_left
        · rintro w' ⟨s0, s1, s2, s3⟩
          go_simp
          with_reducible rfl
        rotate_left
        · simp only [Act.put, List.setIfInBounds_toArray, List.set_cons_zero, List.set_cons_succ, i64_w, i32_w]
          rfl
        refine one_ (i := 3) (N := some 44) #[true, true, true, true, false, false, false] rfl rfl (by kernel_rfl) (by decide) (fun K hK => ?_)
        refine goesV_ bnd cap hf hname hbody #[.agg #[.int .i64 q1, .int .i64 q2, .int .i64 0]] (by rfl) rfl rfl rfl (by (try simp only [List.map_toArray, List.map_cons, List.map_nil]); first | done | rfl) ?_
        refine (HGET.out _ _ _ _ _ _ (by have h_ := HTL.out; omega) HS.out.kp.size HS.out.inv HV.out).mono ?_
        rintro e w11 ⟨rfl, B', hk1, hi1, hB1⟩
        refine ⟨_, rfl, ?_⟩
        have n1_ := Aside0.mk (HS.out.called HCLO.out hk1 hi1 hB1)
        have n2_ := Aside0.mk ((hk1.block g7 (blk_lt BX_.out) HS.out.nb).trans BX_.out)
        have n3_ := Aside0.mk ((hk1.block g12 (blk_lt BK12.out) NB12.out.1).trans BK12.out)
        have n4_ : Aside0 (Kd.R (Kd.int .i64) 3 w11 W0.heap.size (fun k => k ≠ g7 ∧ ¬ B' k) v_ st) := ⟨Kd.R_mono (Kd.R_step (Kd.R_bound HR_.out) (fun k hk' hlt => hk1.block k hlt hk'.1.2)) (fun k hk' => ⟨hk'.1.1, fun hb_ => (hB1 k hb_).elim hk'.1.2 (fun e => by have := hk'.2.2; omega)⟩)⟩
        clear HS BX_ BK10 HR_ hk1 hi1 hB1 BK12
        have HS := n1_
        have BX_ := n2_
        have BK12 := n3_
        have HR_ := n4_
        clear n1_ n2_ n3_ n4_
        refine hK.out _ _ ⟨(blk_cell BX_.out 0).trans rfl, (blk_cell BK12.out 0).trans rfl, (blk_cell BK12.out 1).trans rfl, (blk_cell BK12.out 2).trans rfl⟩ (fun hHeld => ?_)
        clear hK K
        refine norm_ (a' := ?_) ?_ ?_
        rotate_left
        · show Act.put _ (some 44) _ = _
          simp only [Act.put, List.setIfInBounds_toArray, List.set_cons_zero, List.set_cons_succ, i64_w, i32_w]
          rfl
        refine one_ (i := 4) (N := some 45) #[true, true, true, true, true, false, false] rfl rfl (by kernel_rfl) (by decide) (fun K hK => ?_)
        refine value_ (w1 := ?_) (v := ?_) (by rfl) rfl ?_ ?_
        rotate_left 2
        · go_simp
          constructor
          · rfl
          · rfl
        refine hK.out _ _ ⟨(blk_cell (blk_alloc BX_.out _) 0).trans rfl, (blk_cell (blk_alloc BK12.out _) 0).trans rfl, (blk_cell (blk_alloc BK12.out _) 1).trans rfl, (blk_cell (blk_alloc BK12.out _) 2).trans rfl⟩ (fun hHeld => ?_)
        clear hK K
        refine norm_ (a' := ?_) ?_ ?_
        rotate_left
        · show Act.put _ (some 45) _ = _
          simp only [Act.put, List.setIfInBounds_toArray, List.set_cons_zero, List.set_cons_succ, i64_w, i32_w]
          rfl
        refine one_ (i := 5) (N := some 46) #[true, true, true, true, true, true, false] rfl rfl (by kernel_rfl) (by decide) (fun K hK => ?_)
        refine Kd.R_append_step (Kd.int .i64) (w0 := w11) W0.heap.size (by rfl) (.tmp 41) (.tmp 45) 25 3 (.int .i64 0) 8 rfl Try.underlying25 info3 rfl (by decide) (by omega) v_ st v [.int .i64 v] (fun k => k ≠ g7 ∧ ¬ B' k) (fun _ => False) rfl rfl rfl (fun _ hk => hk.elim) ?aF HR_.out (Below.refl _ _) HS.out.kp.size ?aL ?_
        (case aF => exact (fun k hk => ⟨by have h1_ := HS.out.lt; omega, fun hb_ => by have h1_ := HCLO.out.lt _ _ _ _ HS.out.inv hb_; omega⟩))
        (case aL => have h_ := HLEN.out; (try simp only [List.length_append, List.length_singleton] at h_ ⊢); omega)
        intro v1_ w16 ho hb hg hat
        obtain ⟨A9, n9, c9, rfl⟩ : ∃ A n c, v1_ = .slice A n c := by obtain ⟨A, c, e⟩ := Kd.R_slice ho; exact ⟨A, _, c, e⟩
        have hu_ : w16.heap[g7]? = some (.cells #[v_] 25 (0, 0)) := blk_grown BX_.out hg (fun e => (HR_.out.1 g7 e.symm).1 rfl)
        have n1_ := Aside0.mk (show St W0 B0 g7 Inv (st ++ [v]) _ _ (w16.setCell ⟨g7, 0, none⟩ (.slice A9 n9 c9)) from HS.out.put HCLO.out hg (fun k hk => ⟨Kd.R_base HR_.out k hk, (HR_.out.1 k hk).2⟩) ho ⟨_, hu_⟩)
        have n2_ := Aside0.mk (blk_grown BK12.out hg (Kd.R_ne HR_.out BK12.out (by decide)))
        have n3_ := Aside0.mk hu_
        clear HS HR_ BX_ BK12 hb hg hat ho hu_
        have HS := n1_
        have BK12 := n2_
        have BX_ := n3_
        clear n1_ n2_ n3_
        have hx7 : w16.cell? ⟨g7, 0, none⟩ = some v_ := (blk_cell BX_.out 0).trans rfl
        have hf7 := blk_frozen BX_.out 0
        refine hK.out _ _ ⟨(blk_cell BX_.out 0).trans rfl, (blk_cell BK12.out 0).trans rfl, (blk_cell BK12.out 1).trans rfl, (blk_cell BK12.out 2).trans rfl⟩ (fun hHeld => ?_)
        clear hK K
        refine norm_ (a' := ?_) ?_ ?_
        rotate_left
        · show Act.put _ (some 46) _ = _
          simp only [Act.put, List.setIfInBounds_toArray, List.set_cons_zero, List.set_cons_succ, i64_w, i32_w]
          rfl
        refine last_ (i := 6) (N := none) #[true, true, true, true, true, true, true] rfl rfl (by kernel_rfl) (by decide) (fun K hK => ?_)
        refine skip_ (w1 := ?_) (by rfl) rfl ?_ ?_
        rotate_left
        · go_simp
          rfl
        refine hK.out _ _ ?_
        clear hK K
        refine done_ (by kernel_rfl) ?_
        try go_wp2
        go_roundg k1
        case measure => have := E1.out; omega
        case rel => exact ⟨wrap64 (x + 1), rfl, ⟨⟨i + 1, _, _, _, by have := E1.out; rw [w64_id _ (by omega) (by have := HLL.out; omega)]; omega, by have := E1.out; omega, by have h_ := HLEN.out; (try simp only [List.length_append, List.length_singleton] at h_ ⊢); omega, (by have h_ := HTL.out; (try simp only [List.length_append, List.length_singleton]); omega), HREST.out, HS.out⟩⟩⟩
      by_cases c1_ : (rd_T43 l x).f0 = 1
      · have c := c1_
        clear c1_
        have ho : ¬ ((rd_T43 l x).f0 = 4 ∨ (rd_T43 l x).f0 = 5) := by omega
        have ho2 : ¬ ((rd_T43 l x).f0 = 2 ∨ (rd_T43 l x).f0 = 3) := by omega
        rw [if_neg ho, if_neg ho2, if_pos c] at hs1
        obtain ⟨v, hv, hs1⟩ := Option.bind_eq_some_iff.1 hs1
        simp only [Option.some.injEq, Prod.mk.injEq] at hs1
        obtain ⟨rfl, rfl⟩ := hs1
        have HQ := Aside0.mk (ok_none (o := (rd_T43 l x).f0) (a := (rd_T43 l x).f1) (b := (rd_T43 l x).f2) (idx := idx) (n := 0) (by omega) (by omega) (by omega) (by omega))
        have HV := Aside0.mk hv
        have HLEN := Aside0.mk hlen_
        have HREST := Aside0.mk hrest
        clear hrest hlen_
        have e4_ : ((rd_T43 l x).f0 == 4) = false := beq_eq_false_iff_ne.mpr (by omega)
        have f4_ : ((rd_T43 l x).f0 != 4) = true := bne_iff_ne.mpr (by omega)
        have e5_ : ((rd_T43 l x).f0 == 5) = false := beq_eq_false_iff_ne.mpr (by omega)
        have f5_ : ((rd_T43 l x).f0 != 5) = true := bne_iff_ne.mpr (by omega)
        have e1_ : ((rd_T43 l x).f0 == 1) = true := beq_iff_eq.mpr c
        have f1_ : ((rd_T43 l x).f0 != 1) = false := bne_eq_false_iff_eq.mpr c
        clear hv ho ho2 c
        go_wp2_with (first | ((with_reducible refine gate_dst (N := 10) rfl ?_); refine box_event ?hg (N := 10) ?hd (cs := #[Value.int .i64 0, Value.int .i64 0, Value.int .i64 0]) (t := 43) ?hr ?_; (case hd => rfl); (case hg => rfl); (case hr => first | (go_simp; done) | (go_simp; rfl)); intro g10 hg w10 hbox hb; have n1_ := Aside0.mk (below_step (by repeat (first | exact HB.out | refine below_set ?_ GE10.out | refine below_set ?_ GE12.out)) hb); have BK10 := Aside0.mk (hbox); have GE10 := Aside0.mk ((by rw [hg]; exact (below_size (by repeat (first | exact HB.out | refine below_set ?_ GE10.out | refine below_set ?_ GE12.out))) : wr.heap.size ≤ g10)); have NE10 := Aside0.mk (show g10 ≠ g7 from by have h1_ := HS.out.lt; have h2_ := GE10.out; omega); clear HB; have HB := n1_; clear n1_; clear hb hbox hg; have hc10_0 : w10.cell? ⟨g10, 0, none⟩ = some (Value.int .i64 0) := (blk_cell BK10.out 0).trans rfl; have hf10_0 := blk_frozen BK10.out 0; have hc10_1 : w10.cell? ⟨g10, 1, none⟩ = some (Value.int .i64 0) := (blk_cell BK10.out 1).trans rfl; have hf10_1 := blk_frozen BK10.out 1; have hc10_2 : w10.cell? ⟨g10, 2, none⟩ = some (Value.int .i64 0) := (blk_cell BK10.out 2).trans rfl; have hf10_2 := blk_frozen BK10.out 2) | (go_at_call 29; refine (querylang_operandKey.calls _ _ _ _ _ _ _ _ _ _ HQ.out).mono ?_; rintro e w8 ⟨rfl, hb⟩; have n1_ := Aside0.mk (HS.out.step HCLO.out (below_step (by repeat (first | exact HB.out | refine below_set ?_ GE10.out | refine below_set ?_ GE12.out)) hb)); have n2_ := Aside0.mk (blk_below (g := g10) (o := .cells #[.int .i64 (rd_T43 l x).f0, .int .i64 (rd_T43 l x).f1, .int .i64 (rd_T43 l x).f2] 43 (0, 0)) (by first | exact BK10.out | (refine (Below.heap_setCell _ _ _ g10 NE1012.out).trans ?_; refine (Below.heap_setCell _ _ _ g10 NE1012.out).trans ?_; refine (Below.heap_setCell _ _ _ g10 NE1012.out).trans ?_; exact BK10.out) | (refine blk_put (cs := #[.int .i64 (rd_T43 l x).f0, .int .i64 (rd_T43 l x).f1, .int .i64 0]) ?_ 2 _ rfl; refine blk_put (cs := #[.int .i64 (rd_T43 l x).f0, .int .i64 0, .int .i64 0]) ?_ 1 _ rfl; refine blk_put (cs := #[.int .i64 0, .int .i64 0, .int .i64 0]) ?_ 0 _ rfl; exact BK10.out)) hb); clear HB HS BK10 hb; have HS := n1_; have BK10 := n2_; have HB := Aside0.mk (Below.refl w8.heap.size w8); clear n1_ n2_; (try clear hd_0 hd_1 hd_2); have hd_0 : w8.cell? ⟨g10, 0, none⟩ = some (.int .i64 (rd_T43 l x).f0) := (blk_cell BK10.out 0).trans rfl; have hd_1 : w8.cell? ⟨g10, 1, none⟩ = some (.int .i64 (rd_T43 l x).f1) := (blk_cell BK10.out 1).trans rfl; have hd_2 : w8.cell? ⟨g10, 2, none⟩ = some (.int .i64 (rd_T43 l x).f2) := (blk_cell BK10.out 2).trans rfl) | ((with_reducible refine gate_dst (N := 12) rfl ?_); refine box_event ?hg (N := 12) ?hd (cs := #[Value.int .i64 0, Value.int .i64 0, Value.int .i64 0]) (t := 40) ?hr ?_; (case hd => rfl); (case hg => rfl); (case hr => first | (go_simp; done) | (go_simp; rfl)); intro g12 hg w12 hbox hb; have n1_ := Aside0.mk (below_step (by repeat (first | exact HB.out | refine below_set ?_ GE10.out | refine below_set ?_ GE12.out)) hb); have BK12 := Aside0.mk (hbox); have GE12 := Aside0.mk ((by rw [hg]; exact (below_size (by repeat (first | exact HB.out | refine below_set ?_ GE10.out | refine below_set ?_ GE12.out))) : w8.heap.size ≤ g12)); have NE1012 := Aside0.mk (show g10 ≠ g12 from by have h1_ := blk_lt BK10.out; have h2_ := GE12.out; omega); have NB12 := Aside0.mk (show ¬ B g12 ∧ g7 ≠ g12 from ⟨fun hb_ => by have h1_ := HCLO.out.lt _ _ _ _ HS.out.inv hb_; have h2_ := GE12.out; omega, by have h1_ := HS.out.lt; have h2_ := GE12.out; omega⟩); have ne1012 : (g10 = g12) = False := eq_false NE1012.out; have ne1210 : (g12 = g10) = False := eq_false NE1012.out.symm; have n2_ := Aside0.mk (blk_below BK10.out hb); clear BK10; have BK10 := n2_; clear n2_; clear hd_0 hd_1 hd_2; have hd_0 : w12.cell? ⟨g10, 0, none⟩ = some (.int .i64 (rd_T43 l x).f0) := (blk_cell BK10.out 0).trans rfl; have hd_1 : w12.cell? ⟨g10, 1, none⟩ = some (.int .i64 (rd_T43 l x).f1) := (blk_cell BK10.out 1).trans rfl; have hd_2 : w12.cell? ⟨g10, 2, none⟩ = some (.int .i64 (rd_T43 l x).f2) := (blk_cell BK10.out 2).trans rfl; clear HB; have HB := n1_; clear n1_; clear hb hbox hg; have hc12_0 : w12.cell? ⟨g12, 0, none⟩ = some (Value.int .i64 0) := (blk_cell BK12.out 0).trans rfl; have hf12_0 := blk_frozen BK12.out 0; have hc12_1 : w12.cell? ⟨g12, 1, none⟩ = some (Value.int .i64 0) := (blk_cell BK12.out 1).trans rfl; have hf12_1 := blk_frozen BK12.out 1; have hc12_2 : w12.cell? ⟨g12, 2, none⟩ = some (Value.int .i64 0) := (blk_cell BK12.out 2).trans rfl; have hf12_2 := blk_frozen BK12.out 2))
        have n1_ := Aside0.mk (HS.out.step (W' := (((w12.setCell ⟨g12, 0, none⟩ (.int .i64 0)).setCell ⟨g12, 1, none⟩ (.int .i64 0)).setCell ⟨g12, 2, none⟩ (.int .i64 0)).drew) HCLO.out (below_drew1 (by repeat (first | exact HB.out | refine below_set ?_ GE10.out | refine below_set ?_ GE12.out))))
        have n2_ := Aside0.mk (show ((((w12.setCell ⟨g12, 0, none⟩ (.int .i64 0)).setCell ⟨g12, 1, none⟩ (.int .i64 0)).setCell ⟨g12, 2, none⟩ (.int .i64 0))).drew.heap[g10]? = some (.cells #[.int .i64 (rd_T43 l x).f0, .int .i64 (rd_T43 l x).f1, .int .i64 (rd_T43 l x).f2] 43 (0, 0)) from blk_drew (by first | exact BK10.out | (refine (Below.heap_setCell _ _ _ g10 NE1012.out).trans ?_; refine (Below.heap_setCell _ _ _ g10 NE1012.out).trans ?_; refine (Below.heap_setCell _ _ _ g10 NE1012.out).trans ?_; exact BK10.out) | (refine blk_put (cs := #[.int .i64 (rd_T43 l x).f0, .int .i64 (rd_T43 l x).f1, .int .i64 0]) ?_ 2 _ rfl; refine blk_put (cs := #[.int .i64 (rd_T43 l x).f0, .int .i64 0, .int .i64 0]) ?_ 1 _ rfl; refine blk_put (cs := #[.int .i64 0, .int .i64 0, .int .i64 0]) ?_ 0 _ rfl; exact BK10.out)))
        have n3_ := Aside0.mk (show ((((w12.setCell ⟨g12, 0, none⟩ (.int .i64 0)).setCell ⟨g12, 1, none⟩ (.int .i64 0)).setCell ⟨g12, 2, none⟩ (.int .i64 0))).drew.heap[g12]? = some (.cells #[.int .i64 0, .int .i64 0, .int .i64 0] 40 (0, 0)) from blk_drew (by refine blk_put (cs := #[.int .i64 0, .int .i64 0, .int .i64 0]) ?_ 2 _ rfl; refine blk_put (cs := #[.int .i64 0, .int .i64 0, .int .i64 0]) ?_ 1 _ rfl; refine blk_put (cs := #[.int .i64 0, .int .i64 0, .int .i64 0]) ?_ 0 _ rfl; exact BK12.out))
        clear HB HS BK10 BK12
        generalize (((w12.setCell ⟨g12, 0, none⟩ (.int .i64 0)).setCell ⟨g12, 1, none⟩ (.int .i64 0)).setCell ⟨g12, 2, none⟩ (.int .i64 0)) = w9 at n1_ n2_ n3_ ⊢
        have HS := n1_
        have BK10 := n2_
        clear n1_ n2_ n3_
        obtain ⟨v_, hb1, hr1⟩ := HS.out.box
        have HR_ := Aside0.mk hr1
        have BX_ := Aside0.mk hb1
        clear hb1 hr1
        refine start_ (n := 7) (S := fun w' => w'.cell? ⟨g7, 0, none⟩ = some v_ ∧ w'.cell? ⟨g10, 0, none⟩ = some (.int .i64 (rd_T43 l x).f0) ∧ w'.cell? ⟨g10, 1, none⟩ = some (.int .i64 (rd_T43 l x).f1) ∧ w'.cell? ⟨g10, 2, none⟩ = some (.int .i64 (rd_T43 l x).f2)) (ds := [6]) #[false, false, false, false, false, false, false] (by kernel_rfl) rfl rfl ⟨(blk_cell BX_.out 0).trans rfl, (blk_cell BK10.out 0).trans rfl, (blk_cell BK10.out 1).trans rfl, (blk_cell BK10.out 2).trans rfl⟩ (fun hHeld => ?_)
        generalize w9.drew = w11 at HS BK10 HR_ BX_ hHeld ⊢
        refine pure_ (i := 1) (N := some 51) (v := ?_) (a' := ?_) #[false, true, false, false, false, false, false] rfl rfl (by kernel_rfl) (fun _ _ _ h => h) (Or.inl ⟨by rfl, ?_⟩) ?_ ?_
        rotate_left
        · intro w'
          go_simp
          with_reducible rfl
        rotate_left
        · simp only [Act.put, List.setIfInBounds_toArray, List.set_cons_zero, List.set_cons_succ, i64_w, i32_w]
          rfl
        refine take_ (i := 0) (N := some 50) (v := ?_) (a' := ?_) #[true, true, false, false, false, false, false] rfl rfl (by kernel_rfl) (fun _ _ _ h => h) (Or.inl ⟨by rfl, ?_⟩) hHeld ?_ ?_
        rotate_left
        · rintro w' ⟨s0, s1, s2, s3⟩
          go_simp
          with_reducible rfl
        rotate_left
        · simp only [Act.put, List.setIfInBounds_toArray, List.set_cons_zero, List.set_cons_succ, i64_w, i32_w]
          rfl
        refine take_ (i := 2) (N := some 52) (v := ?_) (a' := ?_) #[true, true, true, false, false, false, false] rfl rfl (by kernel_rfl) (fun _ _ _ h => h) (Or.inl ⟨by rfl, ?_⟩) hHeld ?_ ?_
        rotate_left
        · rintro w' ⟨s0, s1, s2, s3⟩
          go_simp
          with_reducible rfl
        rotate_left
        · simp only [Act.put, List.setIfInBounds_toArray, List.set_cons_zero, List.set_cons_succ, i64_w, i32_w]
          rfl
        refine one_ (i := 3) (N := some 53) #[true, true, true, true, false, false, false] rfl rfl (by kernel_rfl) (by decide) (fun K hK => ?_)
        refine goes_ Try.func26 (by kernel_rfl) rfl #[.int .i64 (rd_T43 l x).f1] (by rfl) rfl rfl (by (try simp only [List.map_toArray, List.map_cons, List.map_nil]); first | done | rfl) ?_
        refine (querylang_reduce.calls _ _ _ HV.out).mono ?_
        rintro e w13 ⟨rfl, hd⟩
        have hb := hd.below
        clear hd
        refine ⟨_, rfl, ?_⟩
        have n1_ := Aside0.mk (HS.out.step HCLO.out hb)
        have n2_ := Aside0.mk (blk_below BX_.out hb)
        have n3_ := Aside0.mk (blk_below BK10.out hb)
        have n4_ := Aside0.mk (Kd.R_below HR_.out hb)
        clear HS BX_ BK10 HR_ hb
        have HS := n1_
        have BX_ := n2_
        have BK10 := n3_
        have HR_ := n4_
        clear n1_ n2_ n3_ n4_
        refine hK.out _ _ ⟨(blk_cell BX_.out 0).trans rfl, (blk_cell BK10.out 0).trans rfl, (blk_cell BK10.out 1).trans rfl, (blk_cell BK10.out 2).trans rfl⟩ (fun hHeld => ?_)
        clear hK K
        refine norm_ (a' := ?_) ?_ ?_
        rotate_left
        · show Act.put _ (some 53) _ = _
          simp only [Act.put, List.setIfInBounds_toArray, List.set_cons_zero, List.set_cons_succ, i64_w, i32_w]
          rfl
        refine one_ (i := 4) (N := some 54) #[true, true, true, true, true, false, false] rfl rfl (by kernel_rfl) (by decide) (fun K hK => ?_)
        refine value_ (w1 := ?_) (v := ?_) (by rfl) rfl ?_ ?_
        rotate_left 2
        · go_simp
          constructor
          · rfl
          · rfl
        refine hK.out _ _ ⟨(blk_cell (blk_alloc BX_.out _) 0).trans rfl, (blk_cell (blk_alloc BK10.out _) 0).trans rfl, (blk_cell (blk_alloc BK10.out _) 1).trans rfl, (blk_cell (blk_alloc BK10.out _) 2).trans rfl⟩ (fun hHeld => ?_)
        clear hK K
        refine norm_ (a' := ?_) ?_ ?_
        rotate_left
        · show Act.put _ (some 54) _ = _
          simp only [Act.put, List.setIfInBounds_toArray, List.set_cons_zero, List.set_cons_succ, i64_w, i32_w]
          rfl
        refine one_ (i := 5) (N := some 55) #[true, true, true, true, true, true, false] rfl rfl (by kernel_rfl) (by decide) (fun K hK => ?_)
        refine Kd.R_append_step (Kd.int .i64) (w0 := w13) W0.heap.size (by rfl) (.tmp 50) (.tmp 54) 25 3 (.int .i64 0) 8 rfl Try.underlying25 info3 rfl (by decide) (by omega) v_ st v [.int .i64 v] (fun k => k ≠ g7 ∧ ¬ B k) (fun _ => False) rfl rfl rfl (fun _ hk => hk.elim) ?aF HR_.out (Below.refl _ _) HS.out.kp.size ?aL ?_
        (case aF => exact (fun k hk => ⟨by have h1_ := HS.out.lt; omega, fun hb_ => by have h1_ := HCLO.out.lt _ _ _ _ HS.out.inv hb_; omega⟩))
        (case aL => have h_ := HLEN.out; (try simp only [List.length_append, List.length_singleton] at h_ ⊢); omega)
        intro v1_ w16 ho hb hg hat
        obtain ⟨A9, n9, c9, rfl⟩ : ∃ A n c, v1_ = .slice A n c := by obtain ⟨A, c, e⟩ := Kd.R_slice ho; exact ⟨A, _, c, e⟩
        have hu_ : w16.heap[g7]? = some (.cells #[v_] 25 (0, 0)) := blk_grown BX_.out hg (fun e => (HR_.out.1 g7 e.symm).1 rfl)
        have n1_ := Aside0.mk (show St W0 B0 g7 Inv (st ++ [v]) _ _ (w16.setCell ⟨g7, 0, none⟩ (.slice A9 n9 c9)) from HS.out.put HCLO.out hg (fun k hk => ⟨Kd.R_base HR_.out k hk, (HR_.out.1 k hk).2⟩) ho ⟨_, hu_⟩)
        have n2_ := Aside0.mk (blk_grown BK10.out hg (Kd.R_ne HR_.out BK10.out (by decide)))
        have n3_ := Aside0.mk hu_
        clear HS HR_ BX_ BK10 hb hg hat ho hu_
        have HS := n1_
        have BK10 := n2_
        have BX_ := n3_
        clear n1_ n2_ n3_
        have hx7 : w16.cell? ⟨g7, 0, none⟩ = some v_ := (blk_cell BX_.out 0).trans rfl
        have hf7 := blk_frozen BX_.out 0
        refine hK.out _ _ ⟨(blk_cell BX_.out 0).trans rfl, (blk_cell BK10.out 0).trans rfl, (blk_cell BK10.out 1).trans rfl, (blk_cell BK10.out 2).trans rfl⟩ (fun hHeld => ?_)
        clear hK K
        refine norm_ (a' := ?_) ?_ ?_
        rotate_left
        · show Act.put _ (some 55) _ = _
          simp only [Act.put, List.setIfInBounds_toArray, List.set_cons_zero, List.set_cons_succ, i64_w, i32_w]
          rfl
        refine last_ (i := 6) (N := none) #[true, true, true, true, true, true, true] rfl rfl (by kernel_rfl) (by decide) (fun K hK => ?_)
        refine skip_ (w1 := ?_) (by rfl) rfl ?_ ?_
        rotate_left
        · go_simp
          rfl
        refine hK.out _ _ ?_
        clear hK K
        refine done_ (by kernel_rfl) ?_
        try go_wp2
        go_roundg k1
        case measure => have := E1.out; omega
        case rel => exact ⟨wrap64 (x + 1), rfl, ⟨⟨i + 1, _, _, _, by have := E1.out; rw [w64_id _ (by omega) (by have := HLL.out; omega)]; omega, by have := E1.out; omega, by have h_ := HLEN.out; (try simp only [List.length_append, List.length_singleton] at h_ ⊢); omega, (by have h_ := HTL.out; (try simp only [List.length_append, List.length_singleton]); omega), HREST.out, HS.out⟩⟩⟩
      · skip
        have ho : ¬ ((rd_T43 l x).f0 = 4 ∨ (rd_T43 l x).f0 = 5) := by omega
        have ho2 : ¬ ((rd_T43 l x).f0 = 2 ∨ (rd_T43 l x).f0 = 3) := by omega
        rw [if_neg ho, if_neg ho2, if_neg c1_] at hs1
        obtain ⟨⟨st1, y1⟩, hp1, hs1⟩ := Option.bind_eq_some_iff.1 hs1
        obtain ⟨⟨stk, y2⟩, hp2, hs1⟩ := Option.bind_eq_some_iff.1 hs1
        obtain ⟨v, hv, hs1⟩ := Option.bind_eq_some_iff.1 hs1
        simp only [Option.some.injEq, Prod.mk.injEq] at hs1
        obtain ⟨rfl, rfl⟩ := hs1
        obtain rfl := popL_some hp1
        obtain rfl := popL_some hp2
        have HQ := Aside0.mk (ok_none (o := (rd_T43 l x).f0) (a := (rd_T43 l x).f1) (b := (rd_T43 l x).f2) (idx := idx) (n := 0) (by omega) (by omega) (by omega) (by omega))
        have HV := Aside0.mk hv
        have HLEN := Aside0.mk hlen_
        have HREST := Aside0.mk hrest
        clear hrest hlen_
        have e4_ : ((rd_T43 l x).f0 == 4) = false := beq_eq_false_iff_ne.mpr (by omega)
        have f4_ : ((rd_T43 l x).f0 != 4) = true := bne_iff_ne.mpr (by omega)
        have e5_ : ((rd_T43 l x).f0 == 5) = false := beq_eq_false_iff_ne.mpr (by omega)
        have f5_ : ((rd_T43 l x).f0 != 5) = true := bne_iff_ne.mpr (by omega)
        have e1_ : ((rd_T43 l x).f0 == 1) = false := beq_eq_false_iff_ne.mpr (by omega)
        have f1_ : ((rd_T43 l x).f0 != 1) = true := bne_iff_ne.mpr (by omega)
        clear hp1 hp2 hv ho ho2 c1_
        go_wp2_with (first | ((with_reducible refine gate_dst (N := 10) rfl ?_); refine box_event ?hg (N := 10) ?hd (cs := #[Value.int .i64 0, Value.int .i64 0, Value.int .i64 0]) (t := 43) ?hr ?_; (case hd => rfl); (case hg => rfl); (case hr => first | (go_simp; done) | (go_simp; rfl)); intro g10 hg w10 hbox hb; have n1_ := Aside0.mk (below_step (by repeat (first | exact HB.out | refine below_set ?_ GE10.out | refine below_set ?_ GE12.out)) hb); have BK10 := Aside0.mk (hbox); have GE10 := Aside0.mk ((by rw [hg]; exact (below_size (by repeat (first | exact HB.out | refine below_set ?_ GE10.out | refine below_set ?_ GE12.out))) : wr.heap.size ≤ g10)); have NE10 := Aside0.mk (show g10 ≠ g7 from by have h1_ := HS.out.lt; have h2_ := GE10.out; omega); clear HB; have HB := n1_; clear n1_; clear hb hbox hg; have hc10_0 : w10.cell? ⟨g10, 0, none⟩ = some (Value.int .i64 0) := (blk_cell BK10.out 0).trans rfl; have hf10_0 := blk_frozen BK10.out 0; have hc10_1 : w10.cell? ⟨g10, 1, none⟩ = some (Value.int .i64 0) := (blk_cell BK10.out 1).trans rfl; have hf10_1 := blk_frozen BK10.out 1; have hc10_2 : w10.cell? ⟨g10, 2, none⟩ = some (Value.int .i64 0) := (blk_cell BK10.out 2).trans rfl; have hf10_2 := blk_frozen BK10.out 2) | (go_at_call 29; refine (querylang_operandKey.calls _ _ _ _ _ _ _ _ _ _ HQ.out).mono ?_; rintro e w8 ⟨rfl, hb⟩; have n1_ := Aside0.mk (HS.out.step HCLO.out (below_step (by repeat (first | exact HB.out | refine below_set ?_ GE10.out | refine below_set ?_ GE12.out)) hb)); have n2_ := Aside0.mk (blk_below (g := g10) (o := .cells #[.int .i64 (rd_T43 l x).f0, .int .i64 (rd_T43 l x).f1, .int .i64 (rd_T43 l x).f2] 43 (0, 0)) (by first | exact BK10.out | (refine (Below.heap_setCell _ _ _ g10 NE1012.out).trans ?_; refine (Below.heap_setCell _ _ _ g10 NE1012.out).trans ?_; refine (Below.heap_setCell _ _ _ g10 NE1012.out).trans ?_; exact BK10.out) | (refine blk_put (cs := #[.int .i64 (rd_T43 l x).f0, .int .i64 (rd_T43 l x).f1, .int .i64 0]) ?_ 2 _ rfl; refine blk_put (cs := #[.int .i64 (rd_T43 l x).f0, .int .i64 0, .int .i64 0]) ?_ 1 _ rfl; refine blk_put (cs := #[.int .i64 0, .int .i64 0, .int .i64 0]) ?_ 0 _ rfl; exact BK10.out)) hb); clear HB HS BK10 hb; have HS := n1_; have BK10 := n2_; have HB := Aside0.mk (Below.refl w8.heap.size w8); clear n1_ n2_; (try clear hd_0 hd_1 hd_2); have hd_0 : w8.cell? ⟨g10, 0, none⟩ = some (.int .i64 (rd_T43 l x).f0) := (blk_cell BK10.out 0).trans rfl; have hd_1 : w8.cell? ⟨g10, 1, none⟩ = some (.int .i64 (rd_T43 l x).f1) := (blk_cell BK10.out 1).trans rfl; have hd_2 : w8.cell? ⟨g10, 2, none⟩ = some (.int .i64 (rd_T43 l x).f2) := (blk_cell BK10.out 2).trans rfl) | ((with_reducible refine gate_dst (N := 12) rfl ?_); refine box_event ?hg (N := 12) ?hd (cs := #[Value.int .i64 0, Value.int .i64 0, Value.int .i64 0]) (t := 40) ?hr ?_; (case hd => rfl); (case hg => rfl); (case hr => first | (go_simp; done) | (go_simp; rfl)); intro g12 hg w12 hbox hb; have n1_ := Aside0.mk (below_step (by repeat (first | exact HB.out | refine below_set ?_ GE10.out | refine below_set ?_ GE12.out)) hb); have BK12 := Aside0.mk (hbox); have GE12 := Aside0.mk ((by rw [hg]; exact (below_size (by repeat (first | exact HB.out | refine below_set ?_ GE10.out | refine below_set ?_ GE12.out))) : w8.heap.size ≤ g12)); have NE1012 := Aside0.mk (show g10 ≠ g12 from by have h1_ := blk_lt BK10.out; have h2_ := GE12.out; omega); have NB12 := Aside0.mk (show ¬ B g12 ∧ g7 ≠ g12 from ⟨fun hb_ => by have h1_ := HCLO.out.lt _ _ _ _ HS.out.inv hb_; have h2_ := GE12.out; omega, by have h1_ := HS.out.lt; have h2_ := GE12.out; omega⟩); have ne1012 : (g10 = g12) = False := eq_false NE1012.out; have ne1210 : (g12 = g10) = False := eq_false NE1012.out.symm; have n2_ := Aside0.mk (blk_below BK10.out hb); clear BK10; have BK10 := n2_; clear n2_; clear hd_0 hd_1 hd_2; have hd_0 : w12.cell? ⟨g10, 0, none⟩ = some (.int .i64 (rd_T43 l x).f0) := (blk_cell BK10.out 0).trans rfl; have hd_1 : w12.cell? ⟨g10, 1, none⟩ = some (.int .i64 (rd_T43 l x).f1) := (blk_cell BK10.out 1).trans rfl; have hd_2 : w12.cell? ⟨g10, 2, none⟩ = some (.int .i64 (rd_T43 l x).f2) := (blk_cell BK10.out 2).trans rfl; clear HB; have HB := n1_; clear n1_; clear hb hbox hg; have hc12_0 : w12.cell? ⟨g12, 0, none⟩ = some (Value.int .i64 0) := (blk_cell BK12.out 0).trans rfl; have hf12_0 := blk_frozen BK12.out 0; have hc12_1 : w12.cell? ⟨g12, 1, none⟩ = some (Value.int .i64 0) := (blk_cell BK12.out 1).trans rfl; have hf12_1 := blk_frozen BK12.out 1; have hc12_2 : w12.cell? ⟨g12, 2, none⟩ = some (Value.int .i64 0) := (blk_cell BK12.out 2).trans rfl; have hf12_2 := blk_frozen BK12.out 2) | (go_at_call 28; refine (pop_st (g1 := g10) (o := .cells #[.int .i64 (rd_T43 l x).f0, .int .i64 (rd_T43 l x).f1, .int .i64 (rd_T43 l x).f2] 43 (0, 0)) HCLO.out (HS.out.step HCLO.out (by repeat (first | exact HB.out | refine below_set ?_ GE10.out | refine below_set ?_ GE12.out))) (by first | exact BK10.out | (refine (Below.heap_setCell _ _ _ g10 NE1012.out).trans ?_; refine (Below.heap_setCell _ _ _ g10 NE1012.out).trans ?_; refine (Below.heap_setCell _ _ _ g10 NE1012.out).trans ?_; exact BK10.out) | (refine blk_put (cs := #[.int .i64 (rd_T43 l x).f0, .int .i64 (rd_T43 l x).f1, .int .i64 0]) ?_ 2 _ rfl; refine blk_put (cs := #[.int .i64 (rd_T43 l x).f0, .int .i64 0, .int .i64 0]) ?_ 1 _ rfl; refine blk_put (cs := #[.int .i64 0, .int .i64 0, .int .i64 0]) ?_ 0 _ rfl; exact BK10.out)) NE10.out (by have h_ := HLEN.out; (try simp only [List.length_append, List.length_singleton] at h_ ⊢); omega)).mono ?_; rintro e w7 ⟨rfl, hs_, bk_⟩; clear HB HS BK10; have HS := Aside0.mk hs_; have BK10 := Aside0.mk bk_; have HB := Aside0.mk (Below.refl w7.heap.size w7); clear hs_ bk_; (try clear hd_0 hd_1 hd_2); have hd_0 : w7.cell? ⟨g10, 0, none⟩ = some (.int .i64 (rd_T43 l x).f0) := (blk_cell BK10.out 0).trans rfl; have hd_1 : w7.cell? ⟨g10, 1, none⟩ = some (.int .i64 (rd_T43 l x).f1) := (blk_cell BK10.out 1).trans rfl; have hd_2 : w7.cell? ⟨g10, 2, none⟩ = some (.int .i64 (rd_T43 l x).f2) := (blk_cell BK10.out 2).trans rfl))
        have n1_ := Aside0.mk (show St W0 B0 g7 Inv stk tr B w7.drew from HS.out.step HCLO.out (below_drew1 (Below.refl _ _)))
        have n2_ := Aside0.mk (show w7.drew.heap[g10]? = some (.cells #[.int .i64 (rd_T43 l x).f0, .int .i64 (rd_T43 l x).f1, .int .i64 (rd_T43 l x).f2] 43 (0, 0)) from BK10.out)
        clear HS BK10
        have HS := n1_
        have BK10 := n2_
        clear n1_ n2_
        obtain ⟨v_, hb1, hr1⟩ := HS.out.box
        have HR_ := Aside0.mk hr1
        have BX_ := Aside0.mk hb1
        clear hb1 hr1
        refine start_ (n := 9) (S := fun w' => w'.cell? ⟨g7, 0, none⟩ = some v_ ∧ w'.cell? ⟨g10, 0, none⟩ = some (.int .i64 (rd_T43 l x).f0) ∧ w'.cell? ⟨g10, 1, none⟩ = some (.int .i64 (rd_T43 l x).f1) ∧ w'.cell? ⟨g10, 2, none⟩ = some (.int .i64 (rd_T43 l x).f2)) (ds := [8]) #[false, false, false, false, false, false, false, false, false] (by kernel_rfl) rfl rfl ⟨(blk_cell BX_.out 0).trans rfl, (blk_cell BK10.out 0).trans rfl, (blk_cell BK10.out 1).trans rfl, (blk_cell BK10.out 2).trans rfl⟩ (fun hHeld => ?_)
        generalize w7.drew = w11 at HS BK10 HR_ BX_ hHeld ⊢
        refine pure_ (i := 1) (N := some 61) (v := ?_) (a' := ?_) #[false, true, false, false, false, false, false, false, false] rfl rfl (by kernel_rfl) (fun _ _ _ h => h) (Or.inl ⟨by rfl, ?_⟩) ?_ ?_
        rotate_left
        · intro w'
          go_simp
          with_reducible rfl
        rotate_left
        · simp only [Act.put, List.setIfInBounds_toArray, List.set_cons_zero, List.set_cons_succ, i64_w, i32_w]
          rfl
        refine pure_ (i := 3) (N := some 63) (v := ?_) (a' := ?_) #[false, true, false, true, false, false, false, false, false] rfl rfl (by kernel_rfl) (fun _ _ _ h => h) (Or.inl ⟨by rfl, ?_⟩) ?_ ?_
        rotate_left
        · intro w'
          go_simp
          with_reducible rfl
        rotate_left
        · simp only [Act.put, List.setIfInBounds_toArray, List.set_cons_zero, List.set_cons_succ, i64_w, i32_w]
          rfl
        refine pure_ (i := 4) (N := some 64) (v := ?_) (a' := ?_) #[false, true, false, true, true, false, false, false, false] rfl rfl (by kernel_rfl) (fun _ _ _ h => h) (Or.inl ⟨by rfl, ?_⟩) ?_ ?_
        rotate_left
        · intro w'
          go_simp
          with_reducible rfl
        rotate_left
        · simp only [Act.put, List.setIfInBounds_toArray, List.set_cons_zero, List.set_cons_succ, i64_w, i32_w]
          rfl
        refine take_ (i := 0) (N := some 60) (v := ?_) (a' := ?_) #[true, true, false, true, true, false, false, false, false] rfl rfl (by kernel_rfl) (fun _ _ _ h => h) (Or.inl ⟨by rfl, ?_⟩) hHeld ?_ ?_
        rotate_left
        · rintro w' ⟨s0, s1, s2, s3⟩
          go_simp
          with_reducible rfl
        rotate_left
        · simp only [Act.put, List.setIfInBounds_toArray, List.set_cons_zero, List.set_cons_succ, i64_w, i32_w]
          rfl
        refine take_ (i := 2) (N := some 62) (v := ?_) (a' := ?_) #[true, true, true, true, true, false, false, false, false] rfl rfl (by kernel_rfl) (fun _ _ _ h => h) (Or.inl ⟨by rfl, ?_⟩) hHeld ?_ ?_
        rotate_left
        · rintro w' ⟨s0, s1, s2, s3⟩
          go_simp
          with_reducible rfl
        rotate_left
        · simp only [Act.put, List.setIfInBounds_toArray, List.set_cons_zero, List.set_cons_succ, i64_w, i32_w]
          rfl
        refine one_ (i := 5) (N := some 65) #[true, true, true, true, true, true, false, false, false] rfl rfl (by kernel_rfl) (by decide) (fun K hK => ?_)
        refine goes_ Try.func30 (by kernel_rfl) rfl #[.int .i64 (rd_T43 l x).f0, .int .i64 y2, .int .i64 y1] (by rfl) rfl rfl (by (try simp only [List.map_toArray, List.map_cons, List.map_nil]); first | done | rfl) ?_
        refine (querylang_binary.calls _ _ _ _ _ HV.out).mono ?_
        rintro e w13 ⟨rfl, hb⟩
        refine ⟨_, rfl, ?_⟩
        have n1_ := Aside0.mk (HS.out.step HCLO.out hb)
        have n2_ := Aside0.mk (blk_below BX_.out hb)
        have n3_ := Aside0.mk (blk_below BK10.out hb)
        have n4_ := Aside0.mk (Kd.R_below HR_.out hb)
        clear HS BX_ BK10 HR_ hb
        have HS := n1_
        have BX_ := n2_
        have BK10 := n3_
        have HR_ := n4_
        clear n1_ n2_ n3_ n4_
        refine hK.out _ _ ⟨(blk_cell BX_.out 0).trans rfl, (blk_cell BK10.out 0).trans rfl, (blk_cell BK10.out 1).trans rfl, (blk_cell BK10.out 2).trans rfl⟩ (fun hHeld => ?_)
        clear hK K
        refine norm_ (a' := ?_) ?_ ?_
        rotate_left
        · show Act.put _ (some 65) _ = _
          simp only [Act.put, List.setIfInBounds_toArray, List.set_cons_zero, List.set_cons_succ, i64_w, i32_w]
          rfl
        refine one_ (i := 6) (N := some 66) #[true, true, true, true, true, true, true, false, false] rfl rfl (by kernel_rfl) (by decide) (fun K hK => ?_)
        refine value_ (w1 := ?_) (v := ?_) (by rfl) rfl ?_ ?_
        rotate_left 2
        · go_simp
          constructor
          · rfl
          · rfl
        refine hK.out _ _ ⟨(blk_cell (blk_alloc BX_.out _) 0).trans rfl, (blk_cell (blk_alloc BK10.out _) 0).trans rfl, (blk_cell (blk_alloc BK10.out _) 1).trans rfl, (blk_cell (blk_alloc BK10.out _) 2).trans rfl⟩ (fun hHeld => ?_)
        clear hK K
        refine norm_ (a' := ?_) ?_ ?_
        rotate_left
        · show Act.put _ (some 66) _ = _
          simp only [Act.put, List.setIfInBounds_toArray, List.set_cons_zero, List.set_cons_succ, i64_w, i32_w]
          rfl
        refine one_ (i := 7) (N := some 67) #[true, true, true, true, true, true, true, true, false] rfl rfl (by kernel_rfl) (by decide) (fun K hK => ?_)
        refine Kd.R_append_step (Kd.int .i64) (w0 := w13) W0.heap.size (by rfl) (.tmp 60) (.tmp 66) 25 3 (.int .i64 0) 8 rfl Try.underlying25 info3 rfl (by decide) (by omega) v_ stk v [.int .i64 v] (fun k => k ≠ g7 ∧ ¬ B k) (fun _ => False) rfl rfl rfl (fun _ hk => hk.elim) ?aF HR_.out (Below.refl _ _) HS.out.kp.size ?aL ?_
        (case aF => exact (fun k hk => ⟨by have h1_ := HS.out.lt; omega, fun hb_ => by have h1_ := HCLO.out.lt _ _ _ _ HS.out.inv hb_; omega⟩))
        (case aL => have h_ := HLEN.out; (try simp only [List.length_append, List.length_singleton] at h_ ⊢); omega)
        intro v1_ w16 ho hb hg hat
        obtain ⟨A9, n9, c9, rfl⟩ : ∃ A n c, v1_ = .slice A n c := by obtain ⟨A, c, e⟩ := Kd.R_slice ho; exact ⟨A, _, c, e⟩
        have hu_ : w16.heap[g7]? = some (.cells #[v_] 25 (0, 0)) := blk_grown BX_.out hg (fun e => (HR_.out.1 g7 e.symm).1 rfl)
        have n1_ := Aside0.mk (show St W0 B0 g7 Inv (stk ++ [v]) _ _ (w16.setCell ⟨g7, 0, none⟩ (.slice A9 n9 c9)) from HS.out.put HCLO.out hg (fun k hk => ⟨Kd.R_base HR_.out k hk, (HR_.out.1 k hk).2⟩) ho ⟨_, hu_⟩)
        have n2_ := Aside0.mk (blk_grown BK10.out hg (Kd.R_ne HR_.out BK10.out (by decide)))
        have n3_ := Aside0.mk hu_
        clear HS HR_ BX_ BK10 hb hg hat ho hu_
        have HS := n1_
        have BK10 := n2_
        have BX_ := n3_
        clear n1_ n2_ n3_
        have hx7 : w16.cell? ⟨g7, 0, none⟩ = some v_ := (blk_cell BX_.out 0).trans rfl
        have hf7 := blk_frozen BX_.out 0
        refine hK.out _ _ ⟨(blk_cell BX_.out 0).trans rfl, (blk_cell BK10.out 0).trans rfl, (blk_cell BK10.out 1).trans rfl, (blk_cell BK10.out 2).trans rfl⟩ (fun hHeld => ?_)
        clear hK K
        refine norm_ (a' := ?_) ?_ ?_
        rotate_left
        · show Act.put _ (some 67) _ = _
          simp only [Act.put, List.setIfInBounds_toArray, List.set_cons_zero, List.set_cons_succ, i64_w, i32_w]
          rfl
        refine last_ (i := 8) (N := none) #[true, true, true, true, true, true, true, true, true] rfl rfl (by kernel_rfl) (by decide) (fun K hK => ?_)
        refine skip_ (w1 := ?_) (by rfl) rfl ?_ ?_
        rotate_left
        · go_simp
          rfl
        refine hK.out _ _ ?_
        clear hK K
        refine done_ (by kernel_rfl) ?_
        try go_wp2
        go_roundg k1
        case measure => have := E1.out; omega
        case rel => exact ⟨wrap64 (x + 1), rfl, ⟨⟨i + 1, _, _, _, by have := E1.out; rw [w64_id _ (by omega) (by have := HLL.out; omega)]; omega, by have := E1.out; omega, by have h_ := HLEN.out; (try simp only [List.length_append, List.length_singleton] at h_ ⊢); omega, (by have h_ := HTL.out; (try simp only [List.length_append, List.length_singleton]); omega), HREST.out, HS.out⟩⟩⟩
    · have c1 : decide (x < (l.length : Int)) = false := decide_eq_false c
      obtain ⟨i, st, tr, B, e1, e2, hlen_, htl_, e3, e4⟩ := HX.out
      clear HX
      obtain rfl : i = l.length := by omega
      rw [List.drop_length] at e3
      unfold goT at e3
      simp only [Option.some.injEq, Prod.mk.injEq] at e3
      obtain ⟨rfl, rfl⟩ := e3
      have HS := Aside0.mk e4
      clear e1 e2 c e4 hlen_ htl_
      obtain ⟨v_, hb1, hr1⟩ := HS.out.box
      obtain ⟨A1, c2, rfl⟩ := Kd.R_slice hr1
      have hC1 := (Kd.R_reads' hr1).2.2
      have p2 : (0 : Int) ≤ 0 := by omega
      have q2 : (0 : Int) < (((x0 :: st0).length : Nat) : Int) := by simp only [List.length_cons]; omega
      obtain ⟨ad, ea, hx0⟩ := Kd.at_int hC1 0 p2 q2
      cases ea
      have hx7 : wr.cell? ⟨g7, 0, none⟩ = some (.slice (some ad) (x0 :: st0).length c2) := (blk_cell hb1 0).trans rfl
      rw [show rd (x0 :: st0) 0 = x0 from rfl] at hx0
      have hx0b : wr.cell? (ad.add 0) = some (.int .i64 x0) := hx0
      have hx0c : wr.cell? ad = some (.int .i64 x0) := hx0
      have q2' := eq_true q2
      clear hr1 hC1 hb1
      go_wp2
      go_ret
      exact ⟨rfl, _, HS.out.kp, HS.out.inv, HS.out.bb⟩

end Go.Proofs.Ytnhkfelpahjgpaa.Qu
