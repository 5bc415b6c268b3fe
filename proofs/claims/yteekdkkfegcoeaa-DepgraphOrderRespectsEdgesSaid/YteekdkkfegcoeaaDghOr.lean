/- The law DepgraphOrderRespectsEdges, walked. Condition: well-formed edges. -/
import Derived.Test.YteekdkkfegcoeaaDgPo
namespace Go.Proofs.Yteekdkkfegcoeaa.Dg
open Go.RowKit Go.Sort Go.Lib Go.Proofs.YteekdkkfegcoeaaW.PrintWords Go.Proofs.YteekdkkfegcoeaaW.PrintLast Go.Proofs.YteekdkkfegcoeaaW.PrintMore
open Go.Proofs.Yteekdkkfegcoeaa
open Go.ChangeMaps (setBlock)
set_option linter.unusedVariables false
set_option linter.unusedSimpArgs false
attribute [local go_sem] Oper.semAt_some
attribute [local go_sem] max2_int min2_int
theorem rdL_at (ls : List (List S24)) (j : Nat) (h : j < ls.length) : rd_L4 ls (j : Int) = ls[j] := by simp [rd_L4, List.getD, h]
set_option maxHeartbeats 16000000 in
set_option maxRecDepth 100000 in
theorem ore_calls (A0 : Option Addr) (c0 : Nat) (l0 : List S37) (W : World) (hC : Kd.C k37 W A0 l0.length l0) (hc : l0.length ≤ c0) (hw : ∀ e ∈ l0, wfK e.f0 ∧ wfK e.f1) (hl : l0.length ≤ 9223372036854775807) :
    Calls Try.prog 4 #[.slice A0 l0.length c0] W fun e w' => e = .returned (.bool true) ∧ Below W.heap.size W w' := by
  have mixed : Try.prog.follows .mixedOrders = true := by kernel_rfl
  have hu22 := Try.underlying22
  have hu24 := Try.underlying24
  have hu26 := Try.underlying26
  have hu33 := Try.underlying33
  have hu37 := Try.underlying37
  obtain ⟨m, hm⟩ : ∃ m, m = min l0.length 50 := ⟨_, rfl⟩
  have hml : m ≤ l0.length := by omega
  have hCt := Kd.C_take hC hml
  have hwt : ∀ e ∈ l0.take m, wfK e.f0 ∧ wfK e.f1 := fun e he => hw e (List.mem_of_mem_take he)
  have hlt : (l0.take m).length = m := by rw [List.length_take]; omega
  generalize l0.take m = es at hCt hwt hlt
  have hmin : min (l0.length : Int) 50 = (es.length : Int) := by rw [hlt]; omega
  have hmax : max (l0.length : Int) 0 = (l0.length : Int) := by omega
  have hec : es.length ≤ c0 := by omega
  have hel : (es.length : Int) ≤ (c0 : Int) := by omega
  have HEC := Aside0.mk hCt
  have HEL := Aside0.mk hec
  have HEN := Aside0.mk (show es.length ≤ 50 by omega)
  have HOK := Aside0.mk (show Oke es from ⟨by omega, hwt⟩)
  clear hCt hwt hlt hC hw hm hml
  obtain ⟨o1, ho1⟩ : ∃ o, o = (tgo (nxt false es) (gof false es).2 (gof false es).2.length []).1 := ⟨_, rfl⟩
  obtain ⟨o2, ho2⟩ : ∃ o, o = (tgo (nxt false es) (gof false es).2 (gof false es).2.length []).2 := ⟨_, rfl⟩
  obtain ⟨q1, hq1⟩ : ∃ o, o = (lgo (nxt false es) (gof false es).2 (gof false es).2.length [] []).1 := ⟨_, rfl⟩
  obtain ⟨q2, hq2⟩ : ∃ o, o = (lgo (nxt false es) (gof false es).2 (gof false es).2.length [] []).2 := ⟨_, rfl⟩
  have HTO := Aside0.mk (show depgraph_TopologicalOrder.f es = some (o1, o2) from by rw [ho1, ho2]; exact if_pos HOK.out)
  have HLF := Aside0.mk (show depgraph_Levels.f es = some (q1, q2) from by rw [hq1, hq2]; exact if_pos HOK.out)
  have HOO := Aside0.mk (And.intro (And.intro ho1 ho2) (And.intro hq1 hq2))
  clear ho1 ho2 hq1 hq2
  go_enter Try.func4, Try.ntmps4
  go_wp2_with (first | (go_at_call 6; refine (glossatorkeep3_graphExample.calls 9 true W (example_true 9 (by omega))).mono ?_; rintro e_ w1 ⟨rfl, hb⟩; have HB1 := Aside0.mk hb; clear hb) | (go_at_call 10; refine (depgraph_TopologicalOrder.calls A0 c0 es o1 o2 w1 (Kd.C_below HEC.out HB1.out) HEL.out HTO.out).mono ?_; rintro e_ w2 ⟨v3, rfl, ho, hb⟩; have HOR := Aside0.mk ho; have HB2 := Aside0.mk (Below.trans_below HB1.out HB1.out.size hb); have HS2 := Aside0.mk HB1.out.size; clear ho hb) | (go_at_call 11; refine (depgraph_Levels.calls A0 c0 es q1 q2 w2 (Kd.C_below HEC.out HB2.out) HEL.out HLF.out).mono ?_; rintro e_ w3 ⟨v5, rfl, ho, hb⟩; have HLR := Aside0.mk ho; have HOR3 := Aside0.mk (Kd.R_below HOR.out hb); have HB3 := Aside0.mk (Below.trans_below HB2.out HB2.out.size hb); clear ho hb))
  clear hmin hmax
  have HE3 := Aside0.mk (Kd.C_below HEC.out HB3.out)
  go_loopg [7, 35] es.length (fun kx s7 s35 wr => ∃ (j : Nat) (b : Bool), s35 = .int .i64 j ∧ s7 = .bool b ∧ j ≤ es.length ∧ es.length - j ≤ kx ∧ Aside0 (b = (es.take j).any (fun e => decide (e.f0 ∈ deps false es e.f0))) ∧ Aside0 (Below w3.heap.size w3 wr))
  case atStart => exact ⟨0, false, rfl, rfl, Nat.zero_le _, Nat.le_refl _, ⟨by simp⟩, ⟨Below.refl _ _⟩⟩
  case round =>
    obtain ⟨j, b, rfl, rfl, hjn, hjk, HCY, HBL⟩ := hrel
    by_cases hlt : j < es.length
    · skip
      obtain ⟨ad, e_, q0, q1, q2, q3, q4, q5⟩ := at_T37 (Kd.C_below HE3.out HBL.out) (j : Int) (by omega) (by omega)
      subst e_
      rw [Int.toNat_natCast, rd37_at es j hlt] at q0 q1 q2 q3 q4 q5
      obtain ⟨e, hee⟩ : ∃ e, e = es[j] := ⟨_, rfl⟩
      rw [← hee] at q0 q1 q2 q3 q4 q5
      have HEM := Aside0.mk (show e ∈ es from hee ▸ List.getElem_mem hlt)
      have HJ := Aside0.mk (show es.take (j + 1) = es.take j ++ [e] from by rw [hee]; exact List.take_succ_eq_append_getElem hlt)
      clear hee
      have p0 : (0 : Int) ≤ (j : Int) := by omega
      have p2 : (j : Int) < (es.length : Int) := by omega
      have hll : es.length ≤ 50 := HEN.out
      go_wp2_with (first | ((with_reducible refine gate_dst (N := 9) rfl ?_); refine box_event ?hg (N := 9) ?hd (cs := #[.int .i64 0, .int .i64 0, .int .i64 0, .int .i64 0, .int .i64 0, .int .i64 0]) (t := 37) ?hr ?_; (case hd => rfl); (case hg => rfl); (case hr => first | (go_simp; done) | (go_simp; rfl)); intro g9 hg9 w7 hbox hb3; have d0_ : w7.cell? ⟨g9, 0, none⟩ = some (.int .i64 0) := (blk_cell hbox 0).trans rfl; have d1_ : w7.cell? ⟨g9, 1, none⟩ = some (.int .i64 0) := (blk_cell hbox 1).trans rfl; have d2_ : w7.cell? ⟨g9, 2, none⟩ = some (.int .i64 0) := (blk_cell hbox 2).trans rfl; have d3_ : w7.cell? ⟨g9, 3, none⟩ = some (.int .i64 0) := (blk_cell hbox 3).trans rfl; have d4_ : w7.cell? ⟨g9, 4, none⟩ = some (.int .i64 0) := (blk_cell hbox 4).trans rfl; have d5_ : w7.cell? ⟨g9, 5, none⟩ = some (.int .i64 0) := (blk_cell hbox 5).trans rfl; have f0_ := blk_frozen hbox 0; have f1_ := blk_frozen hbox 1; have f2_ := blk_frozen hbox 2; have f3_ := blk_frozen hbox 3; have f4_ := blk_frozen hbox 4; have f5_ := blk_frozen hbox 5; have BK := Aside0.mk hbox; have HBX := Aside0.mk hb3; have HGX := Aside0.mk hg9; clear hbox hb3 hg9))
      have n1_ := Aside0.mk (show ((((((w7.setCell ⟨g9, 0, none⟩ (.int .i64 e.f0.f0)).setCell ⟨g9, 1, none⟩ (.int .i64 e.f0.f1)).setCell ⟨g9, 2, none⟩ (.int .i64 e.f0.f2)).setCell ⟨g9, 3, none⟩ (.int .i64 e.f1.f0)).setCell ⟨g9, 4, none⟩ (.int .i64 e.f1.f1)).setCell ⟨g9, 5, none⟩ (.int .i64 e.f1.f2)).heap[g9]? = some (.cells #[.int .i64 e.f0.f0, .int .i64 e.f0.f1, .int .i64 e.f0.f2, .int .i64 e.f1.f0, .int .i64 e.f1.f1, .int .i64 e.f1.f2] 37 (0, 0)) from by refine blk_put (cs := #[(.int .i64 e.f0.f0), (.int .i64 e.f0.f1), (.int .i64 e.f0.f2), (.int .i64 e.f1.f0), (.int .i64 e.f1.f1), (.int .i64 0)]) ?_ 5 _ rfl; refine blk_put (cs := #[(.int .i64 e.f0.f0), (.int .i64 e.f0.f1), (.int .i64 e.f0.f2), (.int .i64 e.f1.f0), (.int .i64 0), (.int .i64 0)]) ?_ 4 _ rfl; refine blk_put (cs := #[(.int .i64 e.f0.f0), (.int .i64 e.f0.f1), (.int .i64 e.f0.f2), (.int .i64 0), (.int .i64 0), (.int .i64 0)]) ?_ 3 _ rfl; refine blk_put (cs := #[(.int .i64 e.f0.f0), (.int .i64 e.f0.f1), (.int .i64 0), (.int .i64 0), (.int .i64 0), (.int .i64 0)]) ?_ 2 _ rfl; refine blk_put (cs := #[(.int .i64 e.f0.f0), (.int .i64 0), (.int .i64 0), (.int .i64 0), (.int .i64 0), (.int .i64 0)]) ?_ 1 _ rfl; refine blk_put (cs := #[(.int .i64 0), (.int .i64 0), (.int .i64 0), (.int .i64 0), (.int .i64 0), (.int .i64 0)]) ?_ 0 _ rfl; exact BK.out)
      have n2_ := Aside0.mk (show Below wr.heap.size wr ((((((w7.setCell ⟨g9, 0, none⟩ (.int .i64 e.f0.f0)).setCell ⟨g9, 1, none⟩ (.int .i64 e.f0.f1)).setCell ⟨g9, 2, none⟩ (.int .i64 e.f0.f2)).setCell ⟨g9, 3, none⟩ (.int .i64 e.f1.f0)).setCell ⟨g9, 4, none⟩ (.int .i64 e.f1.f1)).setCell ⟨g9, 5, none⟩ (.int .i64 e.f1.f2)) from (below_set (below_set (below_set (below_set (below_set (below_set HBX.out (Nat.le_of_eq HGX.out.symm)) (Nat.le_of_eq HGX.out.symm)) (Nat.le_of_eq HGX.out.symm)) (Nat.le_of_eq HGX.out.symm)) (Nat.le_of_eq HGX.out.symm)) (Nat.le_of_eq HGX.out.symm)))
      clear d0_ d1_ d2_ d3_ d4_ d5_ f0_ f1_ f2_ f3_ f4_ f5_ q0 q1 q2 q3 q4 q5 BK HBX
      have BK := n1_
      have HBX := n2_
      clear n1_ n2_
      generalize ((((((w7.setCell ⟨g9, 0, none⟩ (.int .i64 e.f0.f0)).setCell ⟨g9, 1, none⟩ (.int .i64 e.f0.f1)).setCell ⟨g9, 2, none⟩ (.int .i64 e.f0.f2)).setCell ⟨g9, 3, none⟩ (.int .i64 e.f1.f0)).setCell ⟨g9, 4, none⟩ (.int .i64 e.f1.f1)).setCell ⟨g9, 5, none⟩ (.int .i64 e.f1.f2)) = w8 at BK HBX ⊢
      cases b with
      | true =>
        go_wp2_with fail
        go_big_region_o
        all_goals go_wp2
        go_roundg (es.length - (j + 1))
        case measure => omega
        case rel =>
          have c_ : true = (es.take (j + 1)).any (fun e => decide (e.f0 ∈ deps false es e.f0)) := by rw [HJ.out, List.any_append, ← HCY.out]; rfl
          refine ⟨j + 1, true, ?_, rfl, by omega, Nat.le_refl _, ⟨c_⟩, ⟨Below.trans_below HBL.out HBL.out.size (below_drew HBX.out)⟩⟩
          first | rfl | go_num
      | false =>
        go_wp2_with fail
        · skip
          refine start_ (n := 11) (S := fun w' => w'.cell? ⟨g9, 0, none⟩ = some (.int .i64 e.f0.f0) ∧ w'.cell? ⟨g9, 1, none⟩ = some (.int .i64 e.f0.f1) ∧ w'.cell? ⟨g9, 2, none⟩ = some (.int .i64 e.f0.f2)) (ds := []) #[false, false, false, false, false, false, false, false, false, false, false] (by kernel_rfl) rfl rfl ⟨(blk_cell (blk_drew BK.out) 0).trans rfl, (blk_cell (blk_drew BK.out) 1).trans rfl, (blk_cell (blk_drew BK.out) 2).trans rfl⟩ (fun hHeld => ?_)
          have n1_ := Aside0.mk (blk_drew BK.out)
          have n2_ := Aside0.mk (below_drew HBX.out)
          clear BK HBX
          have BK := n1_
          have HBX := n2_
          clear n1_ n2_
          generalize w8.drew = w9 at BK HBX hHeld ⊢
          refine pure_ (i := 0) (N := some 39) (v := ?_) (a' := ?_) #[true, false, false, false, false, false, false, false, false, false, false] rfl rfl (by kernel_rfl) (fun _ _ _ h => h) (Or.inl ⟨by rfl, ?_⟩) ?_ ?_
          rotate_left
          · intro w'
            go_simp
            with_reducible rfl
          rotate_left
          · simp only [Act.put, List.setIfInBounds_toArray, List.set_cons_zero, List.set_cons_succ, i64_w, i32_w]
            rfl
          refine pure_ (i := 1) (N := some 40) (v := ?_) (a' := ?_) #[true, true, false, false, false, false, false, false, false, false, false] rfl rfl (by kernel_rfl) (fun _ _ _ h => h) (Or.inl ⟨by rfl, ?_⟩) ?_ ?_
          rotate_left
          · intro w'
            go_simp
            with_reducible rfl
          rotate_left
          · simp only [Act.put, List.setIfInBounds_toArray, List.set_cons_zero, List.set_cons_succ, i64_w, i32_w]
            rfl
          refine pure_ (i := 2) (N := some 41) (v := ?_) (a' := ?_) #[true, true, true, false, false, false, false, false, false, false, false] rfl rfl (by kernel_rfl) (fun _ _ _ h => h) (Or.inl ⟨by rfl, ?_⟩) ?_ ?_
          rotate_left
          · intro w'
            go_simp
            with_reducible rfl
          rotate_left
          · simp only [Act.put, List.setIfInBounds_toArray, List.set_cons_zero, List.set_cons_succ, i64_w, i32_w]
            rfl
          refine pure_ (i := 3) (N := some 42) (v := ?_) (a' := ?_) #[true, true, true, true, false, false, false, false, false, false, false] rfl rfl (by kernel_rfl) (fun _ _ _ h => h) (Or.inl ⟨by rfl, ?_⟩) ?_ ?_
          rotate_left
          · intro w'
            go_simp
            with_reducible rfl
          rotate_left
          · simp only [Act.put, List.setIfInBounds_toArray, List.set_cons_zero, List.set_cons_succ, i64_w, i32_w]
            rfl
          refine take_ (i := 4) (N := some 43) (v := ?_) (a' := ?_) #[true, true, true, true, true, false, false, false, false, false, false] rfl rfl (by kernel_rfl) (fun _ _ _ h => h) (Or.inl ⟨by rfl, ?_⟩) hHeld ?_ ?_
          rotate_left
          · rintro w' ⟨s0, s1, s2⟩
            go_simp
            with_reducible rfl
          rotate_left
          · simp only [Act.put, List.setIfInBounds_toArray, List.set_cons_zero, List.set_cons_succ, i64_w, i32_w]
            rfl
          refine pure_ (i := 6) (N := some 45) (v := ?_) (a' := ?_) #[true, true, true, true, true, false, true, false, false, false, false] rfl rfl (by kernel_rfl) (fun _ _ _ h => h) (Or.inl ⟨by rfl, ?_⟩) ?_ ?_
          rotate_left
          · intro w'
            go_simp
            with_reducible rfl
          rotate_left
          · simp only [Act.put, List.setIfInBounds_toArray, List.set_cons_zero, List.set_cons_succ, i64_w, i32_w]
            rfl
          refine take_ (i := 7) (N := some 46) (v := ?_) (a' := ?_) #[true, true, true, true, true, false, true, true, false, false, false] rfl rfl (by kernel_rfl) (fun _ _ _ h => h) (Or.inl ⟨by rfl, ?_⟩) hHeld ?_ ?_
          rotate_left
          · rintro w' ⟨s0, s1, s2⟩
            go_simp
            with_reducible rfl
          rotate_left
          · simp only [Act.put, List.setIfInBounds_toArray, List.set_cons_zero, List.set_cons_succ, i64_w, i32_w]
            rfl
          refine one_ (i := 5) (N := some 44) #[true, true, true, true, true, true, true, true, false, false, false] rfl rfl (by kernel_rfl) (by decide) (fun K hK => ?_)
          refine goes_ Try.func7 (by kernel_rfl) rfl #[.slice (some ad) es.length c0, .agg #[.int .i64 e.f0.f0, .int .i64 e.f0.f1, .int .i64 e.f0.f2]] (by rfl) rfl rfl (by (try simp only [List.map_toArray, List.map_cons, List.map_nil]); first | done | rfl) ?_
          have hBW := Below.trans_below HBL.out HBL.out.size HBX.out
          refine (depgraph_Dependencies.calls (some ad) c0 es e.f0.f0 e.f0.f1 e.f0.f2 (deps false es e.f0) w9 (Kd.C_below HE3.out hBW) HEL.out (deps_f es e.f0 ⟨by have := HEN.out; omega, HOK.out.2, (HOK.out.2 e HEM.out).1⟩)).mono ?_
          clear hBW
          rintro e_ wa ⟨vd, rfl, hv, hb⟩
          obtain ⟨Ad, cd, rfl⟩ := Kd.R_slice hv
          refine ⟨_, rfl, ?_⟩
          have HD := Aside0.mk (show (deps false es e.f0).length ≤ cd ∧ Kd.C k24 wa Ad (deps false es e.f0).length (deps false es e.f0) from ⟨(Kd.R_reads' hv).2.1, (Kd.R_reads' hv).2.2⟩)
          clear hv
          have n1_ := Aside0.mk (blk_below BK.out hb)
          have n2_ := Aside0.mk (Below.trans_below HBX.out HBX.out.size hb)
          clear BK HBX hb
          have BK := n1_
          have HBX := n2_
          clear n1_ n2_
          refine hK.out _ _ ⟨(blk_cell BK.out 0).trans rfl, (blk_cell BK.out 1).trans rfl, (blk_cell BK.out 2).trans rfl⟩ (fun hHeld => ?_)
          clear hK K
          refine norm_ (a' := ?_) ?_ ?_
          rotate_left
          · show Act.put _ (some 44) _ = _
            simp only [Act.put, List.setIfInBounds_toArray, List.set_cons_zero, List.set_cons_succ, i64_w, i32_w]
            rfl
          refine one_ (i := 8) (N := some 47) #[true, true, true, true, true, true, true, true, true, false, false] rfl rfl (by kernel_rfl) (by decide) (fun K hK => ?_)
          refine goes_ Try.func8 (by kernel_rfl) rfl #[.slice Ad (deps false es e.f0).length cd, .agg #[.int .i64 e.f0.f0, .int .i64 e.f0.f1, .int .i64 e.f0.f2]] (by rfl) rfl rfl (by (try simp only [List.map_toArray, List.map_cons, List.map_nil]); first | done | rfl) ?_
          refine (api_QKey_8.calls ((deps false es e.f0).length + 1) Ad cd (deps false es e.f0) e.f0.f0 e.f0.f1 e.f0.f2 _ wa HD.out.2 HD.out.1 (contains_spec _ e.f0 (by have := deps_len false es e.f0; have := HEN.out; omega) _ (Nat.lt_succ_self _))).mono ?_
          rintro e_ wb ⟨rfl, hb⟩
          refine ⟨_, rfl, ?_⟩
          have n1_ := Aside0.mk (blk_below BK.out hb)
          have n2_ := Aside0.mk (Below.trans_below HBX.out HBX.out.size hb)
          clear BK HBX hb
          have BK := n1_
          have HBX := n2_
          clear n1_ n2_
          refine hK.out _ _ ⟨(blk_cell BK.out 0).trans rfl, (blk_cell BK.out 1).trans rfl, (blk_cell BK.out 2).trans rfl⟩ (fun hHeld => ?_)
          clear hK K
          refine norm_ (a' := ?_) ?_ ?_
          rotate_left
          · show Act.put _ (some 47) _ = _
            simp only [Act.put, List.setIfInBounds_toArray, List.set_cons_zero, List.set_cons_succ, i64_w, i32_w]
            rfl
          refine pure_ (i := 9) (N := some 48) (v := ?_) (a' := ?_) #[true, true, true, true, true, true, true, true, true, true, false] rfl rfl (by kernel_rfl) (fun _ _ _ h => h) (Or.inl ⟨by rfl, ?_⟩) ?_ ?_
          rotate_left
          · intro w'
            go_simp
            with_reducible rfl
          rotate_left
          · simp only [Act.put, List.setIfInBounds_toArray, List.set_cons_zero, List.set_cons_succ, i64_w, i32_w]
            rfl
          refine pure_ (i := 10) (N := some 7) (v := ?_) (a' := ?_) #[true, true, true, true, true, true, true, true, true, true, true] rfl rfl (by kernel_rfl) (fun _ _ _ h => h) (Or.inl ⟨by rfl, ?_⟩) ?_ ?_
          rotate_left
          · intro w'
            go_simp
            with_reducible rfl
          rotate_left
          · simp only [Act.put, List.setIfInBounds_toArray, List.set_cons_zero, List.set_cons_succ, i64_w, i32_w]
            rfl
          refine done_ (by kernel_rfl) ?_
          try clear hHeld
          go_wp2
          go_roundg (es.length - (j + 1))
          case measure => omega
          case rel =>
            have c_ : decide (e.f0 ∈ deps false es e.f0) = (es.take (j + 1)).any (fun e => decide (e.f0 ∈ deps false es e.f0)) := by rw [HJ.out, List.any_append, ← HCY.out]; simp
            refine ⟨j + 1, decide (e.f0 ∈ deps false es e.f0), ?_, rfl, by omega, Nat.le_refl _, ⟨c_⟩, ⟨Below.trans_below HBL.out HBL.out.size HBX.out⟩⟩
            first | rfl | go_num
    · obtain rfl : j = es.length := by omega
      have p1 : decide ((es.length : Int) < (es.length : Int)) = false := decide_eq_false (by omega)
      have hcy : b = cyc es := by have := HCY.out; rwa [List.take_length] at this
      have HBW := Aside0.mk (Below.trans_below HB3.out HB3.out.size HBL.out)
      cases b with
      | true =>
        have h1 := (topo_law es).1 hcy.symm
        clear hcy
        have ho : o2 = 8 := by rw [HOO.out.1.2, h1.1]
        have hq : q2 = 8 := by rw [HOO.out.2.2, h1.2]
        subst ho; subst hq
        clear h1
        go_wp2_with (first | (go_at_call 6; refine (glossatorkeep3_graphExample.calls 9 true _ (example_true 9 (by omega))).mono ?_; rintro e_ wz ⟨rfl, hb⟩; have HBZ := Aside0.mk hb; clear hb))
        go_ret
        exact ⟨rfl, Below.trans_below HBW.out HBW.out.size HBZ.out⟩
      | false =>
        obtain ⟨L, ls, g1, g2, g3, g4⟩ := (topo_law es).2 hcy.symm
        have ho1 : L = o1 := by rw [HOO.out.1.1, g1]
        have ho2 : o2 = 0 := by rw [HOO.out.1.2, g1]
        have hq1 : ls = q1 := by rw [HOO.out.2.1, g2]
        have hq2 : q2 = 0 := by rw [HOO.out.2.2, g2]
        subst ho1; subst ho2; subst hq1; subst hq2
        obtain ⟨Ao, co, rfl⟩ := Kd.R_slice HOR3.out
        obtain ⟨Av, cv, rfl⟩ := Kd.R_slice HLR.out
        have HTL := Aside0.mk g3
        have HTF := Aside0.mk g4
        have hkl : (gof false es).2.length ≤ 100 := by
          have h1 := gof_good false es es.length (Nat.le_refl _)
          rw [List.take_length] at h1
          have h2 := h1.klen
          have h3 := HEN.out
          omega
        have HLN := Aside0.mk (show L.length ≤ 100 ∧ ls.flatten.length ≤ 100 ∧ L.length = ls.flatten.length from ⟨by rw [g3.len]; exact hkl, by rw [g4.len]; exact hkl, by rw [g3.len, g4.len]⟩)
        have HOC4 := Aside0.mk (show L.length ≤ co ∧ Kd.C k24 wr Ao L.length L from ⟨(Kd.R_reads' HOR3.out).2.1, Kd.C_below (Kd.R_reads' HOR3.out).2.2 HBL.out⟩)
        have HLC := Aside0.mk (show Kd.C (Kd.slice 24 k24) wr Av ls.length ls from Kd.C_below (Kd.R_reads' HLR.out).2.2 HBL.out)
        have HE4 := Aside0.mk (Kd.C_below HE3.out HBL.out)
        have hlsl : ls.length ≤ 9223372036854775807 := HLC.out.2.1
        clear hcy g1 g2 g3 g4 hkl HOR3 HLR HCY HTO HLF HOO HOR
        go_wp2_with fail
        clear HBL HE3
        generalize wr = w4 at HBW HOC4 HLC HE4 ⊢
        go_loopg [10, 62] ls.length (fun kx s10 s62 wr => ∃ j : Nat, s62 = .int .i64 j ∧ j ≤ ls.length ∧ ls.length - j ≤ kx ∧ Aside0 (Kd.R k24 24 wr w4.heap.size (fun _ => True) s10 (ls.take j).flatten) ∧ Aside0 (Below w4.heap.size w4 wr))
        case atStart => exact ⟨0, rfl, Nat.zero_le _, Nat.le_refl _, ⟨by simpa using Kd.R_nil _ _ _ _ _⟩, ⟨Below.refl _ _⟩⟩
        case round =>
          obtain ⟨j, rfl, hjn, hjk, HF, HBL⟩ := hrel
          obtain ⟨A10, c10, rfl⟩ := Kd.R_slice HF.out
          by_cases hlt : j < ls.length
          · obtain ⟨ad, Al, cl, e_, q0, hcl, hCl⟩ := at_L4 (Kd.C_below HLC.out HBL.out) (j : Int) (by omega) (by omega)
            subst e_
            rw [Int.toNat_natCast, rdL_at ls j hlt] at q0
            rw [rdL_at ls j hlt] at hcl hCl
            have HLJ := Aside0.mk hCl
            have HCLL := Aside0.mk hcl
            have HTK := Aside0.mk (show (ls.take (j + 1)).flatten = (ls.take j).flatten ++ ls[j] from by rw [List.take_succ_eq_append_getElem hlt, List.flatten_append]; simp)
            have HFL := Aside0.mk (show (ls.take j).flatten.length + ls[j].length ≤ 100 from by
              have h1 : ls.flatten = (ls.take (j + 1)).flatten ++ (ls.drop (j + 1)).flatten := by rw [← List.flatten_append, List.take_append_drop]
              have h2 := congrArg List.length h1
              rw [List.length_append, HTK.out, List.length_append] at h2
              have h3 := HLN.out.2.1
              omega)
            clear hCl hcl
            have p0 : (0 : Int) ≤ (j : Int) := by omega
            have p1 : (j : Int) < (ls.length : Int) := by omega
            go_wp2_with (first | (at_builtin; (refine Kd.R_append_rows k24 (w0 := w4) w4.heap.size rfl (.tmp 66) (.tmp 67) 26 24 (.agg #[.int .i64 0, .int .i64 0, .int .i64 0]) 24 rfl Try.underlying26 (by kernel_rfl) rfl (by decide) (by omega) (.slice A10 ((ls.take j).flatten).length c10) (ls.take j).flatten ls[j] _ _ _ (fun _ => True) (fun _ => False) rfl rfl HF.out HLJ.out (fun _ _ h => by obtain rfl := k24_open h; exact k24_mkM _ _ _ _) (fun _ h => h.elim) (fun _ _ => trivial) HBL.out HBL.out.size (by have := HFL.out; omega) ?_; rintro v1 w5 hv hb _ _; have HV := Aside0.mk hv; have HBF := Aside0.mk hb; clear hv hb)))
            go_roundg (ls.length - (j + 1))
            case measure => omega
            case rel =>
              refine ⟨j + 1, ?_, by omega, Nat.le_refl _, ⟨by rw [HTK.out]; exact HV.out⟩, HBF⟩
              first | rfl | go_num
          · obtain rfl : j = ls.length := by omega
            have p1 : decide ((ls.length : Int) < (ls.length : Int)) = false := decide_eq_false (by omega)
            have hfl : (ls.take ls.length).flatten = ls.flatten := by rw [List.take_length]
            rw [hfl] at HF ⊢
            clear hfl
            have HBW5 := Aside0.mk (Below.trans_below HBW.out HBW.out.size HBL.out)
            have HE3 := Aside0.mk (Kd.C_below HE4.out HBL.out)
            have HOC := Aside0.mk (show L.length ≤ co ∧ Kd.C k24 wr Ao L.length L from ⟨HOC4.out.1, Kd.C_below HOC4.out.2 HBL.out⟩)
            have HFC := Aside0.mk (show ls.flatten.length ≤ c10 ∧ Kd.C k24 wr A10 ls.flatten.length ls.flatten from ⟨(Kd.R_reads' HF.out).2.1, (Kd.R_reads' HF.out).2.2⟩)
            clear HE4 HOC4 HBW HF
            generalize ls.flatten = fl at HTF HLN HFC ⊢
            generalize A10 = Af at HFC ⊢
            generalize c10 = cf at HFC ⊢
            clear HLC hlsl
            go_wp2_with fail
            clear HBL
            generalize wr = w5 at HBW5 HE3 HOC HFC ⊢
            go_loopg [72] es.length (fun kx s72 wr => ∃ j : Nat, s72 = .int .i64 j ∧ j ≤ es.length ∧ es.length - j ≤ kx ∧ Aside0 (Below w5.heap.size w5 wr))
            case atStart => exact ⟨0, rfl, Nat.zero_le _, Nat.le_refl _, ⟨Below.refl _ _⟩⟩
            case round =>
              obtain ⟨j, rfl, hjn, hjk, HBL⟩ := hrel
              by_cases hlt : j < es.length
              · skip
                obtain ⟨ad, e_, q0, q1, q2, q3, q4, q5⟩ := at_T37 (Kd.C_below HE3.out HBL.out) (j : Int) (by omega) (by omega)
                subst e_
                rw [Int.toNat_natCast, rd37_at es j hlt] at q0 q1 q2 q3 q4 q5
                obtain ⟨e, hee⟩ : ∃ e, e = es[j] := ⟨_, rfl⟩
                rw [← hee] at q0 q1 q2 q3 q4 q5
                have HEM := Aside0.mk (show e ∈ es from hee ▸ List.getElem_mem hlt)
                have HJ := Aside0.mk (show es.take (j + 1) = es.take j ++ [e] from by rw [hee]; exact List.take_succ_eq_append_getElem hlt)
                clear hee
                have p0 : (0 : Int) ≤ (j : Int) := by omega
                have p2 : (j : Int) < (es.length : Int) := by omega
                have hll : es.length ≤ 50 := HEN.out
                obtain ⟨i, i2, hi, hi2, he1, he2⟩ := HTL.out.edge (by have := HLN.out.1; omega) e HEM.out 1000 (by have := HLN.out.1; omega)
                obtain ⟨u, u2, hu, hu2, he3, he4⟩ := HTF.out.edge (by have := HLN.out.2.1; omega) e HEM.out 1000 (by have := HLN.out.2.1; omega)
                have HI := Aside0.mk (And.intro he1 (And.intro he2 (And.intro he3 he4)))
                clear he1 he2 he3 he4
                have z1 : ((i : Int) < 0) = False := eq_false (by omega)
                have z2 : ((i2 : Int) ≤ (i : Int)) = False := eq_false (by omega)
                have z3 : ((u : Int) < 0) = False := eq_false (by omega)
                have z4 : ((u2 : Int) ≤ (u : Int)) = False := eq_false (by omega)
                go_wp2_with (first | ((with_reducible refine gate_dst (N := 14) rfl ?_); refine box_event ?hg (N := 14) ?hd (cs := #[.int .i64 0, .int .i64 0, .int .i64 0, .int .i64 0, .int .i64 0, .int .i64 0]) (t := 37) ?hr ?_; (case hd => rfl); (case hg => rfl); (case hr => first | (go_simp; done) | (go_simp; rfl)); intro g14 hg14 w7 hbox hb3; have d0_ : w7.cell? ⟨g14, 0, none⟩ = some (.int .i64 0) := (blk_cell hbox 0).trans rfl; have d1_ : w7.cell? ⟨g14, 1, none⟩ = some (.int .i64 0) := (blk_cell hbox 1).trans rfl; have d2_ : w7.cell? ⟨g14, 2, none⟩ = some (.int .i64 0) := (blk_cell hbox 2).trans rfl; have d3_ : w7.cell? ⟨g14, 3, none⟩ = some (.int .i64 0) := (blk_cell hbox 3).trans rfl; have d4_ : w7.cell? ⟨g14, 4, none⟩ = some (.int .i64 0) := (blk_cell hbox 4).trans rfl; have d5_ : w7.cell? ⟨g14, 5, none⟩ = some (.int .i64 0) := (blk_cell hbox 5).trans rfl; have f0_ := blk_frozen hbox 0; have f1_ := blk_frozen hbox 1; have f2_ := blk_frozen hbox 2; have f3_ := blk_frozen hbox 3; have f4_ := blk_frozen hbox 4; have f5_ := blk_frozen hbox 5; have BK := Aside0.mk hbox; have HBX := Aside0.mk hb3; have HGX := Aside0.mk hg14; clear hbox hb3 hg14))
                have n1_ := Aside0.mk (show ((((((w7.setCell ⟨g14, 0, none⟩ (.int .i64 e.f0.f0)).setCell ⟨g14, 1, none⟩ (.int .i64 e.f0.f1)).setCell ⟨g14, 2, none⟩ (.int .i64 e.f0.f2)).setCell ⟨g14, 3, none⟩ (.int .i64 e.f1.f0)).setCell ⟨g14, 4, none⟩ (.int .i64 e.f1.f1)).setCell ⟨g14, 5, none⟩ (.int .i64 e.f1.f2)).heap[g14]? = some (.cells #[.int .i64 e.f0.f0, .int .i64 e.f0.f1, .int .i64 e.f0.f2, .int .i64 e.f1.f0, .int .i64 e.f1.f1, .int .i64 e.f1.f2] 37 (0, 0)) from by refine blk_put (cs := #[(.int .i64 e.f0.f0), (.int .i64 e.f0.f1), (.int .i64 e.f0.f2), (.int .i64 e.f1.f0), (.int .i64 e.f1.f1), (.int .i64 0)]) ?_ 5 _ rfl; refine blk_put (cs := #[(.int .i64 e.f0.f0), (.int .i64 e.f0.f1), (.int .i64 e.f0.f2), (.int .i64 e.f1.f0), (.int .i64 0), (.int .i64 0)]) ?_ 4 _ rfl; refine blk_put (cs := #[(.int .i64 e.f0.f0), (.int .i64 e.f0.f1), (.int .i64 e.f0.f2), (.int .i64 0), (.int .i64 0), (.int .i64 0)]) ?_ 3 _ rfl; refine blk_put (cs := #[(.int .i64 e.f0.f0), (.int .i64 e.f0.f1), (.int .i64 0), (.int .i64 0), (.int .i64 0), (.int .i64 0)]) ?_ 2 _ rfl; refine blk_put (cs := #[(.int .i64 e.f0.f0), (.int .i64 0), (.int .i64 0), (.int .i64 0), (.int .i64 0), (.int .i64 0)]) ?_ 1 _ rfl; refine blk_put (cs := #[(.int .i64 0), (.int .i64 0), (.int .i64 0), (.int .i64 0), (.int .i64 0), (.int .i64 0)]) ?_ 0 _ rfl; exact BK.out)
                have n2_ := Aside0.mk (show Below wr.heap.size wr ((((((w7.setCell ⟨g14, 0, none⟩ (.int .i64 e.f0.f0)).setCell ⟨g14, 1, none⟩ (.int .i64 e.f0.f1)).setCell ⟨g14, 2, none⟩ (.int .i64 e.f0.f2)).setCell ⟨g14, 3, none⟩ (.int .i64 e.f1.f0)).setCell ⟨g14, 4, none⟩ (.int .i64 e.f1.f1)).setCell ⟨g14, 5, none⟩ (.int .i64 e.f1.f2)) from (below_set (below_set (below_set (below_set (below_set (below_set HBX.out (Nat.le_of_eq HGX.out.symm)) (Nat.le_of_eq HGX.out.symm)) (Nat.le_of_eq HGX.out.symm)) (Nat.le_of_eq HGX.out.symm)) (Nat.le_of_eq HGX.out.symm)) (Nat.le_of_eq HGX.out.symm)))
                clear d0_ d1_ d2_ d3_ d4_ d5_ f0_ f1_ f2_ f3_ f4_ f5_ q0 q1 q2 q3 q4 q5 BK HBX
                have BK := n1_
                have HBX := n2_
                clear n1_ n2_
                generalize ((((((w7.setCell ⟨g14, 0, none⟩ (.int .i64 e.f0.f0)).setCell ⟨g14, 1, none⟩ (.int .i64 e.f0.f1)).setCell ⟨g14, 2, none⟩ (.int .i64 e.f0.f2)).setCell ⟨g14, 3, none⟩ (.int .i64 e.f1.f0)).setCell ⟨g14, 4, none⟩ (.int .i64 e.f1.f1)).setCell ⟨g14, 5, none⟩ (.int .i64 e.f1.f2)) = w8 at BK HBX ⊢
                go_wp2_with fail
                refine start_ (n := 34) (S := fun w' => w'.cell? ⟨g14, 0, none⟩ = some (.int .i64 e.f0.f0) ∧ w'.cell? ⟨g14, 1, none⟩ = some (.int .i64 e.f0.f1) ∧ w'.cell? ⟨g14, 2, none⟩ = some (.int .i64 e.f0.f2) ∧ w'.cell? ⟨g14, 3, none⟩ = some (.int .i64 e.f1.f0) ∧ w'.cell? ⟨g14, 4, none⟩ = some (.int .i64 e.f1.f1) ∧ w'.cell? ⟨g14, 5, none⟩ = some (.int .i64 e.f1.f2)) (ds := []) #[false, false, false, false, false, false, false, false, false, false, false, false, false, false, false, false, false, false, false, false, false, false, false, false, false, false, false, false, false, false, false, false, false, false] (by kernel_rfl) rfl rfl ⟨(blk_cell (blk_drew BK.out) 0).trans rfl, (blk_cell (blk_drew BK.out) 1).trans rfl, (blk_cell (blk_drew BK.out) 2).trans rfl, (blk_cell (blk_drew BK.out) 3).trans rfl, (blk_cell (blk_drew BK.out) 4).trans rfl, (blk_cell (blk_drew BK.out) 5).trans rfl⟩ (fun hHeld => ?_)
                have n1_ := Aside0.mk (blk_drew BK.out)
                have n2_ := Aside0.mk (below_drew HBX.out)
                clear BK HBX
                have BK := n1_
                have HBX := n2_
                clear n1_ n2_
                generalize w8.drew = w9 at BK HBX hHeld ⊢
                refine pure_ (i := 0) (N := some 76) (v := ?_) (a' := ?_) #[true, false, false, false, false, false, false, false, false, false, false, false, false, false, false, false, false, false, false, false, false, false, false, false, false, false, false, false, false, false, false, false, false, false] rfl rfl (by kernel_rfl) (fun _ _ _ h => h) (Or.inl ⟨by rfl, ?_⟩) ?_ ?_
                rotate_left
                · intro w'
                  go_simp
                  with_reducible rfl
                rotate_left
                · simp only [Act.put, List.setIfInBounds_toArray, List.set_cons_zero, List.set_cons_succ, i64_w, i32_w]
                  rfl
                refine pure_ (i := 1) (N := some 77) (v := ?_) (a' := ?_) #[true, true, false, false, false, false, false, false, false, false, false, false, false, false, false, false, false, false, false, false, false, false, false, false, false, false, false, false, false, false, false, false, false, false] rfl rfl (by kernel_rfl) (fun _ _ _ h => h) (Or.inl ⟨by rfl, ?_⟩) ?_ ?_
                rotate_left
                · intro w'
                  go_simp
                  with_reducible rfl
                rotate_left
                · simp only [Act.put, List.setIfInBounds_toArray, List.set_cons_zero, List.set_cons_succ, i64_w, i32_w]
                  rfl
                refine take_ (i := 2) (N := some 78) (v := ?_) (a' := ?_) #[true, true, true, false, false, false, false, false, false, false, false, false, false, false, false, false, false, false, false, false, false, false, false, false, false, false, false, false, false, false, false, false, false, false] rfl rfl (by kernel_rfl) (fun _ _ _ h => h) (Or.inl ⟨by rfl, ?_⟩) hHeld ?_ ?_
                rotate_left
                · rintro w' ⟨s0, s1, s2, s3, s4, s5⟩
                  go_simp
                  with_reducible rfl
                rotate_left
                · simp only [Act.put, List.setIfInBounds_toArray, List.set_cons_zero, List.set_cons_succ, i64_w, i32_w]
                  rfl
                refine one_ (i := 3) (N := some 79) #[true, true, true, true, false, false, false, false, false, false, false, false, false, false, false, false, false, false, false, false, false, false, false, false, false, false, false, false, false, false, false, false, false, false] rfl rfl (by kernel_rfl) (by decide) (fun K hK => ?_)
                refine goes_ Try.func12 (by kernel_rfl) rfl #[(.slice Ao L.length co), .agg #[.int .i64 e.f1.f0, .int .i64 e.f1.f1, .int .i64 e.f1.f2]] (by rfl) rfl rfl (by (try simp only [List.map_toArray, List.map_cons, List.map_nil]); first | done | rfl) ?_
                refine (api_QKey_12.calls 1000 _ _ L e.f1.f0 e.f1.f1 e.f1.f2 _ w9 (Kd.C_below HOC.out.2 (Below.trans_below HBL.out HBL.out.size HBX.out)) HOC.out.1 HI.out.1).mono ?_
                rintro e_ wa ⟨rfl, hb⟩
                refine ⟨_, rfl, ?_⟩
                have n1_ := Aside0.mk (blk_below BK.out hb)
                have n2_ := Aside0.mk (Below.trans_below HBX.out HBX.out.size hb)
                clear BK HBX hb
                have BK := n1_
                have HBX := n2_
                clear n1_ n2_
                refine hK.out _ _ ⟨(blk_cell BK.out 0).trans rfl, (blk_cell BK.out 1).trans rfl, (blk_cell BK.out 2).trans rfl, (blk_cell BK.out 3).trans rfl, (blk_cell BK.out 4).trans rfl, (blk_cell BK.out 5).trans rfl⟩ (fun hHeld => ?_)
                clear hK K
                refine norm_ (a' := ?_) ?_ ?_
                rotate_left
                · show Act.put _ (some 79) _ = _
                  simp only [Act.put, List.setIfInBounds_toArray, List.set_cons_zero, List.set_cons_succ, i64_w, i32_w]
                  rfl
                refine pure_ (i := 4) (N := some 80) (v := ?_) (a' := ?_) #[true, true, true, true, true, false, false, false, false, false, false, false, false, false, false, false, false, false, false, false, false, false, false, false, false, false, false, false, false, false, false, false, false, false] rfl rfl (by kernel_rfl) (fun _ _ _ h => h) (Or.inl ⟨by rfl, ?_⟩) ?_ ?_
                rotate_left
                · intro w'
                  go_simp
                  with_reducible rfl
                rotate_left
                · simp only [Act.put, List.setIfInBounds_toArray, List.set_cons_zero, List.set_cons_succ, i64_w, i32_w]
                  rfl
                refine pure_ (i := 5) (N := some 81) (v := ?_) (a' := ?_) #[true, true, true, true, true, true, false, false, false, false, false, false, false, false, false, false, false, false, false, false, false, false, false, false, false, false, false, false, false, false, false, false, false, false] rfl rfl (by kernel_rfl) (fun _ _ _ h => h) (Or.inl ⟨by rfl, ?_⟩) ?_ ?_
                rotate_left
                · intro w'
                  go_simp
                  with_reducible rfl
                rotate_left
                · simp only [Act.put, List.setIfInBounds_toArray, List.set_cons_zero, List.set_cons_succ, i64_w, i32_w]
                  rfl
                refine pure_ (i := 6) (N := some 82) (v := ?_) (a' := ?_) #[true, true, true, true, true, true, true, false, false, false, false, false, false, false, false, false, false, false, false, false, false, false, false, false, false, false, false, false, false, false, false, false, false, false] rfl rfl (by kernel_rfl) (fun _ _ _ h => h) (Or.inl ⟨by rfl, ?_⟩) ?_ ?_
                rotate_left
                · intro w'
                  go_simp
                  with_reducible rfl
                rotate_left
                · simp only [Act.put, List.setIfInBounds_toArray, List.set_cons_zero, List.set_cons_succ, i64_w, i32_w]
                  rfl
                refine pure_ (i := 7) (N := some 83) (v := ?_) (a' := ?_) #[true, true, true, true, true, true, true, true, false, false, false, false, false, false, false, false, false, false, false, false, false, false, false, false, false, false, false, false, false, false, false, false, false, false] rfl rfl (by kernel_rfl) (fun _ _ _ h => h) (Or.inl ⟨by rfl, ?_⟩) ?_ ?_
                rotate_left
                · intro w'
                  go_simp
                  with_reducible rfl
                rotate_left
                · simp only [Act.put, List.setIfInBounds_toArray, List.set_cons_zero, List.set_cons_succ, i64_w, i32_w]
                  rfl
                refine take_ (i := 8) (N := some 84) (v := ?_) (a' := ?_) #[true, true, true, true, true, true, true, true, true, false, false, false, false, false, false, false, false, false, false, false, false, false, false, false, false, false, false, false, false, false, false, false, false, false] rfl rfl (by kernel_rfl) (fun _ _ _ h => h) (Or.inl ⟨by rfl, ?_⟩) hHeld ?_ ?_
                rotate_left
                · rintro w' ⟨s0, s1, s2, s3, s4, s5⟩
                  go_simp
                  with_reducible rfl
                rotate_left
                · simp only [Act.put, List.setIfInBounds_toArray, List.set_cons_zero, List.set_cons_succ, i64_w, i32_w]
                  rfl
                refine pure_ (i := 10) (N := some 86) (v := ?_) (a' := ?_) #[true, true, true, true, true, true, true, true, true, false, true, false, false, false, false, false, false, false, false, false, false, false, false, false, false, false, false, false, false, false, false, false, false, false] rfl rfl (by kernel_rfl) (fun _ _ _ h => h) (Or.inl ⟨by rfl, ?_⟩) ?_ ?_
                rotate_left
                · intro w'
                  go_simp
                  with_reducible rfl
                rotate_left
                · simp only [Act.put, List.setIfInBounds_toArray, List.set_cons_zero, List.set_cons_succ, i64_w, i32_w]
                  rfl
                refine pure_ (i := 11) (N := some 87) (v := ?_) (a' := ?_) #[true, true, true, true, true, true, true, true, true, false, true, true, false, false, false, false, false, false, false, false, false, false, false, false, false, false, false, false, false, false, false, false, false, false] rfl rfl (by kernel_rfl) (fun _ _ _ h => h) (Or.inl ⟨by rfl, ?_⟩) ?_ ?_
                rotate_left
                · intro w'
                  go_simp
                  with_reducible rfl
                rotate_left
                · simp only [Act.put, List.setIfInBounds_toArray, List.set_cons_zero, List.set_cons_succ, i64_w, i32_w]
                  rfl
                refine take_ (i := 12) (N := some 88) (v := ?_) (a' := ?_) #[true, true, true, true, true, true, true, true, true, false, true, true, true, false, false, false, false, false, false, false, false, false, false, false, false, false, false, false, false, false, false, false, false, false] rfl rfl (by kernel_rfl) (fun _ _ _ h => h) (Or.inl ⟨by rfl, ?_⟩) hHeld ?_ ?_
                rotate_left
                · rintro w' ⟨s0, s1, s2, s3, s4, s5⟩
                  go_simp
                  with_reducible rfl
                rotate_left
                · simp only [Act.put, List.setIfInBounds_toArray, List.set_cons_zero, List.set_cons_succ, i64_w, i32_w]
                  rfl
                refine one_ (i := 9) (N := some 85) #[true, true, true, true, true, true, true, true, true, true, true, true, true, false, false, false, false, false, false, false, false, false, false, false, false, false, false, false, false, false, false, false, false, false] rfl rfl (by kernel_rfl) (by decide) (fun K hK => ?_)
                refine goes_ Try.func12 (by kernel_rfl) rfl #[(.slice Ao L.length co), .agg #[.int .i64 e.f1.f0, .int .i64 e.f1.f1, .int .i64 e.f1.f2]] (by rfl) rfl rfl (by (try simp only [List.map_toArray, List.map_cons, List.map_nil]); first | done | rfl) ?_
                refine (api_QKey_12.calls 1000 _ _ L e.f1.f0 e.f1.f1 e.f1.f2 _ wa (Kd.C_below HOC.out.2 (Below.trans_below HBL.out HBL.out.size HBX.out)) HOC.out.1 HI.out.1).mono ?_
                rintro e_ wb ⟨rfl, hb⟩
                refine ⟨_, rfl, ?_⟩
                have n1_ := Aside0.mk (blk_below BK.out hb)
                have n2_ := Aside0.mk (Below.trans_below HBX.out HBX.out.size hb)
                clear BK HBX hb
                have BK := n1_
                have HBX := n2_
                clear n1_ n2_
                refine hK.out _ _ ⟨(blk_cell BK.out 0).trans rfl, (blk_cell BK.out 1).trans rfl, (blk_cell BK.out 2).trans rfl, (blk_cell BK.out 3).trans rfl, (blk_cell BK.out 4).trans rfl, (blk_cell BK.out 5).trans rfl⟩ (fun hHeld => ?_)
                clear hK K
                refine norm_ (a' := ?_) ?_ ?_
                rotate_left
                · show Act.put _ (some 85) _ = _
                  simp only [Act.put, List.setIfInBounds_toArray, List.set_cons_zero, List.set_cons_succ, i64_w, i32_w]
                  rfl
                refine one_ (i := 13) (N := some 89) #[true, true, true, true, true, true, true, true, true, true, true, true, true, true, false, false, false, false, false, false, false, false, false, false, false, false, false, false, false, false, false, false, false, false] rfl rfl (by kernel_rfl) (by decide) (fun K hK => ?_)
                refine goes_ Try.func12 (by kernel_rfl) rfl #[(.slice Ao L.length co), .agg #[.int .i64 e.f0.f0, .int .i64 e.f0.f1, .int .i64 e.f0.f2]] (by rfl) rfl rfl (by (try simp only [List.map_toArray, List.map_cons, List.map_nil]); first | done | rfl) ?_
                refine (api_QKey_12.calls 1000 _ _ L e.f0.f0 e.f0.f1 e.f0.f2 _ wb (Kd.C_below HOC.out.2 (Below.trans_below HBL.out HBL.out.size HBX.out)) HOC.out.1 HI.out.2.1).mono ?_
                rintro e_ wc ⟨rfl, hb⟩
                refine ⟨_, rfl, ?_⟩
                have n1_ := Aside0.mk (blk_below BK.out hb)
                have n2_ := Aside0.mk (Below.trans_below HBX.out HBX.out.size hb)
                clear BK HBX hb
                have BK := n1_
                have HBX := n2_
                clear n1_ n2_
                refine hK.out _ _ ⟨(blk_cell BK.out 0).trans rfl, (blk_cell BK.out 1).trans rfl, (blk_cell BK.out 2).trans rfl, (blk_cell BK.out 3).trans rfl, (blk_cell BK.out 4).trans rfl, (blk_cell BK.out 5).trans rfl⟩ (fun hHeld => ?_)
                clear hK K
                refine norm_ (a' := ?_) ?_ ?_
                rotate_left
                · show Act.put _ (some 89) _ = _
                  simp only [Act.put, List.setIfInBounds_toArray, List.set_cons_zero, List.set_cons_succ, i64_w, i32_w]
                  rfl
                refine pure_ (i := 14) (N := some 90) (v := ?_) (a' := ?_) #[true, true, true, true, true, true, true, true, true, true, true, true, true, true, true, false, false, false, false, false, false, false, false, false, false, false, false, false, false, false, false, false, false, false] rfl rfl (by kernel_rfl) (fun _ _ _ h => h) (Or.inl ⟨by rfl, ?_⟩) ?_ ?_
                rotate_left
                · intro w'
                  go_simp
                  with_reducible rfl
                rotate_left
                · simp only [Act.put, List.setIfInBounds_toArray, List.set_cons_zero, List.set_cons_succ, i64_w, i32_w]
                  rfl
                refine pure_ (i := 15) (N := some 91) (v := ?_) (a' := ?_) #[true, true, true, true, true, true, true, true, true, true, true, true, true, true, true, true, false, false, false, false, false, false, false, false, false, false, false, false, false, false, false, false, false, false] rfl rfl (by kernel_rfl) (fun _ _ _ h => h) (Or.inl ⟨by rfl, ?_⟩) ?_ ?_
                rotate_left
                · intro w'
                  go_simp
                  with_reducible rfl
                rotate_left
                · simp only [Act.put, List.setIfInBounds_toArray, List.set_cons_zero, List.set_cons_succ, i64_w, i32_w]
                  rfl
                refine pure_ (i := 16) (N := some 92) (v := ?_) (a' := ?_) #[true, true, true, true, true, true, true, true, true, true, true, true, true, true, true, true, true, false, false, false, false, false, false, false, false, false, false, false, false, false, false, false, false, false] rfl rfl (by kernel_rfl) (fun _ _ _ h => h) (Or.inl ⟨by rfl, ?_⟩) ?_ ?_
                rotate_left
                · intro w'
                  go_simp
                  with_reducible rfl
                rotate_left
                · simp only [Act.put, List.setIfInBounds_toArray, List.set_cons_zero, List.set_cons_succ, i64_w, i32_w]
                  rfl
                refine pure_ (i := 17) (N := some 93) (v := ?_) (a' := ?_) #[true, true, true, true, true, true, true, true, true, true, true, true, true, true, true, true, true, true, false, false, false, false, false, false, false, false, false, false, false, false, false, false, false, false] rfl rfl (by kernel_rfl) (fun _ _ _ h => h) (Or.inl ⟨by rfl, ?_⟩) ?_ ?_
                rotate_left
                · intro w'
                  go_simp
                  with_reducible rfl
                rotate_left
                · simp only [Act.put, List.setIfInBounds_toArray, List.set_cons_zero, List.set_cons_succ, i64_w, i32_w]
                  rfl
                refine pure_ (i := 18) (N := some 94) (v := ?_) (a' := ?_) #[true, true, true, true, true, true, true, true, true, true, true, true, true, true, true, true, true, true, true, false, false, false, false, false, false, false, false, false, false, false, false, false, false, false] rfl rfl (by kernel_rfl) (fun _ _ _ h => h) (Or.inl ⟨by rfl, ?_⟩) ?_ ?_
                rotate_left
                · intro w'
                  go_simp
                  with_reducible rfl
                rotate_left
                · simp only [Act.put, List.setIfInBounds_toArray, List.set_cons_zero, List.set_cons_succ, i64_w, i32_w]
                  rfl
                refine take_ (i := 19) (N := some 95) (v := ?_) (a' := ?_) #[true, true, true, true, true, true, true, true, true, true, true, true, true, true, true, true, true, true, true, true, false, false, false, false, false, false, false, false, false, false, false, false, false, false] rfl rfl (by kernel_rfl) (fun _ _ _ h => h) (Or.inl ⟨by rfl, ?_⟩) hHeld ?_ ?_
                rotate_left
                · rintro w' ⟨s0, s1, s2, s3, s4, s5⟩
                  go_simp
                  with_reducible rfl
                rotate_left
                · simp only [Act.put, List.setIfInBounds_toArray, List.set_cons_zero, List.set_cons_succ, i64_w, i32_w]
                  rfl
                refine one_ (i := 20) (N := some 96) #[true, true, true, true, true, true, true, true, true, true, true, true, true, true, true, true, true, true, true, true, true, false, false, false, false, false, false, false, false, false, false, false, false, false] rfl rfl (by kernel_rfl) (by decide) (fun K hK => ?_)
                refine goes_ Try.func12 (by kernel_rfl) rfl #[(.slice Af fl.length cf), .agg #[.int .i64 e.f1.f0, .int .i64 e.f1.f1, .int .i64 e.f1.f2]] (by rfl) rfl rfl (by (try simp only [List.map_toArray, List.map_cons, List.map_nil]); first | done | rfl) ?_
                refine (api_QKey_12.calls 1000 _ _ fl e.f1.f0 e.f1.f1 e.f1.f2 _ wc (Kd.C_below HFC.out.2 (Below.trans_below HBL.out HBL.out.size HBX.out)) HFC.out.1 HI.out.2.2.1).mono ?_
                rintro e_ wd ⟨rfl, hb⟩
                refine ⟨_, rfl, ?_⟩
                have n1_ := Aside0.mk (blk_below BK.out hb)
                have n2_ := Aside0.mk (Below.trans_below HBX.out HBX.out.size hb)
                clear BK HBX hb
                have BK := n1_
                have HBX := n2_
                clear n1_ n2_
                refine hK.out _ _ ⟨(blk_cell BK.out 0).trans rfl, (blk_cell BK.out 1).trans rfl, (blk_cell BK.out 2).trans rfl, (blk_cell BK.out 3).trans rfl, (blk_cell BK.out 4).trans rfl, (blk_cell BK.out 5).trans rfl⟩ (fun hHeld => ?_)
                clear hK K
                refine norm_ (a' := ?_) ?_ ?_
                rotate_left
                · show Act.put _ (some 96) _ = _
                  simp only [Act.put, List.setIfInBounds_toArray, List.set_cons_zero, List.set_cons_succ, i64_w, i32_w]
                  rfl
                refine pure_ (i := 21) (N := some 97) (v := ?_) (a' := ?_) #[true, true, true, true, true, true, true, true, true, true, true, true, true, true, true, true, true, true, true, true, true, true, false, false, false, false, false, false, false, false, false, false, false, false] rfl rfl (by kernel_rfl) (fun _ _ _ h => h) (Or.inl ⟨by rfl, ?_⟩) ?_ ?_
                rotate_left
                · intro w'
                  go_simp
                  with_reducible rfl
                rotate_left
                · simp only [Act.put, List.setIfInBounds_toArray, List.set_cons_zero, List.set_cons_succ, i64_w, i32_w]
                  rfl
                refine pure_ (i := 22) (N := some 98) (v := ?_) (a' := ?_) #[true, true, true, true, true, true, true, true, true, true, true, true, true, true, true, true, true, true, true, true, true, true, true, false, false, false, false, false, false, false, false, false, false, false] rfl rfl (by kernel_rfl) (fun _ _ _ h => h) (Or.inl ⟨by rfl, ?_⟩) ?_ ?_
                rotate_left
                · intro w'
                  go_simp
                  with_reducible rfl
                rotate_left
                · simp only [Act.put, List.setIfInBounds_toArray, List.set_cons_zero, List.set_cons_succ, i64_w, i32_w]
                  rfl
                refine pure_ (i := 23) (N := some 99) (v := ?_) (a' := ?_) #[true, true, true, true, true, true, true, true, true, true, true, true, true, true, true, true, true, true, true, true, true, true, true, true, false, false, false, false, false, false, false, false, false, false] rfl rfl (by kernel_rfl) (fun _ _ _ h => h) (Or.inl ⟨by rfl, ?_⟩) ?_ ?_
                rotate_left
                · intro w'
                  go_simp
                  with_reducible rfl
                rotate_left
                · simp only [Act.put, List.setIfInBounds_toArray, List.set_cons_zero, List.set_cons_succ, i64_w, i32_w]
                  rfl
                refine pure_ (i := 24) (N := some 100) (v := ?_) (a' := ?_) #[true, true, true, true, true, true, true, true, true, true, true, true, true, true, true, true, true, true, true, true, true, true, true, true, true, false, false, false, false, false, false, false, false, false] rfl rfl (by kernel_rfl) (fun _ _ _ h => h) (Or.inl ⟨by rfl, ?_⟩) ?_ ?_
                rotate_left
                · intro w'
                  go_simp
                  with_reducible rfl
                rotate_left
                · simp only [Act.put, List.setIfInBounds_toArray, List.set_cons_zero, List.set_cons_succ, i64_w, i32_w]
                  rfl
                refine pure_ (i := 25) (N := some 101) (v := ?_) (a' := ?_) #[true, true, true, true, true, true, true, true, true, true, true, true, true, true, true, true, true, true, true, true, true, true, true, true, true, true, false, false, false, false, false, false, false, false] rfl rfl (by kernel_rfl) (fun _ _ _ h => h) (Or.inl ⟨by rfl, ?_⟩) ?_ ?_
                rotate_left
                · intro w'
                  go_simp
                  with_reducible rfl
                rotate_left
                · simp only [Act.put, List.setIfInBounds_toArray, List.set_cons_zero, List.set_cons_succ, i64_w, i32_w]
                  rfl
                refine take_ (i := 26) (N := some 102) (v := ?_) (a' := ?_) #[true, true, true, true, true, true, true, true, true, true, true, true, true, true, true, true, true, true, true, true, true, true, true, true, true, true, true, false, false, false, false, false, false, false] rfl rfl (by kernel_rfl) (fun _ _ _ h => h) (Or.inl ⟨by rfl, ?_⟩) hHeld ?_ ?_
                rotate_left
                · rintro w' ⟨s0, s1, s2, s3, s4, s5⟩
                  go_simp
                  with_reducible rfl
                rotate_left
                · simp only [Act.put, List.setIfInBounds_toArray, List.set_cons_zero, List.set_cons_succ, i64_w, i32_w]
                  rfl
                refine pure_ (i := 28) (N := some 104) (v := ?_) (a' := ?_) #[true, true, true, true, true, true, true, true, true, true, true, true, true, true, true, true, true, true, true, true, true, true, true, true, true, true, true, false, true, false, false, false, false, false] rfl rfl (by kernel_rfl) (fun _ _ _ h => h) (Or.inl ⟨by rfl, ?_⟩) ?_ ?_
                rotate_left
                · intro w'
                  go_simp
                  with_reducible rfl
                rotate_left
                · simp only [Act.put, List.setIfInBounds_toArray, List.set_cons_zero, List.set_cons_succ, i64_w, i32_w]
                  rfl
                refine pure_ (i := 29) (N := some 105) (v := ?_) (a' := ?_) #[true, true, true, true, true, true, true, true, true, true, true, true, true, true, true, true, true, true, true, true, true, true, true, true, true, true, true, false, true, true, false, false, false, false] rfl rfl (by kernel_rfl) (fun _ _ _ h => h) (Or.inl ⟨by rfl, ?_⟩) ?_ ?_
                rotate_left
                · intro w'
                  go_simp
                  with_reducible rfl
                rotate_left
                · simp only [Act.put, List.setIfInBounds_toArray, List.set_cons_zero, List.set_cons_succ, i64_w, i32_w]
                  rfl
                refine take_ (i := 30) (N := some 106) (v := ?_) (a' := ?_) #[true, true, true, true, true, true, true, true, true, true, true, true, true, true, true, true, true, true, true, true, true, true, true, true, true, true, true, false, true, true, true, false, false, false] rfl rfl (by kernel_rfl) (fun _ _ _ h => h) (Or.inl ⟨by rfl, ?_⟩) hHeld ?_ ?_
                rotate_left
                · rintro w' ⟨s0, s1, s2, s3, s4, s5⟩
                  go_simp
                  with_reducible rfl
                rotate_left
                · simp only [Act.put, List.setIfInBounds_toArray, List.set_cons_zero, List.set_cons_succ, i64_w, i32_w]
                  rfl
                refine one_ (i := 27) (N := some 103) #[true, true, true, true, true, true, true, true, true, true, true, true, true, true, true, true, true, true, true, true, true, true, true, true, true, true, true, true, true, true, true, false, false, false] rfl rfl (by kernel_rfl) (by decide) (fun K hK => ?_)
                refine goes_ Try.func12 (by kernel_rfl) rfl #[(.slice Af fl.length cf), .agg #[.int .i64 e.f1.f0, .int .i64 e.f1.f1, .int .i64 e.f1.f2]] (by rfl) rfl rfl (by (try simp only [List.map_toArray, List.map_cons, List.map_nil]); first | done | rfl) ?_
                refine (api_QKey_12.calls 1000 _ _ fl e.f1.f0 e.f1.f1 e.f1.f2 _ wd (Kd.C_below HFC.out.2 (Below.trans_below HBL.out HBL.out.size HBX.out)) HFC.out.1 HI.out.2.2.1).mono ?_
                rintro e_ we ⟨rfl, hb⟩
                refine ⟨_, rfl, ?_⟩
                have n1_ := Aside0.mk (blk_below BK.out hb)
                have n2_ := Aside0.mk (Below.trans_below HBX.out HBX.out.size hb)
                clear BK HBX hb
                have BK := n1_
                have HBX := n2_
                clear n1_ n2_
                refine hK.out _ _ ⟨(blk_cell BK.out 0).trans rfl, (blk_cell BK.out 1).trans rfl, (blk_cell BK.out 2).trans rfl, (blk_cell BK.out 3).trans rfl, (blk_cell BK.out 4).trans rfl, (blk_cell BK.out 5).trans rfl⟩ (fun hHeld => ?_)
                clear hK K
                refine norm_ (a' := ?_) ?_ ?_
                rotate_left
                · show Act.put _ (some 103) _ = _
                  simp only [Act.put, List.setIfInBounds_toArray, List.set_cons_zero, List.set_cons_succ, i64_w, i32_w]
                  rfl
                refine one_ (i := 31) (N := some 107) #[true, true, true, true, true, true, true, true, true, true, true, true, true, true, true, true, true, true, true, true, true, true, true, true, true, true, true, true, true, true, true, true, false, false] rfl rfl (by kernel_rfl) (by decide) (fun K hK => ?_)
                refine goes_ Try.func12 (by kernel_rfl) rfl #[(.slice Af fl.length cf), .agg #[.int .i64 e.f0.f0, .int .i64 e.f0.f1, .int .i64 e.f0.f2]] (by rfl) rfl rfl (by (try simp only [List.map_toArray, List.map_cons, List.map_nil]); first | done | rfl) ?_
                refine (api_QKey_12.calls 1000 _ _ fl e.f0.f0 e.f0.f1 e.f0.f2 _ we (Kd.C_below HFC.out.2 (Below.trans_below HBL.out HBL.out.size HBX.out)) HFC.out.1 HI.out.2.2.2).mono ?_
                rintro e_ wf ⟨rfl, hb⟩
                refine ⟨_, rfl, ?_⟩
                have n1_ := Aside0.mk (blk_below BK.out hb)
                have n2_ := Aside0.mk (Below.trans_below HBX.out HBX.out.size hb)
                clear BK HBX hb
                have BK := n1_
                have HBX := n2_
                clear n1_ n2_
                refine hK.out _ _ ⟨(blk_cell BK.out 0).trans rfl, (blk_cell BK.out 1).trans rfl, (blk_cell BK.out 2).trans rfl, (blk_cell BK.out 3).trans rfl, (blk_cell BK.out 4).trans rfl, (blk_cell BK.out 5).trans rfl⟩ (fun hHeld => ?_)
                clear hK K
                refine norm_ (a' := ?_) ?_ ?_
                rotate_left
                · show Act.put _ (some 107) _ = _
                  simp only [Act.put, List.setIfInBounds_toArray, List.set_cons_zero, List.set_cons_succ, i64_w, i32_w]
                  rfl
                refine pure_ (i := 32) (N := some 108) (v := ?_) (a' := ?_) #[true, true, true, true, true, true, true, true, true, true, true, true, true, true, true, true, true, true, true, true, true, true, true, true, true, true, true, true, true, true, true, true, true, false] rfl rfl (by kernel_rfl) (fun _ _ _ h => h) (Or.inl ⟨by rfl, ?_⟩) ?_ ?_
                rotate_left
                · intro w'
                  go_simp
                  with_reducible rfl
                rotate_left
                · simp only [Act.put, List.setIfInBounds_toArray, List.set_cons_zero, List.set_cons_succ, i64_w, i32_w]
                  rfl
                refine pure_ (i := 33) (N := some 109) (v := ?_) (a' := ?_) #[true, true, true, true, true, true, true, true, true, true, true, true, true, true, true, true, true, true, true, true, true, true, true, true, true, true, true, true, true, true, true, true, true, true] rfl rfl (by kernel_rfl) (fun _ _ _ h => h) (Or.inl ⟨by rfl, ?_⟩) ?_ ?_
                rotate_left
                · intro w'
                  go_simp
                  with_reducible rfl
                rotate_left
                · simp only [Act.put, List.setIfInBounds_toArray, List.set_cons_zero, List.set_cons_succ, i64_w, i32_w]
                  rfl
                refine done_ (by kernel_rfl) ?_
                try clear hHeld
                go_wp2
                go_roundg (es.length - (j + 1))
                case measure => omega
                case rel =>
                  refine ⟨j + 1, ?_, by omega, Nat.le_refl _, ⟨Below.trans_below HBL.out HBL.out.size HBX.out⟩⟩
                  first | rfl | go_num
              · obtain rfl : j = es.length := by omega
                have p1 : decide ((es.length : Int) < (es.length : Int)) = false := decide_eq_false (by omega)
                have HBW6 := Aside0.mk (Below.trans_below HBW5.out HBW5.out.size HBL.out)
                have HOC6 := Aside0.mk (show L.length ≤ co ∧ Kd.C k24 wr Ao L.length L from ⟨HOC.out.1, Kd.C_below HOC.out.2 HBL.out⟩)
                have HFC6 := Aside0.mk (show fl.length ≤ cf ∧ Kd.C k24 wr Af fl.length fl from ⟨HFC.out.1, Kd.C_below HFC.out.2 HBL.out⟩)
                clear HOC HFC HBW5 HE3
                have HOC := HOC6
                have HFC := HFC6
                clear HOC6 HFC6
                go_wp2_with fail
                clear HBL
                generalize wr = w6 at HBW6 HOC HFC ⊢
                go_loopg [113] L.length (fun kx s113 wr => ∃ j : Nat, s113 = .int .i64 j ∧ j ≤ L.length ∧ L.length - j ≤ kx ∧ Aside0 (Below w6.heap.size w6 wr))
                case atStart => exact ⟨0, rfl, Nat.zero_le _, Nat.le_refl _, ⟨Below.refl _ _⟩⟩
                case round =>
                  obtain ⟨j, rfl, hjn, hjk, HBL⟩ := hrel
                  have hL100 : L.length ≤ 100 := HLN.out.1
                  by_cases hlt : j < L.length
                  · obtain ⟨ad, e_, q0, q1, q2⟩ := elem24 (Kd.C_below HOC.out.2 HBL.out) (Below.refl _ _) j hlt
                    subst e_
                    rw [rd_at L j hlt] at q0 q1 q2
                    have hix := HTL.out.idx (by omega) j hlt 1000 (by omega)
                    have hmm : L[j] ∈ fl := (HTF.out.mem _).2 ((HTL.out.mem _).1 (List.getElem_mem hlt))
                    have hct := contains_spec fl L[j] (by have := HLN.out.2.1; omega) 1000 (by have := HLN.out.2.1; omega)
                    rw [decide_eq_true hmm] at hct
                    generalize L[j] = k at q0 q1 q2 hix hct
                    have HIX := Aside0.mk hix
                    have HCT := Aside0.mk hct
                    have HQ := Aside0.mk (And.intro q0 (And.intro q1 q2))
                    clear hix hmm hct
                    have p0 : (0 : Int) ≤ (j : Int) := by omega
                    have p1 : (j : Int) < (L.length : Int) := by omega
                    go_wp2_with (first | (go_at_call 12; refine (api_QKey_12.calls 1000 _ _ L k.f0 k.f1 k.f2 _ _ (Kd.C_below HOC.out.2 HBL.out) HOC.out.1 HIX.out).mono ?_; rintro e_ wa ⟨rfl, hb⟩; have HBA := Aside0.mk (Below.trans_below HBL.out HBL.out.size hb); have HQ2 := Aside0.mk (cells_below HQ.out hb); obtain ⟨r0, r1, r2⟩ := HQ2.out; clear hb q0 q1 q2) | (go_at_call 8; refine (api_QKey_8.calls 1000 _ _ fl k.f0 k.f1 k.f2 true _ (Kd.C_below HFC.out.2 HBA.out) HFC.out.1 HCT.out).mono ?_; rintro e_ wb ⟨rfl, hb⟩; have HBB := Aside0.mk (Below.trans_below HBA.out HBA.out.size hb); clear hb))
                    go_roundg (L.length - (j + 1))
                    case measure => omega
                    case rel =>
                      refine ⟨j + 1, ?_, by omega, Nat.le_refl _, HBB⟩
                      first | rfl | go_num
                  · obtain rfl : j = L.length := by omega
                    have p1 : decide ((L.length : Int) < (L.length : Int)) = false := decide_eq_false (by omega)
                    have hlf := HLN.out.2.2
                    have p2 : decide ((L.length : Int) = (fl.length : Int)) = true := decide_eq_true (by omega)
                    have p3 : ((L.length : Int) == (fl.length : Int)) = true := beq_iff_eq.2 (by omega)
                    clear hlf
                    go_wp2_with (first | (go_at_call 6; refine (glossatorkeep3_graphExample.calls 9 true _ (example_true 9 (by omega))).mono ?_; rintro e_ wz ⟨rfl, hb⟩; have HBZ := Aside0.mk hb; clear hb))
                    go_ret
                    exact ⟨rfl, Below.trans_below (Below.trans_below HBW6.out HBW6.out.size HBL.out) (Nat.le_trans HBW6.out.size HBL.out.size) HBZ.out⟩
end Go.Proofs.Yteekdkkfegcoeaa.Dg
