/- progress.Assembler: Result, Missing. -/
import Derived.Test.YtpbljheelkpaiaaPghBd
import Derived.Test.YtpbljheelkpaiaaPgx1
import Derived.Test.YtpbljheelkpaiaaMp
import Derived.Laws.IdiomRangeMap
namespace Go.Proofs.Ytpbljheelkpaiaa.Pg
open Go.RowKit Go.Proofs.YtpbljheelkpaiaaW.PrintWords Go.Proofs.YtpbljheelkpaiaaW.PrintLast Go.Proofs.YtpbljheelkpaiaaW.PrintMore
open Go.Proofs.Ytpbljheelkpaiaa
set_option linter.unusedVariables false
set_option linter.unusedSimpArgs false
attribute [local go_sem] Oper.semAt_some max2_int min2_int max_two min_two
set_option maxHeartbeats 8000000 in
set_option maxRecDepth 100000 in
theorem result_none (gs ob : Nat) (t : Int) (W : World) (h : As gs ob t none [] W) (ht : (Lit.int .i64 t).wf = true) :
    Calls Try.prog 10 #[.pointer (some ⟨gs, 0, none⟩), .int .i64 t] W fun e W' => e = .returned (.tuple #[.slice none 0 0, .bool false]) ∧ Below W.heap.size W W' := by
  have hu50 := Try.underlying50
  have hu39 := Try.underlying39
  have HWT := Aside0.mk ht
  have HS := Aside0.mk h
  clear h ht
  go_enter Try.func10, Try.ntmps10
  go_wp2_with (go_at_call 17; refine (bounds_nil gs ob t _ HS.out HWT.out).mono ?_; rintro e_ w6 ⟨rfl, hb⟩; have HB := Aside0.mk hb; clear hb)
  go_ret2
  exact ⟨rfl, HB.out⟩
theorem fld3 (a b : Int) (c : Bool) (A : Option Addr) (n k : Nat) (w : World) : (Instr.field 39 (.agg #[.int .i64 a, .int .i64 b, .bool c, .slice A n k]) 3).run Try.prog w = .ok (.slice A n k) w := by kernel_rfl
theorem len_fact {gs ob ib : Nat} {t : Int} {m : List (Int × S39)} {W : World} (h : As gs ob t (some ib) m W) : ∀ W' : World, Below W.heap.size W W' → (Builtin.len_ #[53] 3 #[.map (some ib)]).run Try.prog W' = .ok (.int .i64 m.length) W' := by
  intro W' hb
  obtain ⟨l, hl, hat, _⟩ := (h.below hb).tab
  have h1 := hat.len (T := 53) Try.underlying53 3
  rw [h1, ← hl]
  simp [Mp.vals]
set_option maxHeartbeats 8000000 in
set_option maxRecDepth 100000 in
theorem result_no (gs ob ib : Nat) (t : Int) (f : Nat) (m : List (Int × S39)) (W : World) (h : As gs ob t (some ib) m W) (ht : (Lit.int .i64 t).wf = true) (hf : Fit (f + 1) m) (hn : f + 1 ≤ 1000) (hm : m.length < f + 1) :
    Calls Try.prog 10 #[.pointer (some ⟨gs, 0, none⟩), .int .i64 t] W fun e W' => e = .returned (.tuple #[.slice none 0 0, .bool false]) ∧ Below W.heap.size W W' := by
  have hu50 := Try.underlying50
  have hu39 := Try.underlying39
  have HWT := Aside0.mk ht
  have HS := Aside0.mk h
  have HF := Aside0.mk hf
  have HN := Aside0.mk hn
  have LENF := Aside0.mk (len_fact h)
  have w1_ : wrap64 ((f : Int) + 1) = (f : Int) + 1 := w64_id (by omega) (by omega)
  have w2_ : ((m.length : Int) == (f : Int) + 1) = false := beq_eq_false_iff_ne.mpr (by omega)
  have w3_ : ((m.length : Int) != (f : Int) + 1) = true := bne_iff_ne.mpr (by omega)
  rcases (show finalOf (f + 1) m = -1 ∨ finalOf (f + 1) m = (f : Int) from by unfold finalOf; split; exact .inr rfl; exact .inl rfl) with hfin | hfin
  · have HFIN := Aside0.mk hfin
    clear h ht hf hn hm hfin
    go_enter Try.func10, Try.ntmps10
    go_wp2_with ((go_at_call 17; refine (bounds_some gs ob ib t (f + 1) m _ HS.out HWT.out HF.out (Nat.succ_pos f) (by have h_ := HN.out; omega)).mono ?_; rintro e_ w6 ⟨L, rfl, hT, hb⟩; rw [HFIN.out]; have HT := Aside0.mk hT; have HB := Aside0.mk hb; have n1_ := Aside0.mk (HS.out.below hb); clear HS; have HS := n1_; clear n1_; have hlk := outer_look w6 HS.out.out HWT.out; have c0_ : w6.cell? ⟨gs, 0, none⟩ = some (.map (some ob)) := (blk_cell HS.out.box 0).trans rfl; have hln := LENF.out w6 hb; clear hT hb))
    go_ret2
    exact ⟨rfl, HB.out⟩
  · have HFIN := Aside0.mk hfin
    have g0_ : decide ((f : Int) < 0) = false := decide_eq_false (by omega)
    clear h ht hf hn hm hfin
    go_enter Try.func10, Try.ntmps10
    go_wp2_with ((go_at_call 17; refine (bounds_some gs ob ib t (f + 1) m _ HS.out HWT.out HF.out (Nat.succ_pos f) (by have h_ := HN.out; omega)).mono ?_; rintro e_ w6 ⟨L, rfl, hT, hb⟩; rw [HFIN.out]; have HT := Aside0.mk hT; have HB := Aside0.mk hb; have n1_ := Aside0.mk (HS.out.below hb); clear HS; have HS := n1_; clear n1_; have hlk := outer_look w6 HS.out.out HWT.out; have c0_ : w6.cell? ⟨gs, 0, none⟩ = some (.map (some ob)) := (blk_cell HS.out.box 0).trans rfl; have hln := LENF.out w6 hb; clear hT hb))
    go_ret2
    exact ⟨rfl, HB.out⟩
set_option maxHeartbeats 8000000 in
set_option maxRecDepth 100000 in
theorem result_yes (gs ob ib : Nat) (t : Int) (f : Nat) (m : List (Int × S39)) (W : World) (h : As gs ob t (some ib) m W) (ht : (Lit.int .i64 t).wf = true) (hf : Fit (f + 1) m) (hn : f + 1 ≤ 1000) (hm : m.length = f + 1) (it : Nat → List Int) (hit : ∀ j : Nat, j < f + 1 → ∃ c, Mp.aget m (j : Int) = some c ∧ c.f3 = it j) (hil : ∀ j : Nat, (it j).length ≤ 1000) :
    Calls Try.prog 10 #[.pointer (some ⟨gs, 0, none⟩), .int .i64 t] W fun e W' => ∃ v, e = .returned (.tuple #[v, .bool true]) ∧ Kd.R (Kd.int .i64) 3 W' W.heap.size (fun _ => True) v ((List.range (f + 1)).flatMap it) ∧ Below W.heap.size W W' := by
  have hu50 := Try.underlying50
  have hu39 := Try.underlying39
  have HWT := Aside0.mk ht
  have HS := Aside0.mk h
  have HF := Aside0.mk hf
  have HN := Aside0.mk hn
  have LENF := Aside0.mk (len_fact h)
  have HIT := Aside0.mk hit
  have HIL := Aside0.mk hil
  have w1_ : wrap64 ((f : Int) + 1) = (f : Int) + 1 := w64_id (by omega) (by omega)
  have w2_ : ((m.length : Int) == (f : Int) + 1) = true := beq_iff_eq.mpr (by omega)
  have w3_ : ((m.length : Int) != (f : Int) + 1) = false := bne_eq_false_iff_eq.mpr (by omega)
  have hfin : finalOf (f + 1) m = (f : Int) := by
    unfold finalOf
    obtain ⟨c, hc, _⟩ := hit f (by omega)
    have h1_ : Mp.aget m ((f + 1 - 1 : Nat) : Int) = some c := hc
    rw [h1_]; rfl
  have HFIN := Aside0.mk hfin
  have g0_ : decide ((f : Int) < 0) = false := decide_eq_false (by omega)
  have HS0 := HS
  clear h ht hf hn hm hfin hit hil
  go_enter Try.func10, Try.ntmps10
  go_wp2_with ((go_at_call 17; refine (bounds_some gs ob ib t (f + 1) m _ HS.out HWT.out HF.out (Nat.succ_pos f) (by have h_ := HN.out; omega)).mono ?_; rintro e_ w6 ⟨L, rfl, hT, hb⟩; rw [HFIN.out]; have HT := Aside0.mk hT; have HB := Aside0.mk hb; have n1_ := Aside0.mk (HS.out.below hb); clear HS; have HS := n1_; clear n1_; have hlk := outer_look w6 HS.out.out HWT.out; have c0_ : w6.cell? ⟨gs, 0, none⟩ = some (.map (some ob)) := (blk_cell HS.out.box 0).trans rfl; have hln := LENF.out w6 hb; clear hT hb))
  clear hlk hln c0_ w2_ w3_ g0_
  rw [w1_]
  go_loopg [32, 8] (f + 1) (fun kq v32 v8 w' => ∃ (x : Int), v32 = .int .i64 x ∧ Aside0 (∃ i : Nat, x = (i : Int) ∧ i + kq = f + 1 ∧ Kd.R (Kd.int .i64) 3 w' W.heap.size (fun _ => True) v8 ((List.range i).flatMap it)) ∧ Aside0 (Below W.heap.size W w'))
  case atStart => exact ⟨0, rfl, ⟨0, rfl, by omega, Kd.R_nil _ _ _ _ _⟩, HB⟩
  case round =>
    clear HB HS HT
    obtain ⟨x, rfl, HX, HB⟩ := hrel
    by_cases hx : x < (f : Int) + 1
    · have c1_ : decide (x < (f : Int) + 1) = true := decide_eq_true hx
      obtain ⟨k1, rfl⟩ : ∃ k1, gk = k1 + 1 := ⟨gk - 1, by obtain ⟨i, e1, e2, _⟩ := HX.out; omega⟩
      have HSX := Aside0.mk (HS0.out.below HB.out)
      have hlk := outer_look wr HSX.out.out HWT.out
      have c0_ : wr.cell? ⟨gs, 0, none⟩ = some (.map (some ob)) := (blk_cell HSX.out.box 0).trans rfl
      have hX2 : ∃ i : Nat, x = (i : Int) ∧ i < f + 1 := by obtain ⟨i, e1, e2, _⟩ := HX.out; exact ⟨i, e1, by omega⟩
      obtain ⟨l, hl0, hat, hrows⟩ := HSX.out.tab
      obtain ⟨⟨v, p⟩, hget, hp, hpl⟩ : ∃ c : Cel, Mp.aget l x = some c ∧ (∃ i : Nat, x = (i : Int) ∧ c.p.f3 = it i) ∧ c.p.f3.length ≤ 1000 := by
        obtain ⟨i, e1, e2⟩ := hX2
        obtain ⟨c, hc, hc2⟩ := HIT.out i e2
        rw [← e1, ← hl0, Mp.aget_vals] at hc
        obtain ⟨c', h1, h2⟩ := Option.map_eq_some_iff.1 hc
        rw [← h2] at hc2
        exact ⟨c', h1, ⟨i, e1, hc2⟩, by rw [hc2]; exact HIL.out i⟩
      have hR0 := hrows _ (Mp.aget_mem hget)
      obtain ⟨Ac, cc2, hv2⟩ := Kd.R_slice hR0
      have hv3 : v = .slice Ac p.f3.length cc2 := hv2
      subst hv3
      have hl2 := Mp.At.look (T := 53) false KI injI Try.underlying53 (zero39 wr) hat (x := x) (keyI x (wfI (by obtain ⟨i, e1, e2⟩ := hX2; omega) (by have h_ := HN.out; omega)))
      rw [Mp.aget_vals, hget] at hl2
      have hl3 : (Instr.lookup 53 (.map (some ib)) (.int .i64 x) false).run Try.prog wr = .ok (.agg #[.int .i64 p.f0, .int .i64 p.f1, .bool p.f2, .slice Ac p.f3.length cc2]) wr := hl2
      have HCI := Aside0.mk (show Kd.C (Kd.int .i64) wr Ac p.f3.length p.f3 from (Kd.R_reads' hR0).2.2)
      have hfld := fld3 p.f0 p.f1 p.f2 Ac p.f3.length cc2 wr
      have HP := Aside0.mk (show ∃ i : Nat, x = (i : Int) ∧ p.f3 = it i from hp)
      have HPL := Aside0.mk (show p.f3.length ≤ 1000 from hpl)
      have wx_ : wrap64 (x + 1) = x + 1 := w64_id (by obtain ⟨i, e1, e2⟩ := hX2; omega) (by have h_ := HN.out; omega)
      obtain ⟨i, e1, e2, hRI⟩ := HX.out
      have hacc : ((List.range i).flatMap it).length ≤ i * 1000 := by
        clear hRI e1 e2 hl2 hl3
        induction i with
        | zero => simp
        | succ j ih =>
          rw [List.range_succ, List.flatMap_append, List.length_append]
          have h_ := HIL.out j
          simp only [List.flatMap_cons, List.flatMap_nil, List.append_nil]
          omega
      have HX3 := Aside0.mk (show x = (i : Int) ∧ i + (k1 + 1) = f + 1 ∧ ((List.range i).flatMap it).length ≤ 1000000 from ⟨e1, e2, by have h_ := HN.out; omega⟩)
      have HRI := Aside0.mk hRI
      clear HX hx hX2 hl0 hat hrows hget hp hpl hR0 hv2 hl2 e1 e2 hRI hacc
      go_wp2_with (at_builtin; (refine Kd.R_append_rows (Kd.int .i64) (w0 := W) W.heap.size rfl (.tmp 35) (.tmp 44) 22 3 _ _ rfl Try.underlying22 info3 rfl (by decide) (by omega) _ ((List.range i).flatMap it) p.f3 Ac p.f3.length cc2 (fun _ => True) (fun _ => False) rfl rfl HRI.out HCI.out (fun _ _ h => h) (fun _ h => h.elim) (fun _ _ => trivial) HB.out HB.out.size (by have h1_ := HX3.out; have h2_ := HPL.out; omega) ?_; rintro v1 w1 hv hb _ _; have HV := Aside0.mk hv; have HBF := Aside0.mk hb; clear hv hb))
      go_roundg k1
      case measure => exact Nat.lt_succ_self k1
      case rel =>
        refine ⟨x + 1, by first | rfl | rw [wx_], ⟨i + 1, by have h1_ := HX3.out; omega, by have h1_ := HX3.out; omega, ?_⟩, HBF⟩
        obtain ⟨i', e1, e2⟩ := HP.out
        have : i' = i := by have h1_ := HX3.out; omega
        subst this
        rw [List.range_succ, List.flatMap_append]
        simp only [List.flatMap_cons, List.flatMap_nil, List.append_nil]
        rw [← e2]
        exact HV.out
    · have c1_ : decide (x < (f : Int) + 1) = false := decide_eq_false hx
      obtain ⟨i, e1, e2, hRI⟩ := HX.out
      have hi : i = f + 1 := by omega
      rw [hi] at hRI
      have HRI := Aside0.mk hRI
      clear HX hx e1 e2 hRI hi
      go_wp2
      go_ret2
      exact ⟨_, rfl, HRI.out, HB.out⟩
set_option maxHeartbeats 8000000 in
set_option maxRecDepth 100000 in
theorem missing_none (gs ob ib : Nat) (t : Int) (f : Nat) (m : List (Int × S39)) (W : World) (h : As gs ob t (some ib) m W) (ht : (Lit.int .i64 t).wf = true) (hf : Fit (f + 1) m) (hn : f + 1 ≤ 1000) (hit : ∀ j : Nat, j < f + 1 → ∃ c, Mp.aget m (j : Int) = some c) :
    Calls Try.prog 14 #[.pointer (some ⟨gs, 0, none⟩), .int .i64 t] W fun e W' => e = .returned (.slice none 0 0) ∧ Below W.heap.size W W' := by
  have hu50 := Try.underlying50
  have hu39 := Try.underlying39
  have HWT := Aside0.mk ht
  have HS := Aside0.mk h
  have HF := Aside0.mk hf
  have HN := Aside0.mk hn
  have LENF := Aside0.mk (len_fact h)
  have HIT := Aside0.mk hit
  have hfin : finalOf (f + 1) m = (f : Int) := by
    unfold finalOf
    obtain ⟨c, hc⟩ := hit f (by omega)
    have h1_ : Mp.aget m ((f + 1 - 1 : Nat) : Int) = some c := hc
    rw [h1_]; rfl
  have HFIN := Aside0.mk hfin
  have g0_ : decide ((f : Int) < 0) = false := decide_eq_false (by omega)
  have HS0 := HS
  clear h ht hf hn hfin hit
  go_enter Try.func14, Try.ntmps14
  go_wp2_with ((go_at_call 17; refine (bounds_some gs ob ib t (f + 1) m _ HS.out HWT.out HF.out (Nat.succ_pos f) (by have h_ := HN.out; omega)).mono ?_; rintro e_ w6 ⟨L, rfl, hT, hb⟩; rw [HFIN.out]; have HT := Aside0.mk hT; have HB := Aside0.mk hb; have n1_ := Aside0.mk (HS.out.below hb); clear HS; have HS := n1_; clear n1_; have hlk := outer_look w6 HS.out.out HWT.out; have c0_ : w6.cell? ⟨gs, 0, none⟩ = some (.map (some ob)) := (blk_cell HS.out.box 0).trans rfl; have hL_ : L = (f : Int) := hT.2.2 (by obtain ⟨c, hc⟩ := HIT.out f (by omega); have h1_ : Mp.aget m ((f + 1 - 1 : Nat) : Int) = some c := hc; rw [h1_]; rfl); subst hL_; clear hT hb))
  clear hlk c0_
  go_loopg [7, 19] f (fun kq v7 v19 w' => ∃ (x : Int), v7 = .slice none 0 0 ∧ v19 = .int .i64 x ∧ Aside0 (∃ i : Nat, x = (i : Int) ∧ i + kq = f) ∧ Aside0 (Below W.heap.size W w'))
  case atStart => exact ⟨0, rfl, rfl, ⟨0, rfl, by omega⟩, HB⟩
  case round =>
    clear HB HS HT
    obtain ⟨x, rfl, rfl, HX, HB⟩ := hrel
    by_cases hx : x < (f : Int)
    · have c1_ : decide (x < (f : Int)) = true := decide_eq_true hx
      obtain ⟨k1, rfl⟩ : ∃ k1, gk = k1 + 1 := ⟨gk - 1, by obtain ⟨i, e1, e2⟩ := HX.out; omega⟩
      have HSX := Aside0.mk (HS0.out.below HB.out)
      have hlk := outer_look wr HSX.out.out HWT.out
      have c0_ : wr.cell? ⟨gs, 0, none⟩ = some (.map (some ob)) := (blk_cell HSX.out.box 0).trans rfl
      have hX2 : ∃ i : Nat, x = (i : Int) ∧ i < f + 1 := by obtain ⟨i, e1, e2⟩ := HX.out; exact ⟨i, e1, by omega⟩
      obtain ⟨l, hl0, hat, hrows⟩ := HSX.out.tab
      obtain ⟨⟨v, p⟩, hget⟩ : ∃ c : Cel, Mp.aget l x = some c := by
        obtain ⟨i, e1, e2⟩ := hX2
        obtain ⟨c, hc⟩ := HIT.out i e2
        rw [← e1, ← hl0, Mp.aget_vals] at hc
        obtain ⟨c', h1, h2⟩ := Option.map_eq_some_iff.1 hc
        exact ⟨c', h1⟩
      have hR0 := hrows _ (Mp.aget_mem hget)
      obtain ⟨Ac, cc2, hv2⟩ := Kd.R_slice hR0
      have hv3 : v = .slice Ac p.f3.length cc2 := hv2
      subst hv3
      have hl2 := Mp.At.look (T := 53) true KI injI Try.underlying53 (zero39 wr) hat (x := x) (keyI x (wfI (by obtain ⟨i, e1, e2⟩ := hX2; omega) (by have h_ := HN.out; omega)))
      rw [Mp.aget_vals, hget] at hl2
      have hl3 : (Instr.lookup 53 (.map (some ib)) (.int .i64 x) true).run Try.prog wr = .ok (.tuple #[.agg #[.int .i64 p.f0, .int .i64 p.f1, .bool p.f2, .slice Ac p.f3.length cc2], .bool true]) wr := hl2
      have wx_ : wrap64 (x + 1) = x + 1 := w64_id (by obtain ⟨i, e1, e2⟩ := hX2; omega) (by have h_ := HN.out; omega)
      have HX2 := Aside0.mk (show ∃ i : Nat, x + 1 = (i : Int) ∧ i + k1 = f from by obtain ⟨i, e1, e2⟩ := HX.out; exact ⟨i + 1, by omega, by omega⟩)
      clear HX hx hX2 hl0 hat hrows hget hR0 hv2 hl2
      go_wp2
      go_roundg k1
      case measure => exact Nat.lt_succ_self k1
      case rel => exact ⟨x + 1, rfl, by first | rfl | rw [wx_], HX2, ⟨by repeat (first | exact HB.out | apply below_alloc | apply below_drew1)⟩⟩
    · have c1_ : decide (x < (f : Int)) = false := decide_eq_false hx
      clear HX hx
      go_wp2
      go_ret
      exact ⟨rfl, HB.out⟩
end Go.Proofs.Ytpbljheelkpaiaa.Pg
