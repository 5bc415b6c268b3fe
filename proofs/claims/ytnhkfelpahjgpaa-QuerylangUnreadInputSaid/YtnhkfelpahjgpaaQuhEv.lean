/- querylang.Eval. Condition: fewer than 1000000000 queries and instructions. -/
import Derived.Test.YtnhkfelpahjgpaaQux0
import Derived.BigQuiet
import Derived.Test.YtnhkfelpahjgpaaQuhGt
namespace Go.Proofs.Ytnhkfelpahjgpaa.Qu
open Go.RowKit Go.Proofs.YtnhkfelpahjgpaaW.PrintWords Go.Proofs.YtnhkfelpahjgpaaW.PrintLast Go.Proofs.YtnhkfelpahjgpaaW.PrintMore
open Go.Proofs.Ytnhkfelpahjgpaa
set_option linter.unusedVariables false
set_option linter.unusedSimpArgs false
set_option maxHeartbeats 4000000 in
set_option maxRecDepth 100000 in
theorem nev_e (n : Int) (A : Option Addr) (c : Nat) (qs : List (List S43)) (Ai : Option Addr) (ci : Nat) (ins : List Int) (q e : Int) (w : World) (hq : Kd.C (Kd.slice 43 k43) w A qs.length qs) (hc : qs.length ≤ c) (hi : Kd.C (Kd.int .i64) w Ai ins.length ins) (hci : ins.length ≤ ci) (hk : querylang_Check.f 100 n qs = some e) (he : e ≠ 0) :
    Calls Try.prog 16 #[.agg #[.int .i64 n, .slice A qs.length c], .slice Ai ins.length ci, .int .i64 q] w fun E w' => E = .returned (.tuple #[.pointer none, .int .i64 e]) ∧ Below w.heap.size w w' := by
  have hu24 := Try.underlying24
  have hu59 := Try.underlying59
  have hu40 := Try.underlying40
  have HQ := Aside0.mk hq
  have HC := Aside0.mk hc
  have HI := Aside0.mk hi
  clear hq hc hi
  have HK := Aside0.mk hk
  clear hk
  have f0 : (e != 0) = true := bne_iff_ne.mpr he
  go_enter Try.func16, Try.ntmps16
  go_wp2_with (first | ((with_reducible refine gate_dst (N := 3) rfl ?_); refine box_event ?hg (N := 3) ?hd (cs := #[.int .i64 n, .slice A qs.length c]) (t := 24) ?hr ?_; (case hd => rfl); (case hg => rfl); (case hr => first | (go_simp; done) | (go_simp; rfl)); intro g3 hg w3 hbox hb; have HB := Aside0.mk hb; have BK3 := Aside0.mk hbox; clear hb hbox hg; have hc3_0 : w3.cell? ⟨g3, 0, none⟩ = some (.int .i64 n) := (blk_cell BK3.out 0).trans rfl; have hc3_1 : w3.cell? ⟨g3, 1, none⟩ = some (.slice A qs.length c) := (blk_cell BK3.out 1).trans rfl) | (go_at_call 15; refine (querylang_Check.calls 100 n A c qs e _ (Kd.C_below HQ.out HB.out) HC.out HK.out).mono ?_; rintro e_ w5 ⟨rfl, hb⟩; have n1_ := Aside0.mk (below_step HB.out hb); have n2_ := Aside0.mk (blk_below BK3.out hb); clear HB BK3 hb hc3_0 hc3_1; have HB := n1_; have BK3 := n2_; clear n1_ n2_; have hc3_0 : w5.cell? ⟨g3, 0, none⟩ = some (.int .i64 n) := (blk_cell BK3.out 0).trans rfl; have hc3_1 : w5.cell? ⟨g3, 1, none⟩ = some (.slice A qs.length c) := (blk_cell BK3.out 1).trans rfl))
  go_ret2
  exact ⟨rfl, HB.out⟩
set_option maxHeartbeats 4000000 in
set_option maxRecDepth 100000 in
theorem nev_1 (n : Int) (A : Option Addr) (c : Nat) (qs : List (List S43)) (Ai : Option Addr) (ci : Nat) (ins : List Int) (q : Int) (w : World) (hq : Kd.C (Kd.slice 43 k43) w A qs.length qs) (hc : qs.length ≤ c) (hi : Kd.C (Kd.int .i64) w Ai ins.length ins) (hci : ins.length ≤ ci) (hk : querylang_Check.f 100 n qs = some 0) (h1 : (ins.length : Int) ≠ n) :
    Calls Try.prog 16 #[.agg #[.int .i64 n, .slice A qs.length c], .slice Ai ins.length ci, .int .i64 q] w fun E w' => E = .returned (.tuple #[.pointer none, .int .i64 1]) ∧ Below w.heap.size w w' := by
  have hu24 := Try.underlying24
  have hu59 := Try.underlying59
  have hu40 := Try.underlying40
  have HQ := Aside0.mk hq
  have HC := Aside0.mk hc
  have HI := Aside0.mk hi
  clear hq hc hi
  have HK := Aside0.mk hk
  clear hk
  have z0 : ((0 : Int) != 0) = false := rfl
  have f1 : ((ins.length : Int) != n) = true := bne_iff_ne.mpr h1
  go_enter Try.func16, Try.ntmps16
  go_wp2_with (first | ((with_reducible refine gate_dst (N := 3) rfl ?_); refine box_event ?hg (N := 3) ?hd (cs := #[.int .i64 n, .slice A qs.length c]) (t := 24) ?hr ?_; (case hd => rfl); (case hg => rfl); (case hr => first | (go_simp; done) | (go_simp; rfl)); intro g3 hg w3 hbox hb; have HB := Aside0.mk hb; have BK3 := Aside0.mk hbox; clear hb hbox hg; have hc3_0 : w3.cell? ⟨g3, 0, none⟩ = some (.int .i64 n) := (blk_cell BK3.out 0).trans rfl; have hc3_1 : w3.cell? ⟨g3, 1, none⟩ = some (.slice A qs.length c) := (blk_cell BK3.out 1).trans rfl) | (go_at_call 15; refine (querylang_Check.calls 100 n A c qs 0 _ (Kd.C_below HQ.out HB.out) HC.out HK.out).mono ?_; rintro e_ w5 ⟨rfl, hb⟩; have n1_ := Aside0.mk (below_step HB.out hb); have n2_ := Aside0.mk (blk_below BK3.out hb); clear HB BK3 hb hc3_0 hc3_1; have HB := n1_; have BK3 := n2_; clear n1_ n2_; have hc3_0 : w5.cell? ⟨g3, 0, none⟩ = some (.int .i64 n) := (blk_cell BK3.out 0).trans rfl; have hc3_1 : w5.cell? ⟨g3, 1, none⟩ = some (.slice A qs.length c) := (blk_cell BK3.out 1).trans rfl))
  go_ret2
  exact ⟨rfl, HB.out⟩
set_option maxHeartbeats 4000000 in
set_option maxRecDepth 100000 in
theorem nev_2 (n : Int) (A : Option Addr) (c : Nat) (qs : List (List S43)) (Ai : Option Addr) (ci : Nat) (ins : List Int) (q : Int) (w : World) (hq : Kd.C (Kd.slice 43 k43) w A qs.length qs) (hc : qs.length ≤ c) (hi : Kd.C (Kd.int .i64) w Ai ins.length ins) (hci : ins.length ≤ ci) (hk : querylang_Check.f 100 n qs = some 0) (h1 : (ins.length : Int) = n) (h2 : q < 0) :
    Calls Try.prog 16 #[.agg #[.int .i64 n, .slice A qs.length c], .slice Ai ins.length ci, .int .i64 q] w fun E w' => E = .returned (.tuple #[.pointer none, .int .i64 1]) ∧ Below w.heap.size w w' := by
  have hu24 := Try.underlying24
  have hu59 := Try.underlying59
  have hu40 := Try.underlying40
  have HQ := Aside0.mk hq
  have HC := Aside0.mk hc
  have HI := Aside0.mk hi
  clear hq hc hi
  have HK := Aside0.mk hk
  clear hk
  have z0 : ((0 : Int) != 0) = false := rfl
  have f1 : ((ins.length : Int) != n) = false := bne_eq_false_iff_eq.mpr h1
  have f2 : decide (q < 0) = true := decide_eq_true h2
  go_enter Try.func16, Try.ntmps16
  go_wp2_with (first | ((with_reducible refine gate_dst (N := 3) rfl ?_); refine box_event ?hg (N := 3) ?hd (cs := #[.int .i64 n, .slice A qs.length c]) (t := 24) ?hr ?_; (case hd => rfl); (case hg => rfl); (case hr => first | (go_simp; done) | (go_simp; rfl)); intro g3 hg w3 hbox hb; have HB := Aside0.mk hb; have BK3 := Aside0.mk hbox; clear hb hbox hg; have hc3_0 : w3.cell? ⟨g3, 0, none⟩ = some (.int .i64 n) := (blk_cell BK3.out 0).trans rfl; have hc3_1 : w3.cell? ⟨g3, 1, none⟩ = some (.slice A qs.length c) := (blk_cell BK3.out 1).trans rfl) | (go_at_call 15; refine (querylang_Check.calls 100 n A c qs 0 _ (Kd.C_below HQ.out HB.out) HC.out HK.out).mono ?_; rintro e_ w5 ⟨rfl, hb⟩; have n1_ := Aside0.mk (below_step HB.out hb); have n2_ := Aside0.mk (blk_below BK3.out hb); clear HB BK3 hb hc3_0 hc3_1; have HB := n1_; have BK3 := n2_; clear n1_ n2_; have hc3_0 : w5.cell? ⟨g3, 0, none⟩ = some (.int .i64 n) := (blk_cell BK3.out 0).trans rfl; have hc3_1 : w5.cell? ⟨g3, 1, none⟩ = some (.slice A qs.length c) := (blk_cell BK3.out 1).trans rfl))
  go_ret2
  exact ⟨rfl, HB.out⟩
set_option maxHeartbeats 4000000 in
set_option maxRecDepth 100000 in
theorem nev_3 (n : Int) (A : Option Addr) (c : Nat) (qs : List (List S43)) (Ai : Option Addr) (ci : Nat) (ins : List Int) (q : Int) (w : World) (hq : Kd.C (Kd.slice 43 k43) w A qs.length qs) (hc : qs.length ≤ c) (hi : Kd.C (Kd.int .i64) w Ai ins.length ins) (hci : ins.length ≤ ci) (hk : querylang_Check.f 100 n qs = some 0) (h1 : (ins.length : Int) = n) (h2 : ¬ q < 0) (h3 : q ≥ (qs.length : Int)) :
    Calls Try.prog 16 #[.agg #[.int .i64 n, .slice A qs.length c], .slice Ai ins.length ci, .int .i64 q] w fun E w' => E = .returned (.tuple #[.pointer none, .int .i64 1]) ∧ Below w.heap.size w w' := by
  have hu24 := Try.underlying24
  have hu59 := Try.underlying59
  have hu40 := Try.underlying40
  have HQ := Aside0.mk hq
  have HC := Aside0.mk hc
  have HI := Aside0.mk hi
  clear hq hc hi
  have HK := Aside0.mk hk
  clear hk
  have z0 : ((0 : Int) != 0) = false := rfl
  have f1 : ((ins.length : Int) != n) = false := bne_eq_false_iff_eq.mpr h1
  have f2 : decide (q < 0) = false := decide_eq_false h2
  have f3 : decide (q ≥ (qs.length : Int)) = true := decide_eq_true h3
  have f4 : decide ((qs.length : Int) ≤ q) = true := decide_eq_true h3
  go_enter Try.func16, Try.ntmps16
  go_wp2_with (first | ((with_reducible refine gate_dst (N := 3) rfl ?_); refine box_event ?hg (N := 3) ?hd (cs := #[.int .i64 n, .slice A qs.length c]) (t := 24) ?hr ?_; (case hd => rfl); (case hg => rfl); (case hr => first | (go_simp; done) | (go_simp; rfl)); intro g3 hg w3 hbox hb; have HB := Aside0.mk hb; have BK3 := Aside0.mk hbox; clear hb hbox hg; have hc3_0 : w3.cell? ⟨g3, 0, none⟩ = some (.int .i64 n) := (blk_cell BK3.out 0).trans rfl; have hc3_1 : w3.cell? ⟨g3, 1, none⟩ = some (.slice A qs.length c) := (blk_cell BK3.out 1).trans rfl) | (go_at_call 15; refine (querylang_Check.calls 100 n A c qs 0 _ (Kd.C_below HQ.out HB.out) HC.out HK.out).mono ?_; rintro e_ w5 ⟨rfl, hb⟩; have n1_ := Aside0.mk (below_step HB.out hb); have n2_ := Aside0.mk (blk_below BK3.out hb); clear HB BK3 hb hc3_0 hc3_1; have HB := n1_; have BK3 := n2_; clear n1_ n2_; have hc3_0 : w5.cell? ⟨g3, 0, none⟩ = some (.int .i64 n) := (blk_cell BK3.out 0).trans rfl; have hc3_1 : w5.cell? ⟨g3, 1, none⟩ = some (.slice A qs.length c) := (blk_cell BK3.out 1).trans rfl))
  go_ret2
  exact ⟨rfl, HB.out⟩
set_option maxHeartbeats 4000000 in
set_option maxRecDepth 100000 in
theorem nev_ok (n : Int) (A : Option Addr) (c : Nat) (qs : List (List S43)) (Ai : Option Addr) (ci : Nat) (ins : List Int) (q : Int) (w : World) (hq : Kd.C (Kd.slice 43 k43) w A qs.length qs) (hc : qs.length ≤ c) (hi : Kd.C (Kd.int .i64) w Ai ins.length ins) (hci : ins.length ≤ ci) (hk : querylang_Check.f 100 n qs = some 0) (h1 : (ins.length : Int) = n) (h2 : ¬ q < 0) (h3 : ¬ q ≥ (qs.length : Int)) :
    Calls Try.prog 16 #[.agg #[.int .i64 n, .slice A qs.length c], .slice Ai ins.length ci, .int .i64 q] w fun e w' => ∃ ge gm, e = .returned (.tuple #[.pointer (some ⟨ge, 0, none⟩), .int .i64 0]) ∧ Below w.heap.size w w' ∧ Ev w n qs ins A c Ai ci ge gm w' := by
  have hu24 := Try.underlying24
  have hu59 := Try.underlying59
  have hu40 := Try.underlying40
  have HQ := Aside0.mk hq
  have HC := Aside0.mk hc
  have HI := Aside0.mk hi
  clear hq hc hi
  have HK := Aside0.mk hk
  clear hk
  have z0 : ((0 : Int) != 0) = false := rfl
  have f1 : ((ins.length : Int) != n) = false := bne_eq_false_iff_eq.mpr h1
  have f2 : decide (q < 0) = false := decide_eq_false h2
  have f3 : decide (q ≥ (qs.length : Int)) = false := decide_eq_false h3
  have f4 : decide ((qs.length : Int) ≤ q) = false := decide_eq_false h3
  go_enter Try.func16, Try.ntmps16
  go_wp2_with (first | ((with_reducible refine gate_dst (N := 3) rfl ?_); refine box_event ?hg (N := 3) ?hd (cs := #[.int .i64 n, .slice A qs.length c]) (t := 24) ?hr ?_; (case hd => rfl); (case hg => rfl); (case hr => first | (go_simp; done) | (go_simp; rfl)); intro g3 hg w3 hbox hb; have HB := Aside0.mk hb; have BK3 := Aside0.mk hbox; clear hb hbox hg; have hc3_0 : w3.cell? ⟨g3, 0, none⟩ = some (.int .i64 n) := (blk_cell BK3.out 0).trans rfl; have hc3_1 : w3.cell? ⟨g3, 1, none⟩ = some (.slice A qs.length c) := (blk_cell BK3.out 1).trans rfl) | (go_at_call 15; refine (querylang_Check.calls 100 n A c qs 0 _ (Kd.C_below HQ.out HB.out) HC.out HK.out).mono ?_; rintro e_ w5 ⟨rfl, hb⟩; have n1_ := Aside0.mk (below_step HB.out hb); have n2_ := Aside0.mk (blk_below BK3.out hb); clear HB BK3 hb hc3_0 hc3_1; have HB := n1_; have BK3 := n2_; clear n1_ n2_; have hc3_0 : w5.cell? ⟨g3, 0, none⟩ = some (.int .i64 n) := (blk_cell BK3.out 0).trans rfl; have hc3_1 : w5.cell? ⟨g3, 1, none⟩ = some (.slice A qs.length c) := (blk_cell BK3.out 1).trans rfl) | ((with_reducible refine gate_dst (N := 32) rfl ?_); refine Mp.wp_make_at (kt := 3) (et := 3) (enc := Value.int .i64) rfl 57 rfl Try.underlying57 ?_; intro w6 gm hgm hm hg hb hlt; have HM := Aside0.mk hm; have GM := Aside0.mk (show w.heap.size ≤ gm from by have := HB.out.size; omega); have n1_ := Aside0.mk (below_step HB.out hb); have n2_ := Aside0.mk (blk_below BK3.out hb); clear HB BK3 hc3_0 hc3_1; have HB := n1_; have BK3 := n2_; clear n1_ n2_ hgm hm hg hb hlt; have hc3_0 : w6.cell? ⟨g3, 0, none⟩ = some (.int .i64 n) := (blk_cell BK3.out 0).trans rfl; have hc3_1 : w6.cell? ⟨g3, 1, none⟩ = some (.slice A qs.length c) := (blk_cell BK3.out 1).trans rfl) | ((with_reducible refine gate_dst (N := 34) rfl ?_); refine box_event ?hg (N := 34) ?hd (cs := #[.int .i64 n, .slice A qs.length c, .slice Ai ins.length ci, .map (some gm)]) (t := 59) ?hr ?_; (case hd => rfl); (case hg => rfl); (case hr => first | (go_simp; done) | (go_simp; rfl)); intro ge hg w7 hbox hb; have n1_ := Aside0.mk (below_step HB.out hb); have BK7 := Aside0.mk hbox; have GE := Aside0.mk (show w.heap.size ≤ ge from by have := HB.out.size; omega); have n3_ := Aside0.mk (HM.out.below hb); clear HB HM; have HB := n1_; have HM := n3_; clear n1_ n3_ hb hbox hg))
  go_ret2
  exact ⟨ge, gm, rfl, HB.out, ⟨HB.out, GE.out, GM.out, BK7.out, [], HM.out, fun p hp => by cases hp⟩⟩
theorem get_calls (wb : World) (n : Int) (qs : List (List S43)) (ins : List Int) (Aq : Option Addr) (cq : Nat) (Ai : Option Addr) (ci ge gm : Nat) (hq : Kd.C (Kd.slice 43 k43) wb Aq qs.length qs) (hi : Kd.C (Kd.int .i64) wb Ai ins.length ins) (k : Nat) : ∀ (W : World) (kind a b r : Int), Ev wb n qs ins Aq cq Ai ci ge gm W → G qs ins k kind a = some r → Calls Try.prog 17 #[.pointer (some ⟨ge, 0, none⟩), .agg #[.int .i64 kind, .int .i64 a, .int .i64 b]] W fun e W' => e = .returned (.int .i64 r) ∧ Kp W W' (fun k => k = gm) ∧ Ev wb n qs ins Aq cq Ai ci ge gm W' :=
  Nat.strongRecOn k (fun k ih W kind a b r hE h => get_step wb n qs ins Aq cq Ai ci ge gm hq hi k ih W kind a b r hE h)
/-- the checks ahead: 0, or the fault -/
def pre_ (n : Int) (qs : List (List S43)) (ins : List Int) (q : Int) : Option Int := (querylang_Check.f 100 n qs).bind fun e => if e ≠ 0 then some e else if (ins.length : Int) ≠ n ∨ q < 0 ∨ q ≥ (qs.length : Int) then some 1 else some 0
theorem nev_bad (n : Int) (A : Option Addr) (c : Nat) (qs : List (List S43)) (Ai : Option Addr) (ci : Nat) (ins : List Int) (q : Int) (w : World) (hq : Kd.C (Kd.slice 43 k43) w A qs.length qs) (hc : qs.length ≤ c) (hi : Kd.C (Kd.int .i64) w Ai ins.length ins) (hci : ins.length ≤ ci) (e : Int) (h : pre_ n qs ins q = some e) (he : e ≠ 0) :
    Calls Try.prog 16 #[.agg #[.int .i64 n, .slice A qs.length c], .slice Ai ins.length ci, .int .i64 q] w fun E w' => E = .returned (.tuple #[.pointer none, .int .i64 e]) ∧ Below w.heap.size w w' := by
  unfold pre_ at h
  obtain ⟨e0, hk, h⟩ := Option.bind_eq_some_iff.1 h
  split at h
  · obtain rfl := Option.some.inj h
    exact nev_e n A c qs Ai ci ins q e0 w hq hc hi hci hk he
  rename_i hz
  obtain rfl : e0 = 0 := by omega
  split at h
  · rename_i hb
    obtain rfl := Option.some.inj h
    by_cases h1 : (ins.length : Int) = n
    · by_cases h2 : q < 0
      · exact nev_2 n A c qs Ai ci ins q w hq hc hi hci hk h1 h2
      · exact nev_3 n A c qs Ai ci ins q w hq hc hi hci hk h1 h2 (by omega)
    · exact nev_1 n A c qs Ai ci ins q w hq hc hi hci hk h1
  · exact absurd (Option.some.inj h).symm he
theorem nev_good (n : Int) (A : Option Addr) (c : Nat) (qs : List (List S43)) (Ai : Option Addr) (ci : Nat) (ins : List Int) (q : Int) (w : World) (hq : Kd.C (Kd.slice 43 k43) w A qs.length qs) (hc : qs.length ≤ c) (hi : Kd.C (Kd.int .i64) w Ai ins.length ins) (hci : ins.length ≤ ci) (h : pre_ n qs ins q = some 0) :
    Calls Try.prog 16 #[.agg #[.int .i64 n, .slice A qs.length c], .slice Ai ins.length ci, .int .i64 q] w fun e w' => ∃ ge gm, e = .returned (.tuple #[.pointer (some ⟨ge, 0, none⟩), .int .i64 0]) ∧ Below w.heap.size w w' ∧ Ev w n qs ins A c Ai ci ge gm w' := by
  unfold pre_ at h
  obtain ⟨e0, hk, h⟩ := Option.bind_eq_some_iff.1 h
  split at h
  · rename_i hz; exact absurd (Option.some.inj h) hz
  rename_i hz
  obtain rfl : e0 = 0 := by omega
  split at h
  · exact absurd (Option.some.inj h) (by decide)
  · rename_i hb
    exact nev_ok n A c qs Ai ci ins q w hq hc hi hci hk (by omega) (by omega) (by omega)
def querylang_Eval.f (a0_0 : Int) (l0_1 : List (List (S43))) (l1 : List Int) (a2 : Int) : Option (Int × Int) := (pre_ a0_0 l0_1 l1 a2).bind fun e => if e ≠ 0 then some (0, e) else (G l0_1 l1 50 1 a2).bind fun r => some (r, 0)
set_option maxHeartbeats 4000000 in
set_option maxRecDepth 100000 in
theorem eval_bad (n : Int) (A : Option Addr) (c : Nat) (qs : List (List S43)) (Ai : Option Addr) (ci : Nat) (ins : List Int) (q : Int) (w : World) (hq : Kd.C (Kd.slice 43 k43) w A qs.length qs) (hc : qs.length ≤ c) (hi : Kd.C (Kd.int .i64) w Ai ins.length ins) (hci : ins.length ≤ ci) (e : Int) (h : pre_ n qs ins q = some e) (he : e ≠ 0) :
    Calls Try.prog 10 #[.agg #[.int .i64 n, .slice A qs.length c], .slice Ai ins.length ci, .int .i64 q] w fun E w' => E = .returned (.tuple #[.int .i64 0, .int .i64 e]) ∧ Below w.heap.size w w' := by
  have hu24 := Try.underlying24
  have hu59 := Try.underlying59
  have hu40 := Try.underlying40
  have HQ := Aside0.mk hq
  have HC := Aside0.mk hc
  have HI := Aside0.mk hi
  clear hq hc hi
  have HCI := Aside0.mk hci
  have HP := Aside0.mk h
  clear hci h
  have f0 : (e != 0) = true := bne_iff_ne.mpr he
  go_enter Try.func10, Try.ntmps10
  go_wp2_with (first | ((with_reducible refine gate_dst (N := 3) rfl ?_); refine box_event ?hg (N := 3) ?hd (cs := #[.int .i64 n, .slice A qs.length c]) (t := 24) ?hr ?_; (case hd => rfl); (case hg => rfl); (case hr => first | (go_simp; done) | (go_simp; rfl)); intro g3 hg w3 hbox hb; have HB := Aside0.mk hb; have BK3 := Aside0.mk hbox; clear hb hbox hg; have hc3_0 : w3.cell? ⟨g3, 0, none⟩ = some (.int .i64 n) := (blk_cell BK3.out 0).trans rfl; have hc3_1 : w3.cell? ⟨g3, 1, none⟩ = some (.slice A qs.length c) := (blk_cell BK3.out 1).trans rfl) | (go_at_call 16; refine (nev_bad n A c qs Ai ci ins q _ (Kd.C_below HQ.out HB.out) HC.out (Kd.C_below HI.out HB.out) HCI.out e HP.out he).mono ?_; rintro e_ w5 ⟨rfl, hb⟩; have n1_ := Aside0.mk (below_step HB.out hb); clear HB hb; have HB := n1_; clear n1_))
  go_ret2
  exact ⟨rfl, HB.out⟩
set_option maxHeartbeats 4000000 in
set_option maxRecDepth 100000 in
theorem eval_good (n : Int) (A : Option Addr) (c : Nat) (qs : List (List S43)) (Ai : Option Addr) (ci : Nat) (ins : List Int) (q : Int) (w : World) (hq : Kd.C (Kd.slice 43 k43) w A qs.length qs) (hc : qs.length ≤ c) (hi : Kd.C (Kd.int .i64) w Ai ins.length ins) (hci : ins.length ≤ ci) (r : Int) (h : pre_ n qs ins q = some 0) (hg : G qs ins 50 1 q = some r) :
    Calls Try.prog 10 #[.agg #[.int .i64 n, .slice A qs.length c], .slice Ai ins.length ci, .int .i64 q] w fun E w' => E = .returned (.tuple #[.int .i64 r, .int .i64 0]) ∧ Below w.heap.size w w' := by
  have hu24 := Try.underlying24
  have hu59 := Try.underlying59
  have hu40 := Try.underlying40
  have HQ := Aside0.mk hq
  have HC := Aside0.mk hc
  have HI := Aside0.mk hi
  clear hq hc hi
  have HCI := Aside0.mk hci
  have HP := Aside0.mk h
  have HG := Aside0.mk hg
  clear hci h hg
  have z0 : ((0 : Int) != 0) = false := rfl
  go_enter Try.func10, Try.ntmps10
  go_wp2_with (first | ((with_reducible refine gate_dst (N := 3) rfl ?_); refine box_event ?hg (N := 3) ?hd (cs := #[.int .i64 n, .slice A qs.length c]) (t := 24) ?hr ?_; (case hd => rfl); (case hg => rfl); (case hr => first | (go_simp; done) | (go_simp; rfl)); intro g3 hg w3 hbox hb; have HB := Aside0.mk hb; have BK3 := Aside0.mk hbox; clear hb hbox hg; have hc3_0 : w3.cell? ⟨g3, 0, none⟩ = some (.int .i64 n) := (blk_cell BK3.out 0).trans rfl; have hc3_1 : w3.cell? ⟨g3, 1, none⟩ = some (.slice A qs.length c) := (blk_cell BK3.out 1).trans rfl) | (go_at_call 16; refine (nev_good n A c qs Ai ci ins q _ (Kd.C_below HQ.out HB.out) HC.out (Kd.C_below HI.out HB.out) HCI.out HP.out).mono ?_; rintro e_ w5 ⟨ge, gm, rfl, hb, hev⟩; have n1_ := Aside0.mk (below_step HB.out hb); have HEV := Aside0.mk hev; have HB3 := HB; clear HB hb hev; have HB := n1_; clear n1_) | (go_at_call 17; refine (get_calls w3 n qs ins A c Ai ci ge gm (Kd.C_below HQ.out HB3.out) (Kd.C_below HI.out HB3.out) 50 _ 1 q 0 r HEV.out HG.out).mono ?_; rintro e_ w7 ⟨rfl, hk1, hev⟩; have n1_ := Aside0.mk (hk1.below HB.out HB.out.size (fun k hk => by have h1_ := HEV.out.gm1; have h2_ := HB3.out.size; omega)); clear HB hk1 hev; have HB := n1_; clear n1_))
  go_ret2
  exact ⟨rfl, HB.out⟩
theorem querylang_Eval.calls (a0_0 : Int) (A0_1 : Option Addr) (c0_1 : Nat) (l0_1 : List (List (S43))) (A1 : Option Addr) (c1 : Nat) (l1 : List Int) (a2 : Int) (r1 : Int) (r2 : Int) (w : World) (hr0_1 : Kd.C (Kd.slice 43 k43) w A0_1 l0_1.length l0_1) (hc0_1 : l0_1.length ≤ c0_1) (hr1 : Kd.C (Kd.int .i64) w A1 l1.length l1) (hc1 : l1.length ≤ c1) (h : querylang_Eval.f a0_0 l0_1 l1 a2 = some (r1, r2)) :
    Calls Try.prog 10 #[.agg #[.int .i64 a0_0, .slice A0_1 l0_1.length c0_1], .slice A1 l1.length c1, .int .i64 a2] w fun e w' => e = .returned (.tuple #[.int .i64 r1, .int .i64 r2]) ∧ Below w.heap.size w w' := by
  unfold querylang_Eval.f at h
  obtain ⟨e, hp, h⟩ := Option.bind_eq_some_iff.1 h
  split at h
  · rename_i he
    simp only [Option.some.injEq, Prod.mk.injEq] at h
    obtain ⟨rfl, rfl⟩ := h
    exact eval_bad a0_0 A0_1 c0_1 l0_1 A1 c1 l1 a2 w hr0_1 hc0_1 hr1 hc1 e hp he
  · rename_i he
    obtain rfl : e = 0 := by omega
    obtain ⟨r, hg, h⟩ := Option.bind_eq_some_iff.1 h
    simp only [Option.some.injEq, Prod.mk.injEq] at h
    obtain ⟨rfl, rfl⟩ := h
    exact eval_good a0_0 A0_1 c0_1 l0_1 A1 c1 l1 a2 w hr0_1 hc0_1 hr1 hc1 r hp hg
end Go.Proofs.Ytnhkfelpahjgpaa.Qu
