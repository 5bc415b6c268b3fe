/- fixpoint.validStep: whether a step of a proof is valid. Condition: the index within the proof, fewer than 1000000000 entries in the lists. -/
import Derived.Test.YtgjcembdmohhkaaFsx0
import Derived.Test.YtgjcembdmohhkaaFshDv
import Derived.BigQuiet
namespace Go.Proofs.Ytgjcembdmohhkaa.Fs
open Go.RowKit Go.Proofs.YtgjcembdmohhkaaW.PrintWords Go.Proofs.YtgjcembdmohhkaaW.PrintLast Go.Proofs.YtgjcembdmohhkaaW.PrintMore
open Go.Proofs.Ytgjcembdmohhkaa
set_option linter.unusedVariables false
set_option linter.unusedSimpArgs false

attribute [local go_sem] Oper.semAt_some
theorem blk_put {w : World} {g : Nat} {t : TypeId} {cs cs2 : Array Value} (h : w.heap[g]? = some (.cells cs t (0, 0))) (i : Nat) (u : Value) (hc : cs.setIfInBounds i u = cs2) : (w.setCell ⟨g, i, none⟩ u).heap[g]? = some (.cells cs2 t (0, 0)) := hc ▸ blk_set h i u
/-- a step for this set and this element -/
def hasF (set el : Int) (d : S59) : Bool := (d.f0 == set) && (d.f2 == el)
def missF (pre : List S59) (el set : Int) : Bool := !pre.any (hasF set el)
theorem take59 (l : List S59) (i : Nat) (h : i < l.length) : l.drop i = rd_T59 l (i : Int) :: l.drop (i + 1) := by
  rw [List.drop_eq_getElem_cons h]
  unfold rd_T59
  simp [h]
set_option maxHeartbeats 4000000 in
theorem pred43 (d s : S59) (set : Int) (gs g7 : Nat) (w : World) (hs : w.heap[gs]? = some (.cells #[.int .i64 set] 3 (0, 0))) (h7 : w.heap[g7]? = some (.cells #[.int .i64 s.f0, .int .i64 s.f1, .int .i64 s.f2] 59 (0, 0))) :
    Calls Try.prog 43 #[.agg #[.int .i64 d.f0, .int .i64 d.f1, .int .i64 d.f2], .pointer (some ⟨gs, 0, none⟩), .pointer (some ⟨g7, 0, none⟩)] w fun e w' => e = .returned (.bool (hasF set s.f2 d)) ∧ Below w.heap.size w w' := by
  have hu59 := Try.underlying59
  have BS := Aside0.mk hs
  have B7 := Aside0.mk h7
  clear hs h7
  unfold hasF
  cases c : (d.f0 == set) with
  | false =>
    go_enter Try.func43, Try.ntmps43
    go_wp2_with (((with_reducible refine gate_dst (N := 3) rfl ?_); refine box_event ?hg (N := 3) ?hd (cs := #[.int .i64 d.f0, .int .i64 d.f1, .int .i64 d.f2]) (t := 59) ?hr ?_; (case hd => rfl); (case hg => rfl); (case hr => first | (go_simp; done) | (go_simp; rfl)); intro gd hg w3 hbox hb; have BKgd := Aside0.mk hbox; have HB := Aside0.mk hb; have n1_ := Aside0.mk (blk_below BS.out hb); have n2_ := Aside0.mk (blk_below B7.out hb); have hd0 : w3.cell? ⟨gd, 0, none⟩ = some (.int .i64 d.f0) := (blk_cell BKgd.out 0).trans rfl; have hd2 : w3.cell? ⟨gd, 2, none⟩ = some (.int .i64 d.f2) := (blk_cell BKgd.out 2).trans rfl; have hs0 : w3.cell? ⟨gs, 0, none⟩ = some (.int .i64 set) := (blk_cell n1_.out 0).trans rfl; have hs2 : w3.cell? ⟨g7, 2, none⟩ = some (.int .i64 s.f2) := (blk_cell n2_.out 2).trans rfl; clear n1_ n2_; clear hbox hb hg))
    go_ret
    exact ⟨rfl, HB.out⟩
  | true =>
    go_enter Try.func43, Try.ntmps43
    go_wp2_with (((with_reducible refine gate_dst (N := 3) rfl ?_); refine box_event ?hg (N := 3) ?hd (cs := #[.int .i64 d.f0, .int .i64 d.f1, .int .i64 d.f2]) (t := 59) ?hr ?_; (case hd => rfl); (case hg => rfl); (case hr => first | (go_simp; done) | (go_simp; rfl)); intro gd hg w3 hbox hb; have BKgd := Aside0.mk hbox; have HB := Aside0.mk hb; have n1_ := Aside0.mk (blk_below BS.out hb); have n2_ := Aside0.mk (blk_below B7.out hb); have hd0 : w3.cell? ⟨gd, 0, none⟩ = some (.int .i64 d.f0) := (blk_cell BKgd.out 0).trans rfl; have hd2 : w3.cell? ⟨gd, 2, none⟩ = some (.int .i64 d.f2) := (blk_cell BKgd.out 2).trans rfl; have hs0 : w3.cell? ⟨gs, 0, none⟩ = some (.int .i64 set) := (blk_cell n1_.out 0).trans rfl; have hs2 : w3.cell? ⟨g7, 2, none⟩ = some (.int .i64 s.f2) := (blk_cell n2_.out 2).trans rfl; clear n1_ n2_; clear hbox hb hg))
    go_ret
    exact ⟨by simp, HB.out⟩
set_option maxHeartbeats 4000000 in
set_option maxRecDepth 100000 in
theorem index26v (A0 : Option Addr) (c0 : Nat) (l0 : List (S59)) (s : S59) (set : Int) (gs g7 : Nat) (w : World) (hr0 : Kd.C k59 w A0 l0.length l0) (hc0 : l0.length ≤ c0) (hl0 : l0.length < 1000000000) (hs : w.heap[gs]? = some (.cells #[.int .i64 set] 3 (0, 0))) (h7 : w.heap[g7]? = some (.cells #[.int .i64 s.f0, .int .i64 s.f1, .int .i64 s.f2] 59 (0, 0))) :
    Calls Try.prog 26 #[.slice A0 l0.length c0, .func (.func 43) #[] #[.pointer (some ⟨gs, 0, none⟩), .pointer (some ⟨g7, 0, none⟩)]] w fun e w' => e = .returned (.int .i64 (ixs (hasF set s.f2) l0 0)) ∧ Below w.heap.size w w' := by
  have hu31 := Try.underlying31
  have HR0 := Aside0.mk hr0
  have HC0 := Aside0.mk hc0
  have HLEN := Aside0.mk hl0
  clear hr0 hc0 hl0
  have HB := Aside0.mk (Below.refl w.heap.size w)
  have BS := Aside0.mk hs
  have B7 := Aside0.mk h7
  clear hs h7
  have hu59 := Try.underlying59
  go_enter Try.func26, Try.ntmps26
  go_wp2
  go_loopg [8] l0.length (fun kq v8 w' => ∃ x : Int, v8 = .int .i64 x ∧ Aside0 (∃ i : Nat, x = i ∧ i + kq = l0.length ∧ ixs (hasF set s.f2) (l0.drop i) (i : Int) = ixs (hasF set s.f2) l0 0) ∧ Aside0 (Below w.heap.size w w'))
  case atStart => exact ⟨0, rfl, ⟨⟨0, rfl, by omega, rfl⟩⟩, HB⟩
  case round =>
    clear HB
    obtain ⟨x, rfl, HX, HB⟩ := hrel
    by_cases c : x < (l0.length : Int)
    · have c1 : decide (x < (l0.length : Int)) = true := decide_eq_true c
      obtain ⟨i, e1, e2, e3⟩ := HX.out
      clear HX
      obtain ⟨k1, rfl⟩ : ∃ k1, gk = k1 + 1 := ⟨gk - 1, by omega⟩
      have E1 := Aside0.mk (And.intro e1 e2)
      rw [take59 l0 i (by omega), ← e1, ixs_cons] at e3
      have E3 := Aside0.mk e3
      have p1 : 0 ≤ (x : Int) := by omega
      obtain ⟨ad, ea, hx0, hx1, hx2⟩ := at_T59 HR0.out x p1 c
      cases ea
      replace hx0 := (HB.out.cell (World.block_lt_of_cell? w _ hx0)).trans hx0
      replace hx1 := (HB.out.cell (World.block_lt_of_cell? w _ hx1)).trans hx1
      replace hx2 := (HB.out.cell (World.block_lt_of_cell? w _ hx2)).trans hx2
      replace p1 := eq_true p1
      have q1 := eq_true c
      clear e1 e2 e3 c
      cases hv : (hasF set s.f2) (rd_T59 l0 x) with
      | false =>
        have e4 := E3.out
        rw [if_neg (by rw [hv]; simp)] at e4
        have E4 := Aside0.mk e4
        clear e4 E3
        go_wp2_with (go_at_call 43; refine (pred43 (rd_T59 l0 x) s set gs g7 _ (blk_below BS.out HB.out) (blk_below B7.out HB.out)).mono ?_; rintro e w7 ⟨he, hb⟩; rw [hv] at he; subst he; have n1_ := Aside0.mk (below_step HB.out hb); clear HB hb; have HB := n1_; clear n1_)
        go_roundg k1
        case measure => have := E1.out; omega
        case rel => exact ⟨wrap64 (x + 1), rfl, ⟨⟨i + 1, by have := E1.out; rw [w64_id' (by omega) (by have := HLEN.out; omega)]; omega, by have := E1.out; omega, by rw [← E4.out, E1.out.1]; rfl⟩⟩, HB⟩
      | true =>
        have e4 := E3.out
        rw [if_pos hv] at e4
        have E4 := Aside0.mk e4
        clear e4 E3
        go_wp2_with (go_at_call 43; refine (pred43 (rd_T59 l0 x) s set gs g7 _ (blk_below BS.out HB.out) (blk_below B7.out HB.out)).mono ?_; rintro e w7 ⟨he, hb⟩; rw [hv] at he; subst he; have n1_ := Aside0.mk (below_step HB.out hb); clear HB hb; have HB := n1_; clear n1_)
        go_ret
        exact ⟨by rw [← E4.out]; rfl, HB.out⟩
    · have c1 : decide (x < (l0.length : Int)) = false := decide_eq_false c
      obtain ⟨i, e1, e2, e3⟩ := HX.out
      clear HX
      obtain rfl : i = l0.length := by omega
      rw [List.drop_length] at e3
      have E3 := Aside0.mk (show (-1 : Int) = ixs (hasF set s.f2) l0 0 from e3)
      clear e1 e2 c e3
      go_wp2
      go_ret
      exact ⟨by rw [← E3.out]; rfl, HB.out⟩
set_option maxHeartbeats 2000000 in
theorem contains42v (A0 : Option Addr) (c0 : Nat) (l0 : List (S59)) (s : S59) (set : Int) (gs g7 : Nat) (w : World) (hr0 : Kd.C k59 w A0 l0.length l0) (hc0 : l0.length ≤ c0) (hl0 : l0.length < 1000000000) (hs : w.heap[gs]? = some (.cells #[.int .i64 set] 3 (0, 0))) (h7 : w.heap[g7]? = some (.cells #[.int .i64 s.f0, .int .i64 s.f1, .int .i64 s.f2] 59 (0, 0))) :
    Calls Try.prog 42 #[.slice A0 l0.length c0, .func (.func 43) #[] #[.pointer (some ⟨gs, 0, none⟩), .pointer (some ⟨g7, 0, none⟩)]] w fun e w' => e = .returned (.bool (l0.any (hasF set s.f2))) ∧ Below w.heap.size w w' := by
  rw [← ixs_any (hasF set s.f2) l0 0 (Int.le_refl _)]
  have hcon := index26v A0 c0 l0 s set gs g7 w hr0 hc0 hl0 hs h7
  generalize ixs (hasF set s.f2) l0 0 = n at hcon ⊢
  have HCON := Aside0.mk hcon
  clear hcon hr0 hc0 hl0
  go_enter Try.func42, Try.ntmps42
  go_wp2_with (go_at_call 26; refine HCON.out.mono ?_; rintro e w7 ⟨rfl, hb⟩; have HB := Aside0.mk hb; clear hb)
  go_ret
  exact ⟨by simp, HB.out⟩
theorem contains42n (A0 : Option Addr) (c0 : Nat) (l0 : List (S59)) (n : Nat) (hn : n = l0.length) (s : S59) (set : Int) (gs g7 : Nat) (w : World) (hr0 : Kd.C k59 w A0 l0.length l0) (hc0 : l0.length ≤ c0) (hl0 : l0.length < 1000000000) (hs : w.heap[gs]? = some (.cells #[.int .i64 set] 3 (0, 0))) (h7 : w.heap[g7]? = some (.cells #[.int .i64 s.f0, .int .i64 s.f1, .int .i64 s.f2] 59 (0, 0))) :
    Calls Try.prog 42 #[.slice A0 n c0, .func (.func 43) #[] #[.pointer (some ⟨gs, 0, none⟩), .pointer (some ⟨g7, 0, none⟩)]] w fun e w' => e = .returned (.bool (l0.any (hasF set s.f2))) ∧ Below w.heap.size w w' := by
  subst hn
  exact contains42v A0 c0 l0 s set gs g7 w hr0 hc0 hl0 hs h7
set_option maxHeartbeats 4000000 in
theorem pred41 (set : Int) (l1 : List S59) (A1 : Option Addr) (c1 i : Nat) (s : S59) (g4 g5 g7 : Nat) (w : World) (hr1 : Kd.C k59 w A1 l1.length l1) (hc1 : l1.length ≤ c1) (hl1 : l1.length < 1000000000) (hi : i ≤ l1.length) (h4 : w.heap[g4]? = some (.cells #[.slice A1 l1.length c1] 41 (0, 0))) (h5 : w.heap[g5]? = some (.cells #[.int .i64 (i : Int)] 3 (0, 0))) (h7 : w.heap[g7]? = some (.cells #[.int .i64 s.f0, .int .i64 s.f1, .int .i64 s.f2] 59 (0, 0))) :
    Calls Try.prog 41 #[.int .i64 set, .pointer (some ⟨g4, 0, none⟩), .pointer (some ⟨g5, 0, none⟩), .pointer (some ⟨g7, 0, none⟩)] w fun e w' => e = .returned (.bool (missF (l1.take i) s.f2 set)) ∧ Below w.heap.size w w' := by
  have hu41 := Try.underlying41
  have hlt : (l1.take i).length = i := by rw [List.length_take]; omega
  have B4 := Aside0.mk h4
  have B5 := Aside0.mk h5
  have B7 := Aside0.mk h7
  have HP := Aside0.mk (show Kd.C k59 w A1 (l1.take i).length (l1.take i) from Kd.C_take hr1 hi)
  have HCC := Aside0.mk (And.intro hc1 (And.intro hl1 hi))
  obtain ⟨i9, hi9, _, hsz9, _⟩ := info_parts info59
  have hcut := cut_to (P := Try.prog) 41 59 .i64 Try.underlying41 hi9 A1 l1.length c1 (i : Int) (by omega) (by omega) hc1
  rw [Int.toNat_natCast] at hcut
  clear h4 h5 h7 hr1 hc1 hl1 hi hi9 hsz9
  unfold missF
  go_enter Try.func41, Try.ntmps41
  go_wp2_with (first | ((with_reducible refine gate_dst (N := 4) rfl ?_); refine box_event ?hg (N := 4) ?hd (cs := #[.int .i64 set]) (t := 3) ?hr ?_; (case hd => rfl); (case hg => rfl); (case hr => first | (go_simp; done) | (go_simp; rfl)); intro g9 hg w3 hbox hb; have BKg9 := Aside0.mk hbox; have HB := Aside0.mk hb; have n0_ := Aside0.mk (blk_below B4.out hb); have n1_ := Aside0.mk (blk_below B5.out hb); have n2_ := Aside0.mk (blk_below B7.out hb); have n3_ := Aside0.mk (Kd.C_below HP.out hb); clear B7 HP B4 B5; have B7 := n2_; have HP := n3_; have BS := BKg9; clear BKg9; have hs4 : w3.cell? ⟨g4, 0, none⟩ = some (.slice A1 l1.length c1) := (blk_cell n0_.out 0).trans rfl; have hs5 : w3.cell? ⟨g5, 0, none⟩ = some (.int .i64 (i : Int)) := (blk_cell n1_.out 0).trans rfl; clear n0_ n1_ n2_ n3_; clear hbox hb hg) | (go_at_call 42; refine (contains42n A1 c1 (l1.take i) i hlt.symm s set g9 g7 _ (by repeat (first | exact HP.out | (with_reducible refine Kd.C_alloc ?_ _))) (by have h_ := HCC.out; rw [List.length_take]; omega) (by have h_ := HCC.out; rw [List.length_take]; omega) (by repeat (first | exact BS.out | (with_reducible refine blk_alloc ?_ _))) (by repeat (first | exact B7.out | (with_reducible refine blk_alloc ?_ _)))).mono ?_; rintro e_ w7 ⟨rfl, hb⟩; have n1_ := Aside0.mk (below_step (show Below w.heap.size w _ from by repeat (first | exact HB.out | apply below_alloc)) hb); clear HB hb; have HB := n1_; clear n1_))
  go_ret
  exact ⟨rfl, HB.out⟩
set_option maxHeartbeats 4000000 in
set_option maxRecDepth 100000 in
theorem index44v (A0 : Option Addr) (c0 : Nat) (l0 : List (Int)) (l1 : List S59) (A1 : Option Addr) (cc n : Nat) (s : S59) (g4 g5 g7 : Nat) (w : World) (hr0 : Kd.C (Kd.int .i64) w A0 l0.length l0) (hc0 : l0.length ≤ c0) (hl0 : l0.length < 1000000000) (hr1 : Kd.C k59 w A1 l1.length l1) (hc1 : l1.length ≤ cc) (hl1 : l1.length < 1000000000) (hi : n ≤ l1.length) (h4 : w.heap[g4]? = some (.cells #[.slice A1 l1.length cc] 41 (0, 0))) (h5 : w.heap[g5]? = some (.cells #[.int .i64 (n : Int)] 3 (0, 0))) (h7 : w.heap[g7]? = some (.cells #[.int .i64 s.f0, .int .i64 s.f1, .int .i64 s.f2] 59 (0, 0))) :
    Calls Try.prog 44 #[.slice A0 l0.length c0, .func (.func 41) #[] #[.pointer (some ⟨g4, 0, none⟩), .pointer (some ⟨g5, 0, none⟩), .pointer (some ⟨g7, 0, none⟩)]] w fun e w' => e = .returned (.int .i64 (ixs (missF (l1.take n) s.f2) l0 0)) ∧ Below w.heap.size w w' := by
  have hu31 := Try.underlying31
  have HR0 := Aside0.mk hr0
  have HC0 := Aside0.mk hc0
  have HLEN := Aside0.mk hl0
  clear hr0 hc0 hl0
  have HB := Aside0.mk (Below.refl w.heap.size w)
  have B4 := Aside0.mk h4
  have B5 := Aside0.mk h5
  have B7 := Aside0.mk h7
  have HR1 := Aside0.mk hr1
  have HC1 := Aside0.mk (And.intro hc1 (And.intro hl1 hi))
  clear h4 h5 h7 hr1 hc1 hl1 hi
  go_enter Try.func44, Try.ntmps44
  go_wp2
  go_loopg [8] l0.length (fun kq v8 w' => ∃ x : Int, v8 = .int .i64 x ∧ Aside0 (∃ i : Nat, x = i ∧ i + kq = l0.length ∧ ixs (missF (l1.take n) s.f2) (l0.drop i) (i : Int) = ixs (missF (l1.take n) s.f2) l0 0) ∧ Aside0 (Below w.heap.size w w'))
  case atStart => exact ⟨0, rfl, ⟨⟨0, rfl, by omega, rfl⟩⟩, HB⟩
  case round =>
    clear HB
    obtain ⟨x, rfl, HX, HB⟩ := hrel
    by_cases c : x < (l0.length : Int)
    · have c1 : decide (x < (l0.length : Int)) = true := decide_eq_true c
      obtain ⟨i, e1, e2, e3⟩ := HX.out
      clear HX
      obtain ⟨k1, rfl⟩ : ∃ k1, gk = k1 + 1 := ⟨gk - 1, by omega⟩
      have E1 := Aside0.mk (And.intro e1 e2)
      rw [takeI l0 i (by omega), ← e1, ixs_cons] at e3
      have E3 := Aside0.mk e3
      have p1 : 0 ≤ (x : Int) := by omega
      obtain ⟨ad, ea, hx0⟩ := Kd.at_int HR0.out x p1 c
      cases ea
      replace hx0 := (HB.out.cell (World.block_lt_of_cell? w _ hx0)).trans hx0
      replace p1 := eq_true p1
      have q1 := eq_true c
      clear e1 e2 e3 c
      cases hv : (missF (l1.take n) s.f2) (rd l0 x) with
      | false =>
        have e4 := E3.out
        rw [if_neg (by rw [hv]; simp)] at e4
        have E4 := Aside0.mk e4
        clear e4 E3
        go_wp2_with (go_at_call 41; refine (pred41 (rd l0 x) l1 A1 cc n s g4 g5 g7 _ (Kd.C_below HR1.out HB.out) HC1.out.1 HC1.out.2.1 HC1.out.2.2 (blk_below B4.out HB.out) (blk_below B5.out HB.out) (blk_below B7.out HB.out)).mono ?_; rintro e w7 ⟨he, hb⟩; rw [hv] at he; subst he; have n1_ := Aside0.mk (below_step HB.out hb); clear HB hb; have HB := n1_; clear n1_)
        go_roundg k1
        case measure => have := E1.out; omega
        case rel => exact ⟨wrap64 (x + 1), rfl, ⟨⟨i + 1, by have := E1.out; rw [w64_id' (by omega) (by have := HLEN.out; omega)]; omega, by have := E1.out; omega, by rw [← E4.out, E1.out.1]; rfl⟩⟩, HB⟩
      | true =>
        have e4 := E3.out
        rw [if_pos hv] at e4
        have E4 := Aside0.mk e4
        clear e4 E3
        go_wp2_with (go_at_call 41; refine (pred41 (rd l0 x) l1 A1 cc n s g4 g5 g7 _ (Kd.C_below HR1.out HB.out) HC1.out.1 HC1.out.2.1 HC1.out.2.2 (blk_below B4.out HB.out) (blk_below B5.out HB.out) (blk_below B7.out HB.out)).mono ?_; rintro e w7 ⟨he, hb⟩; rw [hv] at he; subst he; have n1_ := Aside0.mk (below_step HB.out hb); clear HB hb; have HB := n1_; clear n1_)
        go_ret
        exact ⟨by rw [← E4.out]; rfl, HB.out⟩
    · have c1 : decide (x < (l0.length : Int)) = false := decide_eq_false c
      obtain ⟨i, e1, e2, e3⟩ := HX.out
      clear HX
      obtain rfl : i = l0.length := by omega
      rw [List.drop_length] at e3
      have E3 := Aside0.mk (show (-1 : Int) = ixs (missF (l1.take n) s.f2) l0 0 from e3)
      clear e1 e2 c e3
      go_wp2
      go_ret
      exact ⟨by rw [← E3.out]; rfl, HB.out⟩
set_option maxHeartbeats 2000000 in
theorem contains33v (A0 : Option Addr) (c0 : Nat) (l0 : List (Int)) (l1 : List S59) (A1 : Option Addr) (cc n : Nat) (s : S59) (g4 g5 g7 : Nat) (w : World) (hr0 : Kd.C (Kd.int .i64) w A0 l0.length l0) (hc0 : l0.length ≤ c0) (hl0 : l0.length < 1000000000) (hr1 : Kd.C k59 w A1 l1.length l1) (hc1 : l1.length ≤ cc) (hl1 : l1.length < 1000000000) (hi : n ≤ l1.length) (h4 : w.heap[g4]? = some (.cells #[.slice A1 l1.length cc] 41 (0, 0))) (h5 : w.heap[g5]? = some (.cells #[.int .i64 (n : Int)] 3 (0, 0))) (h7 : w.heap[g7]? = some (.cells #[.int .i64 s.f0, .int .i64 s.f1, .int .i64 s.f2] 59 (0, 0))) :
    Calls Try.prog 33 #[.slice A0 l0.length c0, .func (.func 41) #[] #[.pointer (some ⟨g4, 0, none⟩), .pointer (some ⟨g5, 0, none⟩), .pointer (some ⟨g7, 0, none⟩)]] w fun e w' => e = .returned (.bool (l0.any (missF (l1.take n) s.f2))) ∧ Below w.heap.size w w' := by
  rw [← ixs_any (missF (l1.take n) s.f2) l0 0 (Int.le_refl _)]
  have hcon := index44v A0 c0 l0 l1 A1 cc n s g4 g5 g7 w hr0 hc0 hl0 hr1 hc1 hl1 hi h4 h5 h7
  generalize ixs (missF (l1.take n) s.f2) l0 0 = n at hcon ⊢
  have HCON := Aside0.mk hcon
  clear hcon hr0 hc0 hl0
  go_enter Try.func33, Try.ntmps33
  go_wp2_with (go_at_call 44; refine HCON.out.mono ?_; rintro e w7 ⟨rfl, hb⟩; have HB := Aside0.mk hb; clear hb)
  go_ret
  exact ⟨by simp, HB.out⟩
def vsF (l0 : List (List S31)) (l1 : List S59) (i : Nat) : Bool :=
  if (rd_T59 l1 i).f0 < 0 then false else if (l0.length : Int) ≤ (rd_T59 l1 i).f0 then false else if (rd_T59 l1 i).f1 < 0 then false else if ((rd_L3 l0 (rd_T59 l1 i).f0).length : Int) ≤ (rd_T59 l1 i).f1 then false
  else if (rd_T59 l1 i).f2 < 0 then false else if 20 ≤ (rd_T59 l1 i).f2 then false
  else bitF (rd_T59 l1 i).f2 (rd_T31 (rd_L3 l0 (rd_T59 l1 i).f0) (rd_T59 l1 i).f1).f0 && !(rd_T31 (rd_L3 l0 (rd_T59 l1 i).f0) (rd_T59 l1 i).f1).f1.any (missF (l1.take i) (rd_T59 l1 i).f2)
set_option maxHeartbeats 16000000 in
set_option maxRecDepth 100000 in
theorem vs_calls (A0 : Option Addr) (c0 : Nat) (l0 : List (List S31)) (A1 : Option Addr) (c1 : Nat) (l1 : List S59) (i : Nat) (w : World) (hr0 : Kd.C (Kd.slice 31 k31) w A0 l0.length l0) (hc0 : l0.length ≤ c0) (hr1 : Kd.C k59 w A1 l1.length l1) (hc1 : l1.length ≤ c1) (hi : i < l1.length) (hl1 : l1.length < 1000000000)
    (hall : (rd_T31 (rd_L3 l0 (rd_T59 l1 i).f0) (rd_T59 l1 i).f1).f1.length < 1000000000) :
    Calls Try.prog 30 #[.slice A0 l0.length c0, .slice A1 l1.length c1, .int .i64 (i : Int)] w fun e w' => e = .returned (.bool (vsF l0 l1 i)) ∧ Below w.heap.size w w' := by
  have hu31 := Try.underlying31
  have hu59 := Try.underlying59
  have p1 : 0 ≤ (i : Int) := by omega
  have q1 : (i : Int) < (l1.length : Int) := by omega
  obtain ⟨ad1, ea, hx0, hx1, hx2⟩ := at_T59 hr1 (i : Int) p1 q1
  cases ea
  unfold vsF
  obtain ⟨s, hs⟩ : ∃ s, s = rd_T59 l1 (i : Int) := ⟨_, rfl⟩
  rw [← hs] at hx0 hx1 hx2 hall ⊢
  clear hs
  generalize hres : (if s.f0 < 0 then false else _) = R
  have HRES := Aside0.mk hres
  clear hres
  have HR0 := Aside0.mk hr0
  have HC0 := Aside0.mk hc0
  have HR1 := Aside0.mk hr1
  have HC1 := Aside0.mk (show l1.length ≤ c1 ∧ l1.length < 1000000000 ∧ i ≤ l1.length from ⟨hc1, hl1, Nat.le_of_lt hi⟩)
  have HALL := Aside0.mk hall
  rw [Int.toNat_natCast] at hx0 hx1 hx2
  replace p1 := eq_true p1
  replace q1 := eq_true q1
  have q1b := eq_true hi
  clear hr0 hc0 hr1 hc1 hi hl1 hall
  go_enter Try.func30, Try.ntmps30
  go_upto_region 2 with (first | ((with_reducible refine gate_dst (N := 4) rfl ?_); refine box_event ?hg (N := 4) ?hd (cs := #[.slice (some ad1) l1.length c1]) (t := 41) ?hr ?_; (case hd => rfl); (case hg => rfl); (case hr => first | (go_simp; done) | (go_simp; rfl)); intro g4 hg w3 hbox hb; have BKg4 := Aside0.mk hbox; have HB := Aside0.mk hb; have hs4 : w3.cell? ⟨g4, 0, none⟩ = some (.slice (some ad1) l1.length c1) := (blk_cell hbox 0).trans rfl; have SZ := Aside0.mk (show w.heap.size ≤ g4 from Nat.le_of_eq hg.symm); clear hbox hb hg) | ((with_reducible refine gate_dst (N := 5) rfl ?_); refine box_event ?hg (N := 5) ?hd (cs := #[.int .i64 (i : Int)]) (t := 3) ?hr ?_; (case hd => rfl); (case hg => rfl); (case hr => first | (go_simp; done) | (go_simp; rfl)); intro g5 hg w4 hbox hb; have BKg5 := Aside0.mk hbox; have n1_ := Aside0.mk (below_step HB.out hb); clear HB; have HB := n1_; clear n1_; have n2_ := Aside0.mk (blk_below BKg4.out hb); clear BKg4 hs4; have BKg4 := n2_; clear n2_; have hs4 : w4.cell? ⟨g4, 0, none⟩ = some (.slice (some ad1) l1.length c1) := (blk_cell BKg4.out 0).trans rfl; have hs5 : w4.cell? ⟨g5, 0, none⟩ = some (.int .i64 (i : Int)) := (blk_cell BKg5.out 0).trans rfl; replace hx0 := (HB.out.cell (World.block_lt_of_cell? w _ hx0)).trans hx0; replace hx1 := (HB.out.cell (World.block_lt_of_cell? w _ hx1)).trans hx1; replace hx2 := (HB.out.cell (World.block_lt_of_cell? w _ hx2)).trans hx2; clear hbox hb hg) | ((with_reducible refine gate_dst (N := 7) rfl ?_); refine box_event ?hg (N := 7) ?hd (cs := #[.int .i64 0, .int .i64 0, .int .i64 0]) (t := 59) ?hr ?_; (case hd => rfl); (case hg => rfl); (case hr => first | (go_simp; done) | (go_simp; rfl)); intro g7 hg w5 hbox hb; have BKg7 := Aside0.mk hbox; have SZ7 := Aside0.mk (show w.heap.size ≤ g7 from by rw [hg]; exact HB.out.size); have n1_ := Aside0.mk (below_step HB.out hb); clear HB; have HB := n1_; clear n1_; have n2_ := Aside0.mk (blk_below BKg4.out hb); have n3_ := Aside0.mk (blk_below BKg5.out hb); clear BKg4 hs4 BKg5 hs5 hx0 hx1 hx2; have BKg4 := n2_; have BKg5 := n3_; clear n2_ n3_; have hc7_0 : w5.cell? ⟨g7, 0, none⟩ = some (.int .i64 0) := (blk_cell BKg7.out 0).trans rfl; have hf7_0 := blk_frozen BKg7.out 0; have hc7_1 : w5.cell? ⟨g7, 1, none⟩ = some (.int .i64 0) := (blk_cell BKg7.out 1).trans rfl; have hf7_1 := blk_frozen BKg7.out 1; have hc7_2 : w5.cell? ⟨g7, 2, none⟩ = some (.int .i64 0) := (blk_cell BKg7.out 2).trans rfl; have hf7_2 := blk_frozen BKg7.out 2; clear hbox hb hg))
  have BK7 := Aside0.mk (show (((w5.setCell ⟨g7, 0, none⟩ (.int .i64 s.f0)).setCell ⟨g7, 1, none⟩ (.int .i64 s.f1)).setCell ⟨g7, 2, none⟩ (.int .i64 s.f2)).heap[g7]? = some (.cells #[.int .i64 s.f0, .int .i64 s.f1, .int .i64 s.f2] 59 (0, 0)) from by refine blk_put (cs := #[.int .i64 s.f0, .int .i64 s.f1, .int .i64 0]) ?_ 2 _ rfl; refine blk_put (cs := #[.int .i64 s.f0, .int .i64 0, .int .i64 0]) ?_ 1 _ rfl; refine blk_put (cs := #[.int .i64 0, .int .i64 0, .int .i64 0]) ?_ 0 _ rfl; exact BKg7.out)
  have n1_ := Aside0.mk (show Below w.heap.size w (((w5.setCell ⟨g7, 0, none⟩ (.int .i64 s.f0)).setCell ⟨g7, 1, none⟩ (.int .i64 s.f1)).setCell ⟨g7, 2, none⟩ (.int .i64 s.f2)) from below_set (below_set (below_set HB.out SZ7.out) SZ7.out) SZ7.out)
  have NE47 := Aside0.mk (show g4 ≠ g7 from blk_ne BKg4.out BKg7.out (by decide))
  have NE57 := Aside0.mk (show g5 ≠ g7 from blk_ne BKg5.out BKg7.out (by decide))
  have n2_ := Aside0.mk (show (((w5.setCell ⟨g7, 0, none⟩ (.int .i64 s.f0)).setCell ⟨g7, 1, none⟩ (.int .i64 s.f1)).setCell ⟨g7, 2, none⟩ (.int .i64 s.f2)).heap[g4]? = some (.cells #[.slice (some ad1) l1.length c1] 41 (0, 0)) from (Below.heap_setCell _ _ _ _ NE47.out).trans ((Below.heap_setCell _ _ _ _ NE47.out).trans ((Below.heap_setCell _ _ _ _ NE47.out).trans BKg4.out)))
  have n3_ := Aside0.mk (show (((w5.setCell ⟨g7, 0, none⟩ (.int .i64 s.f0)).setCell ⟨g7, 1, none⟩ (.int .i64 s.f1)).setCell ⟨g7, 2, none⟩ (.int .i64 s.f2)).heap[g5]? = some (.cells #[.int .i64 (i : Int)] 3 (0, 0)) from (Below.heap_setCell _ _ _ _ NE57.out).trans ((Below.heap_setCell _ _ _ _ NE57.out).trans ((Below.heap_setCell _ _ _ _ NE57.out).trans BKg5.out)))
  clear HB BKg4 BKg5 BKg7 hc7_0 hc7_1 hc7_2 hf7_0 hf7_1 hf7_2 SZ SZ7 NE47 NE57
  generalize (((w5.setCell ⟨g7, 0, none⟩ (.int .i64 s.f0)).setCell ⟨g7, 1, none⟩ (.int .i64 s.f1)).setCell ⟨g7, 2, none⟩ (.int .i64 s.f2)) = w6 at BK7 n1_ n2_ n3_ ⊢
  have HB := n1_
  have BKg4 := n2_
  have BKg5 := n3_
  clear n1_ n2_ n3_
  have hs7_0 : w6.cell? ⟨g7, 0, none⟩ = some (.int .i64 s.f0) := (blk_cell BK7.out 0).trans rfl; have hs7_1 : w6.cell? ⟨g7, 1, none⟩ = some (.int .i64 s.f1) := (blk_cell BK7.out 1).trans rfl; have hs7_2 : w6.cell? ⟨g7, 2, none⟩ = some (.int .i64 s.f2) := (blk_cell BK7.out 2).trans rfl
  by_cases h0 : s.f0 < 0
  · have d0 : decide (s.f0 < 0) = true := decide_eq_true h0
    have H2 := HRES.out
    rw [if_pos h0] at H2
    clear HRES h0
    have HRES := Aside0.mk H2
    clear H2
    go_wp2
    go_quiet (fail)
    go_wp2
    go_ret
    exact ⟨by rw [← HRES.out]; rfl, by first | exact pw_below_drewN HB.out _ | exact HB.out⟩
  have d0 : decide (s.f0 < 0) = false := decide_eq_false h0
  have H2 := HRES.out
  rw [if_neg h0] at H2
  clear HRES
  have HRES := Aside0.mk H2
  clear H2
  by_cases h1 : (l0.length : Int) ≤ s.f0
  · have d1 : decide ((l0.length : Int) ≤ s.f0) = true := decide_eq_true h1
    have H2 := HRES.out
    rw [if_pos h1] at H2
    clear HRES h1
    have HRES := Aside0.mk H2
    clear H2
    go_wp2
    go_quiet (fail)
    go_wp2
    go_ret
    exact ⟨by rw [← HRES.out]; rfl, by first | exact pw_below_drewN HB.out _ | exact HB.out⟩
  have d1 : decide ((l0.length : Int) ≤ s.f0) = false := decide_eq_false h1
  have H2 := HRES.out
  rw [if_neg h1] at H2
  clear HRES
  have HRES := Aside0.mk H2
  clear H2
  have p2 : 0 ≤ s.f0 := by omega
  have q2 : s.f0 < (l0.length : Int) := by omega
  obtain ⟨ad, A2, c2, ea, hy0, hl2, hi2⟩ := at_L3 HR0.out s.f0 p2 q2
  cases ea
  have HY0 := Aside0.mk hy0
  replace hy0 := (HB.out.cell (World.block_lt_of_cell? w _ hy0)).trans hy0
  have HRL := Aside0.mk hi2
  clear hl2 hi2
  replace p2 := eq_true p2
  replace q2 := eq_true q2
  by_cases h2 : s.f1 < 0
  · have d2 : decide (s.f1 < 0) = true := decide_eq_true h2
    have H2 := HRES.out
    rw [if_pos h2] at H2
    clear HRES h2
    have HRES := Aside0.mk H2
    clear H2
    go_wp2
    go_quiet (fail)
    go_wp2
    go_ret
    exact ⟨by rw [← HRES.out]; rfl, by first | exact pw_below_drewN HB.out _ | exact HB.out⟩
  have d2 : decide (s.f1 < 0) = false := decide_eq_false h2
  have H2 := HRES.out
  rw [if_neg h2] at H2
  clear HRES
  have HRES := Aside0.mk H2
  clear H2
  by_cases h3 : ((rd_L3 l0 s.f0).length : Int) ≤ s.f1
  · have d3 : decide (((rd_L3 l0 s.f0).length : Int) ≤ s.f1) = true := decide_eq_true h3
    have H2 := HRES.out
    rw [if_pos h3] at H2
    clear HRES h3
    have HRES := Aside0.mk H2
    clear H2
    go_wp2
    go_quiet (fail)
    go_wp2
    go_ret
    exact ⟨by rw [← HRES.out]; rfl, by first | exact pw_below_drewN HB.out _ | exact HB.out⟩
  have d3 : decide (((rd_L3 l0 s.f0).length : Int) ≤ s.f1) = false := decide_eq_false h3
  have H2 := HRES.out
  rw [if_neg h3] at H2
  clear HRES
  have HRES := Aside0.mk H2
  clear H2
  have p3 : 0 ≤ s.f1 := by omega
  have q3 : s.f1 < ((rd_L3 l0 s.f0).length : Int) := by omega
  obtain ⟨ad2, A3, c3, ea, hz0, hz1, hl3, hi3⟩ := at_T31 HRL.out s.f1 p3 q3
  cases ea
  have HY1 := Aside0.mk hz0
  have HY2 := Aside0.mk hz1
  have HRA := Aside0.mk hi3
  have HLA := Aside0.mk (And.intro hl3 HALL.out)
  clear hz0 hz1 hl3 hi3
  replace p3 := eq_true p3
  replace q3 := eq_true q3
  by_cases h4 : s.f2 < 0
  · have d4 : decide (s.f2 < 0) = true := decide_eq_true h4
    have H2 := HRES.out
    rw [if_pos h4] at H2
    clear HRES h4
    have HRES := Aside0.mk H2
    clear H2
    go_wp2
    go_quiet (fail)
    go_wp2
    go_ret
    exact ⟨by rw [← HRES.out]; rfl, by first | exact pw_below_drewN HB.out _ | exact HB.out⟩
  have d4 : decide (s.f2 < 0) = false := decide_eq_false h4
  have H2 := HRES.out
  rw [if_neg h4] at H2
  clear HRES
  have HRES := Aside0.mk H2
  clear H2
  by_cases h5 : 20 ≤ s.f2
  · have d5 : decide (20 ≤ s.f2) = true := decide_eq_true h5
    have H2 := HRES.out
    rw [if_pos h5] at H2
    clear HRES h5
    have HRES := Aside0.mk H2
    clear H2
    go_wp2
    go_quiet (fail)
    go_wp2
    go_ret
    exact ⟨by rw [← HRES.out]; rfl, by first | exact pw_below_drewN HB.out _ | exact HB.out⟩
  have d5 : decide (20 ≤ s.f2) = false := decide_eq_false h5
  have H2 := HRES.out
  rw [if_neg h5] at H2
  clear HRES
  have HRES := Aside0.mk H2
  clear H2
  have he64 : s.f2 ≤ 64 := by omega
  have he0 : 0 ≤ s.f2 := by omega
  clear h0 h1 h2 h3 h4 h5
  go_wp2
  go_quiet (fail)
  have hb := pw_below_drewN (Below.refl w6.heap.size w6) nq
  have n1_ := Aside0.mk (below_step HB.out hb)
  have n2_ := Aside0.mk (blk_below BK7.out hb)
  have n4_ := Aside0.mk (blk_below BKg4.out hb)
  have n5_ := Aside0.mk (blk_below BKg5.out hb)
  clear HB BK7 BKg4 BKg5
  have HB := n1_
  have BK7 := n2_
  have BKg4 := n4_
  have BKg5 := n5_
  clear n1_ n2_ n4_ n5_
  clear hb hs7_0 hs7_1 hs7_2 hy0
  generalize w6.drewN nq = w6 at HB BK7 BKg4 BKg5 ⊢
  go_upto_region 5 with (fail)
  refine start_ (n := 11) (S := fun w' => w'.cell? ⟨g7, 0, none⟩ = some (.int .i64 s.f0) ∧ w'.cell? ⟨g7, 1, none⟩ = some (.int .i64 s.f1) ∧ w'.cell? (ad.add s.f0.toNat) = some (.slice (some ad2) (rd_L3 l0 s.f0).length c2) ∧ w'.cell? (ad2.add (s.f1.toNat * 2)) = some (.int .i64 (rd_T31 (rd_L3 l0 s.f0) s.f1).f0) ∧ w'.cell? ⟨(ad2.add (s.f1.toNat * 2)).block, (ad2.add (s.f1.toNat * 2)).off + 1, none⟩ = some (.slice A3 (rd_T31 (rd_L3 l0 s.f0) s.f1).f1.length c3)) (ds := [10]) #[false, false, false, false, false, false, false, false, false, false, false] (by kernel_rfl) rfl rfl ⟨(blk_cell (blk_drew BK7.out) 0).trans rfl, (blk_cell (blk_drew BK7.out) 1).trans rfl, ((below_step HB.out (below_drew1 (Below.refl w6.heap.size w6))).cell (World.block_lt_of_cell? w _ HY0.out)).trans HY0.out, ((below_step HB.out (below_drew1 (Below.refl w6.heap.size w6))).cell (World.block_lt_of_cell? w _ HY1.out)).trans HY1.out, ((below_step HB.out (below_drew1 (Below.refl w6.heap.size w6))).cell (World.block_lt_of_cell? w _ HY2.out)).trans HY2.out⟩ (fun hHeld => ?_)
  have hb := below_drew1 (Below.refl w6.heap.size w6)
  have n1_ := Aside0.mk (below_step HB.out hb)
  have n2_ := Aside0.mk (blk_below BK7.out hb)
  have n4_ := Aside0.mk (blk_below BKg4.out hb)
  have n5_ := Aside0.mk (blk_below BKg5.out hb)
  clear HB BK7 BKg4 BKg5
  have HB := n1_
  have BK7 := n2_
  have BKg4 := n4_
  have BKg5 := n5_
  clear n1_ n2_ n4_ n5_
  clear hb
  generalize w6.drew = w8 at HB BK7 BKg4 BKg5 hHeld ⊢
  refine pure_ (i := 0) (N := some 51) (v := ?_) (a' := ?_) #[true, false, false, false, false, false, false, false, false, false, false] rfl rfl (by kernel_rfl) (fun _ _ _ h => h) (Or.inl ⟨by rfl, ?_⟩) ?_ ?_
  rotate_left
  · intro w'
    go_simp
    with_reducible rfl
  rotate_left
  · simp only [Act.put, List.setIfInBounds_toArray, List.set_cons_zero, List.set_cons_succ, i64_w, i32_w]
    rfl
  refine pure_ (i := 1) (N := some 52) (v := ?_) (a' := ?_) #[true, true, false, false, false, false, false, false, false, false, false] rfl rfl (by kernel_rfl) (fun _ _ _ h => h) (Or.inl ⟨by rfl, ?_⟩) ?_ ?_
  rotate_left
  · intro w'
    go_simp
    with_reducible rfl
  rotate_left
  · simp only [Act.put, List.setIfInBounds_toArray, List.set_cons_zero, List.set_cons_succ, i64_w, i32_w]
    rfl
  refine take_ (i := 2) (N := some 53) (v := ?_) (a' := ?_) #[true, true, true, false, false, false, false, false, false, false, false] rfl rfl (by kernel_rfl) (fun _ _ _ h => h) (Or.inl ⟨by rfl, ?_⟩) hHeld ?_ ?_
  rotate_left
  · rintro w' ⟨s0, s1, s2, s3, s4⟩
    go_simp
    with_reducible rfl
  rotate_left
  · simp only [Act.put, List.setIfInBounds_toArray, List.set_cons_zero, List.set_cons_succ, i64_w, i32_w]
    rfl
  refine pure_ (i := 3) (N := some 54) (v := ?_) (a' := ?_) #[true, true, true, true, false, false, false, false, false, false, false] rfl rfl (by kernel_rfl) (fun _ _ _ h => h) (Or.inl ⟨by rfl, ?_⟩) ?_ ?_
  rotate_left
  · intro w'
    go_simp
    with_reducible rfl
  rotate_left
  · simp only [Act.put, List.setIfInBounds_toArray, List.set_cons_zero, List.set_cons_succ, i64_w, i32_w]
    rfl
  refine take_ (i := 4) (N := some 55) (v := ?_) (a' := ?_) #[true, true, true, true, true, false, false, false, false, false, false] rfl rfl (by kernel_rfl) (fun _ _ _ h => h) (Or.inl ⟨by rfl, ?_⟩) hHeld ?_ ?_
  rotate_left
  · rintro w' ⟨s0, s1, s2, s3, s4⟩
    go_simp
    with_reducible rfl
  rotate_left
  · simp only [Act.put, List.setIfInBounds_toArray, List.set_cons_zero, List.set_cons_succ, i64_w, i32_w]
    rfl
  refine pure_ (i := 5) (N := some 56) (v := ?_) (a' := ?_) #[true, true, true, true, true, true, false, false, false, false, false] rfl rfl (by kernel_rfl) (fun _ _ _ h => h) (Or.inl ⟨by rfl, ?_⟩) ?_ ?_
  rotate_left
  · intro w'
    go_simp
    with_reducible rfl
  rotate_left
  · simp only [Act.put, List.setIfInBounds_toArray, List.set_cons_zero, List.set_cons_succ, i64_w, i32_w]
    rfl
  refine take_ (i := 6) (N := some 57) (v := ?_) (a' := ?_) #[true, true, true, true, true, true, true, false, false, false, false] rfl rfl (by kernel_rfl) (fun _ _ _ h => h) (Or.inl ⟨by rfl, ?_⟩) hHeld ?_ ?_
  rotate_left
  · rintro w' ⟨s0, s1, s2, s3, s4⟩
    go_simp
    with_reducible rfl
  rotate_left
  · simp only [Act.put, List.setIfInBounds_toArray, List.set_cons_zero, List.set_cons_succ, i64_w, i32_w]
    rfl
  refine pure_ (i := 7) (N := some 58) (v := ?_) (a' := ?_) #[true, true, true, true, true, true, true, true, false, false, false] rfl rfl (by kernel_rfl) (fun _ _ _ h => h) (Or.inl ⟨by rfl, ?_⟩) ?_ ?_
  rotate_left
  · intro w'
    go_simp
    with_reducible rfl
  rotate_left
  · simp only [Act.put, List.setIfInBounds_toArray, List.set_cons_zero, List.set_cons_succ, i64_w, i32_w]
    rfl
  refine take_ (i := 8) (N := some 59) (v := ?_) (a' := ?_) #[true, true, true, true, true, true, true, true, true, false, false] rfl rfl (by kernel_rfl) (fun _ _ _ h => h) (Or.inl ⟨by rfl, ?_⟩) hHeld ?_ ?_
  rotate_left
  · rintro w' ⟨s0, s1, s2, s3, s4⟩
    go_simp
    with_reducible rfl
  rotate_left
  · simp only [Act.put, List.setIfInBounds_toArray, List.set_cons_zero, List.set_cons_succ, i64_w, i32_w]
    rfl
  refine one_ (i := 9) (N := some 9) #[true, true, true, true, true, true, true, true, true, true, false] rfl rfl (by kernel_rfl) (by decide) (fun K hK => ?_)
  refine value_ (w1 := w8.alloc (.cells #[.int .i64 0, .slice none 0 0] 31 (0, 0))) (v := .pointer (some ⟨w8.heap.size, 0, none⟩)) (by rfl) rfl ?_ ?_
  · go_simp
    try rfl
  have hb : Below w8.heap.size w8 (w8.alloc (.cells #[.int .i64 0, .slice none 0 0] 31 (0, 0))) := below_alloc (Below.refl _ _) _
  have hx9 : (w8.alloc (.cells #[.int .i64 0, .slice none 0 0] 31 (0, 0))).heap[w8.heap.size]? = some (.cells #[.int .i64 0, .slice none 0 0] 31 (0, 0)) := blk_new w8 _
  have SZ9 := Aside0.mk (show w.heap.size ≤ w8.heap.size from HB.out.size)
  have NE9 := Aside0.mk (show (g7 ≠ w8.heap.size ∧ g4 ≠ w8.heap.size) ∧ g5 ≠ w8.heap.size from ⟨⟨by have := blk_lt BK7.out; omega, by have := blk_lt BKg4.out; omega⟩, by have := blk_lt BKg5.out; omega⟩)
  have n1_ := Aside0.mk (below_step HB.out hb)
  have n2_ := Aside0.mk (blk_below BK7.out hb)
  have n4_ := Aside0.mk (blk_below BKg4.out hb)
  have n5_ := Aside0.mk (blk_below BKg5.out hb)
  clear HB BK7 BKg4 BKg5
  have HB := n1_
  have BK7 := n2_
  have BKg4 := n4_
  have BKg5 := n5_
  clear n1_ n2_ n4_ n5_
  generalize w8.heap.size = g9 at hx9 SZ9 NE9 ⊢
  generalize (w8.alloc (.cells #[.int .i64 0, .slice none 0 0] 31 (0, 0))) = w9 at HB BK7 BKg4 BKg5 hx9 ⊢
  have BK9 := Aside0.mk hx9
  clear hx9 hb
  refine hK.out _ _ ⟨(blk_cell (BK7.out) 0).trans rfl, (blk_cell (BK7.out) 1).trans rfl, (HB.out.cell (World.block_lt_of_cell? w _ HY0.out)).trans HY0.out, (HB.out.cell (World.block_lt_of_cell? w _ HY1.out)).trans HY1.out, (HB.out.cell (World.block_lt_of_cell? w _ HY2.out)).trans HY2.out⟩ (fun hHeld => ?_)
  clear hK K
  refine norm_ (a' := ?_) ?_ ?_
  rotate_left
  · show Act.put _ (some 9) _ = _
    simp only [Act.put, List.setIfInBounds_toArray, List.set_cons_zero, List.set_cons_succ, i64_w, i32_w]
    rfl
  refine last_ (i := 10) (N := none) #[true, true, true, true, true, true, true, true, true, true, true] rfl rfl (by kernel_rfl) (by decide) (fun K hK => ?_)
  refine skip_ (w1 := ((w9.setCell ⟨g9, 0, none⟩ (.int .i64 (rd_T31 (rd_L3 l0 s.f0) s.f1).f0)).setCell ⟨g9, 1, none⟩ (.slice A3 (rd_T31 (rd_L3 l0 s.f0) s.f1).f1.length c3))) (by rfl) rfl ?_ ?_
  · have c0 : w9.cell? ⟨g9, 0, none⟩ = some (.int .i64 0) := (blk_cell BK9.out 0).trans rfl
    have c1 : w9.cell? ⟨g9, 1, none⟩ = some (.slice none 0 0) := (blk_cell BK9.out 1).trans rfl
    have d0 := blk_frozen BK9.out 0
    have d1 := blk_frozen BK9.out 1
    go_simp
    try rfl
  have n9_ := Aside0.mk (show ((w9.setCell ⟨g9, 0, none⟩ (.int .i64 (rd_T31 (rd_L3 l0 s.f0) s.f1).f0)).setCell ⟨g9, 1, none⟩ (.slice A3 (rd_T31 (rd_L3 l0 s.f0) s.f1).f1.length c3)).heap[g9]? = some (.cells #[.int .i64 (rd_T31 (rd_L3 l0 s.f0) s.f1).f0, .slice A3 (rd_T31 (rd_L3 l0 s.f0) s.f1).f1.length c3] 31 (0, 0)) from by refine blk_put (cs := #[.int .i64 (rd_T31 (rd_L3 l0 s.f0) s.f1).f0, .slice none 0 0]) ?_ 1 _ rfl; refine blk_put (cs := #[.int .i64 0, .slice none 0 0]) ?_ 0 _ rfl; exact BK9.out)
  have n1_ := Aside0.mk (show Below w.heap.size w ((w9.setCell ⟨g9, 0, none⟩ (.int .i64 (rd_T31 (rd_L3 l0 s.f0) s.f1).f0)).setCell ⟨g9, 1, none⟩ (.slice A3 (rd_T31 (rd_L3 l0 s.f0) s.f1).f1.length c3)) from below_set (below_set HB.out SZ9.out) SZ9.out)
  have n2_ := Aside0.mk (show ((w9.setCell ⟨g9, 0, none⟩ (.int .i64 (rd_T31 (rd_L3 l0 s.f0) s.f1).f0)).setCell ⟨g9, 1, none⟩ (.slice A3 (rd_T31 (rd_L3 l0 s.f0) s.f1).f1.length c3)).heap[g7]? = some (.cells #[.int .i64 s.f0, .int .i64 s.f1, .int .i64 s.f2] 59 (0, 0)) from (Below.heap_setCell _ _ _ _ NE9.out.1.1).trans ((Below.heap_setCell _ _ _ _ NE9.out.1.1).trans BK7.out))
  have n3_ := Aside0.mk (show ((w9.setCell ⟨g9, 0, none⟩ (.int .i64 (rd_T31 (rd_L3 l0 s.f0) s.f1).f0)).setCell ⟨g9, 1, none⟩ (.slice A3 (rd_T31 (rd_L3 l0 s.f0) s.f1).f1.length c3)).heap[g4]? = some (.cells #[.slice (some ad1) l1.length c1] 41 (0, 0)) from (Below.heap_setCell _ _ _ _ NE9.out.1.2).trans ((Below.heap_setCell _ _ _ _ NE9.out.1.2).trans BKg4.out))
  have n4_ := Aside0.mk (show ((w9.setCell ⟨g9, 0, none⟩ (.int .i64 (rd_T31 (rd_L3 l0 s.f0) s.f1).f0)).setCell ⟨g9, 1, none⟩ (.slice A3 (rd_T31 (rd_L3 l0 s.f0) s.f1).f1.length c3)).heap[g5]? = some (.cells #[.int .i64 (i : Int)] 3 (0, 0)) from (Below.heap_setCell _ _ _ _ NE9.out.2).trans ((Below.heap_setCell _ _ _ _ NE9.out.2).trans BKg5.out))
  clear BK9 HB BK7 SZ9 NE9 hHeld BKg4 BKg5
  generalize ((w9.setCell ⟨g9, 0, none⟩ (.int .i64 (rd_T31 (rd_L3 l0 s.f0) s.f1).f0)).setCell ⟨g9, 1, none⟩ (.slice A3 (rd_T31 (rd_L3 l0 s.f0) s.f1).f1.length c3)) = w10 at n9_ n1_ n2_ n3_ n4_ ⊢
  have BK9 := n9_
  have HB := n1_
  have BK7 := n2_
  have BKg4 := n3_
  have BKg5 := n4_
  clear n9_ n1_ n2_ n3_ n4_
  refine hK.out _ _ ?_
  clear hK K
  refine done_ (by kernel_rfl) ?_
  try clear hHeld
  have hs7_0 : w10.cell? ⟨g7, 0, none⟩ = some (.int .i64 s.f0) := (blk_cell BK7.out 0).trans rfl; have hs7_1 : w10.cell? ⟨g7, 1, none⟩ = some (.int .i64 s.f1) := (blk_cell BK7.out 1).trans rfl; have hs7_2 : w10.cell? ⟨g7, 2, none⟩ = some (.int .i64 s.f2) := (blk_cell BK7.out 2).trans rfl
  have hc9_0 : w10.cell? ⟨g9, 0, none⟩ = some (.int .i64 (rd_T31 (rd_L3 l0 s.f0) s.f1).f0) := (blk_cell BK9.out 0).trans rfl
  have hc9_1 : w10.cell? ⟨g9, 1, none⟩ = some (.slice A3 (rd_T31 (rd_L3 l0 s.f0) s.f1).f1.length c3) := (blk_cell BK9.out 1).trans rfl
  cases hbit : bitF s.f2 (rd_T31 (rd_L3 l0 s.f0) s.f1).f0 with
  | false =>
    have H2 := HRES.out
    rw [hbit] at H2
    clear HRES
    have HRES := Aside0.mk H2
    clear H2
    unfold bitF at hbit
    go_wp2
    go_ret
    exact ⟨by rw [← HRES.out]; rfl, HB.out⟩
  | true =>
    have H2 := HRES.out
    rw [hbit] at H2
    clear HRES
    have HRES := Aside0.mk H2
    clear H2
    unfold bitF at hbit
    go_wp2_with (go_at_call 33; refine (contains33v A3 c3 (rd_T31 (rd_L3 l0 s.f0) s.f1).f1 l1 (some ad1) c1 i s g4 g5 g7 _ (Kd.C_below HRA.out HB.out) HLA.out.1 HLA.out.2 (Kd.C_below HR1.out HB.out) HC1.out.1 HC1.out.2.1 HC1.out.2.2 BKg4.out BKg5.out BK7.out).mono ?_; rintro e_ w11 ⟨rfl, hb⟩; have n1_ := Aside0.mk (below_step HB.out hb); clear HB hb; have HB := n1_; clear n1_)
    go_ret
    exact ⟨by rw [← HRES.out]; rfl, HB.out⟩
def fixpoint_validStep.f (l0 : List (List (S31))) (l1 : List (S59)) (a2 : Int) : Option (Bool) := if (0 ≤ a2 ∧ a2 < (l1.length : Int)) ∧ l1.length < 1000000000 ∧ (rd_T31 (rd_L3 l0 (rd_T59 l1 a2).f0) (rd_T59 l1 a2).f1).f1.length < 1000000000 then some (vsF l0 l1 a2.toNat) else none
theorem fixpoint_validStep.calls (A0 : Option Addr) (c0 : Nat) (l0 : List (List (S31))) (A1 : Option Addr) (c1 : Nat) (l1 : List (S59)) (a2 : Int) (r : Bool) (w : World) (hr0 : Kd.C (Kd.slice 31 k31) w A0 l0.length l0) (hc0 : l0.length ≤ c0) (hr1 : Kd.C k59 w A1 l1.length l1) (hc1 : l1.length ≤ c1) (h : fixpoint_validStep.f l0 l1 a2 = some r) :
    Calls Try.prog 30 #[.slice A0 l0.length c0, .slice A1 l1.length c1, .int .i64 a2] w fun e w' => e = .returned (.bool r) ∧ Below w.heap.size w w' := by
  unfold fixpoint_validStep.f at h
  split at h
  · rename_i hc
    cases h
    obtain ⟨i, rfl⟩ := Int.eq_ofNat_of_zero_le hc.1.1
    exact vs_calls A0 c0 l0 A1 c1 l1 i w hr0 hc0 hr1 hc1 (by omega) hc.2.1 hc.2.2
  · cases h
end Go.Proofs.Ytgjcembdmohhkaa.Fs
