/- docsync.validate. Condition: documents within the limits, no name twice. -/
import Derived.Test.YtficalhfbopjbaaDsx0
import Derived.Test.YtficalhfbopjbaaDshAp
import Derived.RangeFuncNested
import Derived.RangeFuncBound
import Derived.RangeFuncCalls
import Derived.RangeFuncLeaves
import Derived.RangeFuncBox
import Derived.Shelf.Abstract
import Derived.Shelf.RegionOpen
import Derived.WalkKit
import Derived.BigQuiet
namespace Go.Proofs.Ytficalhfbopjbaa.Ds
open Go.RowKit Go.Shelf Go.Proofs.YtficalhfbopjbaaW.PrintWords Go.Proofs.YtficalhfbopjbaaW.PrintLast Go.Proofs.YtficalhfbopjbaaW.PrintMore
open Go.Proofs.Ytficalhfbopjbaa
set_option linter.unusedVariables false
set_option linter.unusedSimpArgs false
attribute [local go_sem] Oper.semAt_some
structure S30 where
  f0 : ByteArray
  f1 : Int
  f2 : ByteArray
def z30 : S30 := ⟨(⟨#[]⟩ : ByteArray), (0 : Int), (⟨#[]⟩ : ByteArray)⟩
def k30 : Kd S30 := Kd.iso (Kd.pair Kd.string (Kd.pair (Kd.int .i64) Kd.string)) (fun x : S30 => (x.f0, x.f1, x.f2))
theorem k30_open {w : World} {x : S30} {cs : List Value} (h : k30.K w x cs) : cs = [.string x.f0, .int .i64 x.f1, .string x.f2] := by
  obtain ⟨_, _, rfl, rfl, ⟨_, _, rfl, rfl, rfl⟩⟩ := h
  exact rfl
theorem k30_openM {w : World} {base : Nat} {ok : Nat → Prop} {x : S30} {cs : List Value} (h : k30.M w base ok x cs) : cs = [.string x.f0, .int .i64 x.f1, .string x.f2] := by
  obtain ⟨_, _, rfl, rfl, ⟨_, _, rfl, rfl, rfl⟩⟩ := h
  exact rfl
theorem k30_mk (w : World) (x : S30)  : k30.K w x [.string x.f0, .int .i64 x.f1, .string x.f2] := ⟨[.string x.f0], [.int .i64 x.f1, .string x.f2], rfl, rfl, ⟨[.int .i64 x.f1], [.string x.f2], rfl, rfl, rfl⟩⟩
theorem k30_mkM (w : World) (base : Nat) (ok : Nat → Prop) (x : S30)  : k30.M w base ok x [.string x.f0, .int .i64 x.f1, .string x.f2] := ⟨[.string x.f0], [.int .i64 x.f1, .string x.f2], rfl, rfl, ⟨[.int .i64 x.f1], [.string x.f2], rfl, rfl, rfl⟩⟩
def rd_T30 (xs : List S30) (i : Int) : S30 := xs.getD i.toNat z30
theorem at_T30 {w : World} {A : Option Addr} {n : Nat} {xs : List S30} (h : Kd.C k30 w A n xs) (i : Int) (h0 : 0 ≤ i) (h1 : i < n) : ∃ ad , A = some ad ∧ w.cell? (ad.add (i.toNat * 3)) = some (.string (rd_T30 xs i).f0) ∧ w.cell? ⟨(ad.add (i.toNat * 3)).block, (ad.add (i.toNat * 3)).off + 1, none⟩ = some (.int .i64 (rd_T30 xs i).f1) ∧ w.cell? ⟨(ad.add (i.toNat * 3)).block, (ad.add (i.toNat * 3)).off + 2, none⟩ = some (.string (rd_T30 xs i).f2) := by
  obtain ⟨ad, c, e, _, hK, hc0⟩ := Kd.C_get h z30 i h0 h1
  have hc : ∀ j u, c[j]? = some u → w.cell? (ad.add (i.toNat * 3 + j)) = some u := hc0
  obtain rfl := k30_open hK
  exact ⟨ad, e, hc 0 _ rfl, by rw [← add_field _ _ 1 (by omega)]; exact hc 1 _ rfl, by rw [← add_field _ _ 2 (by omega)]; exact hc 2 _ rfl⟩

def ixs {α : Type} (p : α → Bool) : List α → Int → Int
  | [], _ => -1
  | e :: es, i => if p e = true then i else ixs p es (i + 1)
theorem ixs_cons {α : Type} (p : α → Bool) (e : α) (es : List α) (i : Int) : ixs p (e :: es) i = if p e = true then i else ixs p es (i + 1) := rfl
theorem ixs_any {α : Type} (p : α → Bool) (es : List α) : ∀ i : Int, 0 ≤ i → decide (ixs p es i ≥ 0) = es.any p := by
  induction es with
  | nil => intro i _; rfl
  | cons e es ih =>
    intro i hi
    rw [ixs_cons, List.any_cons]
    cases h : p e with
    | false => rw [if_neg (by simp), ih (i + 1) (by omega)]; rfl
    | true => rw [if_pos rfl]; simp; omega
theorem take30 (l : List S30) (i : Nat) (h : i < l.length) : l.drop i = rd_T30 l (i : Int) :: l.drop (i + 1) := by
  rw [List.drop_eq_getElem_cons h]
  unfold rd_T30
  simp [h]
def longF (d : S30) : Bool := decide (60 < (d.f0.size : Int)) || decide (2000 < (d.f2.size : Int))
def emptyF (d : S30) : Bool := d.f0.toList.isEmpty || decide (d.f1 < 0) || decide (2147483647 < d.f1)
set_option maxHeartbeats 4000000 in
theorem pred26 (d : S30) (w : World) : Calls Try.prog 26 #[.agg #[.string d.f0, .int .i64 d.f1, .string d.f2]] w fun e w' => e = .returned (.bool (longF d)) ∧ Below w.heap.size w w' := by
  have hu30 := Try.underlying30
  unfold longF
  cases c : decide (60 < (d.f0.size : Int)) with
  | true =>
    go_enter Try.func26, Try.ntmps26
    go_wp2_with (((with_reducible refine gate_dst (N := 1) rfl ?_); refine box_event ?hg (N := 1) ?hd (cs := #[.string d.f0, .int .i64 d.f1, .string d.f2]) (t := 30) ?hr ?_; (case hd => rfl); (case hg => rfl); (case hr => first | (go_simp; done) | (go_simp; rfl)); intro gd hg w3 hbox hb; have BKgd := Aside0.mk hbox; have HB := Aside0.mk hb; have hd0 : w3.cell? ⟨gd, 0, none⟩ = some (.string d.f0) := (blk_cell BKgd.out 0).trans rfl; have hd2 : w3.cell? ⟨gd, 2, none⟩ = some (.string d.f2) := (blk_cell BKgd.out 2).trans rfl; clear hbox hb hg))
    go_ret
    exact ⟨rfl, HB.out⟩
  | false =>
    go_enter Try.func26, Try.ntmps26
    go_wp2_with (((with_reducible refine gate_dst (N := 1) rfl ?_); refine box_event ?hg (N := 1) ?hd (cs := #[.string d.f0, .int .i64 d.f1, .string d.f2]) (t := 30) ?hr ?_; (case hd => rfl); (case hg => rfl); (case hr => first | (go_simp; done) | (go_simp; rfl)); intro gd hg w3 hbox hb; have BKgd := Aside0.mk hbox; have HB := Aside0.mk hb; have hd0 : w3.cell? ⟨gd, 0, none⟩ = some (.string d.f0) := (blk_cell BKgd.out 0).trans rfl; have hd2 : w3.cell? ⟨gd, 2, none⟩ = some (.string d.f2) := (blk_cell BKgd.out 2).trans rfl; clear hbox hb hg))
    go_ret
    exact ⟨by simp, HB.out⟩
set_option maxHeartbeats 4000000 in
set_option maxRecDepth 100000 in
theorem pred27 (d : S30) (w : World) (hm : emptyF d = false) : Calls Try.prog 27 #[.agg #[.string d.f0, .int .i64 d.f1, .string d.f2]] w fun e w' => e = .returned (.bool (emptyF d)) ∧ Below w.heap.size w w' := by
  have hu30 := Try.underlying30
  rw [hm]
  unfold emptyF at hm
  rw [Bool.or_eq_false_iff, Bool.or_eq_false_iff] at hm
  obtain ⟨⟨h1, h2⟩, h3⟩ := hm
  go_enter Try.func27, Try.ntmps27
  go_wp2_with (((with_reducible refine gate_dst (N := 1) rfl ?_); refine box_event ?hg (N := 1) ?hd (cs := #[.string d.f0, .int .i64 d.f1, .string d.f2]) (t := 30) ?hr ?_; (case hd => rfl); (case hg => rfl); (case hr => first | (go_simp; done) | (go_simp; rfl)); intro gd hg w3 hbox hb; have BKgd := Aside0.mk hbox; have HB := Aside0.mk hb; have hd1 : w3.cell? ⟨gd, 1, none⟩ = some (.int .i64 d.f1) := (blk_cell BKgd.out 1).trans rfl; have hd0 : w3.cell? ⟨gd, 0, none⟩ = some (.string d.f0) := (blk_cell BKgd.out 0).trans rfl; have hd2 : w3.cell? ⟨gd, 2, none⟩ = some (.string d.f2) := (blk_cell BKgd.out 2).trans rfl; clear hbox hb hg))
  go_ret
  exact ⟨by first | rfl | simp, HB.out⟩
set_option maxHeartbeats 4000000 in
set_option maxRecDepth 100000 in
theorem index38a (A0 : Option Addr) (c0 : Nat) (l0 : List (S30)) (w : World) (hr0 : Kd.C k30 w A0 l0.length l0) (hc0 : l0.length ≤ c0) (hl0 : l0.length < 1000000000) :
    Calls Try.prog 38 #[.slice A0 l0.length c0, .func (.func 26) #[] #[]] w fun e w' => e = .returned (.int .i64 (ixs (longF) l0 0)) ∧ Below w.heap.size w w' := by
  have hu30 := Try.underlying30
  have HR0 := Aside0.mk hr0
  have HC0 := Aside0.mk hc0
  have HLEN := Aside0.mk hl0
  clear hr0 hc0 hl0
  have HB := Aside0.mk (Below.refl w.heap.size w)
  go_enter Try.func38, Try.ntmps38
  go_wp2
  go_loopg [8] l0.length (fun kq v8 w' => ∃ x : Int, v8 = .int .i64 x ∧ Aside0 (∃ i : Nat, x = i ∧ i + kq = l0.length ∧ ixs (longF) (l0.drop i) (i : Int) = ixs (longF) l0 0) ∧ Aside0 (Below w.heap.size w w'))
  case atStart => exact ⟨0, rfl, ⟨⟨0, rfl, by omega, rfl⟩⟩, HB⟩
  case round =>
    clear HB
    obtain ⟨x, rfl, HX, HB⟩ := hrel
    by_cases c : x < (l0.length : Int)
    · have c1 : decide (x < (l0.length : Int)) = true := decide_eq_true c
      obtain ⟨i, e1, e2, e3⟩ := HX.out
      clear HX
      obtain ⟨k1, rfl⟩ : ∃ k1, gk = k1 + 1 := ⟨gk - 1, by omega⟩
      have E1 := Aside0.mk (And.intro e1 e2)
      rw [take30 l0 i (by omega), ← e1, ixs_cons] at e3
      have E3 := Aside0.mk e3
      have p1 : 0 ≤ (x : Int) := by omega
      obtain ⟨ad, ea, hx0, hx1, hx2⟩ := at_T30 HR0.out x p1 c
      cases ea
      replace hx0 := (HB.out.cell (World.block_lt_of_cell? w _ hx0)).trans hx0
      replace hx1 := (HB.out.cell (World.block_lt_of_cell? w _ hx1)).trans hx1
      replace hx2 := (HB.out.cell (World.block_lt_of_cell? w _ hx2)).trans hx2
      replace p1 := eq_true p1
      have q1 := eq_true c
      clear e1 e2 e3 c
      cases hv : (longF) (rd_T30 l0 x) with
      | false =>
        have e4 := E3.out
        rw [if_neg (by rw [hv]; simp)] at e4
        have E4 := Aside0.mk e4
        clear e4 E3
        go_wp2_with (go_at_call 26; refine (pred26 (rd_T30 l0 x) _).mono ?_; rintro e w7 ⟨he, hb⟩; rw [hv] at he; subst he; have n1_ := Aside0.mk (below_step HB.out hb); clear HB hb; have HB := n1_; clear n1_)
        go_roundg k1
        case measure => have := E1.out; omega
        case rel => exact ⟨wrap64 (x + 1), rfl, ⟨⟨i + 1, by have := E1.out; rw [w64_id' (by omega) (by have := HLEN.out; omega)]; omega, by have := E1.out; omega, by rw [← E4.out, E1.out.1]; rfl⟩⟩, HB⟩
      | true =>
        have e4 := E3.out
        rw [if_pos hv] at e4
        have E4 := Aside0.mk e4
        clear e4 E3
        go_wp2_with (go_at_call 26; refine (pred26 (rd_T30 l0 x) _).mono ?_; rintro e w7 ⟨he, hb⟩; rw [hv] at he; subst he; have n1_ := Aside0.mk (below_step HB.out hb); clear HB hb; have HB := n1_; clear n1_)
        go_ret
        exact ⟨by rw [← E4.out]; rfl, HB.out⟩
    · have c1 : decide (x < (l0.length : Int)) = false := decide_eq_false c
      obtain ⟨i, e1, e2, e3⟩ := HX.out
      clear HX
      obtain rfl : i = l0.length := by omega
      rw [List.drop_length] at e3
      have E3 := Aside0.mk (show (-1 : Int) = ixs (longF) l0 0 from e3)
      clear e1 e2 c e3
      go_wp2
      go_ret
      exact ⟨by rw [← E3.out]; rfl, HB.out⟩
set_option maxHeartbeats 2000000 in
theorem contains28a (A0 : Option Addr) (c0 : Nat) (l0 : List (S30)) (w : World) (hr0 : Kd.C k30 w A0 l0.length l0) (hc0 : l0.length ≤ c0) (hl0 : l0.length < 1000000000) :
    Calls Try.prog 28 #[.slice A0 l0.length c0, .func (.func 26) #[] #[]] w fun e w' => e = .returned (.bool (l0.any (longF))) ∧ Below w.heap.size w w' := by
  rw [← ixs_any (longF) l0 0 (Int.le_refl _)]
  have hcon := index38a A0 c0 l0 w hr0 hc0 hl0
  generalize ixs (longF) l0 0 = n at hcon ⊢
  have HCON := Aside0.mk hcon
  clear hcon hr0 hc0 hl0
  go_enter Try.func28, Try.ntmps28
  go_wp2_with (go_at_call 38; refine HCON.out.mono ?_; rintro e w7 ⟨rfl, hb⟩; have HB := Aside0.mk hb; clear hb)
  go_ret
  exact ⟨by simp, HB.out⟩
set_option maxHeartbeats 4000000 in
set_option maxRecDepth 100000 in
theorem index38b (A0 : Option Addr) (c0 : Nat) (l0 : List (S30)) (hem : l0.any emptyF = false) (w : World) (hr0 : Kd.C k30 w A0 l0.length l0) (hc0 : l0.length ≤ c0) (hl0 : l0.length < 1000000000) :
    Calls Try.prog 38 #[.slice A0 l0.length c0, .func (.func 27) #[] #[]] w fun e w' => e = .returned (.int .i64 (ixs (emptyF) l0 0)) ∧ Below w.heap.size w w' := by
  have hu30 := Try.underlying30
  have HR0 := Aside0.mk hr0
  have HC0 := Aside0.mk hc0
  have HLEN := Aside0.mk hl0
  have HEM := Aside0.mk hem
  clear hr0 hc0 hl0 hem
  have HB := Aside0.mk (Below.refl w.heap.size w)
  go_enter Try.func38, Try.ntmps38
  go_wp2
  go_loopg [8] l0.length (fun kq v8 w' => ∃ x : Int, v8 = .int .i64 x ∧ Aside0 (∃ i : Nat, x = i ∧ i + kq = l0.length ∧ ixs (emptyF) (l0.drop i) (i : Int) = ixs (emptyF) l0 0) ∧ Aside0 (Below w.heap.size w w'))
  case atStart => exact ⟨0, rfl, ⟨⟨0, rfl, by omega, rfl⟩⟩, HB⟩
  case round =>
    clear HB
    obtain ⟨x, rfl, HX, HB⟩ := hrel
    by_cases c : x < (l0.length : Int)
    · have c1 : decide (x < (l0.length : Int)) = true := decide_eq_true c
      obtain ⟨i, e1, e2, e3⟩ := HX.out
      clear HX
      obtain ⟨k1, rfl⟩ : ∃ k1, gk = k1 + 1 := ⟨gk - 1, by omega⟩
      have E1 := Aside0.mk (And.intro e1 e2)
      rw [take30 l0 i (by omega), ← e1, ixs_cons] at e3
      have E3 := Aside0.mk e3
      have p1 : 0 ≤ (x : Int) := by omega
      obtain ⟨ad, ea, hx0, hx1, hx2⟩ := at_T30 HR0.out x p1 c
      cases ea
      replace hx0 := (HB.out.cell (World.block_lt_of_cell? w _ hx0)).trans hx0
      replace hx1 := (HB.out.cell (World.block_lt_of_cell? w _ hx1)).trans hx1
      replace hx2 := (HB.out.cell (World.block_lt_of_cell? w _ hx2)).trans hx2
      replace p1 := eq_true p1
      have q1 := eq_true c
      have hv : (emptyF) (rd_T30 l0 x) = false := by
        have h_ := List.any_eq_false.1 HEM.out _ (List.getElem_mem (show i < l0.length by omega))
        rw [e1]
        have e_ : rd_T30 l0 (i : Int) = l0[i] := by simp [rd_T30, List.getD, show i < l0.length by omega]
        rw [e_]
        simpa using h_
      clear e1 e2 e3 c
      have e4 := E3.out
      rw [if_neg (by rw [hv]; simp)] at e4
      have E4 := Aside0.mk e4
      have HVV := Aside0.mk hv
      clear e4 E3 hv
      go_wp2_with (go_at_call 27; refine (pred27 (rd_T30 l0 x) _ HVV.out).mono ?_; rintro e w7 ⟨he, hb⟩; rw [HVV.out] at he; subst he; have n1_ := Aside0.mk (below_step HB.out hb); clear HB hb; have HB := n1_; clear n1_)
      go_roundg k1
      case measure => have := E1.out; omega
      case rel => exact ⟨wrap64 (x + 1), rfl, ⟨⟨i + 1, by have := E1.out; rw [w64_id' (by omega) (by have := HLEN.out; omega)]; omega, by have := E1.out; omega, by rw [← E4.out, E1.out.1]; rfl⟩⟩, HB⟩
    · have c1 : decide (x < (l0.length : Int)) = false := decide_eq_false c
      obtain ⟨i, e1, e2, e3⟩ := HX.out
      clear HX
      obtain rfl : i = l0.length := by omega
      rw [List.drop_length] at e3
      have E3 := Aside0.mk (show (-1 : Int) = ixs (emptyF) l0 0 from e3)
      clear e1 e2 c e3
      go_wp2
      go_ret
      exact ⟨by rw [← E3.out]; rfl, HB.out⟩
set_option maxHeartbeats 2000000 in
theorem contains28b (A0 : Option Addr) (c0 : Nat) (l0 : List (S30)) (hem : l0.any emptyF = false) (w : World) (hr0 : Kd.C k30 w A0 l0.length l0) (hc0 : l0.length ≤ c0) (hl0 : l0.length < 1000000000) :
    Calls Try.prog 28 #[.slice A0 l0.length c0, .func (.func 27) #[] #[]] w fun e w' => e = .returned (.bool (l0.any (emptyF))) ∧ Below w.heap.size w w' := by
  rw [← ixs_any (emptyF) l0 0 (Int.le_refl _)]
  have hcon := index38b A0 c0 l0 hem w hr0 hc0 hl0
  generalize ixs (emptyF) l0 0 = n at hcon ⊢
  have HCON := Aside0.mk hcon
  clear hcon hr0 hc0 hl0
  go_enter Try.func28, Try.ntmps28
  go_wp2_with (go_at_call 38; refine HCON.out.mono ?_; rintro e w7 ⟨rfl, hb⟩; have HB := Aside0.mk hb; clear hb)
  go_ret
  exact ⟨by simp, HB.out⟩
def sameF (n : ByteArray) (d : S30) : Bool := d.f0.toList == n.toList
set_option maxHeartbeats 4000000 in
set_option maxRecDepth 100000 in
theorem pred29 (d : S30) (n : ByteArray) (g : Nat) (w : World) (hx : w.cell? ⟨g, 0, none⟩ = some (.string n)) : Calls Try.prog 29 #[.agg #[.string d.f0, .int .i64 d.f1, .string d.f2], .pointer (some ⟨g, 0, none⟩)] w fun e w' => e = .returned (.bool (sameF n d)) ∧ Below w.heap.size w w' := by
  have hu30 := Try.underlying30
  unfold sameF
  go_enter Try.func29, Try.ntmps29
  go_wp2_with (((with_reducible refine gate_dst (N := 2) rfl ?_); refine box_event ?hg (N := 2) ?hd (cs := #[.string d.f0, .int .i64 d.f1, .string d.f2]) (t := 30) ?hr ?_; (case hd => rfl); (case hg => rfl); (case hr => first | (go_simp; done) | (go_simp; rfl)); intro gd hg w3 hbox hb; have BKgd := Aside0.mk hbox; have HB := Aside0.mk hb; have hd0 : w3.cell? ⟨gd, 0, none⟩ = some (.string d.f0) := (blk_cell BKgd.out 0).trans rfl; have hd2 : w3.cell? ⟨gd, 2, none⟩ = some (.string d.f2) := (blk_cell BKgd.out 2).trans rfl; replace hx := (hb.cell (World.block_lt_of_cell? _ _ hx)).trans hx; clear hbox hb hg))
  go_ret
  exact ⟨by first | rfl | simp, HB.out⟩
set_option maxHeartbeats 4000000 in
set_option maxRecDepth 100000 in
theorem index38c (A0 : Option Addr) (c0 : Nat) (l0 : List (S30)) (n : ByteArray) (g : Nat) (w : World) (hr0 : Kd.C k30 w A0 l0.length l0) (hc0 : l0.length ≤ c0) (hl0 : l0.length < 1000000000) (hbox : w.cell? ⟨g, 0, none⟩ = some (.string n)) :
    Calls Try.prog 38 #[.slice A0 l0.length c0, .func (.func 29) #[] #[.pointer (some ⟨g, 0, none⟩)]] w fun e w' => e = .returned (.int .i64 (ixs (sameF n) l0 0)) ∧ Below w.heap.size w w' := by
  have hu30 := Try.underlying30
  have HR0 := Aside0.mk hr0
  have HC0 := Aside0.mk hc0
  have HLEN := Aside0.mk hl0
  clear hr0 hc0 hl0
  have HB := Aside0.mk (Below.refl w.heap.size w)
  have BX := Aside0.mk hbox
  clear hbox
  go_enter Try.func38, Try.ntmps38
  go_wp2
  go_loopg [8] l0.length (fun kq v8 w' => ∃ x : Int, v8 = .int .i64 x ∧ Aside0 (∃ i : Nat, x = i ∧ i + kq = l0.length ∧ ixs (sameF n) (l0.drop i) (i : Int) = ixs (sameF n) l0 0) ∧ Aside0 (Below w.heap.size w w'))
  case atStart => exact ⟨0, rfl, ⟨⟨0, rfl, by omega, rfl⟩⟩, HB⟩
  case round =>
    clear HB
    obtain ⟨x, rfl, HX, HB⟩ := hrel
    by_cases c : x < (l0.length : Int)
    · have c1 : decide (x < (l0.length : Int)) = true := decide_eq_true c
      obtain ⟨i, e1, e2, e3⟩ := HX.out
      clear HX
      obtain ⟨k1, rfl⟩ : ∃ k1, gk = k1 + 1 := ⟨gk - 1, by omega⟩
      have E1 := Aside0.mk (And.intro e1 e2)
      rw [take30 l0 i (by omega), ← e1, ixs_cons] at e3
      have E3 := Aside0.mk e3
      have p1 : 0 ≤ (x : Int) := by omega
      obtain ⟨ad, ea, hx0, hx1, hx2⟩ := at_T30 HR0.out x p1 c
      cases ea
      replace hx0 := (HB.out.cell (World.block_lt_of_cell? w _ hx0)).trans hx0
      replace hx1 := (HB.out.cell (World.block_lt_of_cell? w _ hx1)).trans hx1
      replace hx2 := (HB.out.cell (World.block_lt_of_cell? w _ hx2)).trans hx2
      replace p1 := eq_true p1
      have q1 := eq_true c
      clear e1 e2 e3 c
      cases hv : (sameF n) (rd_T30 l0 x) with
      | false =>
        have e4 := E3.out
        rw [if_neg (by rw [hv]; simp)] at e4
        have E4 := Aside0.mk e4
        clear e4 E3
        go_wp2_with (go_at_call 29; refine (pred29 (rd_T30 l0 x) n g _ ((HB.out.cell (World.block_lt_of_cell? w _ BX.out)).trans BX.out)).mono ?_; rintro e w7 ⟨he, hb⟩; rw [hv] at he; subst he; have n1_ := Aside0.mk (below_step HB.out hb); clear HB hb; have HB := n1_; clear n1_)
        go_roundg k1
        case measure => have := E1.out; omega
        case rel => exact ⟨wrap64 (x + 1), rfl, ⟨⟨i + 1, by have := E1.out; rw [w64_id' (by omega) (by have := HLEN.out; omega)]; omega, by have := E1.out; omega, by rw [← E4.out, E1.out.1]; rfl⟩⟩, HB⟩
      | true =>
        have e4 := E3.out
        rw [if_pos hv] at e4
        have E4 := Aside0.mk e4
        clear e4 E3
        go_wp2_with (go_at_call 29; refine (pred29 (rd_T30 l0 x) n g _ ((HB.out.cell (World.block_lt_of_cell? w _ BX.out)).trans BX.out)).mono ?_; rintro e w7 ⟨he, hb⟩; rw [hv] at he; subst he; have n1_ := Aside0.mk (below_step HB.out hb); clear HB hb; have HB := n1_; clear n1_)
        go_ret
        exact ⟨by rw [← E4.out]; rfl, HB.out⟩
    · have c1 : decide (x < (l0.length : Int)) = false := decide_eq_false c
      obtain ⟨i, e1, e2, e3⟩ := HX.out
      clear HX
      obtain rfl : i = l0.length := by omega
      rw [List.drop_length] at e3
      have E3 := Aside0.mk (show (-1 : Int) = ixs (sameF n) l0 0 from e3)
      clear e1 e2 c e3
      go_wp2
      go_ret
      exact ⟨by rw [← E3.out]; rfl, HB.out⟩
set_option maxHeartbeats 2000000 in
theorem contains28c (A0 : Option Addr) (c0 : Nat) (l0 : List (S30)) (n : ByteArray) (g : Nat) (w : World) (hr0 : Kd.C k30 w A0 l0.length l0) (hc0 : l0.length ≤ c0) (hl0 : l0.length < 1000000000) (hbox : w.cell? ⟨g, 0, none⟩ = some (.string n)) :
    Calls Try.prog 28 #[.slice A0 l0.length c0, .func (.func 29) #[] #[.pointer (some ⟨g, 0, none⟩)]] w fun e w' => e = .returned (.bool (l0.any (sameF n))) ∧ Below w.heap.size w w' := by
  rw [← ixs_any (sameF n) l0 0 (Int.le_refl _)]
  have hcon := index38c A0 c0 l0 n g w hr0 hc0 hl0 hbox
  generalize ixs (sameF n) l0 0 = n at hcon ⊢
  have HCON := Aside0.mk hcon
  clear hcon hr0 hc0 hl0 hbox
  go_enter Try.func28, Try.ntmps28
  go_wp2_with (go_at_call 38; refine HCON.out.mono ?_; rintro e w7 ⟨rfl, hb⟩; have HB := Aside0.mk hb; clear hb)
  go_ret
  exact ⟨by simp, HB.out⟩
theorem c_eq {l : List S30} {p : S30 → Bool} {b : Bool} {w : World} {args : Array Value} (hb : l.any p = b) (h : Calls Try.prog 28 args w fun e w' => e = .returned (.bool (l.any p)) ∧ Below w.heap.size w w') :
    Calls Try.prog 28 args w fun e w' => e = .returned (.bool b) ∧ Below w.heap.size w w' := hb ▸ h
theorem c_len {l : List S30} {m : Nat} (hm : l.length = m) {A : Option Addr} {c : Nat} {V : Value} {w : World} {Q : Ending → World → Prop} (h : Calls Try.prog 28 #[.slice A l.length c, V] w Q) : Calls Try.prog 28 #[.slice A m c, V] w Q := hm ▸ h
def bigger (l : List S30) : Bool := decide (20 < (l.length : Int))
set_option maxHeartbeats 8000000 in
set_option maxRecDepth 100000 in
theorem validate17 (A0 : Option Addr) (c0 : Nat) (l0 : List S30) (w : World) (hr0 : Kd.C k30 w A0 l0.length l0) (hc0 : l0.length ≤ c0) (hl0 : l0.length ≤ 20) (h1 : l0.any longF = false) (h2 : l0.any emptyF = false) (h3 : ∀ i : Nat, i < l0.length → (l0.take i).any (sameF (rd_T30 l0 (i : Int)).f0) = false) :
    Calls Try.prog 17 #[.slice A0 l0.length c0] w fun e w' => e = .returned (.int .i64 0) ∧ Below w.heap.size w w' := by
  have hu30 := Try.underlying30
  have HR0 := Aside0.mk hr0
  have HC0 := Aside0.mk hc0
  have HL := Aside0.mk hl0
  have H1 := Aside0.mk h1
  have H2 := Aside0.mk h2
  have H3 := Aside0.mk h3
  have HB := Aside0.mk (Below.refl w.heap.size w)
  obtain ⟨i9, hi9, _, _, _⟩ := info_parts (show (Try.prog.info? 30).map (fun i => (i.zero, i.size, i.bytes)) = some (some (.agg #[.string ByteArray.empty, .int .i64 0, .string ByteArray.empty]), 3, 40) from by kernel_rfl)
  have hbig : decide ((20 : Int) < (l0.length : Int)) = false := decide_eq_false (by omega)
  clear hr0 hc0 h1 h2 h3 hl0
  go_enter Try.func17, Try.ntmps17
  go_upto_region 8 with (first | (go_at_call 28; refine (c_eq H1.out (contains28a _ _ l0 _ (Kd.C_below HR0.out HB.out) HC0.out (by have := HL.out; omega))).mono ?_; rintro e_ w7 ⟨rfl, hb⟩; have n1_ := Aside0.mk (below_step HB.out hb); clear HB hb; have HB := n1_; clear n1_) | (go_at_call 28; refine (c_eq H2.out (contains28b _ _ l0 H2.out _ (Kd.C_below HR0.out HB.out) HC0.out (by have := HL.out; omega))).mono ?_; rintro e_ w7 ⟨rfl, hb⟩; have n1_ := Aside0.mk (below_step HB.out hb); clear HB hb; have HB := n1_; clear n1_))
  go_loopg [22] l0.length (fun kq v22 w' => ∃ x : Int, v22 = .int .i64 x ∧ Aside0 (∃ i : Nat, x = i ∧ i + kq = l0.length) ∧ Aside0 (Below w.heap.size w w'))
  case atStart => exact ⟨0, rfl, ⟨⟨0, rfl, by omega⟩⟩, HB⟩
  case round =>
    clear HB
    obtain ⟨x, rfl, HX, HB⟩ := hrel
    by_cases c : x < (l0.length : Int)
    · have c1 : decide (x < (l0.length : Int)) = true := decide_eq_true c
      obtain ⟨i, e1, e2⟩ := HX.out
      clear HX
      obtain ⟨k1, rfl⟩ : ∃ k1, gk = k1 + 1 := ⟨gk - 1, by omega⟩
      have E1 := Aside0.mk (And.intro e1 e2)
      have p1 : 0 ≤ (x : Int) := by omega
      have E3 := Aside0.mk (show (l0.take x.toNat).any (sameF (rd_T30 l0 x).f0) = false from by have h_ := H3.out i (by omega); rw [e1, Int.toNat_natCast]; exact h_)
      have E2 := Aside0.mk (show (l0.take x.toNat).length = x.toNat from by rw [List.length_take]; omega)
      have E4 := Aside0.mk (show x.toNat ≤ l0.length ∧ (l0.take x.toNat).length ≤ c0 from ⟨by omega, by have := HC0.out; rw [E2.out]; omega⟩)
      obtain ⟨ad, ea, hx0, hx1, hx2⟩ := at_T30 HR0.out x p1 c
      have hcut := cut_to (P := Try.prog) 31 30 .i64 Try.underlying31 hi9 A0 l0.length c0 x p1 (by omega) HC0.out
      cases ea
      replace hx0 := (HB.out.cell (World.block_lt_of_cell? w _ hx0)).trans hx0
      replace hx1 := (HB.out.cell (World.block_lt_of_cell? w _ hx1)).trans hx1
      replace hx2 := (HB.out.cell (World.block_lt_of_cell? w _ hx2)).trans hx2
      replace p1 := eq_true p1
      have q1 := eq_true c
      clear e1 e2 c
      go_wp2_with (first | ((with_reducible refine gate_dst (N := 6) rfl ?_); refine box_event ?hg (N := 6) ?hd (cs := #[.string ByteArray.empty, .int .i64 0, .string ByteArray.empty]) (t := 30) ?hr ?_; (case hd => rfl); (case hg => rfl); (case hr => first | (go_simp; done) | (go_simp; rfl)); intro g5 hg w5 hbox hb; have BK5 := Aside0.mk hbox; have GE5 := Aside0.mk (show w.heap.size ≤ g5 from by rw [hg]; exact HB.out.size); have n1_ := Aside0.mk (below_step HB.out hb); clear HB; have HB := n1_; clear n1_; replace hx0 := (hb.cell (World.block_lt_of_cell? _ _ hx0)).trans hx0; replace hx1 := (hb.cell (World.block_lt_of_cell? _ _ hx1)).trans hx1; replace hx2 := (hb.cell (World.block_lt_of_cell? _ _ hx2)).trans hx2; clear hbox hb hg; have hc5_0 : w5.cell? ⟨g5, 0, none⟩ = some (.string ByteArray.empty) := (blk_cell BK5.out 0).trans rfl; have hf5_0 := blk_frozen BK5.out 0; have hc5_1 : w5.cell? ⟨g5, 1, none⟩ = some (.int .i64 0) := (blk_cell BK5.out 1).trans rfl; have hf5_1 := blk_frozen BK5.out 1; have hc5_2 : w5.cell? ⟨g5, 2, none⟩ = some (.string ByteArray.empty) := (blk_cell BK5.out 2).trans rfl; have hf5_2 := blk_frozen BK5.out 2) | (go_at_call 28; have hbs : Below w.heap.size w (((w5.setCell ⟨g5, 0, none⟩ (.string (rd_T30 l0 x).f0)).setCell ⟨g5, 1, none⟩ (.int .i64 (rd_T30 l0 x).f1)).setCell ⟨g5, 2, none⟩ (.string (rd_T30 l0 x).f2)) := below_set (below_set (below_set HB.out GE5.out) GE5.out) GE5.out; have hg5 : (((w5.setCell ⟨g5, 0, none⟩ (.string (rd_T30 l0 x).f0)).setCell ⟨g5, 1, none⟩ (.int .i64 (rd_T30 l0 x).f1)).setCell ⟨g5, 2, none⟩ (.string (rd_T30 l0 x).f2)).heap[g5]? = some (.cells #[.string (rd_T30 l0 x).f0, .int .i64 (rd_T30 l0 x).f1, .string (rd_T30 l0 x).f2] 30 (0, 0)) := (by refine blk_put (cs := #[.string (rd_T30 l0 x).f0, .int .i64 (rd_T30 l0 x).f1, .string ByteArray.empty]) ?_ 2 _ rfl; refine blk_put (cs := #[.string (rd_T30 l0 x).f0, .int .i64 0, .string ByteArray.empty]) ?_ 1 _ rfl; refine blk_put (cs := #[.string ByteArray.empty, .int .i64 0, .string ByteArray.empty]) ?_ 0 _ rfl; exact BK5.out); refine (c_len E2.out (c_eq E3.out (contains28c _ c0 (l0.take x.toNat) (rd_T30 l0 x).f0 g5 (((w5.setCell ⟨g5, 0, none⟩ (.string (rd_T30 l0 x).f0)).setCell ⟨g5, 1, none⟩ (.int .i64 (rd_T30 l0 x).f1)).setCell ⟨g5, 2, none⟩ (.string (rd_T30 l0 x).f2)) (Kd.C_below (Kd.C_take HR0.out E4.out.1) hbs) (by have := E4.out.2; omega) (by have h1_ := E4.out.1; have h2_ := HL.out; have h3_ := E2.out; omega) ((blk_cell hg5 0).trans rfl)))).mono ?_; rintro e_ w8 ⟨rfl, hb⟩; have n1_ := Aside0.mk (below_step hbs hb); clear HB hb hbs hg5; have HB := n1_; clear n1_))
      go_roundg k1
      case measure => have := E1.out; omega
      case rel => exact ⟨wrap64 (x + 1), rfl, ⟨⟨i + 1, by have := E1.out; rw [w64_id' (by omega) (by have := HL.out; omega)]; omega, by have := E1.out; omega⟩⟩, HB⟩
    · have c1 : decide (x < (l0.length : Int)) = false := decide_eq_false c
      clear c HX
      go_wp2
      go_ret
      exact ⟨rfl, HB.out⟩
end Go.Proofs.Ytficalhfbopjbaa.Ds
