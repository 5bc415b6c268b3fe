/- wordindex.Build of one document. Condition: a document with a name, within the limits. -/
import Derived.Test.YtngolmiegfgmmaaWfhWd
import Derived.Test.YtngolmiegfgmmaaWfx1
import Derived.Test.YtngolmiegfgmmaaSo
import Derived.Test.YtngolmiegfgmmaaCb
import Derived.BigQuiet
namespace Go.Proofs.Ytngolmiegfgmmaa.Wf
open Go.RowKit Go.Sort Go.Proofs.YtngolmiegfgmmaaW.PrintWords Go.Proofs.YtngolmiegfgmmaaW.PrintLast Go.Proofs.YtngolmiegfgmmaaW.PrintMore
open Go.Proofs.Ytngolmiegfgmmaa
set_option linter.unusedVariables false
set_option linter.unusedSimpArgs false
attribute [local go_sem] Oper.semAt_some
theorem blk_put {w : World} {g : Nat} {t : TypeId} {cs cs2 : Array Value} (h : w.heap[g]? = some (.cells cs t (0, 0))) (i : Nat) (u : Value) (hc : cs.setIfInBounds i u = cs2) : (w.setCell ⟨g, i, none⟩ u).heap[g]? = some (.cells cs2 t (0, 0)) := hc ▸ blk_set h i u
def ixs {α : Type} (p : α → Bool) : List α → Int → Int
  | [], _ => -1
  | e :: es, i => if p e = true then i else ixs p es (i + 1)
theorem ixs_cons {α : Type} (p : α → Bool) (e : α) (es : List α) (i : Int) : ixs p (e :: es) i = if p e = true then i else ixs p es (i + 1) := rfl
theorem ixs_any {α : Type} (p : α → Bool) (es : List α) : ∀ i : Int, 0 ≤ i → decide (ixs p es i ≥ 0) = es.any p := by
  induction es with
  | nil => intro i _; rfl
  | cons e es ih =>
    intro i hi
    rw [ixs_cons, List.any_cons]
    cases h : p e with
    | false => rw [if_neg (by simp), ih (i + 1) (by omega)]; rfl
    | true => rw [if_pos rfl]; simp; omega
theorem take35 (l : List S35) (i : Nat) (h : i < l.length) : l.drop i = rd_T35 l (i : Int) :: l.drop (i + 1) := by
  rw [List.drop_eq_getElem_cons h]
  unfold rd_T35
  simp [h]
def longF (d : S35) : Bool := decide (60 < (d.f0.size : Int)) || decide (2000 < (d.f2.size : Int))
def emptyF (d : S35) : Bool := d.f0.toList.isEmpty
set_option maxHeartbeats 4000000 in
theorem pred31 (d : S35) (w : World) : Calls Try.prog 31 #[.agg #[.string d.f0, .int .i64 d.f1, .string d.f2]] w fun e w' => e = .returned (.bool (longF d)) ∧ Below w.heap.size w w' := by
  have hu35 := Try.underlying35
  unfold longF
  cases c : decide (60 < (d.f0.size : Int)) with
  | true =>
    go_enter Try.func31, Try.ntmps31
    go_wp2_with (((with_reducible refine gate_dst (N := 1) rfl ?_); refine box_event ?hg (N := 1) ?hd (cs := #[.string d.f0, .int .i64 d.f1, .string d.f2]) (t := 35) ?hr ?_; (case hd => rfl); (case hg => rfl); (case hr => first | (go_simp; done) | (go_simp; rfl)); intro gd hg w3 hbox hb; have BKgd := Aside0.mk hbox; have HB := Aside0.mk hb; have hd0 : w3.cell? ⟨gd, 0, none⟩ = some (.string d.f0) := (blk_cell BKgd.out 0).trans rfl; have hd2 : w3.cell? ⟨gd, 2, none⟩ = some (.string d.f2) := (blk_cell BKgd.out 2).trans rfl; clear hbox hb hg))
    go_ret
    exact ⟨rfl, HB.out⟩
  | false =>
    go_enter Try.func31, Try.ntmps31
    go_wp2_with (((with_reducible refine gate_dst (N := 1) rfl ?_); refine box_event ?hg (N := 1) ?hd (cs := #[.string d.f0, .int .i64 d.f1, .string d.f2]) (t := 35) ?hr ?_; (case hd => rfl); (case hg => rfl); (case hr => first | (go_simp; done) | (go_simp; rfl)); intro gd hg w3 hbox hb; have BKgd := Aside0.mk hbox; have HB := Aside0.mk hb; have hd0 : w3.cell? ⟨gd, 0, none⟩ = some (.string d.f0) := (blk_cell BKgd.out 0).trans rfl; have hd2 : w3.cell? ⟨gd, 2, none⟩ = some (.string d.f2) := (blk_cell BKgd.out 2).trans rfl; clear hbox hb hg))
    go_ret
    exact ⟨by simp, HB.out⟩
set_option maxHeartbeats 4000000 in
theorem pred33 (d : S35) (w : World) : Calls Try.prog 33 #[.agg #[.string d.f0, .int .i64 d.f1, .string d.f2]] w fun e w' => e = .returned (.bool (emptyF d)) ∧ Below w.heap.size w w' := by
  have hu35 := Try.underlying35
  unfold emptyF
  go_enter Try.func33, Try.ntmps33
  go_wp2_with (((with_reducible refine gate_dst (N := 1) rfl ?_); refine box_event ?hg (N := 1) ?hd (cs := #[.string d.f0, .int .i64 d.f1, .string d.f2]) (t := 35) ?hr ?_; (case hd => rfl); (case hg => rfl); (case hr => first | (go_simp; done) | (go_simp; rfl)); intro gd hg w3 hbox hb; have BKgd := Aside0.mk hbox; have HB := Aside0.mk hb; have hd0 : w3.cell? ⟨gd, 0, none⟩ = some (.string d.f0) := (blk_cell BKgd.out 0).trans rfl; have hd2 : w3.cell? ⟨gd, 2, none⟩ = some (.string d.f2) := (blk_cell BKgd.out 2).trans rfl; clear hbox hb hg))
  go_ret
  exact ⟨rfl, HB.out⟩
set_option maxHeartbeats 4000000 in
set_option maxRecDepth 100000 in
theorem index55a (A0 : Option Addr) (c0 : Nat) (l0 : List (S35)) (w : World) (hr0 : Kd.C k35 w A0 l0.length l0) (hc0 : l0.length ≤ c0) (hl0 : l0.length < 1000000000) :
    Calls Try.prog 55 #[.slice A0 l0.length c0, .func (.func 31) #[] #[]] w fun e w' => e = .returned (.int .i64 (ixs (longF) l0 0)) ∧ Below w.heap.size w w' := by
  have hu35 := Try.underlying35
  have HR0 := Aside0.mk hr0
  have HC0 := Aside0.mk hc0
  have HLEN := Aside0.mk hl0
  clear hr0 hc0 hl0
  have HB := Aside0.mk (Below.refl w.heap.size w)
  go_enter Try.func55, Try.ntmps55
  go_wp2
  go_loopg [8] l0.length (fun kq v8 w' => ∃ x : Int, v8 = .int .i64 x ∧ Aside0 (∃ i : Nat, x = i ∧ i + kq = l0.length ∧ ixs (longF) (l0.drop i) (i : Int) = ixs (longF) l0 0) ∧ Aside0 (Below w.heap.size w w'))
  case atStart => exact ⟨0, rfl, ⟨⟨0, rfl, by omega, rfl⟩⟩, HB⟩
  case round =>
    clear HB
    obtain ⟨x, rfl, HX, HB⟩ := hrel
    by_cases c : x < (l0.length : Int)
    · have c1 : decide (x < (l0.length : Int)) = true := decide_eq_true c
      obtain ⟨i, e1, e2, e3⟩ := HX.out
      clear HX
      obtain ⟨k1, rfl⟩ : ∃ k1, gk = k1 + 1 := ⟨gk - 1, by omega⟩
      have E1 := Aside0.mk (And.intro e1 e2)
      rw [take35 l0 i (by omega), ← e1, ixs_cons] at e3
      have E3 := Aside0.mk e3
      have p1 : 0 ≤ (x : Int) := by omega
      obtain ⟨ad, ea, hx0, hx1, hx2⟩ := at_T35 HR0.out x p1 c
      cases ea
      replace hx0 := (HB.out.cell (World.block_lt_of_cell? w _ hx0)).trans hx0
      replace hx1 := (HB.out.cell (World.block_lt_of_cell? w _ hx1)).trans hx1
      replace hx2 := (HB.out.cell (World.block_lt_of_cell? w _ hx2)).trans hx2
      replace p1 := eq_true p1
      have q1 := eq_true c
      clear e1 e2 e3 c
      cases hv : (longF) (rd_T35 l0 x) with
      | false =>
        have e4 := E3.out
        rw [if_neg (by rw [hv]; simp)] at e4
        have E4 := Aside0.mk e4
        clear e4 E3
        go_wp2_with (go_at_call 31; refine (pred31 (rd_T35 l0 x) _).mono ?_; rintro e w7 ⟨he, hb⟩; rw [hv] at he; subst he; have n1_ := Aside0.mk (below_step HB.out hb); clear HB hb; have HB := n1_; clear n1_)
        go_roundg k1
        case measure => have := E1.out; omega
        case rel => exact ⟨wrap64 (x + 1), rfl, ⟨⟨i + 1, by have := E1.out; rw [w64_id' (by omega) (by have := HLEN.out; omega)]; omega, by have := E1.out; omega, by rw [← E4.out, E1.out.1]; rfl⟩⟩, HB⟩
      | true =>
        have e4 := E3.out
        rw [if_pos hv] at e4
        have E4 := Aside0.mk e4
        clear e4 E3
        go_wp2_with (go_at_call 31; refine (pred31 (rd_T35 l0 x) _).mono ?_; rintro e w7 ⟨he, hb⟩; rw [hv] at he; subst he; have n1_ := Aside0.mk (below_step HB.out hb); clear HB hb; have HB := n1_; clear n1_)
        go_ret
        exact ⟨by rw [← E4.out]; rfl, HB.out⟩
    · have c1 : decide (x < (l0.length : Int)) = false := decide_eq_false c
      obtain ⟨i, e1, e2, e3⟩ := HX.out
      clear HX
      obtain rfl : i = l0.length := by omega
      rw [List.drop_length] at e3
      have E3 := Aside0.mk (show (-1 : Int) = ixs (longF) l0 0 from e3)
      clear e1 e2 c e3
      go_wp2
      go_ret
      exact ⟨by rw [← E3.out]; rfl, HB.out⟩
set_option maxHeartbeats 2000000 in
theorem contains32a (A0 : Option Addr) (c0 : Nat) (l0 : List (S35)) (w : World) (hr0 : Kd.C k35 w A0 l0.length l0) (hc0 : l0.length ≤ c0) (hl0 : l0.length < 1000000000) :
    Calls Try.prog 32 #[.slice A0 l0.length c0, .func (.func 31) #[] #[]] w fun e w' => e = .returned (.bool (l0.any (longF))) ∧ Below w.heap.size w w' := by
  rw [← ixs_any (longF) l0 0 (Int.le_refl _)]
  have hcon := index55a A0 c0 l0 w hr0 hc0 hl0
  generalize ixs (longF) l0 0 = n at hcon ⊢
  have HCON := Aside0.mk hcon
  clear hcon hr0 hc0 hl0
  go_enter Try.func32, Try.ntmps32
  go_wp2_with (go_at_call 55; refine HCON.out.mono ?_; rintro e w7 ⟨rfl, hb⟩; have HB := Aside0.mk hb; clear hb)
  go_ret
  exact ⟨by simp, HB.out⟩
set_option maxHeartbeats 4000000 in
set_option maxRecDepth 100000 in
theorem index55b (A0 : Option Addr) (c0 : Nat) (l0 : List (S35)) (w : World) (hr0 : Kd.C k35 w A0 l0.length l0) (hc0 : l0.length ≤ c0) (hl0 : l0.length < 1000000000) :
    Calls Try.prog 55 #[.slice A0 l0.length c0, .func (.func 33) #[] #[]] w fun e w' => e = .returned (.int .i64 (ixs (emptyF) l0 0)) ∧ Below w.heap.size w w' := by
  have hu35 := Try.underlying35
  have HR0 := Aside0.mk hr0
  have HC0 := Aside0.mk hc0
  have HLEN := Aside0.mk hl0
  clear hr0 hc0 hl0
  have HB := Aside0.mk (Below.refl w.heap.size w)
  go_enter Try.func55, Try.ntmps55
  go_wp2
  go_loopg [8] l0.length (fun kq v8 w' => ∃ x : Int, v8 = .int .i64 x ∧ Aside0 (∃ i : Nat, x = i ∧ i + kq = l0.length ∧ ixs (emptyF) (l0.drop i) (i : Int) = ixs (emptyF) l0 0) ∧ Aside0 (Below w.heap.size w w'))
  case atStart => exact ⟨0, rfl, ⟨⟨0, rfl, by omega, rfl⟩⟩, HB⟩
  case round =>
    clear HB
    obtain ⟨x, rfl, HX, HB⟩ := hrel
    by_cases c : x < (l0.length : Int)
    · have c1 : decide (x < (l0.length : Int)) = true := decide_eq_true c
      obtain ⟨i, e1, e2, e3⟩ := HX.out
      clear HX
      obtain ⟨k1, rfl⟩ : ∃ k1, gk = k1 + 1 := ⟨gk - 1, by omega⟩
      have E1 := Aside0.mk (And.intro e1 e2)
      rw [take35 l0 i (by omega), ← e1, ixs_cons] at e3
      have E3 := Aside0.mk e3
      have p1 : 0 ≤ (x : Int) := by omega
      obtain ⟨ad, ea, hx0, hx1, hx2⟩ := at_T35 HR0.out x p1 c
      cases ea
      replace hx0 := (HB.out.cell (World.block_lt_of_cell? w _ hx0)).trans hx0
      replace hx1 := (HB.out.cell (World.block_lt_of_cell? w _ hx1)).trans hx1
      replace hx2 := (HB.out.cell (World.block_lt_of_cell? w _ hx2)).trans hx2
      replace p1 := eq_true p1
      have q1 := eq_true c
      clear e1 e2 e3 c
      cases hv : (emptyF) (rd_T35 l0 x) with
      | false =>
        have e4 := E3.out
        rw [if_neg (by rw [hv]; simp)] at e4
        have E4 := Aside0.mk e4
        clear e4 E3
        go_wp2_with (go_at_call 33; refine (pred33 (rd_T35 l0 x) _).mono ?_; rintro e w7 ⟨he, hb⟩; rw [hv] at he; subst he; have n1_ := Aside0.mk (below_step HB.out hb); clear HB hb; have HB := n1_; clear n1_)
        go_roundg k1
        case measure => have := E1.out; omega
        case rel => exact ⟨wrap64 (x + 1), rfl, ⟨⟨i + 1, by have := E1.out; rw [w64_id' (by omega) (by have := HLEN.out; omega)]; omega, by have := E1.out; omega, by rw [← E4.out, E1.out.1]; rfl⟩⟩, HB⟩
      | true =>
        have e4 := E3.out
        rw [if_pos hv] at e4
        have E4 := Aside0.mk e4
        clear e4 E3
        go_wp2_with (go_at_call 33; refine (pred33 (rd_T35 l0 x) _).mono ?_; rintro e w7 ⟨he, hb⟩; rw [hv] at he; subst he; have n1_ := Aside0.mk (below_step HB.out hb); clear HB hb; have HB := n1_; clear n1_)
        go_ret
        exact ⟨by rw [← E4.out]; rfl, HB.out⟩
    · have c1 : decide (x < (l0.length : Int)) = false := decide_eq_false c
      obtain ⟨i, e1, e2, e3⟩ := HX.out
      clear HX
      obtain rfl : i = l0.length := by omega
      rw [List.drop_length] at e3
      have E3 := Aside0.mk (show (-1 : Int) = ixs (emptyF) l0 0 from e3)
      clear e1 e2 c e3
      go_wp2
      go_ret
      exact ⟨by rw [← E3.out]; rfl, HB.out⟩
set_option maxHeartbeats 2000000 in
theorem contains32b (A0 : Option Addr) (c0 : Nat) (l0 : List (S35)) (w : World) (hr0 : Kd.C k35 w A0 l0.length l0) (hc0 : l0.length ≤ c0) (hl0 : l0.length < 1000000000) :
    Calls Try.prog 32 #[.slice A0 l0.length c0, .func (.func 33) #[] #[]] w fun e w' => e = .returned (.bool (l0.any (emptyF))) ∧ Below w.heap.size w w' := by
  rw [← ixs_any (emptyF) l0 0 (Int.le_refl _)]
  have hcon := index55b A0 c0 l0 w hr0 hc0 hl0
  generalize ixs (emptyF) l0 0 = n at hcon ⊢
  have HCON := Aside0.mk hcon
  clear hcon hr0 hc0 hl0
  go_enter Try.func32, Try.ntmps32
  go_wp2_with (go_at_call 55; refine HCON.out.mono ?_; rintro e w7 ⟨rfl, hb⟩; have HB := Aside0.mk hb; clear hb)
  go_ret
  exact ⟨by simp, HB.out⟩
def sameF (n : ByteArray) (d : S35) : Bool := d.f0.toList == n.toList
set_option maxHeartbeats 4000000 in
set_option maxRecDepth 100000 in
theorem pred34 (d : S35) (n : ByteArray) (g : Nat) (w : World) (hx : w.cell? ⟨g, 0, none⟩ = some (.string n)) : Calls Try.prog 34 #[.agg #[.string d.f0, .int .i64 d.f1, .string d.f2], .pointer (some ⟨g, 0, none⟩)] w fun e w' => e = .returned (.bool (sameF n d)) ∧ Below w.heap.size w w' := by
  have hu35 := Try.underlying35
  unfold sameF
  go_enter Try.func34, Try.ntmps34
  go_wp2_with (((with_reducible refine gate_dst (N := 2) rfl ?_); refine box_event ?hg (N := 2) ?hd (cs := #[.string d.f0, .int .i64 d.f1, .string d.f2]) (t := 35) ?hr ?_; (case hd => rfl); (case hg => rfl); (case hr => first | (go_simp; done) | (go_simp; rfl)); intro gd hg w3 hbox hb; have BKgd := Aside0.mk hbox; have HB := Aside0.mk hb; have hd0 : w3.cell? ⟨gd, 0, none⟩ = some (.string d.f0) := (blk_cell BKgd.out 0).trans rfl; have hd2 : w3.cell? ⟨gd, 2, none⟩ = some (.string d.f2) := (blk_cell BKgd.out 2).trans rfl; replace hx := (hb.cell (World.block_lt_of_cell? _ _ hx)).trans hx; clear hbox hb hg))
  go_ret
  exact ⟨by first | rfl | simp, HB.out⟩
set_option maxHeartbeats 4000000 in
set_option maxRecDepth 100000 in
theorem index55c (A0 : Option Addr) (c0 : Nat) (l0 : List (S35)) (n : ByteArray) (g : Nat) (w : World) (hr0 : Kd.C k35 w A0 l0.length l0) (hc0 : l0.length ≤ c0) (hl0 : l0.length < 1000000000) (hbox : w.cell? ⟨g, 0, none⟩ = some (.string n)) :
    Calls Try.prog 55 #[.slice A0 l0.length c0, .func (.func 34) #[] #[.pointer (some ⟨g, 0, none⟩)]] w fun e w' => e = .returned (.int .i64 (ixs (sameF n) l0 0)) ∧ Below w.heap.size w w' := by
  have hu35 := Try.underlying35
  have HR0 := Aside0.mk hr0
  have HC0 := Aside0.mk hc0
  have HLEN := Aside0.mk hl0
  clear hr0 hc0 hl0
  have HB := Aside0.mk (Below.refl w.heap.size w)
  have BX := Aside0.mk hbox
  clear hbox
  go_enter Try.func55, Try.ntmps55
  go_wp2
  go_loopg [8] l0.length (fun kq v8 w' => ∃ x : Int, v8 = .int .i64 x ∧ Aside0 (∃ i : Nat, x = i ∧ i + kq = l0.length ∧ ixs (sameF n) (l0.drop i) (i : Int) = ixs (sameF n) l0 0) ∧ Aside0 (Below w.heap.size w w'))
  case atStart => exact ⟨0, rfl, ⟨⟨0, rfl, by omega, rfl⟩⟩, HB⟩
  case round =>
    clear HB
    obtain ⟨x, rfl, HX, HB⟩ := hrel
    by_cases c : x < (l0.length : Int)
    · have c1 : decide (x < (l0.length : Int)) = true := decide_eq_true c
      obtain ⟨i, e1, e2, e3⟩ := HX.out
      clear HX
      obtain ⟨k1, rfl⟩ : ∃ k1, gk = k1 + 1 := ⟨gk - 1, by omega⟩
      have E1 := Aside0.mk (And.intro e1 e2)
      rw [take35 l0 i (by omega), ← e1, ixs_cons] at e3
      have E3 := Aside0.mk e3
      have p1 : 0 ≤ (x : Int) := by omega
      obtain ⟨ad, ea, hx0, hx1, hx2⟩ := at_T35 HR0.out x p1 c
      cases ea
      replace hx0 := (HB.out.cell (World.block_lt_of_cell? w _ hx0)).trans hx0
      replace hx1 := (HB.out.cell (World.block_lt_of_cell? w _ hx1)).trans hx1
      replace hx2 := (HB.out.cell (World.block_lt_of_cell? w _ hx2)).trans hx2
      replace p1 := eq_true p1
      have q1 := eq_true c
      clear e1 e2 e3 c
      cases hv : (sameF n) (rd_T35 l0 x) with
      | false =>
        have e4 := E3.out
        rw [if_neg (by rw [hv]; simp)] at e4
        have E4 := Aside0.mk e4
        clear e4 E3
        go_wp2_with (go_at_call 34; refine (pred34 (rd_T35 l0 x) n g _ ((HB.out.cell (World.block_lt_of_cell? w _ BX.out)).trans BX.out)).mono ?_; rintro e w7 ⟨he, hb⟩; rw [hv] at he; subst he; have n1_ := Aside0.mk (below_step HB.out hb); clear HB hb; have HB := n1_; clear n1_)
        go_roundg k1
        case measure => have := E1.out; omega
        case rel => exact ⟨wrap64 (x + 1), rfl, ⟨⟨i + 1, by have := E1.out; rw [w64_id' (by omega) (by have := HLEN.out; omega)]; omega, by have := E1.out; omega, by rw [← E4.out, E1.out.1]; rfl⟩⟩, HB⟩
      | true =>
        have e4 := E3.out
        rw [if_pos hv] at e4
        have E4 := Aside0.mk e4
        clear e4 E3
        go_wp2_with (go_at_call 34; refine (pred34 (rd_T35 l0 x) n g _ ((HB.out.cell (World.block_lt_of_cell? w _ BX.out)).trans BX.out)).mono ?_; rintro e w7 ⟨he, hb⟩; rw [hv] at he; subst he; have n1_ := Aside0.mk (below_step HB.out hb); clear HB hb; have HB := n1_; clear n1_)
        go_ret
        exact ⟨by rw [← E4.out]; rfl, HB.out⟩
    · have c1 : decide (x < (l0.length : Int)) = false := decide_eq_false c
      obtain ⟨i, e1, e2, e3⟩ := HX.out
      clear HX
      obtain rfl : i = l0.length := by omega
      rw [List.drop_length] at e3
      have E3 := Aside0.mk (show (-1 : Int) = ixs (sameF n) l0 0 from e3)
      clear e1 e2 c e3
      go_wp2
      go_ret
      exact ⟨by rw [← E3.out]; rfl, HB.out⟩
set_option maxHeartbeats 2000000 in
theorem contains32c (A0 : Option Addr) (c0 : Nat) (l0 : List (S35)) (n : ByteArray) (g : Nat) (w : World) (hr0 : Kd.C k35 w A0 l0.length l0) (hc0 : l0.length ≤ c0) (hl0 : l0.length < 1000000000) (hbox : w.cell? ⟨g, 0, none⟩ = some (.string n)) :
    Calls Try.prog 32 #[.slice A0 l0.length c0, .func (.func 34) #[] #[.pointer (some ⟨g, 0, none⟩)]] w fun e w' => e = .returned (.bool (l0.any (sameF n))) ∧ Below w.heap.size w w' := by
  rw [← ixs_any (sameF n) l0 0 (Int.le_refl _)]
  have hcon := index55c A0 c0 l0 n g w hr0 hc0 hl0 hbox
  generalize ixs (sameF n) l0 0 = n at hcon ⊢
  have HCON := Aside0.mk hcon
  clear hcon hr0 hc0 hl0 hbox
  go_enter Try.func32, Try.ntmps32
  go_wp2_with (go_at_call 55; refine HCON.out.mono ?_; rintro e w7 ⟨rfl, hb⟩; have HB := Aside0.mk hb; clear hb)
  go_ret
  exact ⟨by simp, HB.out⟩
theorem c_eq {l : List S35} {p : S35 → Bool} {b : Bool} {w : World} {args : Array Value} (hb : l.any p = b) (h : Calls Try.prog 32 args w fun e w' => e = .returned (.bool (l.any p)) ∧ Below w.heap.size w w') :
    Calls Try.prog 32 args w fun e w' => e = .returned (.bool b) ∧ Below w.heap.size w w' := hb ▸ h
theorem c_len {l : List S35} {m : Nat} (hm : l.length = m) {A : Option Addr} {c : Nat} {V : Value} {w : World} {Q : Ending → World → Prop} (h : Calls Try.prog 32 #[.slice A l.length c, V] w Q) : Calls Try.prog 32 #[.slice A m c, V] w Q := hm ▸ h
def bigger (l : List S35) : Bool := decide (20 < (l.length : Int))
set_option maxHeartbeats 8000000 in
set_option maxRecDepth 100000 in
theorem validate20 (A0 : Option Addr) (c0 : Nat) (l0 : List S35) (w : World) (hr0 : Kd.C k35 w A0 l0.length l0) (hc0 : l0.length ≤ c0) (hl0 : l0.length ≤ 20) (h1 : l0.any longF = false) (h2 : l0.any emptyF = false) (h3 : ∀ i : Nat, i < l0.length → (l0.take i).any (sameF (rd_T35 l0 (i : Int)).f0) = false) :
    Calls Try.prog 20 #[.slice A0 l0.length c0] w fun e w' => e = .returned (.int .i64 0) ∧ Below w.heap.size w w' := by
  have hu35 := Try.underlying35
  have HR0 := Aside0.mk hr0
  have HC0 := Aside0.mk hc0
  have HL := Aside0.mk hl0
  have H1 := Aside0.mk h1
  have H2 := Aside0.mk h2
  have H3 := Aside0.mk h3
  have HB := Aside0.mk (Below.refl w.heap.size w)
  obtain ⟨i9, hi9, _, _, _⟩ := info_parts (show (Try.prog.info? 35).map (fun i => (i.zero, i.size, i.bytes)) = some (some (.agg #[.string ByteArray.empty, .int .i64 0, .string ByteArray.empty]), 3, 40) from by kernel_rfl)
  have hbig : decide ((20 : Int) < (l0.length : Int)) = false := decide_eq_false (by omega)
  clear hr0 hc0 h1 h2 h3 hl0
  go_enter Try.func20, Try.ntmps20
  go_upto_region 7 with (first | (go_at_call 32; refine (c_eq H1.out (contains32a _ _ l0 _ (Kd.C_below HR0.out HB.out) HC0.out (by have := HL.out; omega))).mono ?_; rintro e_ w7 ⟨rfl, hb⟩; have n1_ := Aside0.mk (below_step HB.out hb); clear HB hb; have HB := n1_; clear n1_) | (go_at_call 32; refine (c_eq H2.out (contains32b _ _ l0 _ (Kd.C_below HR0.out HB.out) HC0.out (by have := HL.out; omega))).mono ?_; rintro e_ w7 ⟨rfl, hb⟩; have n1_ := Aside0.mk (below_step HB.out hb); clear HB hb; have HB := n1_; clear n1_))
  go_loopg [18] l0.length (fun kq v18 w' => ∃ x : Int, v18 = .int .i64 x ∧ Aside0 (∃ i : Nat, x = i ∧ i + kq = l0.length) ∧ Aside0 (Below w.heap.size w w'))
  case atStart => exact ⟨0, rfl, ⟨⟨0, rfl, by omega⟩⟩, HB⟩
  case round =>
    clear HB
    obtain ⟨x, rfl, HX, HB⟩ := hrel
    by_cases c : x < (l0.length : Int)
    · have c1 : decide (x < (l0.length : Int)) = true := decide_eq_true c
      obtain ⟨i, e1, e2⟩ := HX.out
      clear HX
      obtain ⟨k1, rfl⟩ : ∃ k1, gk = k1 + 1 := ⟨gk - 1, by omega⟩
      have E1 := Aside0.mk (And.intro e1 e2)
      have p1 : 0 ≤ (x : Int) := by omega
      have E3 := Aside0.mk (show (l0.take x.toNat).any (sameF (rd_T35 l0 x).f0) = false from by have h_ := H3.out i (by omega); rw [e1, Int.toNat_natCast]; exact h_)
      have E2 := Aside0.mk (show (l0.take x.toNat).length = x.toNat from by rw [List.length_take]; omega)
      have E4 := Aside0.mk (show x.toNat ≤ l0.length ∧ (l0.take x.toNat).length ≤ c0 from ⟨by omega, by have := HC0.out; rw [E2.out]; omega⟩)
      obtain ⟨ad, ea, hx0, hx1, hx2⟩ := at_T35 HR0.out x p1 c
      have hcut := cut_to (P := Try.prog) 27 35 .i64 Try.underlying27 hi9 A0 l0.length c0 x p1 (by omega) HC0.out
      cases ea
      replace hx0 := (HB.out.cell (World.block_lt_of_cell? w _ hx0)).trans hx0
      replace hx1 := (HB.out.cell (World.block_lt_of_cell? w _ hx1)).trans hx1
      replace hx2 := (HB.out.cell (World.block_lt_of_cell? w _ hx2)).trans hx2
      replace p1 := eq_true p1
      have q1 := eq_true c
      clear e1 e2 c
      go_wp2_with (first | ((with_reducible refine gate_dst (N := 5) rfl ?_); refine box_event ?hg (N := 5) ?hd (cs := #[.string ByteArray.empty, .int .i64 0, .string ByteArray.empty]) (t := 35) ?hr ?_; (case hd => rfl); (case hg => rfl); (case hr => first | (go_simp; done) | (go_simp; rfl)); intro g5 hg w5 hbox hb; have BK5 := Aside0.mk hbox; have GE5 := Aside0.mk (show w.heap.size ≤ g5 from by rw [hg]; exact HB.out.size); have n1_ := Aside0.mk (below_step HB.out hb); clear HB; have HB := n1_; clear n1_; replace hx0 := (hb.cell (World.block_lt_of_cell? _ _ hx0)).trans hx0; replace hx1 := (hb.cell (World.block_lt_of_cell? _ _ hx1)).trans hx1; replace hx2 := (hb.cell (World.block_lt_of_cell? _ _ hx2)).trans hx2; clear hbox hb hg; have hc5_0 : w5.cell? ⟨g5, 0, none⟩ = some (.string ByteArray.empty) := (blk_cell BK5.out 0).trans rfl; have hf5_0 := blk_frozen BK5.out 0; have hc5_1 : w5.cell? ⟨g5, 1, none⟩ = some (.int .i64 0) := (blk_cell BK5.out 1).trans rfl; have hf5_1 := blk_frozen BK5.out 1; have hc5_2 : w5.cell? ⟨g5, 2, none⟩ = some (.string ByteArray.empty) := (blk_cell BK5.out 2).trans rfl; have hf5_2 := blk_frozen BK5.out 2) | (go_at_call 32; have hbs : Below w.heap.size w (((w5.setCell ⟨g5, 0, none⟩ (.string (rd_T35 l0 x).f0)).setCell ⟨g5, 1, none⟩ (.int .i64 (rd_T35 l0 x).f1)).setCell ⟨g5, 2, none⟩ (.string (rd_T35 l0 x).f2)) := below_set (below_set (below_set HB.out GE5.out) GE5.out) GE5.out; have hg5 : (((w5.setCell ⟨g5, 0, none⟩ (.string (rd_T35 l0 x).f0)).setCell ⟨g5, 1, none⟩ (.int .i64 (rd_T35 l0 x).f1)).setCell ⟨g5, 2, none⟩ (.string (rd_T35 l0 x).f2)).heap[g5]? = some (.cells #[.string (rd_T35 l0 x).f0, .int .i64 (rd_T35 l0 x).f1, .string (rd_T35 l0 x).f2] 35 (0, 0)) := (by refine blk_put (cs := #[.string (rd_T35 l0 x).f0, .int .i64 (rd_T35 l0 x).f1, .string ByteArray.empty]) ?_ 2 _ rfl; refine blk_put (cs := #[.string (rd_T35 l0 x).f0, .int .i64 0, .string ByteArray.empty]) ?_ 1 _ rfl; refine blk_put (cs := #[.string ByteArray.empty, .int .i64 0, .string ByteArray.empty]) ?_ 0 _ rfl; exact BK5.out); refine (c_len E2.out (c_eq E3.out (contains32c _ c0 (l0.take x.toNat) (rd_T35 l0 x).f0 g5 (((w5.setCell ⟨g5, 0, none⟩ (.string (rd_T35 l0 x).f0)).setCell ⟨g5, 1, none⟩ (.int .i64 (rd_T35 l0 x).f1)).setCell ⟨g5, 2, none⟩ (.string (rd_T35 l0 x).f2)) (Kd.C_below (Kd.C_take HR0.out E4.out.1) hbs) (by have := E4.out.2; omega) (by have h1_ := E4.out.1; have h2_ := HL.out; have h3_ := E2.out; omega) ((blk_cell hg5 0).trans rfl)))).mono ?_; rintro e_ w8 ⟨rfl, hb⟩; have n1_ := Aside0.mk (below_step hbs hb); clear HB hb hbs hg5; have HB := n1_; clear n1_))
      go_roundg k1
      case measure => have := E1.out; omega
      case rel => exact ⟨wrap64 (x + 1), rfl, ⟨⟨i + 1, by have := E1.out; rw [w64_id' (by omega) (by have := HL.out; omega)]; omega, by have := E1.out; omega⟩⟩, HB⟩
    · have c1 : decide (x < (l0.length : Int)) = false := decide_eq_false c
      clear c HX
      go_wp2
      go_ret
      exact ⟨rfl, HB.out⟩
set_option maxHeartbeats 8000000 in
set_option maxRecDepth 100000 in
theorem entry21 (d : S35) (k : Nat) (sum : Int) (ws : List ByteArray) (w : World) (hsum : journal_Checksum.f k d.f2 = some sum) (hws : wordindex_Words.f d.f2 = some ws) :
    Calls Try.prog 21 #[.agg #[.string d.f0, .int .i64 d.f1, .string d.f2]] w fun e w' => ∃ v, e = .returned (.agg #[.string d.f0, .int .u32 sum, v]) ∧ Kd.R Kd.string 9 w' w.heap.size (fun _ => True) v ws ∧ Below w.heap.size w w' := by
  have hu35 := Try.underlying35
  have hu43 := Try.underlying43
  have HSUM := Aside0.mk hsum
  have HWS := Aside0.mk hws
  clear hsum hws
  go_enter Try.func21, Try.ntmps21
  go_upto_region 1 with (first | ((with_reducible refine gate_dst (N := 1) rfl ?_); refine box_event ?hg (N := 1) ?hd (cs := #[.string d.f0, .int .i64 d.f1, .string d.f2]) (t := 35) ?hr ?_; (case hd => rfl); (case hg => rfl); (case hr => first | (go_simp; done) | (go_simp; rfl)); intro g1 hg w2 hbox hb; have BKg1 := Aside0.mk hbox; have HB := Aside0.mk hb; have BK1 := BKg1; clear BKg1; clear hbox hb hg) | ((with_reducible refine gate_dst (N := 2) rfl ?_); refine box_event ?hg (N := 2) ?hd (cs := #[.string ByteArray.empty, .int .u32 0, .slice none 0 0]) (t := 43) ?hr ?_; (case hd => rfl); (case hg => rfl); (case hr => first | (go_simp; done) | (go_simp; rfl)); intro g2 hg w3 hbox hb; have BKg2 := Aside0.mk hbox; have SZ2 := Aside0.mk (show w.heap.size ≤ g2 from by rw [hg]; exact HB.out.size); have n0_ := Aside0.mk (below_step HB.out hb); have n1_ := Aside0.mk (blk_below BK1.out hb); clear HB BK1; have HB := n0_; have BK1 := n1_; clear n0_ n1_; have BK2 := BKg2; clear BKg2; clear hbox hb hg))
  refine start_ (n := 10) (S := fun w' => w'.cell? ⟨g1, 0, none⟩ = some (.string d.f0) ∧ w'.cell? ⟨g1, 2, none⟩ = some (.string d.f2)) (ds := [9]) #[false, false, false, false, false, false, false, false, false, false] (by kernel_rfl) rfl rfl ⟨(blk_cell (blk_drew BK1.out) 0).trans rfl, (blk_cell (blk_drew BK1.out) 2).trans rfl⟩ (fun hHeld => ?_)
  have hb := below_drew1 (Below.refl w3.heap.size w3)
  have n0_ := Aside0.mk (below_step HB.out hb)
  have n1_ := Aside0.mk (blk_below BK1.out hb)
  have n2_ := Aside0.mk (blk_below BK2.out hb)
  clear HB BK1 BK2
  have HB := n0_
  have BK1 := n1_
  have BK2 := n2_
  clear n0_ n1_ n2_
  clear hb
  generalize w3.drew = w4 at HB BK1 BK2 hHeld ⊢
  refine pure_ (i := 0) (N := some 3) (v := ?_) (a' := ?_) #[true, false, false, false, false, false, false, false, false, false] rfl rfl (by kernel_rfl) (fun _ _ _ h => h) (Or.inl ⟨by rfl, ?_⟩) ?_ ?_
  rotate_left
  · intro w'
    go_simp
    with_reducible rfl
  rotate_left
  · simp only [Act.put, List.setIfInBounds_toArray, List.set_cons_zero, List.set_cons_succ, i64_w, i32_w]
    rfl
  refine take_ (i := 1) (N := some 4) (v := ?_) (a' := ?_) #[true, true, false, false, false, false, false, false, false, false] rfl rfl (by kernel_rfl) (fun _ _ _ h => h) (Or.inl ⟨by rfl, ?_⟩) hHeld ?_ ?_
  rotate_left
  · rintro w' ⟨s0, s1⟩
    go_simp
    with_reducible rfl
  rotate_left
  · simp only [Act.put, List.setIfInBounds_toArray, List.set_cons_zero, List.set_cons_succ, i64_w, i32_w]
    rfl
  refine pure_ (i := 2) (N := some 5) (v := ?_) (a' := ?_) #[true, true, true, false, false, false, false, false, false, false] rfl rfl (by kernel_rfl) (fun _ _ _ h => h) (Or.inl ⟨by rfl, ?_⟩) ?_ ?_
  rotate_left
  · intro w'
    go_simp
    with_reducible rfl
  rotate_left
  · simp only [Act.put, List.setIfInBounds_toArray, List.set_cons_zero, List.set_cons_succ, i64_w, i32_w]
    rfl
  refine take_ (i := 3) (N := some 6) (v := ?_) (a' := ?_) #[true, true, true, true, false, false, false, false, false, false] rfl rfl (by kernel_rfl) (fun _ _ _ h => h) (Or.inl ⟨by rfl, ?_⟩) hHeld ?_ ?_
  rotate_left
  · rintro w' ⟨s0, s1⟩
    go_simp
    with_reducible rfl
  rotate_left
  · simp only [Act.put, List.setIfInBounds_toArray, List.set_cons_zero, List.set_cons_succ, i64_w, i32_w]
    rfl
  refine pure_ (i := 5) (N := some 8) (v := ?_) (a' := ?_) #[true, true, true, true, false, true, false, false, false, false] rfl rfl (by kernel_rfl) (fun _ _ _ h => h) (Or.inl ⟨by rfl, ?_⟩) ?_ ?_
  rotate_left
  · intro w'
    go_simp
    with_reducible rfl
  rotate_left
  · simp only [Act.put, List.setIfInBounds_toArray, List.set_cons_zero, List.set_cons_succ, i64_w, i32_w]
    rfl
  refine take_ (i := 6) (N := some 9) (v := ?_) (a' := ?_) #[true, true, true, true, false, true, true, false, false, false] rfl rfl (by kernel_rfl) (fun _ _ _ h => h) (Or.inl ⟨by rfl, ?_⟩) hHeld ?_ ?_
  rotate_left
  · rintro w' ⟨s0, s1⟩
    go_simp
    with_reducible rfl
  rotate_left
  · simp only [Act.put, List.setIfInBounds_toArray, List.set_cons_zero, List.set_cons_succ, i64_w, i32_w]
    rfl
  refine one_ (i := 4) (N := some 7) #[true, true, true, true, true, true, true, false, false, false] rfl rfl (by kernel_rfl) (by decide) (fun K hK => ?_)
  refine goes_ Try.func35 (by kernel_rfl) rfl #[.string d.f2] (by rfl) rfl rfl (by (try simp only [List.map_toArray, List.map_cons, List.map_nil]); first | done | rfl) ?_
  refine (journal_Checksum.calls k d.f2 sum _ HSUM.out).mono ?_
  rintro e_ w5 ⟨rfl, hd_⟩
  refine ⟨_, rfl, ?_⟩
  have hb := hd_.below
  clear hd_
  have n0_ := Aside0.mk (below_step HB.out hb)
  have n1_ := Aside0.mk (blk_below BK1.out hb)
  have n2_ := Aside0.mk (blk_below BK2.out hb)
  clear HB BK1 BK2
  have HB := n0_
  have BK1 := n1_
  have BK2 := n2_
  clear n0_ n1_ n2_
  clear hb
  refine hK.out _ _ ⟨(blk_cell (BK1.out) 0).trans rfl, (blk_cell (BK1.out) 2).trans rfl⟩ (fun hHeld => ?_)
  clear hK K
  refine norm_ (a' := ?_) ?_ ?_
  rotate_left
  · show Act.put _ (some 7) _ = _
    simp only [Act.put, List.setIfInBounds_toArray, List.set_cons_zero, List.set_cons_succ, i64_w, i32_w]
    rfl
  refine one_ (i := 7) (N := some 10) #[true, true, true, true, true, true, true, true, false, false] rfl rfl (by kernel_rfl) (by decide) (fun K hK => ?_)
  refine goes_ Try.func6 (by kernel_rfl) rfl #[.string d.f2] (by rfl) rfl rfl (by (try simp only [List.map_toArray, List.map_cons, List.map_nil]); first | done | rfl) ?_
  refine (wordindex_Words.calls d.f2 ws _ HWS.out).mono ?_
  rintro e_ w6 ⟨vw, rfl, hvw, hb⟩
  refine ⟨_, rfl, ?_⟩
  obtain ⟨Aw, cw, rfl⟩ := Kd.R_slice hvw
  have HVW := Aside0.mk (Kd.R_lower hvw HB.out.size)
  have n0_ := Aside0.mk (below_step HB.out hb)
  have n1_ := Aside0.mk (blk_below BK1.out hb)
  have n2_ := Aside0.mk (blk_below BK2.out hb)
  clear HB BK1 BK2
  have HB := n0_
  have BK1 := n1_
  have BK2 := n2_
  clear n0_ n1_ n2_
  clear hb hvw
  refine hK.out _ _ ⟨(blk_cell (BK1.out) 0).trans rfl, (blk_cell (BK1.out) 2).trans rfl⟩ (fun hHeld => ?_)
  clear hK K
  refine norm_ (a' := ?_) ?_ ?_
  rotate_left
  · show Act.put _ (some 10) _ = _
    simp only [Act.put, List.setIfInBounds_toArray, List.set_cons_zero, List.set_cons_succ, i64_w, i32_w]
    rfl
  refine pure_ (i := 8) (N := some 11) (v := ?_) (a' := ?_) #[true, true, true, true, true, true, true, true, true, false] rfl rfl (by kernel_rfl) (fun _ _ _ h => h) (Or.inl ⟨by rfl, ?_⟩) ?_ ?_
  rotate_left
  · intro w'
    go_simp
    with_reducible rfl
  rotate_left
  · simp only [Act.put, List.setIfInBounds_toArray, List.set_cons_zero, List.set_cons_succ, i64_w, i32_w]
    rfl
  refine last_ (i := 9) (N := none) #[true, true, true, true, true, true, true, true, true, true] rfl rfl (by kernel_rfl) (by decide) (fun K hK => ?_)
  refine skip_ (w1 := (((w6.setCell ⟨g2, 0, none⟩ (.string d.f0)).setCell ⟨g2, 1, none⟩ (.int .u32 sum)).setCell ⟨g2, 2, none⟩ (.slice Aw ws.length cw))) (by rfl) rfl ?_ ?_
  · have c0 : w6.cell? ⟨g2, 0, none⟩ = some (.string ByteArray.empty) := (blk_cell BK2.out 0).trans rfl
    have c1 : w6.cell? ⟨g2, 1, none⟩ = some (.int .u32 0) := (blk_cell BK2.out 1).trans rfl
    have c2 : w6.cell? ⟨g2, 2, none⟩ = some (.slice none 0 0) := (blk_cell BK2.out 2).trans rfl
    have d0 := blk_frozen BK2.out 0
    have d1 := blk_frozen BK2.out 1
    have d2 := blk_frozen BK2.out 2
    go_simp
    try rfl
  have n2_ := Aside0.mk (show (((w6.setCell ⟨g2, 0, none⟩ (.string d.f0)).setCell ⟨g2, 1, none⟩ (.int .u32 sum)).setCell ⟨g2, 2, none⟩ (.slice Aw ws.length cw)).heap[g2]? = some (.cells #[.string d.f0, .int .u32 sum, .slice Aw ws.length cw] 43 (0, 0)) from by refine blk_put (cs := #[.string d.f0, .int .u32 sum, .slice none 0 0]) ?_ 2 _ rfl; refine blk_put (cs := #[.string d.f0, .int .u32 0, .slice none 0 0]) ?_ 1 _ rfl; refine blk_put (cs := #[.string ByteArray.empty, .int .u32 0, .slice none 0 0]) ?_ 0 _ rfl; exact BK2.out)
  have n1_ := Aside0.mk (show Below w.heap.size w (((w6.setCell ⟨g2, 0, none⟩ (.string d.f0)).setCell ⟨g2, 1, none⟩ (.int .u32 sum)).setCell ⟨g2, 2, none⟩ (.slice Aw ws.length cw)) from below_set (below_set (below_set HB.out SZ2.out) SZ2.out) SZ2.out)
  have n3_ := Aside0.mk (Kd.R_set (Kd.R_set (Kd.R_set HVW.out BK2.out (by decide) 0 (.string d.f0)) (blk_put BK2.out 0 _ rfl) (by decide) 1 (.int .u32 sum)) (blk_put (blk_put BK2.out 0 _ rfl) 1 _ rfl) (by decide) 2 (.slice Aw ws.length cw))
  clear BK2 HB BK1 HVW hHeld
  generalize (((w6.setCell ⟨g2, 0, none⟩ (.string d.f0)).setCell ⟨g2, 1, none⟩ (.int .u32 sum)).setCell ⟨g2, 2, none⟩ (.slice Aw ws.length cw)) = w7 at n1_ n2_ n3_ ⊢
  have HB := n1_
  have BK2 := n2_
  have HVW := n3_
  clear n1_ n2_ n3_
  refine hK.out _ _ ?_
  clear hK K
  refine done_ (by kernel_rfl) ?_
  try clear hHeld
  have hc0 : w7.cell? ⟨g2, 0, none⟩ = some (.string d.f0) := (blk_cell BK2.out 0).trans rfl
  have hc1 : w7.cell? ⟨g2, 1, none⟩ = some (.int .u32 sum) := (blk_cell BK2.out 1).trans rfl
  have hc2 : w7.cell? ⟨g2, 2, none⟩ = some (.slice Aw ws.length cw) := (blk_cell BK2.out 2).trans rfl
  go_wp2
  (try simp only [Exit.inBlock, Exit.then])
  refine bodyPost_ret (results_cell_row rfl _ _ g2 43 _ (0, 0) _ rfl BK2.out Try.underlying43 rfl (by kernel_rfl)) rfl ?_
  exact ⟨_, rfl, HVW.out, HB.out⟩
end Go.Proofs.Ytngolmiegfgmmaa.Wf
