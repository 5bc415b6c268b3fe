/- fixpoint.Check: whether a system of rules is valid. No condition. -/
import Derived.Test.YtgjcembdmohhkaaFsx0
import Derived.BigQuiet
namespace Go.Proofs.Ytgjcembdmohhkaa.Fs
open Go.RowKit Go.Proofs.YtgjcembdmohhkaaW.PrintWords Go.Proofs.YtgjcembdmohhkaaW.PrintLast Go.Proofs.YtgjcembdmohhkaaW.PrintMore
open Go.Proofs.Ytgjcembdmohhkaa
set_option linter.unusedVariables false
set_option linter.unusedSimpArgs false

theorem w64_id' {n : Int} (h : -9223372036854775808 ≤ n) (h' : n ≤ 9223372036854775807) : wrap64 n = n := by unfold wrap64; omega
/-- the index of the first that p holds of, from i on -/
def ixs {α : Type} (p : α → Bool) : List α → Int → Int
  | [], _ => -1
  | e :: es, i => if p e = true then i else ixs p es (i + 1)
theorem ixs_cons {α : Type} (p : α → Bool) (e : α) (es : List α) (i : Int) : ixs p (e :: es) i = if p e = true then i else ixs p es (i + 1) := rfl
theorem ixs_any {α : Type} (p : α → Bool) (es : List α) : ∀ i : Int, 0 ≤ i → decide (ixs p es i ≥ 0) = es.any p := by
  induction es with
  | nil => intro i _; rfl
  | cons e es ih =>
    intro i hi
    rw [ixs_cons, List.any_cons]
    cases h : p e with
    | false => rw [if_neg (by simp), ih (i + 1) (by omega)]; rfl
    | true => rw [if_pos rfl]; simp; omega
theorem take31 (l : List S31) (i : Nat) (h : i < l.length) : l.drop i = rd_T31 l (i : Int) :: l.drop (i + 1) := by
  rw [List.drop_eq_getElem_cons h]
  unfold rd_T31
  simp [h]
theorem takeI (l : List Int) (i : Nat) (h : i < l.length) : l.drop i = rd l (i : Int) :: l.drop (i + 1) := by
  rw [List.drop_eq_getElem_cons h]
  unfold rd
  simp [h]
theorem takeL (l : List (List S31)) (i : Nat) (h : i < l.length) : l.drop i = rd_L3 l (i : Int) :: l.drop (i + 1) := by
  rw [List.drop_eq_getElem_cons h]
  unfold rd_L3
  simp [h]
def bigR (r : S31) : Bool := decide (60 < (r.f1.length : Int))
def badI (n x : Int) : Bool := decide (x < 0) || decide (n ≤ x)
def bigL (l : List S31) : Bool := decide (20 < (l.length : Int)) || l.any bigR
/-- the first fault of a list of rules, or 0 -/
def chkR (n : Int) : List S31 → Int
  | [] => 0
  | r :: rs => if (decide (r.f0 < 0) || decide (1048575 < r.f0)) = true then 1 else if r.f1.any (badI n) = true then 3 else chkR n rs
def chkL (n : Int) : List (List S31) → Int
  | [] => 0
  | l :: ls => if chkR n l = 0 then chkL n ls else chkR n l
theorem chkR_cons (n : Int) (r : S31) (rs : List S31) : chkR n (r :: rs) = if (decide (r.f0 < 0) || decide (1048575 < r.f0)) = true then 1 else if r.f1.any (badI n) = true then 3 else chkR n rs := rfl
theorem chkL_cons (n : Int) (l : List S31) (ls : List (List S31)) : chkL n (l :: ls) = if chkR n l = 0 then chkL n ls else chkR n l := rfl
def fixpoint_Check.f (l0 : List (List (S31))) : Option (Int) := some (if 60 < (l0.length : Int) then 2 else if l0.any bigL = true then 2 else chkL l0.length l0)
set_option maxHeartbeats 2000000 in
theorem pred32 (r : S31) (A : Option Addr) (c : Nat) (w : World) : Calls Try.prog 32 #[.agg #[.int .i64 r.f0, .slice A r.f1.length c]] w fun e w' => e = .returned (.bool (bigR r)) ∧ Below w.heap.size w w' := by
  have hu31 := Try.underlying31
  have HB := Aside0.mk (Below.refl w.heap.size w)
  unfold bigR
  go_enter Try.func32, Try.ntmps32
  go_wp2
  go_ret
  exact ⟨rfl, by repeat (first | exact HB.out | apply below_alloc)⟩
set_option maxHeartbeats 2000000 in
theorem pred34 (x : Int) (g : Nat) (A : Option Addr) (n c : Nat) (w : World) (hbox : w.heap[g]? = some (.cells #[.slice A n c] 22 (0, 0))) : Calls Try.prog 34 #[.int .i64 x, .pointer (some ⟨g, 0, none⟩)] w fun e w' => e = .returned (.bool (badI n x)) ∧ Below w.heap.size w w' := by
  have HB := Aside0.mk (Below.refl w.heap.size w)
  have hx0 : w.cell? ⟨g, 0, none⟩ = some (.slice A n c) := (blk_cell hbox 0).trans rfl
  have BX := Aside0.mk hbox
  clear hbox
  unfold badI
  by_cases h : x < 0
  · have h1 : decide (x < 0) = true := decide_eq_true h
    rw [h1]
    go_enter Try.func34, Try.ntmps34
    go_wp2
    go_ret
    exact ⟨rfl, HB.out⟩
  · have h1 : decide (x < 0) = false := decide_eq_false h
    rw [h1]
    go_enter Try.func34, Try.ntmps34
    go_wp2
    go_ret
    exact ⟨by simp, HB.out⟩
set_option maxHeartbeats 4000000 in
set_option maxRecDepth 100000 in
theorem index39 (A0 : Option Addr) (c0 : Nat) (l0 : List (S31)) (w : World) (hr0 : Kd.C k31 w A0 l0.length l0) (hc0 : l0.length ≤ c0) (hl0 : l0.length < 1000000000) :
    Calls Try.prog 39 #[.slice A0 l0.length c0, .func (.func 32) #[] #[]] w fun e w' => e = .returned (.int .i64 (ixs (bigR) l0 0)) ∧ Below w.heap.size w w' := by
  have hu31 := Try.underlying31
  have HR0 := Aside0.mk hr0
  have HC0 := Aside0.mk hc0
  have HLEN := Aside0.mk hl0
  clear hr0 hc0 hl0
  have HB := Aside0.mk (Below.refl w.heap.size w)
  go_enter Try.func39, Try.ntmps39
  go_wp2
  go_loopg [8] l0.length (fun kq v8 w' => ∃ x : Int, v8 = .int .i64 x ∧ Aside0 (∃ i : Nat, x = i ∧ i + kq = l0.length ∧ ixs (bigR) (l0.drop i) (i : Int) = ixs (bigR) l0 0) ∧ Aside0 (Below w.heap.size w w'))
  case atStart => exact ⟨0, rfl, ⟨⟨0, rfl, by omega, rfl⟩⟩, HB⟩
  case round =>
    clear HB
    obtain ⟨x, rfl, HX, HB⟩ := hrel
    by_cases c : x < (l0.length : Int)
    · have c1 : decide (x < (l0.length : Int)) = true := decide_eq_true c
      obtain ⟨i, e1, e2, e3⟩ := HX.out
      clear HX
      obtain ⟨k1, rfl⟩ : ∃ k1, gk = k1 + 1 := ⟨gk - 1, by omega⟩
      have E1 := Aside0.mk (And.intro e1 e2)
      rw [take31 l0 i (by omega), ← e1, ixs_cons] at e3
      have E3 := Aside0.mk e3
      have p1 : 0 ≤ (x : Int) := by omega
      obtain ⟨ad, A1, c2, ea, hx0, hx1, hl1, hi1⟩ := at_T31 HR0.out x p1 c
      cases ea
      replace hx0 := (HB.out.cell (World.block_lt_of_cell? w _ hx0)).trans hx0
      replace hx1 := (HB.out.cell (World.block_lt_of_cell? w _ hx1)).trans hx1
      clear hl1 hi1
      replace p1 := eq_true p1
      have q1 := eq_true c
      clear e1 e2 e3 c
      cases hv : (bigR) (rd_T31 l0 x) with
      | false =>
        have e4 := E3.out
        rw [if_neg (by rw [hv]; simp)] at e4
        have E4 := Aside0.mk e4
        clear e4 E3
        go_wp2_with (go_at_call 32; refine (pred32 (rd_T31 l0 x) _ _ _).mono ?_; rintro e w7 ⟨he, hb⟩; rw [hv] at he; subst he; have n1_ := Aside0.mk (below_step HB.out hb); clear HB hb; have HB := n1_; clear n1_)
        go_roundg k1
        case measure => have := E1.out; omega
        case rel => exact ⟨wrap64 (x + 1), rfl, ⟨⟨i + 1, by have := E1.out; rw [w64_id' (by omega) (by have := HLEN.out; omega)]; omega, by have := E1.out; omega, by rw [← E4.out, E1.out.1]; rfl⟩⟩, HB⟩
      | true =>
        have e4 := E3.out
        rw [if_pos hv] at e4
        have E4 := Aside0.mk e4
        clear e4 E3
        go_wp2_with (go_at_call 32; refine (pred32 (rd_T31 l0 x) _ _ _).mono ?_; rintro e w7 ⟨he, hb⟩; rw [hv] at he; subst he; have n1_ := Aside0.mk (below_step HB.out hb); clear HB hb; have HB := n1_; clear n1_)
        go_ret
        exact ⟨by rw [← E4.out]; rfl, HB.out⟩
    · have c1 : decide (x < (l0.length : Int)) = false := decide_eq_false c
      obtain ⟨i, e1, e2, e3⟩ := HX.out
      clear HX
      obtain rfl : i = l0.length := by omega
      rw [List.drop_length] at e3
      have E3 := Aside0.mk (show (-1 : Int) = ixs (bigR) l0 0 from e3)
      clear e1 e2 c e3
      go_wp2
      go_ret
      exact ⟨by rw [← E3.out]; rfl, HB.out⟩
set_option maxHeartbeats 2000000 in
theorem contains31 (A0 : Option Addr) (c0 : Nat) (l0 : List (S31)) (w : World) (hr0 : Kd.C k31 w A0 l0.length l0) (hc0 : l0.length ≤ c0) (hl0 : l0.length < 1000000000) :
    Calls Try.prog 31 #[.slice A0 l0.length c0, .func (.func 32) #[] #[]] w fun e w' => e = .returned (.bool (l0.any (bigR))) ∧ Below w.heap.size w w' := by
  rw [← ixs_any (bigR) l0 0 (Int.le_refl _)]
  have hcon := index39 A0 c0 l0 w hr0 hc0 hl0
  generalize ixs (bigR) l0 0 = n at hcon ⊢
  have HCON := Aside0.mk hcon
  clear hcon hr0 hc0 hl0
  go_enter Try.func31, Try.ntmps31
  go_wp2_with (go_at_call 39; refine HCON.out.mono ?_; rintro e w7 ⟨rfl, hb⟩; have HB := Aside0.mk hb; clear hb)
  go_ret
  exact ⟨by simp, HB.out⟩
set_option maxHeartbeats 4000000 in
set_option maxRecDepth 100000 in
theorem index44 (A0 : Option Addr) (c0 : Nat) (l0 : List (Int)) (g : Nat) (AR : Option Addr) (n cr : Nat) (w : World) (hr0 : Kd.C (Kd.int .i64) w A0 l0.length l0) (hc0 : l0.length ≤ c0) (hl0 : l0.length < 1000000000) (hbox : w.heap[g]? = some (.cells #[.slice AR n cr] 22 (0, 0))) :
    Calls Try.prog 44 #[.slice A0 l0.length c0, .func (.func 34) #[] #[.pointer (some ⟨g, 0, none⟩)]] w fun e w' => e = .returned (.int .i64 (ixs (badI n) l0 0)) ∧ Below w.heap.size w w' := by
  have hu31 := Try.underlying31
  have HR0 := Aside0.mk hr0
  have HC0 := Aside0.mk hc0
  have HLEN := Aside0.mk hl0
  clear hr0 hc0 hl0
  have HB := Aside0.mk (Below.refl w.heap.size w)
  have BX := Aside0.mk hbox
  clear hbox
  go_enter Try.func44, Try.ntmps44
  go_wp2
  go_loopg [8] l0.length (fun kq v8 w' => ∃ x : Int, v8 = .int .i64 x ∧ Aside0 (∃ i : Nat, x = i ∧ i + kq = l0.length ∧ ixs (badI n) (l0.drop i) (i : Int) = ixs (badI n) l0 0) ∧ Aside0 (Below w.heap.size w w'))
  case atStart => exact ⟨0, rfl, ⟨⟨0, rfl, by omega, rfl⟩⟩, HB⟩
  case round =>
    clear HB
    obtain ⟨x, rfl, HX, HB⟩ := hrel
    by_cases c : x < (l0.length : Int)
    · have c1 : decide (x < (l0.length : Int)) = true := decide_eq_true c
      obtain ⟨i, e1, e2, e3⟩ := HX.out
      clear HX
      obtain ⟨k1, rfl⟩ : ∃ k1, gk = k1 + 1 := ⟨gk - 1, by omega⟩
      have E1 := Aside0.mk (And.intro e1 e2)
      rw [takeI l0 i (by omega), ← e1, ixs_cons] at e3
      have E3 := Aside0.mk e3
      have p1 : 0 ≤ (x : Int) := by omega
      obtain ⟨ad, ea, hx0⟩ := Kd.at_int HR0.out x p1 c
      cases ea
      replace hx0 := (HB.out.cell (World.block_lt_of_cell? w _ hx0)).trans hx0
      replace p1 := eq_true p1
      have q1 := eq_true c
      clear e1 e2 e3 c
      cases hv : (badI n) (rd l0 x) with
      | false =>
        have e4 := E3.out
        rw [if_neg (by rw [hv]; simp)] at e4
        have E4 := Aside0.mk e4
        clear e4 E3
        go_wp2_with (go_at_call 34; refine (pred34 _ g AR n cr _ (blk_below BX.out HB.out)).mono ?_; rintro e w7 ⟨he, hb⟩; rw [hv] at he; subst he; have n1_ := Aside0.mk (below_step HB.out hb); clear HB hb; have HB := n1_; clear n1_)
        go_roundg k1
        case measure => have := E1.out; omega
        case rel => exact ⟨wrap64 (x + 1), rfl, ⟨⟨i + 1, by have := E1.out; rw [w64_id' (by omega) (by have := HLEN.out; omega)]; omega, by have := E1.out; omega, by rw [← E4.out, E1.out.1]; rfl⟩⟩, HB⟩
      | true =>
        have e4 := E3.out
        rw [if_pos hv] at e4
        have E4 := Aside0.mk e4
        clear e4 E3
        go_wp2_with (go_at_call 34; refine (pred34 _ g AR n cr _ (blk_below BX.out HB.out)).mono ?_; rintro e w7 ⟨he, hb⟩; rw [hv] at he; subst he; have n1_ := Aside0.mk (below_step HB.out hb); clear HB hb; have HB := n1_; clear n1_)
        go_ret
        exact ⟨by rw [← E4.out]; rfl, HB.out⟩
    · have c1 : decide (x < (l0.length : Int)) = false := decide_eq_false c
      obtain ⟨i, e1, e2, e3⟩ := HX.out
      clear HX
      obtain rfl : i = l0.length := by omega
      rw [List.drop_length] at e3
      have E3 := Aside0.mk (show (-1 : Int) = ixs (badI n) l0 0 from e3)
      clear e1 e2 c e3
      go_wp2
      go_ret
      exact ⟨by rw [← E3.out]; rfl, HB.out⟩
set_option maxHeartbeats 2000000 in
theorem contains33 (A0 : Option Addr) (c0 : Nat) (l0 : List (Int)) (g : Nat) (AR : Option Addr) (n cr : Nat) (w : World) (hr0 : Kd.C (Kd.int .i64) w A0 l0.length l0) (hc0 : l0.length ≤ c0) (hl0 : l0.length < 1000000000) (hbox : w.heap[g]? = some (.cells #[.slice AR n cr] 22 (0, 0))) :
    Calls Try.prog 33 #[.slice A0 l0.length c0, .func (.func 34) #[] #[.pointer (some ⟨g, 0, none⟩)]] w fun e w' => e = .returned (.bool (l0.any (badI n))) ∧ Below w.heap.size w w' := by
  rw [← ixs_any (badI n) l0 0 (Int.le_refl _)]
  have hcon := index44 A0 c0 l0 g AR n cr w hr0 hc0 hl0 hbox
  generalize ixs (badI n) l0 0 = n at hcon ⊢
  have HCON := Aside0.mk hcon
  clear hcon hr0 hc0 hl0
  go_enter Try.func33, Try.ntmps33
  go_wp2_with (go_at_call 44; refine HCON.out.mono ?_; rintro e w7 ⟨rfl, hb⟩; have HB := Aside0.mk hb; clear hb)
  go_ret
  exact ⟨by simp, HB.out⟩
theorem any_small {l : List (List S31)} (h : l.any bigL = false) {x : Int} (h0 : 0 ≤ x) (h1 : x < (l.length : Int)) : (rd_L3 l x).length ≤ 20 ∧ ∀ y : Int, 0 ≤ y → y < ((rd_L3 l x).length : Int) → (rd_T31 (rd_L3 l x) y).f1.length ≤ 60 := by
  have hm : rd_L3 l x ∈ l := by
    unfold rd_L3
    rw [List.getD_eq_getElem?_getD, List.getElem?_eq_getElem (by omega)]
    exact List.getElem_mem _
  have h2 := (List.any_eq_false.1 h) _ hm
  unfold bigL at h2
  simp only [Bool.or_eq_true, decide_eq_true_eq, not_or, Int.not_lt, Bool.not_eq_true] at h2
  refine ⟨by omega, fun y y0 y1 => ?_⟩
  have hy : rd_T31 (rd_L3 l x) y ∈ rd_L3 l x := by
    unfold rd_T31
    rw [List.getD_eq_getElem?_getD, List.getElem?_eq_getElem (by omega)]
    exact List.getElem_mem _
  have h3 := (List.any_eq_false.1 h2.2) _ hy
  unfold bigR at h3
  simp only [decide_eq_true_eq, Int.not_lt] at h3
  omega
set_option maxHeartbeats 8000000 in
set_option maxRecDepth 100000 in
theorem check_calls (A0 : Option Addr) (c0 : Nat) (l0 : List (List (S31))) (w : World) (hr0 : Kd.C (Kd.slice 31 k31) w A0 l0.length l0) (hc0 : l0.length ≤ c0) (r : Int) (hres : (if 60 < (l0.length : Int) then 2 else if l0.any bigL = true then 2 else chkL l0.length l0) = r) :
    Calls Try.prog 18 #[.slice A0 l0.length c0] w fun e w' => e = .returned (.int .i64 r) ∧ Below w.heap.size w w' := by
  have hu31 := Try.underlying31
  have HR0 := Aside0.mk hr0
  have HC0 := Aside0.mk hc0
  clear hr0 hc0
  have HB := Aside0.mk (Below.refl w.heap.size w)
  by_cases h60 : 60 < (l0.length : Int)
  · have c60 : decide (60 < (l0.length : Int)) = true := decide_eq_true h60
    rw [if_pos h60] at hres
    clear h60
    subst hres
    go_enter Try.func18, Try.ntmps18
    go_wp2_with (((with_reducible refine gate_dst (N := 1) rfl ?_); refine box_event ?hg (N := 1) ?hd (cs := #[Value.slice A0 l0.length c0]) (t := 22) ?hr ?_; (case hd => rfl); (case hg => rfl); (case hr => first | (go_simp; done) | (go_simp; rfl)); intro g1 hg w1 hbox hb; have n1_ := Aside0.mk (below_step (by repeat (first | (with_reducible first | exact HB.out | apply below_alloc | apply pw_below_drewN | apply below_drew1) | exact HB.out)) hb); have BK1 := Aside0.mk (hbox); have GE1 := Aside0.mk ((by rw [hg]; exact (below_size (by repeat (first | (with_reducible first | exact HB.out | apply below_alloc | apply pw_below_drewN | apply below_drew1) | exact HB.out))) : w.heap.size ≤ g1));  clear HB; have HB := n1_; clear n1_; clear hb hbox hg; have hc1_0 : w1.cell? ⟨g1, 0, none⟩ = some (Value.slice A0 l0.length c0) := (blk_cell BK1.out 0).trans rfl; have hf1_0 := blk_frozen BK1.out 0))
    go_ret
    exact ⟨rfl, HB.out⟩
  · have c60 : decide (60 < (l0.length : Int)) = false := decide_eq_false h60
    rw [if_neg h60] at hres
    have HRES := Aside0.mk hres
    clear hres
    have HLEN := Aside0.mk (show l0.length ≤ 60 from by omega)
    clear h60
    go_enter Try.func18, Try.ntmps18
    go_wp2_with (((with_reducible refine gate_dst (N := 1) rfl ?_); refine box_event ?hg (N := 1) ?hd (cs := #[Value.slice A0 l0.length c0]) (t := 22) ?hr ?_; (case hd => rfl); (case hg => rfl); (case hr => first | (go_simp; done) | (go_simp; rfl)); intro g1 hg w1 hbox hb; have n1_ := Aside0.mk (below_step (by repeat (first | (with_reducible first | exact HB.out | apply below_alloc | apply pw_below_drewN | apply below_drew1) | exact HB.out)) hb); have BK1 := Aside0.mk (hbox); have GE1 := Aside0.mk ((by rw [hg]; exact (below_size (by repeat (first | (with_reducible first | exact HB.out | apply below_alloc | apply pw_below_drewN | apply below_drew1) | exact HB.out))) : w.heap.size ≤ g1));  clear HB; have HB := n1_; clear n1_; clear hb hbox hg; have hc1_0 : w1.cell? ⟨g1, 0, none⟩ = some (Value.slice A0 l0.length c0) := (blk_cell BK1.out 0).trans rfl; have hf1_0 := blk_frozen BK1.out 0))
    go_loopg [14] l0.length (fun kq v14 w' => ∃ x : Int, v14 = .int .i64 x ∧ Aside0 (∃ i : Nat, x = i ∧ i + kq = l0.length ∧ (l0.drop i).any bigL = l0.any bigL) ∧ Aside0 (w'.heap[g1]? = some (.cells #[.slice A0 l0.length c0] 22 (0, 0))) ∧ Aside0 (Below w.heap.size w w'))
    case atStart => exact ⟨0, rfl, ⟨⟨0, rfl, by omega, rfl⟩⟩, BK1, HB⟩
    case round =>
      clear HB BK1 hc1_0 hf1_0
      obtain ⟨x, rfl, HX, BK1, HB⟩ := hrel
      by_cases c : x < (l0.length : Int)
      · have c1 : decide (x < (l0.length : Int)) = true := decide_eq_true c
        obtain ⟨i, e1, e2, e3⟩ := HX.out
        clear HX
        obtain ⟨k1, rfl⟩ : ∃ k1, gk = k1 + 1 := ⟨gk - 1, by omega⟩
        have E1 := Aside0.mk (And.intro e1 e2)
        rw [takeL l0 i (by omega), ← e1, List.any_cons] at e3
        have E3 := Aside0.mk e3
        have p1 : 0 ≤ (x : Int) := by omega
        obtain ⟨ad, A2, c2, ea, hx0, hl1, hi1⟩ := at_L3 HR0.out x p1 c
        cases ea
        replace hx0 := (HB.out.cell (World.block_lt_of_cell? w _ hx0)).trans hx0
        have HRL := Aside0.mk hi1
        have HLL := Aside0.mk hl1
        replace p1 := eq_true p1
        have q1 := eq_true c
        clear e1 e2 e3 c hl1 hi1
        cases h20 : decide (20 < ((rd_L3 l0 x).length : Int)) with
        | true =>
          have HANY := Aside0.mk (show l0.any bigL = true from by rw [← E3.out]; unfold bigL; rw [h20]; rfl)
          go_wp2
          go_ret
          exact ⟨by have h_ := HRES.out; rw [if_pos HANY.out] at h_; rw [← h_]; rfl, HB.out⟩
        | false =>
          have H20 := Aside0.mk h20
          cases hb : (rd_L3 l0 x).any bigR with
          | true =>
            have HAN := Aside0.mk hb
            have HANY := Aside0.mk (show l0.any bigL = true from by rw [← E3.out]; show (bigL (rd_L3 l0 x) || _) = true; unfold bigL; rw [h20, hb]; rfl)
            clear hb
            go_wp2_with (go_at_call 31; refine (contains31 A2 c2 (rd_L3 l0 x) _ (Kd.C_below HRL.out HB.out) HLL.out (by have h_ := of_decide_eq_false H20.out; omega)).mono ?_; rintro e w7 ⟨he, hb⟩; rw [HAN.out] at he; subst he; have n1_ := Aside0.mk (below_step HB.out hb); have n2_ := Aside0.mk (blk_below BK1.out hb); clear HB BK1 hb; have HB := n1_; have BK1 := n2_; clear n1_ n2_)
            go_ret
            exact ⟨by have h_ := HRES.out; rw [if_pos HANY.out] at h_; rw [← h_]; rfl, HB.out⟩
          | false =>
            have HAN := Aside0.mk hb
            have E4 := Aside0.mk (show (l0.drop (i + 1)).any bigL = l0.any bigL from by rw [← E3.out]; show _ = (bigL (rd_L3 l0 x) || _); unfold bigL; rw [h20, hb]; rfl)
            clear hb
            go_wp2_with (go_at_call 31; refine (contains31 A2 c2 (rd_L3 l0 x) _ (Kd.C_below HRL.out HB.out) HLL.out (by have h_ := of_decide_eq_false H20.out; omega)).mono ?_; rintro e w7 ⟨he, hb⟩; rw [HAN.out] at he; subst he; have n1_ := Aside0.mk (below_step HB.out hb); have n2_ := Aside0.mk (blk_below BK1.out hb); clear HB BK1 hb; have HB := n1_; have BK1 := n2_; clear n1_ n2_)
            go_roundg k1
            case measure => have := E1.out; omega
            case rel => exact ⟨wrap64 (x + 1), rfl, ⟨⟨i + 1, by have := E1.out; rw [w64_id' (by omega) (by have := HLEN.out; omega)]; omega, by have := E1.out; omega, E4.out⟩⟩, BK1, HB⟩
      · have c1 : decide (x < (l0.length : Int)) = false := decide_eq_false c
        obtain ⟨i, e1, e2, e3⟩ := HX.out
        clear HX
        obtain rfl : i = l0.length := by omega
        rw [List.drop_length] at e3
        have HANY := Aside0.mk (show l0.any bigL = false from e3.symm)
        clear e1 e2 c e3
        have HRES2 := Aside0.mk (show chkL l0.length l0 = r from by have h_ := HRES.out; rwa [if_neg (by rw [HANY.out]; simp)] at h_)
        clear HRES
        have hc1_0 : wr.cell? ⟨g1, 0, none⟩ = some (.slice A0 l0.length c0) := (blk_cell BK1.out 0).trans rfl
        have hf1_0 := blk_frozen BK1.out 0
        go_wp2
        go_loopg [28] l0.length (fun kq v28 w' => ∃ x : Int, v28 = .int .i64 x ∧ Aside0 (∃ i : Nat, x = i ∧ i + kq = l0.length ∧ chkL l0.length (l0.drop i) = chkL l0.length l0) ∧ Aside0 (w'.heap[g1]? = some (.cells #[.slice A0 l0.length c0] 22 (0, 0))) ∧ Aside0 (Below w.heap.size w w'))
        case atStart => exact ⟨0, rfl, ⟨⟨0, rfl, by omega, rfl⟩⟩, BK1, HB⟩
        case round =>
          clear HB BK1 hc1_0 hf1_0 c1
          obtain ⟨x, rfl, HX, BK1, HB⟩ := hrel
          by_cases c : x < (l0.length : Int)
          · have c1 : decide (x < (l0.length : Int)) = true := decide_eq_true c
            obtain ⟨i, e1, e2, e3⟩ := HX.out
            clear HX
            obtain ⟨k1, rfl⟩ : ∃ k1, gk = k1 + 1 := ⟨gk - 1, by omega⟩
            have E1 := Aside0.mk (And.intro e1 e2)
            rw [takeL l0 i (by omega), ← e1, chkL_cons] at e3
            have E3 := Aside0.mk e3
            have p1 : 0 ≤ (x : Int) := by omega
            have HSM := Aside0.mk (any_small HANY.out p1 c)
            obtain ⟨ad, A2, c2, ea, hx0, hl1, hi1⟩ := at_L3 HR0.out x p1 c
            cases ea
            replace hx0 := (HB.out.cell (World.block_lt_of_cell? w _ hx0)).trans hx0
            have HRL := Aside0.mk hi1
            have HLL := Aside0.mk hl1
            replace p1 := eq_true p1
            have q1 := eq_true c
            clear e1 e2 e3 c hl1 hi1
            go_wp2
            go_loopg [34] (rd_L3 l0 x).length (fun kq v34 w' => ∃ y : Int, v34 = .int .i64 y ∧ Aside0 (∃ j : Nat, y = j ∧ j + kq = (rd_L3 l0 x).length ∧ chkR l0.length ((rd_L3 l0 x).drop j) = chkR l0.length (rd_L3 l0 x)) ∧ Aside0 (w'.heap[g1]? = some (.cells #[.slice (some ad) l0.length c0] 22 (0, 0))) ∧ Aside0 (Below w.heap.size w w'))
            case atStart => exact ⟨0, rfl, ⟨⟨0, rfl, by omega, rfl⟩⟩, BK1, HB⟩
            case round =>
              clear HB BK1 hx0
              obtain ⟨y, rfl, HY, BK1, HB⟩ := hrel
              by_cases d : y < ((rd_L3 l0 x).length : Int)
              · have d1 : decide (y < ((rd_L3 l0 x).length : Int)) = true := decide_eq_true d
                obtain ⟨j, f1, f2, f3⟩ := HY.out
                clear HY
                obtain ⟨k2, rfl⟩ : ∃ k2, gk = k2 + 1 := ⟨gk - 1, by omega⟩
                have F1 := Aside0.mk (And.intro f1 f2)
                rw [take31 (rd_L3 l0 x) j (by omega), ← f1, chkR_cons] at f3
                have F3 := Aside0.mk f3
                have p2 : 0 ≤ (y : Int) := by omega
                have HBIG := Aside0.mk (HSM.out.2 y p2 d)
                obtain ⟨ad2, A3, c3, ea, hy0, hy1, hl2, hi2⟩ := at_T31 HRL.out y p2 d
                cases ea
                replace hy0 := (HB.out.cell (World.block_lt_of_cell? w _ hy0)).trans hy0
                replace hy1 := (HB.out.cell (World.block_lt_of_cell? w _ hy1)).trans hy1
                have HRA := Aside0.mk hi2
                have HLA := Aside0.mk hl2
                replace p2 := eq_true p2
                have q2 := eq_true d
                clear f1 f2 f3 d hl2 hi2
                cases hm1 : decide (((rd_T31 (rd_L3 l0 x) y)).f0 < 0) with
                | true =>
                  have F4 := Aside0.mk (show (1 : Int) = chkR l0.length (rd_L3 l0 x) from by rw [← F3.out, hm1]; rfl)
                  go_wp2_with (((with_reducible refine gate_dst (N := 8) rfl ?_); refine box_event ?hg (N := 8) ?hd (cs := #[Value.int .i64 0, Value.slice none 0 0]) (t := 31) ?hr ?_; (case hd => rfl); (case hg => rfl); (case hr => first | (go_simp; done) | (go_simp; rfl)); intro g8 hg w8 hbox hb; have n1_ := Aside0.mk (below_step (by repeat (first | (with_reducible first | exact HB.out | apply below_alloc | apply pw_below_drewN | apply below_drew1) | exact HB.out)) hb); have BK8 := Aside0.mk (hbox); have GE8 := Aside0.mk ((by rw [hg]; exact (below_size (by repeat (first | (with_reducible first | exact HB.out | apply below_alloc | apply pw_below_drewN | apply below_drew1) | exact HB.out))) : w.heap.size ≤ g8)); have n4_ := Aside0.mk (blk_below BK1.out hb); have NE8 := Aside0.mk (show g1 ≠ g8 from by have := blk_lt BK1.out; omega); clear BK1; have BK1 := n4_; clear n4_; clear HB; have HB := n1_; clear n1_; clear hb hbox hg; have hc8_0 : w8.cell? ⟨g8, 0, none⟩ = some (Value.int .i64 0) := (blk_cell BK8.out 0).trans rfl; have hf8_0 := blk_frozen BK8.out 0; have hc8_1 : w8.cell? ⟨g8, 1, none⟩ = some (Value.slice none 0 0) := (blk_cell BK8.out 1).trans rfl; have hf8_1 := blk_frozen BK8.out 1))
                  go_ret
                  exact ⟨by have h_ := E3.out; rw [← F4.out, if_neg (by decide)] at h_; rw [← HRES2.out, ← h_]; rfl, (by repeat (first | exact HB.out | apply below_alloc | refine below_set ?_ GE8.out))⟩
                | false =>
                  cases hm2 : decide (1048575 < ((rd_T31 (rd_L3 l0 x) y)).f0) with
                  | true =>
                    have F4 := Aside0.mk (show (1 : Int) = chkR l0.length (rd_L3 l0 x) from by rw [← F3.out, hm1, hm2]; rfl)
                    go_wp2_with (((with_reducible refine gate_dst (N := 8) rfl ?_); refine box_event ?hg (N := 8) ?hd (cs := #[Value.int .i64 0, Value.slice none 0 0]) (t := 31) ?hr ?_; (case hd => rfl); (case hg => rfl); (case hr => first | (go_simp; done) | (go_simp; rfl)); intro g8 hg w8 hbox hb; have n1_ := Aside0.mk (below_step (by repeat (first | (with_reducible first | exact HB.out | apply below_alloc | apply pw_below_drewN | apply below_drew1) | exact HB.out)) hb); have BK8 := Aside0.mk (hbox); have GE8 := Aside0.mk ((by rw [hg]; exact (below_size (by repeat (first | (with_reducible first | exact HB.out | apply below_alloc | apply pw_below_drewN | apply below_drew1) | exact HB.out))) : w.heap.size ≤ g8)); have n4_ := Aside0.mk (blk_below BK1.out hb); have NE8 := Aside0.mk (show g1 ≠ g8 from by have := blk_lt BK1.out; omega); clear BK1; have BK1 := n4_; clear n4_; clear HB; have HB := n1_; clear n1_; clear hb hbox hg; have hc8_0 : w8.cell? ⟨g8, 0, none⟩ = some (Value.int .i64 0) := (blk_cell BK8.out 0).trans rfl; have hf8_0 := blk_frozen BK8.out 0; have hc8_1 : w8.cell? ⟨g8, 1, none⟩ = some (Value.slice none 0 0) := (blk_cell BK8.out 1).trans rfl; have hf8_1 := blk_frozen BK8.out 1))
                    go_ret
                    exact ⟨by have h_ := E3.out; rw [← F4.out, if_neg (by decide)] at h_; rw [← HRES2.out, ← h_]; rfl, (by repeat (first | exact HB.out | apply below_alloc | refine below_set ?_ GE8.out))⟩
                  | false =>
                    cases hb : ((rd_T31 (rd_L3 l0 x) y)).f1.any (badI l0.length) with
                    | true =>
                      have HAN := Aside0.mk hb
                      have F4 := Aside0.mk (show (3 : Int) = chkR l0.length (rd_L3 l0 x) from by rw [← F3.out, hm1, hm2, hb]; rfl)
                      clear hb
                      go_wp2_with (first | ((with_reducible refine gate_dst (N := 8) rfl ?_); refine box_event ?hg (N := 8) ?hd (cs := #[Value.int .i64 0, Value.slice none 0 0]) (t := 31) ?hr ?_; (case hd => rfl); (case hg => rfl); (case hr => first | (go_simp; done) | (go_simp; rfl)); intro g8 hg w8 hbox hb; have n1_ := Aside0.mk (below_step (by repeat (first | (with_reducible first | exact HB.out | apply below_alloc | apply pw_below_drewN | apply below_drew1) | exact HB.out)) hb); have BK8 := Aside0.mk (hbox); have GE8 := Aside0.mk ((by rw [hg]; exact (below_size (by repeat (first | (with_reducible first | exact HB.out | apply below_alloc | apply pw_below_drewN | apply below_drew1) | exact HB.out))) : w.heap.size ≤ g8)); have n4_ := Aside0.mk (blk_below BK1.out hb); have NE8 := Aside0.mk (show g1 ≠ g8 from by have := blk_lt BK1.out; omega); clear BK1; have BK1 := n4_; clear n4_; clear HB; have HB := n1_; clear n1_; clear hb hbox hg; have hc8_0 : w8.cell? ⟨g8, 0, none⟩ = some (Value.int .i64 0) := (blk_cell BK8.out 0).trans rfl; have hf8_0 := blk_frozen BK8.out 0; have hc8_1 : w8.cell? ⟨g8, 1, none⟩ = some (Value.slice none 0 0) := (blk_cell BK8.out 1).trans rfl; have hf8_1 := blk_frozen BK8.out 1) | (go_at_call 33; refine (contains33 A3 c3 ((rd_T31 (rd_L3 l0 x) y)).f1 g1 (some ad) l0.length c0 _ (Kd.C_below HRA.out (show Below w.heap.size w _ from (by repeat (first | exact HB.out | apply below_alloc | refine below_set ?_ GE8.out)))) HLA.out (by have h_ := HBIG.out; omega) ((Below.heap_setCell _ _ _ g1 NE8.out).trans ((Below.heap_setCell _ _ _ g1 NE8.out).trans BK1.out))).mono ?_; rintro e w9 ⟨he, hb⟩; rw [HAN.out] at he; subst he; have n1_ := Aside0.mk (below_step (show Below w.heap.size w _ from (by repeat (first | exact HB.out | apply below_alloc | refine below_set ?_ GE8.out))) hb); have n2_ := Aside0.mk (blk_below (g := g1) (o := .cells #[.slice (some ad) l0.length c0] 22 (0, 0)) ((Below.heap_setCell _ _ _ g1 NE8.out).trans ((Below.heap_setCell _ _ _ g1 NE8.out).trans BK1.out)) hb); clear HB BK1 hb; have HB := n1_; have BK1 := n2_; clear n1_ n2_))
                      go_ret
                      exact ⟨by have h_ := E3.out; rw [← F4.out, if_neg (by decide)] at h_; rw [← HRES2.out, ← h_]; rfl, HB.out⟩
                    | false =>
                      have HAN := Aside0.mk hb
                      have F4 := Aside0.mk (show chkR l0.length ((rd_L3 l0 x).drop (j + 1)) = chkR l0.length (rd_L3 l0 x) from by rw [← F3.out, hm1, hm2, hb]; rfl)
                      clear hb
                      go_wp2_with (first | ((with_reducible refine gate_dst (N := 8) rfl ?_); refine box_event ?hg (N := 8) ?hd (cs := #[Value.int .i64 0, Value.slice none 0 0]) (t := 31) ?hr ?_; (case hd => rfl); (case hg => rfl); (case hr => first | (go_simp; done) | (go_simp; rfl)); intro g8 hg w8 hbox hb; have n1_ := Aside0.mk (below_step (by repeat (first | (with_reducible first | exact HB.out | apply below_alloc | apply pw_below_drewN | apply below_drew1) | exact HB.out)) hb); have BK8 := Aside0.mk (hbox); have GE8 := Aside0.mk ((by rw [hg]; exact (below_size (by repeat (first | (with_reducible first | exact HB.out | apply below_alloc | apply pw_below_drewN | apply below_drew1) | exact HB.out))) : w.heap.size ≤ g8)); have n4_ := Aside0.mk (blk_below BK1.out hb); have NE8 := Aside0.mk (show g1 ≠ g8 from by have := blk_lt BK1.out; omega); clear BK1; have BK1 := n4_; clear n4_; clear HB; have HB := n1_; clear n1_; clear hb hbox hg; have hc8_0 : w8.cell? ⟨g8, 0, none⟩ = some (Value.int .i64 0) := (blk_cell BK8.out 0).trans rfl; have hf8_0 := blk_frozen BK8.out 0; have hc8_1 : w8.cell? ⟨g8, 1, none⟩ = some (Value.slice none 0 0) := (blk_cell BK8.out 1).trans rfl; have hf8_1 := blk_frozen BK8.out 1) | (go_at_call 33; refine (contains33 A3 c3 ((rd_T31 (rd_L3 l0 x) y)).f1 g1 (some ad) l0.length c0 _ (Kd.C_below HRA.out (show Below w.heap.size w _ from (by repeat (first | exact HB.out | apply below_alloc | refine below_set ?_ GE8.out)))) HLA.out (by have h_ := HBIG.out; omega) ((Below.heap_setCell _ _ _ g1 NE8.out).trans ((Below.heap_setCell _ _ _ g1 NE8.out).trans BK1.out))).mono ?_; rintro e w9 ⟨he, hb⟩; rw [HAN.out] at he; subst he; have n1_ := Aside0.mk (below_step (show Below w.heap.size w _ from (by repeat (first | exact HB.out | apply below_alloc | refine below_set ?_ GE8.out))) hb); have n2_ := Aside0.mk (blk_below (g := g1) (o := .cells #[.slice (some ad) l0.length c0] 22 (0, 0)) ((Below.heap_setCell _ _ _ g1 NE8.out).trans ((Below.heap_setCell _ _ _ g1 NE8.out).trans BK1.out)) hb); clear HB BK1 hb; have HB := n1_; have BK1 := n2_; clear n1_ n2_))
                      go_roundg k2
                      case measure => have := F1.out; omega
                      case rel => exact ⟨wrap64 (y + 1), rfl, ⟨⟨j + 1, by have := F1.out; rw [w64_id' (by omega) (by have := HSM.out.1; omega)]; omega, by have := F1.out; omega, F4.out⟩⟩, BK1, HB⟩
              · have d1 : decide (y < ((rd_L3 l0 x).length : Int)) = false := decide_eq_false d
                obtain ⟨j, f1, f2, f3⟩ := HY.out
                clear HY
                obtain rfl : j = (rd_L3 l0 x).length := by omega
                rw [List.drop_length] at f3
                have F3 := Aside0.mk (show (0 : Int) = chkR l0.length (rd_L3 l0 x) from f3)
                clear f1 f2 d f3
                have E4 := Aside0.mk (show chkL l0.length (l0.drop (i + 1)) = chkL l0.length l0 from by have := E3.out; rw [← F3.out] at this; rw [← this]; rfl)
                go_wp2
                go_roundg k1
                case measure => have := E1.out; omega
                case rel => exact ⟨wrap64 (x + 1), rfl, ⟨⟨i + 1, by have := E1.out; rw [w64_id' (by omega) (by have := HLEN.out; omega)]; omega, by have := E1.out; omega, E4.out⟩⟩, BK1, HB⟩
          · have c1 : decide (x < (l0.length : Int)) = false := decide_eq_false c
            obtain ⟨i, e1, e2, e3⟩ := HX.out
            clear HX
            obtain rfl : i = l0.length := by omega
            rw [List.drop_length] at e3
            have E3 := Aside0.mk (show (0 : Int) = chkL l0.length l0 from e3)
            clear e1 e2 c e3
            go_wp2
            go_ret
            exact ⟨by rw [← HRES2.out, ← E3.out]; rfl, HB.out⟩
theorem fixpoint_Check.calls (A0 : Option Addr) (c0 : Nat) (l0 : List (List (S31))) (r : Int) (w : World) (hr0 : Kd.C (Kd.slice 31 k31) w A0 l0.length l0) (hc0 : l0.length ≤ c0) (h : fixpoint_Check.f l0 = some r) :
    Calls Try.prog 18 #[.slice A0 l0.length c0] w fun e w' => e = .returned (.int .i64 r) ∧ Below w.heap.size w w' := by
  exact check_calls A0 c0 l0 w hr0 hc0 r (Option.some.inj h)
end Go.Proofs.Ytgjcembdmohhkaa.Fs
