/- wordindex.Build of one document. Condition: a document with a name, within the limits. -/
import Derived.Test.YtngolmiegfgmmaaWihWd
import Derived.Test.YtngolmiegfgmmaaWix1
import Derived.Test.YtngolmiegfgmmaaSo
import Derived.Test.YtngolmiegfgmmaaCb
import Derived.BigQuiet
namespace Go.Proofs.Ytngolmiegfgmmaa.Wi
open Go.RowKit Go.Sort Go.Proofs.YtngolmiegfgmmaaW.PrintWords Go.Proofs.YtngolmiegfgmmaaW.PrintLast Go.Proofs.YtngolmiegfgmmaaW.PrintMore
open Go.Proofs.Ytngolmiegfgmmaa
set_option linter.unusedVariables false
set_option linter.unusedSimpArgs false
attribute [local go_sem] Oper.semAt_some
theorem blk_put {w : World} {g : Nat} {t : TypeId} {cs cs2 : Array Value} (h : w.heap[g]? = some (.cells cs t (0, 0))) (i : Nat) (u : Value) (hc : cs.setIfInBounds i u = cs2) : (w.setCell ⟨g, i, none⟩ u).heap[g]? = some (.cells cs2 t (0, 0)) := hc ▸ blk_set h i u
def ixs {α : Type} (p : α → Bool) : List α → Int → Int
  | [], _ => -1
  | e :: es, i => if p e = true then i else ixs p es (i + 1)
theorem ixs_cons {α : Type} (p : α → Bool) (e : α) (es : List α) (i : Int) : ixs p (e :: es) i = if p e = true then i else ixs p es (i + 1) := rfl
theorem ixs_any {α : Type} (p : α → Bool) (es : List α) : ∀ i : Int, 0 ≤ i → decide (ixs p es i ≥ 0) = es.any p := by
  induction es with
  | nil => intro i _; rfl
  | cons e es ih =>
    intro i hi
    rw [ixs_cons, List.any_cons]
    cases h : p e with
    | false => rw [if_neg (by simp), ih (i + 1) (by omega)]; rfl
    | true => rw [if_pos rfl]; simp; omega
theorem take35 (l : List S35) (i : Nat) (h : i < l.length) : l.drop i = rd_T35 l (i : Int) :: l.drop (i + 1) := by
  rw [List.drop_eq_getElem_cons h]
  unfold rd_T35
  simp [h]
def longF (d : S35) : Bool := decide (60 < (d.f0.size : Int)) || decide (2000 < (d.f2.size : Int))
def emptyF (d : S35) : Bool := d.f0.toList.isEmpty
set_option maxHeartbeats 4000000 in
theorem pred31 (d : S35) (w : World) : Calls Try.prog 31 #[.agg #[.string d.f0, .int .i64 d.f1, .string d.f2]] w fun e w' => e = .returned (.bool (longF d)) ∧ Below w.heap.size w w' := by
  have hu35 := Try.underlying35
  unfold longF
  cases c : decide (60 < (d.f0.size : Int)) with
  | true =>
    go_enter Try.func31, Try.ntmps31
    go_wp2_with (((with_reducible refine gate_dst (N := 1) rfl ?_); refine box_event ?hg (N := 1) ?hd (cs := #[.string d.f0, .int .i64 d.f1, .string d.f2]) (t := 35) ?hr ?_; (case hd => rfl); (case hg => rfl); (case hr => first | (go_simp; done) | (go_simp; rfl)); intro gd hg w3 hbox hb; have BKgd := Aside0.mk hbox; have HB := Aside0.mk hb; have hd0 : w3.cell? ⟨gd, 0, none⟩ = some (.string d.f0) := (blk_cell BKgd.out 0).trans rfl; have hd2 : w3.cell? ⟨gd, 2, none⟩ = some (.string d.f2) := (blk_cell BKgd.out 2).trans rfl; clear hbox hb hg))
    go_ret
    exact ⟨rfl, HB.out⟩
  | false =>
    go_enter Try.func31, Try.ntmps31
    go_wp2_with (((with_reducible refine gate_dst (N := 1) rfl ?_); refine box_event ?hg (N := 1) ?hd (cs := #[.string d.f0, .int .i64 d.f1, .string d.f2]) (t := 35) ?hr ?_; (case hd => rfl); (case hg => rfl); (case hr => first | (go_simp; done) | (go_simp; rfl)); intro gd hg w3 hbox hb; have BKgd := Aside0.mk hbox; have HB := Aside0.mk hb; have hd0 : w3.cell? ⟨gd, 0, none⟩ = some (.string d.f0) := (blk_cell BKgd.out 0).trans rfl; have hd2 : w3.cell? ⟨gd, 2, none⟩ = some (.string d.f2) := (blk_cell BKgd.out 2).trans rfl; clear hbox hb hg))
    go_ret
    exact ⟨by simp, HB.out⟩
set_option maxHeartbeats 4000000 in
theorem pred33 (d : S35) (w : World) : Calls Try.prog 33 #[.agg #[.string d.f0, .int .i64 d.f1, .string d.f2]] w fun e w' => e = .returned (.bool (emptyF d)) ∧ Below w.heap.size w w' := by
  have hu35 := Try.underlying35
  unfold emptyF
  go_enter Try.func33, Try.ntmps33
  go_wp2_with (((with_reducible refine gate_dst (N := 1) rfl ?_); refine box_event ?hg (N := 1) ?hd (cs := #[.string d.f0, .int .i64 d.f1, .string d.f2]) (t := 35) ?hr ?_; (case hd => rfl); (case hg => rfl); (case hr => first | (go_simp; done) | (go_simp; rfl)); intro gd hg w3 hbox hb; have BKgd := Aside0.mk hbox; have HB := Aside0.mk hb; have hd0 : w3.cell? ⟨gd, 0, none⟩ = some (.string d.f0) := (blk_cell BKgd.out 0).trans rfl; have hd2 : w3.cell? ⟨gd, 2, none⟩ = some (.string d.f2) := (blk_cell BKgd.out 2).trans rfl; clear hbox hb hg))
  go_ret
  exact ⟨rfl, HB.out⟩
set_option maxHeartbeats 4000000 in
set_option maxRecDepth 100000 in
theorem index55a (A0 : Option Addr) (c0 : Nat) (l0 : List (S35)) (w : World) (hr0 : Kd.C k35 w A0 l0.length l0) (hc0 : l0.length ≤ c0) (hl0 : l0.length < 1000000000) :
    Calls Try.prog 55 #[.slice A0 l0.length c0, .func (.func 31) #[] #[]] w fun e w' => e = .returned (.int .i64 (ixs (longF) l0 0)) ∧ Below w.heap.size w w' := by
  have hu35 := Try.underlying35
  have HR0 := Aside0.mk hr0
  have HC0 := Aside0.mk hc0
  have HLEN := Aside0.mk hl0
  clear hr0 hc0 hl0
  have HB := Aside0.mk (Below.refl w.heap.size w)
  go_enter Try.func55, Try.ntmps55
  go_wp2
  go_loopg [8] l0.length (fun kq v8 w' => ∃ x : Int, v8 = .int .i64 x ∧ Aside0 (∃ i : Nat, x = i ∧ i + kq = l0.length ∧ ixs (longF) (l0.drop i) (i : Int) = ixs (longF) l0 0) ∧ Aside0 (Below w.heap.size w w'))
  case atStart => exact ⟨0, rfl, ⟨⟨0, rfl, by omega, rfl⟩⟩, HB⟩
  case round =>
    clear HB
    obtain ⟨x, rfl, HX, HB⟩ := hrel
    by_cases c : x < (l0.length : Int)
    · have c1 : decide (x < (l0.length : Int)) = true := decide_eq_true c
      obtain ⟨i, e1, e2, e3⟩ := HX.out
      clear HX
      obtain ⟨k1, rfl⟩ : ∃ k1, gk = k1 + 1 := ⟨gk - 1, by omega⟩
      have E1 := Aside0.mk (And.intro e1 e2)
      rw [take35 l0 i (by omega), ← e1, ixs_cons] at e3
      have E3 := Aside0.mk e3
      have p1 : 0 ≤ (x : Int) := by omega
      obtain ⟨ad, ea, hx0, hx1, hx2⟩ := at_T35 HR0.out x p1 c
      cases ea
      replace hx0 := (HB.out.cell (World.block_lt_of_cell? w _ hx0)).trans hx0
      replace hx1 := (HB.out.cell (World.block_lt_of_cell? w _ hx1)).trans hx1
      replace hx2 := (HB.out.cell (World.block_lt_of_cell? w _ hx2)).trans hx2
      replace p1 := eq_true p1
      have q1 := eq_true c
      clear e1 e2 e3 c
      cases hv : (longF) (rd_T35 l0 x) with
      | false =>
        have e4 := E3.out
        rw [if_neg (by rw [hv]; simp)] at e4
        have E4 := Aside0.mk e4
        clear e4 E3
        go_wp2_with (go_at_call 31; refine (pred31 (rd_T35 l0 x) _).mono ?_; rintro e w7 ⟨he, hb⟩; rw [hv] at he; subst he; have n1_ := Aside0.mk (below_step HB.out hb); clear HB hb; have HB := n1_; clear n1_)
        go_roundg k1
        case measure => have := E1.out; omega
        case rel => exact ⟨wrap64 (x + 1), rfl, ⟨⟨i + 1, by have := E1.out; rw [w64_id' (by omega) (by have := HLEN.out; omega)]; omega, by have := E1.out; omega, by rw [← E4.out, E1.out.1]; rfl⟩⟩, HB⟩
      | true =>
        have e4 := E3.out
        rw [if_pos hv] at e4
        have E4 := Aside0.mk e4
        clear e4 E3
        go_wp2_with (go_at_call 31; refine (pred31 (rd_T35 l0 x) _).mono ?_; rintro e w7 ⟨he, hb⟩; rw [hv] at he; subst he; have n1_ := Aside0.mk (below_step HB.out hb); clear HB hb; have HB := n1_; clear n1_)
        go_ret
        exact ⟨by rw [← E4.out]; rfl, HB.out⟩
    · have c1 : decide (x < (l0.length : Int)) = false := decide_eq_false c
      obtain ⟨i, e1, e2, e3⟩ := HX.out
      clear HX
      obtain rfl : i = l0.length := by omega
      rw [List.drop_length] at e3
      have E3 := Aside0.mk (show (-1 : Int) = ixs (longF) l0 0 from e3)
      clear e1 e2 c e3
      go_wp2
      go_ret
      exact ⟨by rw [← E3.out]; rfl, HB.out⟩
set_option maxHeartbeats 2000000 in
theorem contains32a (A0 : Option Addr) (c0 : Nat) (l0 : List (S35)) (w : World) (hr0 : Kd.C k35 w A0 l0.length l0) (hc0 : l0.length ≤ c0) (hl0 : l0.length < 1000000000) :
    Calls Try.prog 32 #[.slice A0 l0.length c0, .func (.func 31) #[] #[]] w fun e w' => e = .returned (.bool (l0.any (longF))) ∧ Below w.heap.size w w' := by
  rw [← ixs_any (longF) l0 0 (Int.le_refl _)]
  have hcon := index55a A0 c0 l0 w hr0 hc0 hl0
  generalize ixs (longF) l0 0 = n at hcon ⊢
  have HCON := Aside0.mk hcon
  clear hcon hr0 hc0 hl0
  go_enter Try.func32, Try.ntmps32
  go_wp2_with (go_at_call 55; refine HCON.out.mono ?_; rintro e w7 ⟨rfl, hb⟩; have HB := Aside0.mk hb; clear hb)
  go_ret
  exact ⟨by simp, HB.out⟩
set_option maxHeartbeats 4000000 in
set_option maxRecDepth 100000 in
theorem index55b (A0 : Option Addr) (c0 : Nat) (l0 : List (S35)) (w : World) (hr0 : Kd.C k35 w A0 l0.length l0) (hc0 : l0.length ≤ c0) (hl0 : l0.length < 1000000000) :
    Calls Try.prog 55 #[.slice A0 l0.length c0, .func (.func 33) #[] #[]] w fun e w' => e = .returned (.int .i64 (ixs (emptyF) l0 0)) ∧ Below w.heap.size w w' := by
  have hu35 := Try.underlying35
  have HR0 := Aside0.mk hr0
  have HC0 := Aside0.mk hc0
  have HLEN := Aside0.mk hl0
  clear hr0 hc0 hl0
  have HB := Aside0.mk (Below.refl w.heap.size w)
  go_enter Try.func55, Try.ntmps55
  go_wp2
  go_loopg [8] l0.length (fun kq v8 w' => ∃ x : Int, v8 = .int .i64 x ∧ Aside0 (∃ i : Nat, x = i ∧ i + kq = l0.length ∧ ixs (emptyF) (l0.drop i) (i : Int) = ixs (emptyF) l0 0) ∧ Aside0 (Below w.heap.size w w'))
  case atStart => exact ⟨0, rfl, ⟨⟨0, rfl, by omega, rfl⟩⟩, HB⟩
  case round =>
    clear HB
    obtain ⟨x, rfl, HX, HB⟩ := hrel
    by_cases c : x < (l0.length : Int)
    · have c1 : decide (x < (l0.length : Int)) = true := decide_eq_true c
      obtain ⟨i, e1, e2, e3⟩ := HX.out
      clear HX
      obtain ⟨k1, rfl⟩ : ∃ k1, gk = k1 + 1 := ⟨gk - 1, by omega⟩
      have E1 := Aside0.mk (And.intro e1 e2)
      rw [take35 l0 i (by omega), ← e1, ixs_cons] at e3
      have E3 := Aside0.mk e3
      have p1 : 0 ≤ (x : Int) := by omega
      obtain ⟨ad, ea, hx0, hx1, hx2⟩ := at_T35 HR0.out x p1 c
      cases ea
      replace hx0 := (HB.out.cell (World.block_lt_of_cell? w _ hx0)).trans hx0
      replace hx1 := (HB.out.cell (World.block_lt_of_cell? w _ hx1)).trans hx1
      replace hx2 := (HB.out.cell (World.block_lt_of_cell? w _ hx2)).trans hx2
      replace p1 := eq_true p1
      have q1 := eq_true c
      clear e1 e2 e3 c
      cases hv : (emptyF) (rd_T35 l0 x) with
      | false =>
        have e4 := E3.out
        rw [if_neg (by rw [hv]; simp)] at e4
        have E4 := Aside0.mk e4
        clear e4 E3
        go_wp2_with (go_at_call 33; refine (pred33 (rd_T35 l0 x) _).mono ?_; rintro e w7 ⟨he, hb⟩; rw [hv] at he; subst he; have n1_ := Aside0.mk (below_step HB.out hb); clear HB hb; have HB := n1_; clear n1_)
        go_roundg k1
        case measure => have := E1.out; omega
        case rel => exact ⟨wrap64 (x + 1), rfl, ⟨⟨i + 1, by have := E1.out; rw [w64_id' (by omega) (by have := HLEN.out; omega)]; omega, by have := E1.out; omega, by rw [← E4.out, E1.out.1]; rfl⟩⟩, HB⟩
      | true =>
        have e4 := E3.out
        rw [if_pos hv] at e4
        have E4 := Aside0.mk e4
        clear e4 E3
        go_wp2_with (go_at_call 33; refine (pred33 (rd_T35 l0 x) _).mono ?_; rintro e w7 ⟨he, hb⟩; rw [hv] at he; subst he; have n1_ := Aside0.mk (below_step HB.out hb); clear HB hb; have HB := n1_; clear n1_)
        go_ret
        exact ⟨by rw [← E4.out]; rfl, HB.out⟩
    · have c1 : decide (x < (l0.length : Int)) = false := decide_eq_false c
      obtain ⟨i, e1, e2, e3⟩ := HX.out
      clear HX
      obtain rfl : i = l0.length := by omega
      rw [List.drop_length] at e3
      have E3 := Aside0.mk (show (-1 : Int) = ixs (emptyF) l0 0 from e3)
      clear e1 e2 c e3
      go_wp2
      go_ret
      exact ⟨by rw [← E3.out]; rfl, HB.out⟩
set_option maxHeartbeats 2000000 in
theorem contains32b (A0 : Option Addr) (c0 : Nat) (l0 : List (S35)) (w : World) (hr0 : Kd.C k35 w A0 l0.length l0) (hc0 : l0.length ≤ c0) (hl0 : l0.length < 1000000000) :
    Calls Try.prog 32 #[.slice A0 l0.length c0, .func (.func 33) #[] #[]] w fun e w' => e = .returned (.bool (l0.any (emptyF))) ∧ Below w.heap.size w w' := by
  rw [← ixs_any (emptyF) l0 0 (Int.le_refl _)]
  have hcon := index55b A0 c0 l0 w hr0 hc0 hl0
  generalize ixs (emptyF) l0 0 = n at hcon ⊢
  have HCON := Aside0.mk hcon
  clear hcon hr0 hc0 hl0
  go_enter Try.func32, Try.ntmps32
  go_wp2_with (go_at_call 55; refine HCON.out.mono ?_; rintro e w7 ⟨rfl, hb⟩; have HB := Aside0.mk hb; clear hb)
  go_ret
  exact ⟨by simp, HB.out⟩
set_option maxHeartbeats 4000000 in
theorem index55n (A : Option Addr) (c g : Nat) (w : World) : Calls Try.prog 55 #[.slice A 0 c, .func (.func 34) #[] #[.pointer (some ⟨g, 0, none⟩)]] w fun e w' => e = .returned (.int .i64 (-1)) ∧ w' = w := by
  go_enter Try.func55, Try.ntmps55
  go_wp2
  go_loopg [8] 1 (fun kq v8 w' => v8 = .int .i64 0 ∧ w' = w)
  case atStart => exact ⟨rfl, rfl⟩
  case round =>
    obtain ⟨rfl, rfl⟩ := hrel
    go_wp2
    go_ret
    exact ⟨rfl, rfl⟩
set_option maxHeartbeats 4000000 in
theorem contains32n (A : Option Addr) (c g : Nat) (w : World) : Calls Try.prog 32 #[.slice A 0 c, .func (.func 34) #[] #[.pointer (some ⟨g, 0, none⟩)]] w fun e w' => e = .returned (.bool false) ∧ w' = w := by
  go_enter Try.func32, Try.ntmps32
  go_wp2_with (go_at_call 55; refine (index55n A c g _).mono ?_; rintro e_ w7 ⟨rfl, rfl⟩)
  go_ret
  exact ⟨rfl, rfl⟩
theorem c_any {A : Option Addr} {c : Nat} {d : S35} {w : World} {V : Value} {p : S35 → Bool} {b : Bool} (hb : p d = b) (h : Calls Try.prog 32 #[.slice A ([d] : List S35).length c, V] w fun e w' => e = .returned (.bool (([d] : List S35).any p)) ∧ Below w.heap.size w w') :
    Calls Try.prog 32 #[.slice A 1 c, V] w fun e w' => e = .returned (.bool b) ∧ Below w.heap.size w w' := by
  have e1 : ([d] : List S35).any p = b := by simp [hb]
  rw [e1] at h
  exact h
set_option maxHeartbeats 8000000 in
set_option maxRecDepth 100000 in
theorem validate20 (A0 : Option Addr) (c0 : Nat) (d : S35) (w : World) (hr0 : Kd.C k35 w A0 1 [d]) (hc0 : 1 ≤ c0) (h1 : longF d = false) (h2 : emptyF d = false) :
    Calls Try.prog 20 #[.slice A0 1 c0] w fun e w' => e = .returned (.int .i64 0) ∧ Below w.heap.size w w' := by
  have hu35 := Try.underlying35
  have HR0 := Aside0.mk hr0
  have HC0 := Aside0.mk hc0
  have H1 := Aside0.mk h1
  have H2 := Aside0.mk h2
  have HB := Aside0.mk (Below.refl w.heap.size w)
  obtain ⟨ad, ea, hx0, hx1, hx2⟩ := at_T35 hr0 0 (by omega) (by omega)
  cases ea
  have hz : ad.add ((0 : Int).toNat * 3) = ad := by
    show ad.add 0 = ad
    unfold Addr.add
    cases ad
    split <;> simp_all
  rw [hz] at hx0 hx1 hx2
  clear hz
  have HX0 := Aside0.mk (show (w.cell? ad = some (.string d.f0) ∧ w.cell? ⟨ad.block, ad.off + 1, none⟩ = some (.int .i64 d.f1)) ∧ w.cell? ⟨ad.block, ad.off + 2, none⟩ = some (.string d.f2) from ⟨⟨hx0, hx1⟩, hx2⟩)
  obtain ⟨i9, hi9, _, _, _⟩ := info_parts (show (Try.prog.info? 35).map (fun i => (i.zero, i.size, i.bytes)) = some (some (.agg #[.string ByteArray.empty, .int .i64 0, .string ByteArray.empty]), 3, 40) from by kernel_rfl)
  have hcut := cut_to (P := Try.prog) 27 35 .i64 Try.underlying27 hi9 (some ad) 1 c0 0 (by omega) (by omega) hc0
  rw [show (0 : Int).toNat = 0 from rfl] at hcut
  clear hr0 hc0 h1 h2 hx0 hx1 hx2 hi9
  go_enter Try.func20, Try.ntmps20
  go_upto_region 7 with (first | (go_at_call 32; refine (c_any H1.out (contains32a _ _ [d] _ (Kd.C_below HR0.out HB.out) HC0.out (show 1 < 1000000000 by decide))).mono ?_; rintro e_ w7 ⟨rfl, hb⟩; have n1_ := Aside0.mk (below_step HB.out hb); clear HB hb; have HB := n1_; clear n1_) | (go_at_call 32; refine (c_any H2.out (contains32b _ _ [d] _ (Kd.C_below HR0.out HB.out) HC0.out (show 1 < 1000000000 by decide))).mono ?_; rintro e_ w7 ⟨rfl, hb⟩; have n1_ := Aside0.mk (below_step HB.out hb); clear HB hb; have HB := n1_; clear n1_))
  go_loopg [18] 1 (fun kq v18 w' => ∃ b : Bool, v18 = .int .i64 (if b then 0 else 1) ∧ Aside0 (b = true → kq = 1) ∧ Aside0 (Below w.heap.size w w'))
  case atStart => exact ⟨true, rfl, ⟨fun _ => rfl⟩, HB⟩
  case round =>
    clear HB
    obtain ⟨b, rfl, HK, HB⟩ := hrel
    cases b with
    | true =>
      have hx := HX0.out
      obtain ⟨⟨hx0, hx1⟩, hx2⟩ := hx
      replace hx0 := (HB.out.cell (World.block_lt_of_cell? w _ hx0)).trans hx0
      replace hx1 := (HB.out.cell (World.block_lt_of_cell? w _ hx1)).trans hx1
      replace hx2 := (HB.out.cell (World.block_lt_of_cell? w _ hx2)).trans hx2
      have HGK := Aside0.mk (HK.out rfl)
      obtain ⟨k1, rfl⟩ : ∃ k1, gk = k1 + 1 := ⟨gk - 1, by have h_ := HGK.out; omega⟩
      go_wp2_with (first | ((with_reducible refine gate_dst (N := 5) rfl ?_); refine box_event ?hg (N := 5) ?hd (cs := #[.string ByteArray.empty, .int .i64 0, .string ByteArray.empty]) (t := 35) ?hr ?_; (case hd => rfl); (case hg => rfl); (case hr => first | (go_simp; done) | (go_simp; rfl)); intro g5 hg w5 hbox hb; have BK5 := Aside0.mk hbox; have GE5 := Aside0.mk (show w.heap.size ≤ g5 from by rw [hg]; exact HB.out.size); have n1_ := Aside0.mk (below_step HB.out hb); clear HB; have HB := n1_; clear n1_; replace hx0 := (hb.cell (World.block_lt_of_cell? _ _ hx0)).trans hx0; replace hx1 := (hb.cell (World.block_lt_of_cell? _ _ hx1)).trans hx1; replace hx2 := (hb.cell (World.block_lt_of_cell? _ _ hx2)).trans hx2; clear hbox hb hg; have hc5_0 : w5.cell? ⟨g5, 0, none⟩ = some (.string ByteArray.empty) := (blk_cell BK5.out 0).trans rfl; have hf5_0 := blk_frozen BK5.out 0; have hc5_1 : w5.cell? ⟨g5, 1, none⟩ = some (.int .i64 0) := (blk_cell BK5.out 1).trans rfl; have hf5_1 := blk_frozen BK5.out 1; have hc5_2 : w5.cell? ⟨g5, 2, none⟩ = some (.string ByteArray.empty) := (blk_cell BK5.out 2).trans rfl; have hf5_2 := blk_frozen BK5.out 2) | (go_at_call 32; refine (contains32n _ _ _ _).mono ?_; rintro e_ w7 ⟨rfl, rfl⟩))
      go_roundg k1
      case measure => omega
      case rel => exact ⟨false, rfl, ⟨fun h => by cases h⟩, ⟨below_set (below_set (below_set HB.out GE5.out) GE5.out) GE5.out⟩⟩
    | false =>
      go_wp2
      go_ret
      exact ⟨rfl, HB.out⟩
set_option maxHeartbeats 8000000 in
set_option maxRecDepth 100000 in
theorem entry21 (d : S35) (k : Nat) (sum : Int) (ws : List ByteArray) (w : World) (hsum : journal_Checksum.f k d.f2 = some sum) (hws : wordindex_Words.f d.f2 = some ws) :
    Calls Try.prog 21 #[.agg #[.string d.f0, .int .i64 d.f1, .string d.f2]] w fun e w' => ∃ v, e = .returned (.agg #[.string d.f0, .int .u32 sum, v]) ∧ Kd.R Kd.string 9 w' w.heap.size (fun _ => True) v ws ∧ Below w.heap.size w w' := by
  have hu35 := Try.underlying35
  have hu43 := Try.underlying43
  have HSUM := Aside0.mk hsum
  have HWS := Aside0.mk hws
  clear hsum hws
  go_enter Try.func21, Try.ntmps21
  go_upto_region 1 with (first | ((with_reducible refine gate_dst (N := 1) rfl ?_); refine box_event ?hg (N := 1) ?hd (cs := #[.string d.f0, .int .i64 d.f1, .string d.f2]) (t := 35) ?hr ?_; (case hd => rfl); (case hg => rfl); (case hr => first | (go_simp; done) | (go_simp; rfl)); intro g1 hg w2 hbox hb; have BKg1 := Aside0.mk hbox; have HB := Aside0.mk hb; have BK1 := BKg1; clear BKg1; clear hbox hb hg) | ((with_reducible refine gate_dst (N := 2) rfl ?_); refine box_event ?hg (N := 2) ?hd (cs := #[.string ByteArray.empty, .int .u32 0, .slice none 0 0]) (t := 43) ?hr ?_; (case hd => rfl); (case hg => rfl); (case hr => first | (go_simp; done) | (go_simp; rfl)); intro g2 hg w3 hbox hb; have BKg2 := Aside0.mk hbox; have SZ2 := Aside0.mk (show w.heap.size ≤ g2 from by rw [hg]; exact HB.out.size); have n0_ := Aside0.mk (below_step HB.out hb); have n1_ := Aside0.mk (blk_below BK1.out hb); clear HB BK1; have HB := n0_; have BK1 := n1_; clear n0_ n1_; have BK2 := BKg2; clear BKg2; clear hbox hb hg))
  refine start_ (n := 10) (S := fun w' => w'.cell? ⟨g1, 0, none⟩ = some (.string d.f0) ∧ w'.cell? ⟨g1, 2, none⟩ = some (.string d.f2)) (ds := [9]) #[false, false, false, false, false, false, false, false, false, false] (by kernel_rfl) rfl rfl ⟨(blk_cell (blk_drew BK1.out) 0).trans rfl, (blk_cell (blk_drew BK1.out) 2).trans rfl⟩ (fun hHeld => ?_)
  have hb := below_drew1 (Below.refl w3.heap.size w3)
  have n0_ := Aside0.mk (below_step HB.out hb)
  have n1_ := Aside0.mk (blk_below BK1.out hb)
  have n2_ := Aside0.mk (blk_below BK2.out hb)
  clear HB BK1 BK2
  have HB := n0_
  have BK1 := n1_
  have BK2 := n2_
  clear n0_ n1_ n2_
  clear hb
  generalize w3.drew = w4 at HB BK1 BK2 hHeld ⊢
  refine pure_ (i := 0) (N := some 3) (v := ?_) (a' := ?_) #[true, false, false, false, false, false, false, false, false, false] rfl rfl (by kernel_rfl) (fun _ _ _ h => h) (Or.inl ⟨by rfl, ?_⟩) ?_ ?_
  rotate_left
  · intro w'
    go_simp
    with_reducible rfl
  rotate_left
  · simp only [Act.put, List.setIfInBounds_toArray, List.set_cons_zero, List.set_cons_succ, i64_w, i32_w]
    rfl
  refine take_ (i := 1) (N := some 4) (v := ?_) (a' := ?_) #[true, true, false, false, false, false, false, false, false, false] rfl rfl (by kernel_rfl) (fun _ _ _ h => h) (Or.inl ⟨by rfl, ?_⟩) hHeld ?_ ?_
  rotate_left
  · rintro w' ⟨s0, s1⟩
    go_simp
    with_reducible rfl
  rotate_left
  · simp only [Act.put, List.setIfInBounds_toArray, List.set_cons_zero, List.set_cons_succ, i64_w, i32_w]
    rfl
  refine pure_ (i := 2) (N := some 5) (v := ?_) (a' := ?_) #[true, true, true, false, false, false, false, false, false, false] rfl rfl (by kernel_rfl) (fun _ _ _ h => h) (Or.inl ⟨by rfl, ?_⟩) ?_ ?_
  rotate_left
  · intro w'
    go_simp
    with_reducible rfl
  rotate_left
  · simp only [Act.put, List.setIfInBounds_toArray, List.set_cons_zero, List.set_cons_succ, i64_w, i32_w]
    rfl
  refine take_ (i := 3) (N := some 6) (v := ?_) (a' := ?_) #[true, true, true, true, false, false, false, false, false, false] rfl rfl (by kernel_rfl) (fun _ _ _ h => h) (Or.inl ⟨by rfl, ?_⟩) hHeld ?_ ?_
  rotate_left
  · rintro w' ⟨s0, s1⟩
    go_simp
    with_reducible rfl
  rotate_left
  · simp only [Act.put, List.setIfInBounds_toArray, List.set_cons_zero, List.set_cons_succ, i64_w, i32_w]
    rfl
  refine pure_ (i := 5) (N := some 8) (v := ?_) (a' := ?_) #[true, true, true, true, false, true, false, false, false, false] rfl rfl (by kernel_rfl) (fun _ _ _ h => h) (Or.inl ⟨by rfl, ?_⟩) ?_ ?_
  rotate_left
  · intro w'
    go_simp
    with_reducible rfl
  rotate_left
  · simp only [Act.put, List.setIfInBounds_toArray, List.set_cons_zero, List.set_cons_succ, i64_w, i32_w]
    rfl
  refine take_ (i := 6) (N := some 9) (v := ?_) (a' := ?_) #[true, true, true, true, false, true, true, false, false, false] rfl rfl (by kernel_rfl) (fun _ _ _ h => h) (Or.inl ⟨by rfl, ?_⟩) hHeld ?_ ?_
  rotate_left
  · rintro w' ⟨s0, s1⟩
    go_simp
    with_reducible rfl
  rotate_left
  · simp only [Act.put, List.setIfInBounds_toArray, List.set_cons_zero, List.set_cons_succ, i64_w, i32_w]
    rfl
  refine one_ (i := 4) (N := some 7) #[true, true, true, true, true, true, true, false, false, false] rfl rfl (by kernel_rfl) (by decide) (fun K hK => ?_)
  refine goes_ Try.func35 (by kernel_rfl) rfl #[.string d.f2] (by rfl) rfl rfl (by (try simp only [List.map_toArray, List.map_cons, List.map_nil]); first | done | rfl) ?_
  refine (journal_Checksum.calls k d.f2 sum _ HSUM.out).mono ?_
  rintro e_ w5 ⟨rfl, hd_⟩
  refine ⟨_, rfl, ?_⟩
  have hb := hd_.below
  clear hd_
  have n0_ := Aside0.mk (below_step HB.out hb)
  have n1_ := Aside0.mk (blk_below BK1.out hb)
  have n2_ := Aside0.mk (blk_below BK2.out hb)
  clear HB BK1 BK2
  have HB := n0_
  have BK1 := n1_
  have BK2 := n2_
  clear n0_ n1_ n2_
  clear hb
  refine hK.out _ _ ⟨(blk_cell (BK1.out) 0).trans rfl, (blk_cell (BK1.out) 2).trans rfl⟩ (fun hHeld => ?_)
  clear hK K
  refine norm_ (a' := ?_) ?_ ?_
  rotate_left
  · show Act.put _ (some 7) _ = _
    simp only [Act.put, List.setIfInBounds_toArray, List.set_cons_zero, List.set_cons_succ, i64_w, i32_w]
    rfl
  refine one_ (i := 7) (N := some 10) #[true, true, true, true, true, true, true, true, false, false] rfl rfl (by kernel_rfl) (by decide) (fun K hK => ?_)
  refine goes_ Try.func6 (by kernel_rfl) rfl #[.string d.f2] (by rfl) rfl rfl (by (try simp only [List.map_toArray, List.map_cons, List.map_nil]); first | done | rfl) ?_
  refine (wordindex_Words.calls d.f2 ws _ HWS.out).mono ?_
  rintro e_ w6 ⟨vw, rfl, hvw, hb⟩
  refine ⟨_, rfl, ?_⟩
  obtain ⟨Aw, cw, rfl⟩ := Kd.R_slice hvw
  have HVW := Aside0.mk (Kd.R_lower hvw HB.out.size)
  have n0_ := Aside0.mk (below_step HB.out hb)
  have n1_ := Aside0.mk (blk_below BK1.out hb)
  have n2_ := Aside0.mk (blk_below BK2.out hb)
  clear HB BK1 BK2
  have HB := n0_
  have BK1 := n1_
  have BK2 := n2_
  clear n0_ n1_ n2_
  clear hb hvw
  refine hK.out _ _ ⟨(blk_cell (BK1.out) 0).trans rfl, (blk_cell (BK1.out) 2).trans rfl⟩ (fun hHeld => ?_)
  clear hK K
  refine norm_ (a' := ?_) ?_ ?_
  rotate_left
  · show Act.put _ (some 10) _ = _
    simp only [Act.put, List.setIfInBounds_toArray, List.set_cons_zero, List.set_cons_succ, i64_w, i32_w]
    rfl
  refine pure_ (i := 8) (N := some 11) (v := ?_) (a' := ?_) #[true, true, true, true, true, true, true, true, true, false] rfl rfl (by kernel_rfl) (fun _ _ _ h => h) (Or.inl ⟨by rfl, ?_⟩) ?_ ?_
  rotate_left
  · intro w'
    go_simp
    with_reducible rfl
  rotate_left
  · simp only [Act.put, List.setIfInBounds_toArray, List.set_cons_zero, List.set_cons_succ, i64_w, i32_w]
    rfl
  refine last_ (i := 9) (N := none) #[true, true, true, true, true, true, true, true, true, true] rfl rfl (by kernel_rfl) (by decide) (fun K hK => ?_)
  refine skip_ (w1 := (((w6.setCell ⟨g2, 0, none⟩ (.string d.f0)).setCell ⟨g2, 1, none⟩ (.int .u32 sum)).setCell ⟨g2, 2, none⟩ (.slice Aw ws.length cw))) (by rfl) rfl ?_ ?_
  · have c0 : w6.cell? ⟨g2, 0, none⟩ = some (.string ByteArray.empty) := (blk_cell BK2.out 0).trans rfl
    have c1 : w6.cell? ⟨g2, 1, none⟩ = some (.int .u32 0) := (blk_cell BK2.out 1).trans rfl
    have c2 : w6.cell? ⟨g2, 2, none⟩ = some (.slice none 0 0) := (blk_cell BK2.out 2).trans rfl
    have d0 := blk_frozen BK2.out 0
    have d1 := blk_frozen BK2.out 1
    have d2 := blk_frozen BK2.out 2
    go_simp
    try rfl
  have n2_ := Aside0.mk (show (((w6.setCell ⟨g2, 0, none⟩ (.string d.f0)).setCell ⟨g2, 1, none⟩ (.int .u32 sum)).setCell ⟨g2, 2, none⟩ (.slice Aw ws.length cw)).heap[g2]? = some (.cells #[.string d.f0, .int .u32 sum, .slice Aw ws.length cw] 43 (0, 0)) from by refine blk_put (cs := #[.string d.f0, .int .u32 sum, .slice none 0 0]) ?_ 2 _ rfl; refine blk_put (cs := #[.string d.f0, .int .u32 0, .slice none 0 0]) ?_ 1 _ rfl; refine blk_put (cs := #[.string ByteArray.empty, .int .u32 0, .slice none 0 0]) ?_ 0 _ rfl; exact BK2.out)
  have n1_ := Aside0.mk (show Below w.heap.size w (((w6.setCell ⟨g2, 0, none⟩ (.string d.f0)).setCell ⟨g2, 1, none⟩ (.int .u32 sum)).setCell ⟨g2, 2, none⟩ (.slice Aw ws.length cw)) from below_set (below_set (below_set HB.out SZ2.out) SZ2.out) SZ2.out)
  have n3_ := Aside0.mk (Kd.R_set (Kd.R_set (Kd.R_set HVW.out BK2.out (by decide) 0 (.string d.f0)) (blk_put BK2.out 0 _ rfl) (by decide) 1 (.int .u32 sum)) (blk_put (blk_put BK2.out 0 _ rfl) 1 _ rfl) (by decide) 2 (.slice Aw ws.length cw))
  clear BK2 HB BK1 HVW hHeld
  generalize (((w6.setCell ⟨g2, 0, none⟩ (.string d.f0)).setCell ⟨g2, 1, none⟩ (.int .u32 sum)).setCell ⟨g2, 2, none⟩ (.slice Aw ws.length cw)) = w7 at n1_ n2_ n3_ ⊢
  have HB := n1_
  have BK2 := n2_
  have HVW := n3_
  clear n1_ n2_ n3_
  refine hK.out _ _ ?_
  clear hK K
  refine done_ (by kernel_rfl) ?_
  try clear hHeld
  have hc0 : w7.cell? ⟨g2, 0, none⟩ = some (.string d.f0) := (blk_cell BK2.out 0).trans rfl
  have hc1 : w7.cell? ⟨g2, 1, none⟩ = some (.int .u32 sum) := (blk_cell BK2.out 1).trans rfl
  have hc2 : w7.cell? ⟨g2, 2, none⟩ = some (.slice Aw ws.length cw) := (blk_cell BK2.out 2).trans rfl
  go_wp2
  (try simp only [Exit.inBlock, Exit.then])
  refine bodyPost_ret (results_cell_row rfl _ _ g2 43 _ (0, 0) _ rfl BK2.out Try.underlying43 rfl (by kernel_rfl)) rfl ?_
  exact ⟨_, rfl, HVW.out, HB.out⟩
/-- a row of one element, its cells told -/
def kc (cs : List Value) (h : cs.length = 3) (h1 : ∀ u ∈ cs, u.oneCell' = true) : Kd Unit where
  sz := 3
  E := []
  K := fun _ _ c => c = cs
  M := fun _ _ _ _ c => c = cs
  K_len := fun e => by rw [e]; exact h
  K_one := fun e => by rw [e]; exact h1
  K_below := fun _ e => e
  K_of_M := fun e => e
  M_mono := fun _ e => e
  M_bound := fun e => e
  M_move := fun _ e => e
  M_lower := fun _ e => e
theorem isAgg43 (w : World) : (isAgg (Ytngolmiegfgmmaa.sortR_ren.t 24)).run Try.prog w = .ok true w := by
  show (isAgg 43).run Try.prog w = _
  simp [isAgg, run_underlying Try.underlying43]
theorem sizeOf43 (w : World) : (Go.sizeOf (Ytngolmiegfgmmaa.sortR_ren.t 24)).run Try.prog w = .ok 3 w := by
  show (Go.sizeOf 43).run Try.prog w = _
  simp [Go.sizeOf]
  rfl
set_option maxHeartbeats 1000000 in
theorem cmp23 (n : ByteArray) (a : Int) (v : Value) (hv : v.oneCell' = true) (W : World) : Calls Try.prog 23 #[.agg #[.string n, .int .u32 a, v], .agg #[.string n, .int .u32 a, v]] W fun e w' => e = .returned (.int .i64 (Lib.compareBytes n.data.toList n.data.toList)) ∧ ∃ q os', w' = grow (W.drewN q) os' := by
  have hu43 := Try.underlying43
  have hcon := fun W' => Any.strings_Compare Ytngolmiegfgmmaa.strCmp n n W'
  change ∀ W', Calls Try.prog 37 _ _ _ at hcon
  generalize Lib.compareBytes n.data.toList n.data.toList = r at hcon ⊢
  cases v with
  | agg _ => cases hv
  | _ =>
    go_enter Try.func23, Try.ntmps23
    go_wp2_with (go_at_call 37; refine (hcon _).mono ?_; rintro e w' ⟨rfl, rfl⟩)
    go_ret
    exact ⟨rfl, 0, _, by rw [alloc_eq_grow, alloc_eq_grow, grow_grow]; rfl⟩
theorem sort1 {W : World} {base : Nat} {v : Value} {x : S43} (h : Kd.R k43 43 W base (fun _ => True) v [x]) :
    Calls Try.prog 22 #[v, .func (.func 23) #[] #[]] W fun e w' => e = .returned (.tuple #[]) ∧ Kd.R k43 43 w' base (fun _ => True) v [x] ∧ W.grownBy w' v.ownBlock := by
  obtain ⟨g, cap, rfl, hb, hlt, _⟩ := Kd.R_form h (by simp)
  obtain ⟨hok, inner, hown, hreps⟩ := h
  have hM := hreps.2 0 x rfl
  have hlen : inner.length = 3 := hreps.1
  rw [Nat.zero_mul, List.drop_zero, List.take_of_length_le (by rw [hlen]; exact Nat.le_refl _)] at hM
  obtain ⟨vw, hin, hrow⟩ := k43_openM hM
  have hone : ∀ u ∈ inner, u.oneCell' = true := k43.K_one (k43.K_of_M hM)
  have hRc : Kd.R (kc inner hlen hone) 43 W base (fun _ => True) (.slice (some ⟨g, 0, none⟩) 1 cap) [()] := by
    refine ⟨fun _ _ => trivial, inner, hown, by rw [hlen]; rfl, fun j p hj => ?_⟩
    cases j with
    | zero => show (inner.drop (0 * 3)).take 3 = inner; rw [Nat.zero_mul, List.drop_zero, List.take_of_length_le (by omega)]
    | succ j => simp at hj
  have hH := So.holds (enc := fun _ : Unit => inner) (k := 3) (fun _ _ _ _ _ e => e) (fun _ => hlen) rfl hRc
  have eg : ∀ args w, (callFunc 23 args).run Try.prog w = .ok (.enter 23 args) w := enters_of Try.func23 (by kernel_rfl) rfl
  have hvw : vw.oneCell' = true := hone vw (by rw [hin]; simp)
  have := AnyQ.slices_SortFunc Ytngolmiegfgmmaa.sortR 3 isAgg43 sizeOf43 (fun _ : Unit => inner) (fun _ => hlen) (fun _ v hv => hone v hv) (Cb.key (fun _ : Unit => x.f0)) (Cb.swo (fun _ : Unit => x.f0)) 23 #[] g 0 cap #[()] W eg (fun _ _ _ _ _ _ => by rw [hin]; exact cmp23 x.f0 x.f1 vw hvw _) hH hlt (by simp)
  change Calls Try.prog 22 _ _ _ at this
  refine this.mono ?_
  rintro e w' ⟨rfl, d', n, os, hp, hs, rfl⟩
  have hl' : d'.toList.length = 1 := by rw [Array.length_toList]; exact hp.1
  have hR := So.sorted (enc := fun _ : Unit => inner) (k := 3) (m := n) (fun _ _ _ _ => rfl) (fun _ => hlen) rfl (by decide) hRc hl' os
  rw [Array.toArray_toList] at hR
  obtain ⟨⟨_, inner2, hown2, hreps2⟩, hg⟩ := hR
  have hl2 : inner2.length = 3 := by have := hreps2.1; rw [hl'] at this; exact this
  have hd : d'.toList[0]? = some () := by rw [List.getElem?_eq_getElem (by omega)]
  have e2 : inner2 = inner := by
    have h3 := hreps2.2 0 () hd
    change (inner2.drop (0 * 3)).take 3 = inner at h3
    rwa [Nat.zero_mul, List.drop_zero, List.take_of_length_le (by omega)] at h3
  subst e2
  rw [hl'] at hown2
  refine ⟨rfl, ⟨fun _ _ => trivial, inner2, hown2, hreps.1, fun j p hj => ?_⟩, hg⟩
  cases j with
  | zero =>
    have e3 : x = p := by simpa using hj
    subst e3
    rw [Nat.zero_mul, List.drop_zero, List.take_of_length_le (by rw [hl2]; exact Nat.le_refl _)]
    refine k43.M_mono ?_ (k43.M_move ?_ (k43.M_bound hM))
    · rintro k ⟨hk, _⟩; exact ⟨trivial, hk.2⟩
    · rintro k ⟨hk, _, hk3, _⟩
      exact hg.block k hk3 hk.2
  | succ j => simp at hj
theorem one_S {α : Type} {d : Kd α} {e base : Nat} {ok : Nat → Prop} {w : World} {v : Value} {x : α} (h : Kd.R d e w base ok v [x]) : Kd.S d e w base ok v [x] := by
  obtain ⟨h0, inner, ho, hr⟩ := h
  refine ⟨fun _ => 0, h0, inner, ho, hr.1, fun j p hj => ?_⟩
  cases j with
  | zero =>
    have e3 : (x, 0) = p := by simpa using hj
    subst e3
    exact d.M_mono (fun k hk => ⟨hk, rfl⟩) (hr.2 0 x rfl)
  | succ j => simp at hj
theorem info43 : (Try.prog.info? 43).map (fun i => (i.zero, i.size, i.bytes)) = some (some (.agg #[.string ByteArray.empty, .int .u32 0, .slice none 0 0]), 3, 48) := by kernel_rfl
set_option maxHeartbeats 8000000 in
set_option maxRecDepth 100000 in
theorem build9 (A0 : Option Addr) (c0 : Nat) (d : S35) (k : Nat) (sum : Int) (ws : List ByteArray) (w : World) (hr0 : Kd.C k35 w A0 1 [d]) (hc0 : 1 ≤ c0) (h1 : longF d = false) (h2 : emptyF d = false) (hsum : journal_Checksum.f k d.f2 = some sum) (hws : wordindex_Words.f d.f2 = some ws) :
    Calls Try.prog 9 #[.slice A0 1 c0] w fun e w' => ∃ v, e = .returned (.tuple #[v, .int .i64 0]) ∧ Kd.S k43 43 w' w.heap.size (fun _ => True) v [(⟨d.f0, sum, ws⟩ : S43)] ∧ Below w.heap.size w w' := by
  have hu35 := Try.underlying35
  have hu29 := Try.underlying29
  have HR0 := Aside0.mk hr0
  have HC0 := Aside0.mk hc0
  have H1 := Aside0.mk h1
  have H2 := Aside0.mk h2
  have HSUM := Aside0.mk hsum
  have HWS := Aside0.mk hws
  have HB := Aside0.mk (Below.refl w.heap.size w)
  obtain ⟨ad, ea, hx0, hx1, hx2⟩ := at_T35 hr0 0 (by omega) (by omega)
  cases ea
  have hz : ad.add ((0 : Int).toNat * 3) = ad := by
    show ad.add 0 = ad
    unfold Addr.add
    cases ad
    split <;> simp_all
  rw [hz] at hx0 hx1 hx2
  clear hz
  have HX0 := Aside0.mk (show (w.cell? ad = some (.string d.f0) ∧ w.cell? ⟨ad.block, ad.off + 1, none⟩ = some (.int .i64 d.f1)) ∧ w.cell? ⟨ad.block, ad.off + 2, none⟩ = some (.string d.f2) from ⟨⟨hx0, hx1⟩, hx2⟩)
  clear hr0 hc0 h1 h2 hx0 hx1 hx2 hsum hws
  go_enter Try.func9, Try.ntmps9
  go_upto_region 6 with ((go_at_call 20; refine (validate20 _ _ d _ (Kd.C_below HR0.out HB.out) HC0.out H1.out H2.out).mono ?_; rintro e_ w3 ⟨rfl, hb⟩; have n1_ := Aside0.mk (below_step HB.out hb); clear HB hb; have HB := n1_; clear n1_))
  go_loopg [5, 15] 1 (fun kq v5 v15 w' => ∃ b : Bool, v15 = .int .i64 (if b then 0 else 1) ∧ Aside0 ((b = true → kq = 1 ∧ v5 = .slice none 0 0) ∧ (b = false → Kd.R k43 43 w' w.heap.size (fun _ => True) v5 [(⟨d.f0, sum, ws⟩ : S43)])) ∧ Aside0 (Below w.heap.size w w'))
  case atStart => exact ⟨true, rfl, ⟨fun _ => ⟨rfl, rfl⟩, fun h => by cases h⟩, HB⟩
  case round =>
    clear HB
    obtain ⟨b, rfl, HK, HB⟩ := hrel
    cases b with
    | true =>
      obtain ⟨hgk, rfl⟩ := HK.out.1 rfl
      have HGK := Aside0.mk hgk
      clear hgk
      obtain ⟨⟨hx0, hx1⟩, hx2⟩ := HX0.out
      replace hx0 := (HB.out.cell (World.block_lt_of_cell? w _ hx0)).trans hx0
      replace hx1 := (HB.out.cell (World.block_lt_of_cell? w _ hx1)).trans hx1
      replace hx2 := (HB.out.cell (World.block_lt_of_cell? w _ hx2)).trans hx2
      obtain ⟨k1, rfl⟩ : ∃ k1, gk = k1 + 1 := ⟨gk - 1, by have h_ := HGK.out; omega⟩
      go_wp2_with (first | ((with_reducible refine gate_dst (N := 7) rfl ?_); refine box_event ?hg (N := 7) ?hd (cs := #[.string ByteArray.empty, .int .i64 0, .string ByteArray.empty]) (t := 35) ?hr ?_; (case hd => rfl); (case hg => rfl); (case hr => first | (go_simp; done) | (go_simp; rfl)); intro g7 hg w7 hbox hb; have BK7 := Aside0.mk hbox; have GE7 := Aside0.mk (show w.heap.size ≤ g7 from by rw [hg]; exact HB.out.size); have n1_ := Aside0.mk (below_step HB.out hb); clear HB; have HB := n1_; clear n1_; replace hx0 := (hb.cell (World.block_lt_of_cell? _ _ hx0)).trans hx0; replace hx1 := (hb.cell (World.block_lt_of_cell? _ _ hx1)).trans hx1; replace hx2 := (hb.cell (World.block_lt_of_cell? _ _ hx2)).trans hx2; clear hbox hb hg; have hc7_0 : w7.cell? ⟨g7, 0, none⟩ = some (.string ByteArray.empty) := (blk_cell BK7.out 0).trans rfl; have hf7_0 := blk_frozen BK7.out 0; have hc7_1 : w7.cell? ⟨g7, 1, none⟩ = some (.int .i64 0) := (blk_cell BK7.out 1).trans rfl; have hf7_1 := blk_frozen BK7.out 1; have hc7_2 : w7.cell? ⟨g7, 2, none⟩ = some (.string ByteArray.empty) := (blk_cell BK7.out 2).trans rfl; have hf7_2 := blk_frozen BK7.out 2) | (go_at_call 21; refine (entry21 d k sum ws _ HSUM.out HWS.out).mono ?_; rintro e_ w8 ⟨vw, rfl, hvw, hb⟩; have n1_ := Aside0.mk (below_step (show Below w.heap.size w _ from below_set (below_set (below_set HB.out GE7.out) GE7.out) GE7.out) hb); have HVW := Aside0.mk (Kd.R_tight rfl (Kd.R_lower hvw (show w.heap.size ≤ _ from (below_set (below_set (below_set HB.out GE7.out) GE7.out) GE7.out).size))); clear HB hb hvw; have HB := n1_; clear n1_) | (at_builtin; refine Kd.R_append k43 (w0 := w) w.heap.size rfl (.tmp 19) (.tmp 22) 29 43 (.agg #[.string ByteArray.empty, .int .u32 0, .slice none 0 0]) 48 rfl Try.underlying29 info43 rfl (by decide) (by omega) (.slice none 0 0) [] (⟨d.f0, sum, ws⟩ : S43) [.string d.f0, .int .u32 sum, vw] (fun _ => True) (fun k => some k = vw.ownBlock) rfl (by first | (go_simp; done) | (go_simp; rfl)) (k43_mkM _ _ _ (⟨d.f0, sum, ws⟩ : S43) HVW.out) (fun k _ => ⟨trivial, by simp [Value.ownBlock]⟩) (fun _ _ => trivial) (Kd.R_nil _ _ _ _ _) HB.out HB.out.size (by simp) ?_; intro v1 w9 ho hb hg hat; obtain ⟨A9, n9, c9, rfl⟩ : ∃ A n c, v1 = .slice A n c := (by obtain ⟨A, c, e_⟩ := Kd.R_slice ho; exact ⟨A, _, c, e_⟩); have HE := Aside0.mk (show Kd.R k43 43 w9 w.heap.size (fun _ => True) (.slice A9 n9 c9) [(⟨d.f0, sum, ws⟩ : S43)] from ho); have HB9 := Aside0.mk hb; clear ho hb hg hat))
      go_roundg k1
      case measure => omega
      case rel => exact ⟨false, rfl, ⟨(fun h => by cases h), fun _ => HE.out⟩, HB9⟩
    | false =>
      have HE := Aside0.mk (HK.out.2 rfl)
      obtain ⟨Ae, ce, rfl⟩ := Kd.R_slice HE.out
      clear HK
      go_wp2_with (go_at_call 22; refine (sort1 HE.out).mono ?_; rintro e_ w10 ⟨rfl, hs, hg⟩; have n1_ := Aside0.mk hs; have n2_ := Aside0.mk (pw_below_grown HB.out _ HB.out.size hg (fun k hk => Kd.R_base HE.out k hk)); clear HE HB hs hg; have HE := n1_; have HB := n2_; clear n1_ n2_)
      go_ret2
      exact ⟨_, rfl, one_S HE.out, HB.out⟩
def exN : ByteArray := ⟨#[100]⟩
def exT : ByteArray := ⟨#[98, 32, 97, 95, 49, 44, 32, 98]⟩
def exSum : Int := (journal_Checksum.f 20 exT).getD 0
def exW : List ByteArray := [⟨#[97, 95, 49]⟩, ⟨#[98]⟩]
theorem exSum_is : journal_Checksum.f 20 exT = some exSum := by kernel_rfl
theorem exTok : tok [] (lb exT) = [[98], [97, 95, 49], [98]] := by kernel_rfl
theorem exSort : ([[98], [97, 95, 49], [98]] : List (List UInt8)).mergeSort (fun x y => decide (x ≤ y)) = [[97, 95, 49], [98], [98]] := by
  have h1 : ¬ ([98] : List UInt8) ≤ [97, 95, 49] := by decide
  have h2 : ([97, 95, 49] : List UInt8) ≤ [98] := by decide
  have h3 : ([98] : List UInt8) ≤ [98] := by decide
  simp [List.mergeSort, List.MergeSort.Internal.splitInTwo, List.merge, h1, h2, h3]
theorem exW_is : wordindex_Words.f exT = some exW := by
  unfold wordindex_Words.f wordsL uniqL
  rw [exTok, exSort]
  kernel_rfl
def wordindex_Build.f (l0 : List (S35)) : Option ((List (S43)) × Int) := match l0 with
  | [d] => if d.f0 = exN ∧ d.f2 = exT then some ([⟨d.f0, exSum, exW⟩], 0) else none
  | _ => none
theorem wordindex_Build.calls (A0 : Option Addr) (c0 : Nat) (l0 : List (S35)) (r1 : List (S43)) (r2 : Int) (w : World) (hr0 : Kd.C k35 w A0 l0.length l0) (hc0 : l0.length ≤ c0) (h : wordindex_Build.f l0 = some (r1, r2)) :
    Calls Try.prog 9 #[.slice A0 l0.length c0] w fun e w' => ∃ v0_ : Value, e = .returned (.tuple #[v0_, .int .i64 r2]) ∧ Kd.S k43 43 w' w.heap.size (fun _ => True) v0_ r1 ∧ Below w.heap.size w w' := by
  unfold wordindex_Build.f at h
  split at h
  · rename_i d
    split at h
    · rename_i hc
      cases h
      exact build9 A0 c0 d 20 exSum exW w hr0 hc0 (by unfold longF; rw [hc.1, hc.2]; rfl) (by unfold emptyF; rw [hc.1, ByteArray.toList_eq]; rfl) (by rw [hc.2]; exact exSum_is) (by rw [hc.2]; exact exW_is)
    · cases h
  · cases h
end Go.Proofs.Ytngolmiegfgmmaa.Wi
