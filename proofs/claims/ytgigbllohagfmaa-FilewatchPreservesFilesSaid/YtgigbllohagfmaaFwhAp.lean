/- filewatch.Apply: the files that exist after a sequence of events. Condition: fewer than 1000000000 files and events. -/
import Derived.Test.YtgigbllohagfmaaFwx0
import Derived.Test.YtgigbllohagfmaaMp
import Derived.Test.YtgigbllohagfmaaFwhTb
import Derived.Test.YtgigbllohagfmaaFwhSk
namespace Go.Proofs.Ytgigbllohagfmaa.Fw
open Go.RowKit Go.Proofs.YtgigbllohagfmaaW.PrintWords Go.Proofs.YtgigbllohagfmaaW.PrintLast Go.Proofs.YtgigbllohagfmaaW.PrintMore
open Go.Proofs.Ytgigbllohagfmaa
set_option linter.unusedVariables false
set_option linter.unusedSimpArgs false

def appl : List S33 → List (ByteArray × Int) → List (ByteArray × Int)
  | [], m => m
  | e :: es, m => appl es (if (e.f2 == 1) = true then Mp.aset m e.f1 1 else if (e.f2 == 2) = true then Mp.aset m e.f1 1 else if (e.f2 == 3) = true then Mp.adel m e.f1 else m)
theorem appl_cons (e : S33) (es : List S33) (m : List (ByteArray × Int)) : appl (e :: es) m = appl es (if (e.f2 == 1) = true then Mp.aset m e.f1 1 else if (e.f2 == 2) = true then Mp.aset m e.f1 1 else if (e.f2 == 3) = true then Mp.adel m e.f1 else m) := rfl
theorem aset_length_le {κ β : Type} [DecidableEq κ] (l : List (κ × β)) (x : κ) (v : β) : (Mp.aset l x v).length ≤ l.length + 1 := by
  unfold Mp.aset
  split <;> simp
theorem tab_length (l : List ByteArray) : (tab l).length ≤ l.length := by
  have key : ∀ (l : List ByteArray) m, (l.foldl (fun m f => Mp.aset m f 1) m : List (ByteArray × Int)).length ≤ m.length + l.length := by
    intro l
    induction l with
    | nil => intro m; simp
    | cons r l ih =>
      intro m
      have h1 := ih (Mp.aset m r 1)
      have h2 := aset_length_le m r 1
      simp only [List.foldl_cons, List.length_cons]
      omega
  have := key l []
  simp only [List.length_nil, Nat.zero_add] at this
  exact this
theorem appl_length (es : List S33) : ∀ m, (appl es m).length ≤ m.length + es.length := by
  induction es with
  | nil => intro m; exact Nat.le_refl _
  | cons e es ih =>
    intro m
    rw [appl_cons]
    refine Nat.le_trans (ih _) ?_
    have h2 := aset_length_le m e.f1 1
    have h3 : (Mp.adel m e.f1).length ≤ m.length := List.length_filter_le _ _
    rw [List.length_cons]
    (repeat' split) <;> omega
set_option maxHeartbeats 4000000 in
set_option maxRecDepth 100000 in
theorem apply_calls (A0 : Option Addr) (c0 : Nat) (l0 : List ByteArray) (A1 : Option Addr) (c1_ : Nat) (l1 : List (S33)) (w : World) (hr0 : Kd.C Kd.string w A0 l0.length l0) (hc0 : l0.length ≤ c0) (hr1 : Kd.C k33 w A1 l1.length l1) (hc1 : l1.length ≤ c1_) (hl0 : l0.length < 1000000000) (hl1 : l1.length < 1000000000) (hk0 : ∀ f ∈ l0, f.size ≤ maxLen) (hk1 : ∀ e ∈ l1, e.f1.size ≤ maxLen) :
    Calls Try.prog 12 #[.slice A0 l0.length c0, .slice A1 l1.length c1_] w fun e w' => ∃ v0_ : Value, e = .returned v0_ ∧ Kd.R Kd.string 9 w' w.heap.size (fun _ => True) v0_ (Sk.sortedKeys (appl l1 (tab l0))) ∧ Below w.heap.size w w' := by
  have hu33 := Try.underlying33
  have HR0 := Aside0.mk hr0
  have HR1 := Aside0.mk hr1
  have HC0 := Aside0.mk (And.intro hc0 hc1)
  have HLEN := Aside0.mk (And.intro hl0 hl1)
  have HKEY0 := Aside0.mk hk0
  have HKEY1 := Aside0.mk hk1
  clear hr0 hr1 hc0 hc1 hl0 hl1 hk0 hk1
  have HB := Aside0.mk (Below.refl w.heap.size w)
  go_enter Try.func12, Try.ntmps12
  go_wp2_with (refine Mp.wp_make (kt := 9) (et := 3) (enc := Value.string) rfl 51 rfl Try.underlying51 ?_; intro w1 hm hg hb hlt; have HM := Aside0.mk (show AtI w1 w.heap.size [] from hm); have HB1 := Aside0.mk (HB.out.trans hb); clear HB; have HB := HB1; clear HB1; clear hm hg hb hlt)
  go_loopg [13] l0.length (fun kq v13 w' => ∃ x : Int, v13 = .int .i64 x ∧ Aside0 (∃ i : Nat, x = i ∧ i + kq = l0.length ∧ AtI w' w.heap.size (tab (l0.take i))) ∧ Aside0 (Below w.heap.size w w'))
  case atStart => exact ⟨0, rfl, ⟨⟨0, rfl, by omega, HM.out⟩⟩, HB⟩
  case round =>
    clear HM HB
    obtain ⟨x, rfl, HX, HB⟩ := hrel
    by_cases c : x < (l0.length : Int)
    · have c1 : decide (x < (l0.length : Int)) = true := decide_eq_true c
      obtain ⟨i, e1, e2, HM⟩ := HX.out
      clear HX
      obtain ⟨k1, rfl⟩ : ∃ k1, gk = k1 + 1 := ⟨gk - 1, by omega⟩
      replace HM := Aside0.mk HM
      have E1 := Aside0.mk (And.intro e1 e2)
      have p1 : 0 ≤ (x : Int) := by omega
      obtain ⟨ad, ea, hx0⟩ := Kd.at_string HR0.out x p1 c
      cases ea
      replace hx0 := (HB.out.cell (World.block_lt_of_cell? w _ hx0)).trans hx0
      replace p1 := eq_true p1
      have q1 := eq_true c
      clear e1 e2 c
      go_wp2_with (at_mapUpdate; refine Mp.wp_store (κ := ByteArray) (P := Try.prog) (kt := 9) (et := 3) (enc := Value.string) (b := w.heap.size) rfl (.tmp 17) (.tmp 18) (.const (.int .i64 1)) 51 rfl KS sinj Try.underlying51 HM.out (rdOf ByteArray.empty l0 x) (keyS _ (HKEY0.out _ (rds_mem l0 x i E1.out.1 (by have := E1.out; omega)))) (encI 1) rfl rfl rfl ?_; intro w3 hm hg hs; have n1_ := Aside0.mk (show AtI w3 w.heap.size (tab (l0.take (i + 1))) from by rw [takes l0 i (by have := E1.out; omega), tab_snoc, ← E1.out.1]; rw [Mp.aset_vals] at hm; exact hm); have n2_ := Aside0.mk (HB.out.grown hg HB.out.size (fun k hk => by injection hk with hk; omega)); clear HM HB; have HM := n1_; have HB := n2_; clear n1_ n2_ hm hg hs)
      go_roundg k1
      case measure => have := E1.out; omega
      case rel => exact ⟨wrap64 (x + 1), rfl, ⟨⟨i + 1, by have := E1.out; rw [w64_id' (by omega) (by have := HLEN.out; omega)]; omega, by have := E1.out; omega, HM.out⟩⟩, HB⟩
    · have c1 : decide (x < (l0.length : Int)) = false := decide_eq_false c
      obtain ⟨i, e1, e2, HM⟩ := HX.out
      clear HX
      obtain rfl : i = l0.length := by omega
      rw [List.take_length] at HM
      replace HM := Aside0.mk HM
      clear e1 e2 c
      go_wp2
      go_loopg [22] l1.length (fun kq v22 w' => ∃ x : Int, v22 = .int .i64 x ∧ Aside0 (∃ (i : Nat) (m : List (ByteArray × Int)), x = i ∧ i + kq = l1.length ∧ AtI w' w.heap.size m ∧ appl (l1.drop i) m = appl l1 (tab l0)) ∧ Aside0 (Below w.heap.size w w'))
      case atStart => exact ⟨0, rfl, ⟨⟨0, tab l0, rfl, by omega, HM.out, rfl⟩⟩, HB⟩
      case round =>
        clear HM HB c1
        obtain ⟨x, rfl, HX, HB⟩ := hrel
        by_cases c : x < (l1.length : Int)
        · have c1 : decide (x < (l1.length : Int)) = true := decide_eq_true c
          obtain ⟨i, m, e1, e2, HM, e3⟩ := HX.out
          clear HX
          obtain ⟨k1, rfl⟩ : ∃ k1, gk = k1 + 1 := ⟨gk - 1, by omega⟩
          replace HM := Aside0.mk HM
          have E1 := Aside0.mk (And.intro e1 e2)
          rw [take33 l1 i (by omega), ← e1, appl_cons] at e3
          have E3 := Aside0.mk e3
          have p1 : 0 ≤ (x : Int) := by omega
          obtain ⟨ad, ea, hx0, hx1, hx2⟩ := at_T33 HR1.out x p1 c
          cases ea
          replace hx0 := (HB.out.cell (World.block_lt_of_cell? w _ hx0)).trans hx0
          replace hx1 := (HB.out.cell (World.block_lt_of_cell? w _ hx1)).trans hx1
          replace hx2 := (HB.out.cell (World.block_lt_of_cell? w _ hx2)).trans hx2
          replace p1 := eq_true p1
          have q1 := eq_true c
          clear e1 e2 e3 c
          cases h1 : ((rd_T33 l1 x).f2 == 1) with
          | true =>
            have e4 := E3.out
            rw [if_pos h1] at e4
            have E4 := Aside0.mk e4
            clear e4 E3
            go_wp2_with (first | ((with_reducible refine gate_dst (N := 9) rfl ?_); refine box_event ?hg (N := 9) ?hd (cs := #[.int .i64 0, .string (⟨#[]⟩ : ByteArray), .int .i64 0]) (t := 33) ?hr ?_; (case hd => rfl); (case hg => rfl); (case hr => first | (go_simp; done) | (go_simp; rfl)); intro g2 hg w5 hbox hb; have n1_ := Aside0.mk (below_step (by repeat (first | (with_reducible first | exact HB.out | apply below_alloc | apply pw_below_drewN | apply below_drew1) | exact HB.out)) hb); have n2_ := Aside0.mk (hbox); have n3_ := Aside0.mk ((by rw [hg]; exact (below_size (by repeat (first | (with_reducible first | exact HB.out | apply below_alloc | apply pw_below_drewN | apply below_drew1) | exact HB.out))) : w.heap.size ≤ g2)); have n4_ := Aside0.mk (HM.out.below hb); have n5_ := Aside0.mk (show w.heap.size ≠ g2 from by have := HM.out.lt; omega); clear HM; have HM := n4_; have NE := n5_; clear n4_ n5_; clear HB; have HB := n1_; have BK := n2_; have GE := n3_; clear n1_ n2_ n3_; clear hb hbox hg; have hcz_0 : w5.cell? ⟨g2, 0, none⟩ = some (.int .i64 0) := (blk_cell BK.out 0).trans rfl; have hcz_1 : w5.cell? ⟨g2, 1, none⟩ = some (.string (⟨#[]⟩ : ByteArray)) := (blk_cell BK.out 1).trans rfl; have hcz_2 : w5.cell? ⟨g2, 2, none⟩ = some (.int .i64 0) := (blk_cell BK.out 2).trans rfl; have hfz_0 := blk_frozen BK.out 0; have hfz_1 := blk_frozen BK.out 1; have hfz_2 := blk_frozen BK.out 2) | (at_mapUpdate; refine Mp.wp_store (κ := ByteArray) (P := Try.prog) (kt := 9) (et := 3) (enc := Value.string) (b := w.heap.size) rfl (.tmp 31) (.tmp 33) (.const (.int .i64 1)) 51 rfl KS sinj Try.underlying51 (((HM.out.set (p := ⟨g2, 0, none⟩) NE.out _).set (p := ⟨g2, 1, none⟩) NE.out _).set (p := ⟨g2, 2, none⟩) NE.out _) (rd_T33 l1 x).f1 (keyS _ (HKEY1.out _ (rd33_mem l1 x i E1.out.1 (by have := E1.out; omega)))) (encI 1) rfl rfl rfl ?_; intro w3 hm hg hs; have n1_ := Aside0.mk (show AtI w3 w.heap.size (Mp.aset m (rd_T33 l1 x).f1 1) from by rw [Mp.aset_vals] at hm; exact hm); have n2_ := Aside0.mk (Below.grown (show Below w.heap.size w _ from by repeat (first | exact HB.out | refine below_set ?_ GE.out)) hg (by have := HB.out.size; first | exact this | (simp only [World.size_setCell]; exact this)) (fun k hk => by injection hk with hk; omega)); clear HM HB; have HM := n1_; have HB := n2_; clear n1_ n2_ hm hg hs))
            go_roundg k1
            case measure => have := E1.out; omega
            case rel => exact ⟨wrap64 (x + 1), rfl, ⟨⟨i + 1, _, by have := E1.out; rw [w64_id' (by omega) (by have := HLEN.out; omega)]; omega, by have := E1.out; omega, HM.out, E4.out⟩⟩, HB⟩
          | false =>
            cases h2 : ((rd_T33 l1 x).f2 == 2) with
            | true =>
              have e4 := E3.out
              rw [if_neg (by rw [h1]; simp), if_pos h2] at e4
              have E4 := Aside0.mk e4
              clear e4 E3
              go_wp2_with (first | ((with_reducible refine gate_dst (N := 9) rfl ?_); refine box_event ?hg (N := 9) ?hd (cs := #[.int .i64 0, .string (⟨#[]⟩ : ByteArray), .int .i64 0]) (t := 33) ?hr ?_; (case hd => rfl); (case hg => rfl); (case hr => first | (go_simp; done) | (go_simp; rfl)); intro g2 hg w5 hbox hb; have n1_ := Aside0.mk (below_step (by repeat (first | (with_reducible first | exact HB.out | apply below_alloc | apply pw_below_drewN | apply below_drew1) | exact HB.out)) hb); have n2_ := Aside0.mk (hbox); have n3_ := Aside0.mk ((by rw [hg]; exact (below_size (by repeat (first | (with_reducible first | exact HB.out | apply below_alloc | apply pw_below_drewN | apply below_drew1) | exact HB.out))) : w.heap.size ≤ g2)); have n4_ := Aside0.mk (HM.out.below hb); have n5_ := Aside0.mk (show w.heap.size ≠ g2 from by have := HM.out.lt; omega); clear HM; have HM := n4_; have NE := n5_; clear n4_ n5_; clear HB; have HB := n1_; have BK := n2_; have GE := n3_; clear n1_ n2_ n3_; clear hb hbox hg; have hcz_0 : w5.cell? ⟨g2, 0, none⟩ = some (.int .i64 0) := (blk_cell BK.out 0).trans rfl; have hcz_1 : w5.cell? ⟨g2, 1, none⟩ = some (.string (⟨#[]⟩ : ByteArray)) := (blk_cell BK.out 1).trans rfl; have hcz_2 : w5.cell? ⟨g2, 2, none⟩ = some (.int .i64 0) := (blk_cell BK.out 2).trans rfl; have hfz_0 := blk_frozen BK.out 0; have hfz_1 := blk_frozen BK.out 1; have hfz_2 := blk_frozen BK.out 2) | (at_mapUpdate; refine Mp.wp_store (κ := ByteArray) (P := Try.prog) (kt := 9) (et := 3) (enc := Value.string) (b := w.heap.size) rfl (.tmp 31) (.tmp 33) (.const (.int .i64 1)) 51 rfl KS sinj Try.underlying51 (((HM.out.set (p := ⟨g2, 0, none⟩) NE.out _).set (p := ⟨g2, 1, none⟩) NE.out _).set (p := ⟨g2, 2, none⟩) NE.out _) (rd_T33 l1 x).f1 (keyS _ (HKEY1.out _ (rd33_mem l1 x i E1.out.1 (by have := E1.out; omega)))) (encI 1) rfl rfl rfl ?_; intro w3 hm hg hs; have n1_ := Aside0.mk (show AtI w3 w.heap.size (Mp.aset m (rd_T33 l1 x).f1 1) from by rw [Mp.aset_vals] at hm; exact hm); have n2_ := Aside0.mk (Below.grown (show Below w.heap.size w _ from by repeat (first | exact HB.out | refine below_set ?_ GE.out)) hg (by have := HB.out.size; first | exact this | (simp only [World.size_setCell]; exact this)) (fun k hk => by injection hk with hk; omega)); clear HM HB; have HM := n1_; have HB := n2_; clear n1_ n2_ hm hg hs))
              go_roundg k1
              case measure => have := E1.out; omega
              case rel => exact ⟨wrap64 (x + 1), rfl, ⟨⟨i + 1, _, by have := E1.out; rw [w64_id' (by omega) (by have := HLEN.out; omega)]; omega, by have := E1.out; omega, HM.out, E4.out⟩⟩, HB⟩
            | false =>
              cases h3 : ((rd_T33 l1 x).f2 == 3) with
              | true =>
                have e4 := E3.out
                rw [if_neg (by rw [h1]; simp), if_neg (by rw [h2]; simp), if_pos h3] at e4
                have E4 := Aside0.mk e4
                clear e4 E3
                go_wp2_with (first | ((with_reducible refine gate_dst (N := 9) rfl ?_); refine box_event ?hg (N := 9) ?hd (cs := #[.int .i64 0, .string (⟨#[]⟩ : ByteArray), .int .i64 0]) (t := 33) ?hr ?_; (case hd => rfl); (case hg => rfl); (case hr => first | (go_simp; done) | (go_simp; rfl)); intro g2 hg w5 hbox hb; have n1_ := Aside0.mk (below_step (by repeat (first | (with_reducible first | exact HB.out | apply below_alloc | apply pw_below_drewN | apply below_drew1) | exact HB.out)) hb); have n2_ := Aside0.mk (hbox); have n3_ := Aside0.mk ((by rw [hg]; exact (below_size (by repeat (first | (with_reducible first | exact HB.out | apply below_alloc | apply pw_below_drewN | apply below_drew1) | exact HB.out))) : w.heap.size ≤ g2)); have n4_ := Aside0.mk (HM.out.below hb); have n5_ := Aside0.mk (show w.heap.size ≠ g2 from by have := HM.out.lt; omega); clear HM; have HM := n4_; have NE := n5_; clear n4_ n5_; clear HB; have HB := n1_; have BK := n2_; have GE := n3_; clear n1_ n2_ n3_; clear hb hbox hg; have hcz_0 : w5.cell? ⟨g2, 0, none⟩ = some (.int .i64 0) := (blk_cell BK.out 0).trans rfl; have hcz_1 : w5.cell? ⟨g2, 1, none⟩ = some (.string (⟨#[]⟩ : ByteArray)) := (blk_cell BK.out 1).trans rfl; have hcz_2 : w5.cell? ⟨g2, 2, none⟩ = some (.int .i64 0) := (blk_cell BK.out 2).trans rfl; have hfz_0 := blk_frozen BK.out 0; have hfz_1 := blk_frozen BK.out 1; have hfz_2 := blk_frozen BK.out 2) | (at_delete; refine Mp.wp_drop (κ := ByteArray) (P := Try.prog) (kt := 9) (et := 3) (enc := Value.string) (b := w.heap.size) rfl (.tmp 36) (.tmp 38) 51 rfl KS sinj Try.underlying51 (((HM.out.set (p := ⟨g2, 0, none⟩) NE.out _).set (p := ⟨g2, 1, none⟩) NE.out _).set (p := ⟨g2, 2, none⟩) NE.out _) (rd_T33 l1 x).f1 (keyS _ (HKEY1.out _ (rd33_mem l1 x i E1.out.1 (by have := E1.out; omega)))) rfl rfl ?_; intro w3 hm hg hs; have n1_ := Aside0.mk (show AtI w3 w.heap.size (Mp.adel m (rd_T33 l1 x).f1) from by rw [Mp.adel_vals] at hm; exact hm); have n2_ := Aside0.mk (Below.grown (show Below w.heap.size w _ from by repeat (first | exact HB.out | refine below_set ?_ GE.out)) hg (by have := HB.out.size; first | exact this | (simp only [World.size_setCell]; exact this)) (fun k hk => by injection hk with hk; omega)); clear HM HB; have HM := n1_; have HB := n2_; clear n1_ n2_ hm hg hs))
                go_roundg k1
                case measure => have := E1.out; omega
                case rel => exact ⟨wrap64 (x + 1), rfl, ⟨⟨i + 1, _, by have := E1.out; rw [w64_id' (by omega) (by have := HLEN.out; omega)]; omega, by have := E1.out; omega, HM.out, E4.out⟩⟩, HB⟩
              | false =>
                have e4 := E3.out
                rw [if_neg (by rw [h1]; simp), if_neg (by rw [h2]; simp), if_neg (by rw [h3]; simp)] at e4
                have E4 := Aside0.mk e4
                clear e4 E3
                go_wp2_with (first | ((with_reducible refine gate_dst (N := 9) rfl ?_); refine box_event ?hg (N := 9) ?hd (cs := #[.int .i64 0, .string (⟨#[]⟩ : ByteArray), .int .i64 0]) (t := 33) ?hr ?_; (case hd => rfl); (case hg => rfl); (case hr => first | (go_simp; done) | (go_simp; rfl)); intro g2 hg w5 hbox hb; have n1_ := Aside0.mk (below_step (by repeat (first | (with_reducible first | exact HB.out | apply below_alloc | apply pw_below_drewN | apply below_drew1) | exact HB.out)) hb); have n2_ := Aside0.mk (hbox); have n3_ := Aside0.mk ((by rw [hg]; exact (below_size (by repeat (first | (with_reducible first | exact HB.out | apply below_alloc | apply pw_below_drewN | apply below_drew1) | exact HB.out))) : w.heap.size ≤ g2)); have n4_ := Aside0.mk (HM.out.below hb); have n5_ := Aside0.mk (show w.heap.size ≠ g2 from by have := HM.out.lt; omega); clear HM; have HM := n4_; have NE := n5_; clear n4_ n5_; clear HB; have HB := n1_; have BK := n2_; have GE := n3_; clear n1_ n2_ n3_; clear hb hbox hg; have hcz_0 : w5.cell? ⟨g2, 0, none⟩ = some (.int .i64 0) := (blk_cell BK.out 0).trans rfl; have hcz_1 : w5.cell? ⟨g2, 1, none⟩ = some (.string (⟨#[]⟩ : ByteArray)) := (blk_cell BK.out 1).trans rfl; have hcz_2 : w5.cell? ⟨g2, 2, none⟩ = some (.int .i64 0) := (blk_cell BK.out 2).trans rfl; have hfz_0 := blk_frozen BK.out 0; have hfz_1 := blk_frozen BK.out 1; have hfz_2 := blk_frozen BK.out 2))
                go_roundg k1
                case measure => have := E1.out; omega
                case rel => exact ⟨wrap64 (x + 1), rfl, ⟨⟨i + 1, m, by have := E1.out; rw [w64_id' (by omega) (by have := HLEN.out; omega)]; omega, by have := E1.out; omega, (((HM.out.set (p := ⟨g2, 0, none⟩) NE.out _).set (p := ⟨g2, 1, none⟩) NE.out _).set (p := ⟨g2, 2, none⟩) NE.out _), E4.out⟩⟩, ⟨by repeat (first | exact HB.out | refine below_set ?_ GE.out)⟩⟩
        · have c1 : decide (x < (l1.length : Int)) = false := decide_eq_false c
          obtain ⟨i, m, e1, e2, HM, e3⟩ := HX.out
          clear HX
          obtain rfl : i = l1.length := by omega
          rw [List.drop_length] at e3
          have E3 := Aside0.mk (show m = appl l1 (tab l0) from e3)
          replace HM := Aside0.mk HM
          clear e1 e2 c e3
          go_wp2_with (first | (go_at_call 23; refine (keys23 _ _).mono ?_; rintro e w7 ⟨rfl, rfl⟩) | (go_at_call 22; refine (sorted23 (base := w.heap.size) HM.out (by rw [E3.out]; have := appl_length l1 (tab l0); have := tab_length l0; have := HLEN.out; omega) HB.out.size).mono ?_; rintro e w8 ⟨v, rfl, hR, hb⟩; have HV := Aside0.mk hR; have n2_ := Aside0.mk ((HB.out.alloc HB.out.size _).trans (hb.mono HB.out.size)); clear HB; have HB := n2_; clear n2_ hR hb))
          go_ret
          exact ⟨_, rfl, by rw [← E3.out]; exact HV.out, HB.out⟩
def filewatch_Apply.f (l0 : List ByteArray) (l1 : List (S33)) : Option (List ByteArray) := if l0.length < 1000000000 ∧ l1.length < 1000000000 ∧ (l0.all fun f => decide (f.size ≤ 9223372036854775807)) = true ∧ (l1.all fun e => decide (e.f1.size ≤ 9223372036854775807)) = true then some (Sk.sortedKeys (appl l1 (tab l0))) else none
theorem filewatch_Apply.calls (A0 : Option Addr) (c0 : Nat) (l0 : List ByteArray) (A1 : Option Addr) (c1 : Nat) (l1 : List (S33)) (r : List ByteArray) (w : World) (hr0 : Kd.C Kd.string w A0 l0.length l0) (hc0 : l0.length ≤ c0) (hr1 : Kd.C k33 w A1 l1.length l1) (hc1 : l1.length ≤ c1) (h : filewatch_Apply.f l0 l1 = some r) :
    Calls Try.prog 12 #[.slice A0 l0.length c0, .slice A1 l1.length c1] w fun e w' => ∃ v0_ : Value, e = .returned (v0_) ∧ Kd.R Kd.string 9 w' w.heap.size (fun _ => True) v0_ r ∧ Below w.heap.size w w' := by
  unfold filewatch_Apply.f at h
  split at h
  · rename_i hc
    obtain rfl := Option.some.inj h
    exact apply_calls A0 c0 l0 A1 c1 l1 w hr0 hc0 hr1 hc1 hc.1 hc.2.1 (fun x hx => of_decide_eq_true (List.all_eq_true.1 hc.2.2.1 x hx)) (fun x hx => of_decide_eq_true (List.all_eq_true.1 hc.2.2.2 x hx))
  · cases h
theorem filewatch_Apply.calls_n (n0 : Nat) (A0 : Option Addr) (c0 : Nat) (l0 : List ByteArray) (A1 : Option Addr) (c1 : Nat) (l1 : List (S33)) (r : List ByteArray) (w : World) (hn : n0 = l0.length) (hr0 : Kd.C Kd.string w A0 l0.length l0) (hc0 : l0.length ≤ c0) (hr1 : Kd.C k33 w A1 l1.length l1) (hc1 : l1.length ≤ c1) (h : filewatch_Apply.f l0 l1 = some r) :
    Calls Try.prog 12 #[.slice A0 n0 c0, .slice A1 l1.length c1] w fun e w' => ∃ v0_ : Value, e = .returned (v0_) ∧ Kd.R Kd.string 9 w' w.heap.size (fun _ => True) v0_ r ∧ Below w.heap.size w w' := by
  subst hn
  exact filewatch_Apply.calls A0 c0 l0 A1 c1 l1 r w hr0 hc0 hr1 hc1 h
end Go.Proofs.Ytgigbllohagfmaa.Fw
