/- filewatch.newBatch: the events of a batch, one a path, sorted. Condition: at least one and fewer than 1000000000 events. -/
import Derived.Test.YtgigbllohagfmaaFix0
import Derived.Test.YtgigbllohagfmaaMp
import Derived.Test.YtgigbllohagfmaaFihTb
import Derived.Test.YtgigbllohagfmaaFihSk2
import Derived.Test.YtgigbllohagfmaaFihMg
namespace Go.Proofs.Ytgigbllohagfmaa.Fi
open Go.RowKit Go.Proofs.YtgigbllohagfmaaW.PrintWords Go.Proofs.YtgigbllohagfmaaW.PrintLast Go.Proofs.YtgigbllohagfmaaW.PrintMore
open Go.Proofs.Ytgigbllohagfmaa
set_option linter.unusedVariables false
set_option linter.unusedSimpArgs false

abbrev AtE (w : World) (b : Nat) (m : List (ByteArray × S33)) : Prop := Mp.At Try.prog 9 Value.string w b (Mp.vals encE m)
def merge1 (m : List (ByteArray × S33)) (e : S33) : List (ByteArray × S33) := Mp.aset m e.f1 ⟨e.f0, e.f1, mg ((Mp.aget m e.f1).getD z33).f2 e.f2⟩
def merged (l : List S33) : List (ByteArray × S33) := l.foldl merge1 []
theorem merged_snoc (l : List S33) (e : S33) : merged (l ++ [e]) = merge1 (merged l) e := by unfold merged; rw [List.foldl_append]; rfl
theorem take33' (l : List S33) (i : Nat) (h : i < l.length) : l.take (i + 1) = l.take i ++ [rd_T33 l (i : Int)] := by
  rw [List.take_add_one, List.getElem?_eq_getElem h]
  unfold rd_T33
  simp [h]
def outK (m : List (ByteArray × S33)) (ks : List ByteArray) : List S33 := (ks.map fun k => (Mp.aget m k).getD z33).filter (fun e => e.f2 != 0)
theorem outK_skip (m : List (ByteArray × S33)) (ks : List ByteArray) (i : Nat) (h : i < ks.length) (hz : (((Mp.aget m (rdOf ByteArray.empty ks (i : Int))).getD z33).f2 != 0) = false) : outK m (ks.take (i + 1)) = outK m (ks.take i) := by
  rw [takes ks i h]
  unfold outK
  rw [List.map_append, List.filter_append, List.map_cons, List.map_nil, List.filter_cons_of_neg (by rw [hz]; simp), List.filter_nil, List.append_nil]
theorem outK_more (m : List (ByteArray × S33)) (ks : List ByteArray) (i : Nat) (h : i < ks.length) (hz : (((Mp.aget m (rdOf ByteArray.empty ks (i : Int))).getD z33).f2 != 0) = true) : outK m (ks.take (i + 1)) = outK m (ks.take i) ++ [(Mp.aget m (rdOf ByteArray.empty ks (i : Int))).getD z33] := by
  rw [takes ks i h]
  unfold outK
  rw [List.map_append, List.filter_append, List.map_cons, List.map_nil, List.filter_cons_of_pos (by rw [hz]), List.filter_nil]
theorem outK_len (m : List (ByteArray × S33)) (ks : List ByteArray) (i : Nat) : (outK m (ks.take i)).length ≤ ks.length := by
  unfold outK
  have := List.length_filter_le (fun e : S33 => e.f2 != 0) ((ks.take i).map fun k => (Mp.aget m k).getD z33)
  rw [List.length_map, List.length_take] at this
  omega
theorem keys_len {β : Type} (m : List (ByteArray × β)) : (Sk.sortedKeys m).length = m.length := by
  unfold Sk.sortedKeys
  simp only [List.length_map, List.length_mergeSort]
theorem keys_small {β : Type} {m : List (ByteArray × β)} (h : ∀ p ∈ m, p.1.size ≤ maxLen) : ∀ k ∈ Sk.sortedKeys m, k.size ≤ maxLen := by
  intro k hk
  unfold Sk.sortedKeys at hk
  obtain ⟨l, hl, rfl⟩ := List.mem_map.1 hk
  obtain ⟨p, hp, rfl⟩ := List.mem_map.1 (List.mem_mergeSort.1 hl)
  have := h p hp
  exact this
theorem aset_le {κ β : Type} [DecidableEq κ] (l : List (κ × β)) (x : κ) (v : β) : (Mp.aset l x v).length ≤ l.length + 1 := by
  unfold Mp.aset
  split <;> simp
theorem merged_all (l acc : List S33) : ∀ (m : List (ByteArray × S33)), m.length ≤ acc.length → (∀ p ∈ m, p.2 ∈ p.2 :: [] ∧ ∃ e ∈ acc, p.1 = e.f1) → (l.foldl merge1 m).length ≤ (acc ++ l).length ∧ ∀ p ∈ l.foldl merge1 m, ∃ e ∈ acc ++ l, p.1 = e.f1 := by
  induction l generalizing acc with
  | nil => intro m h1 h2; rw [List.append_nil]; exact ⟨h1, fun p hp => (h2 p hp).2⟩
  | cons e l ih =>
    intro m h1 h2
    have := ih (acc ++ [e]) (merge1 m e) (by have := aset_le m e.f1 (⟨e.f0, e.f1, mg ((Mp.aget m e.f1).getD z33).f2 e.f2⟩ : S33); unfold merge1; rw [List.length_append, List.length_singleton]; omega) (fun p hp => ⟨List.mem_cons_self, by
      unfold merge1 Mp.aset at hp
      split at hp
      · obtain ⟨q, hq, rfl⟩ := List.mem_map.1 hp
        by_cases hx : q.1 = e.f1
        · exact ⟨e, by simp, by simp [hx]⟩
        · obtain ⟨e', he', hq'⟩ := (h2 q hq).2
          exact ⟨e', List.mem_append_left _ he', by simp only [hx, if_false]; exact hq'⟩
      · rcases List.mem_append.1 hp with hp | hp
        · obtain ⟨e', he', hq'⟩ := (h2 p hp).2
          exact ⟨e', List.mem_append_left _ he', hq'⟩
        · rw [List.mem_singleton] at hp
          exact ⟨e, by simp, by rw [hp]⟩⟩)
    rw [List.append_assoc] at this
    exact this
theorem merged_length (l : List S33) : (merged l).length ≤ l.length := (merged_all l [] [] (Nat.le_refl _) (fun p hp => by cases hp)).1
theorem merged_key (l : List S33) (p : ByteArray × S33) (hp : p ∈ merged l) : ∃ e ∈ l, p.1 = e.f1 := (merged_all l [] [] (Nat.le_refl _) (fun p hp => by cases hp)).2 p hp
theorem field33 (a b c : Value) (W : World) : (Instr.field 33 (.agg #[a, b, c]) 2).run Try.prog W = .ok c W := by
  simp [Instr.field, run_underlying Try.underlying33, asAgg, part, Result.andThen, isAgg, run_underlying Try.underlying3, Go.sizeOf]
set_option maxHeartbeats 4000000 in
set_option maxRecDepth 100000 in
theorem newBatch_calls (A0 : Option Addr) (c0 : Nat) (l0 : List (S33)) (dl : Int) (w : World) (hr0 : Kd.C k33 w A0 l0.length l0) (hc0 : l0.length ≤ c0) (hne : 0 < l0.length) (hl0 : l0.length < 1000000000) (hk0 : ∀ e ∈ l0, e.f1.size ≤ maxLen) :
    Calls Try.prog 20 #[.slice A0 l0.length c0, .int .i64 dl] w fun e w' => ∃ v1_ : Value, e = .returned (.agg #[.int .i64 (wrap64 ((rd_T33 l0 (wrap64 ((l0.length : Int) - 1))).f0 + dl)), v1_]) ∧ Kd.R k33 33 w' w.heap.size (fun _ => True) v1_ (outK (merged l0) (Sk.sortedKeys (merged l0))) ∧ Below w.heap.size w w' := by
  have hu33 := Try.underlying33
  have hu31 := Try.underlying31
  have hfd := field33
  have HR0 := Aside0.mk hr0
  have HC0 := Aside0.mk hc0
  have HLEN := Aside0.mk (And.intro hne hl0)
  have HKEY := Aside0.mk hk0
  clear hr0 hc0 hl0 hk0 hne
  have HB := Aside0.mk (Below.refl w.heap.size w)
  go_enter Try.func20, Try.ntmps20
  go_wp2_with (first | ((with_reducible refine gate_dst (N := 4) rfl ?_); refine box_event ?hg (N := 4) ?hd (cs := #[Value.int .i64 0, Value.slice none 0 0]) (t := 31) ?hr ?_; (case hd => rfl); (case hg => rfl); (case hr => first | (go_simp; done) | (go_simp; rfl)); intro g4 hg w2 hbox hb; have n1_ := Aside0.mk (below_step (by repeat (first | (with_reducible first | exact HB.out | apply below_alloc | apply pw_below_drewN | apply below_drew1) | exact HB.out)) hb); have BK4 := Aside0.mk (hbox); have GE4 := Aside0.mk ((by rw [hg]; exact (below_size (by repeat (first | (with_reducible first | exact HB.out | apply below_alloc | apply pw_below_drewN | apply below_drew1) | exact HB.out))) : w.heap.size ≤ g4));  clear HB; have HB := n1_; clear n1_; clear hb hbox hg; have hc4_0 : w2.cell? ⟨g4, 0, none⟩ = some (Value.int .i64 0) := (blk_cell BK4.out 0).trans rfl; have hf4_0 := blk_frozen BK4.out 0; have hc4_1 : w2.cell? ⟨g4, 1, none⟩ = some (Value.slice none 0 0) := (blk_cell BK4.out 1).trans rfl; have hf4_1 := blk_frozen BK4.out 1) | ((with_reducible refine gate_dst (N := 11) rfl ?_); refine Mp.wp_make_at (kt := 9) (et := 33) (enc := Value.string) rfl 61 rfl Try.underlying61 ?_; intro w1 bm hbm hm hg hb hlt; have HM := Aside0.mk (show AtE w1 bm [] from hm); have GM := Aside0.mk (show w.heap.size ≤ bm ∧ g4 < bm from by have := HB.out.size; have := blk_lt BK4.out; omega); have n1_ := Aside0.mk (below_step HB.out hb); have n2_ := Aside0.mk (blk_below BK4.out hb); clear HB BK4 hc4_0 hc4_1 hf4_0 hf4_1; have HB := n1_; have BK4 := n2_; clear n1_ n2_ hbm hm hg hb hlt))
  go_loopg [14] l0.length (fun kq v14 w' => ∃ x : Int, v14 = .int .i64 x ∧ Aside0 (∃ i : Nat, x = i ∧ i + kq = l0.length ∧ AtE w' bm (merged (l0.take i))) ∧ Aside0 (Below w.heap.size w w') ∧ Aside0 (w'.heap[g4]? = some (.cells #[.int .i64 0, .slice none 0 0] 31 (0, 0))))
  case atStart => exact ⟨0, rfl, ⟨⟨0, rfl, by omega, HM.out⟩⟩, HB, BK4⟩
  case round =>
    clear HM HB BK4
    obtain ⟨x, rfl, HX, HB, BK4⟩ := hrel
    by_cases c : x < (l0.length : Int)
    · have c1 : decide (x < (l0.length : Int)) = true := decide_eq_true c
      obtain ⟨i, e1, e2, hm⟩ := HX.out
      clear HX
      obtain ⟨k1, rfl⟩ : ∃ k1, gk = k1 + 1 := ⟨gk - 1, by omega⟩
      obtain ⟨m, hmq⟩ : ∃ m, m = merged (l0.take i) := ⟨_, rfl⟩
      rw [← hmq] at hm
      have HM := Aside0.mk hm
      have E1 := Aside0.mk (And.intro e1 e2)
      have EM := Aside0.mk hmq
      have p1 : 0 ≤ (x : Int) := by omega
      obtain ⟨ad, ea, hx0, hx1, hx2⟩ := at_T33 HR0.out x p1 c
      cases ea
      replace hx0 := (HB.out.cell (World.block_lt_of_cell? w _ hx0)).trans hx0
      replace hx1 := (HB.out.cell (World.block_lt_of_cell? w _ hx1)).trans hx1
      replace hx2 := (HB.out.cell (World.block_lt_of_cell? w _ hx2)).trans hx2
      replace p1 := eq_true p1
      have q1 := eq_true c
      clear e1 e2 c hm hmq
      go_wp2_with (first | ((with_reducible refine gate_dst (N := 7) rfl ?_); refine box_event ?hg (N := 7) ?hd (cs := #[Value.int .i64 0, Value.string (⟨#[]⟩ : ByteArray), Value.int .i64 0]) (t := 33) ?hr ?_; (case hd => rfl); (case hg => rfl); (case hr => first | (go_simp; done) | (go_simp; rfl)); intro g7 hg w5 hbox hb; have n1_ := Aside0.mk (below_step (by repeat (first | (with_reducible first | exact HB.out | apply below_alloc | apply pw_below_drewN | apply below_drew1) | exact HB.out)) hb); have BK7 := Aside0.mk (hbox); have GE7 := Aside0.mk ((by rw [hg]; exact (below_size (by repeat (first | (with_reducible first | exact HB.out | apply below_alloc | apply pw_below_drewN | apply below_drew1) | exact HB.out))) : w.heap.size ≤ g7)); have n4_ := Aside0.mk (HM.out.below hb); have NE7 := Aside0.mk (show bm ≠ g7 ∧ g4 ≠ g7 from by have := HM.out.lt; have := blk_lt BK4.out; omega); have n5_ := Aside0.mk (blk_below BK4.out hb); clear HM BK4; have HM := n4_; have BK4 := n5_; clear n4_ n5_; clear HB; have HB := n1_; clear n1_; clear hb hbox hg; have hc7_0 : w5.cell? ⟨g7, 0, none⟩ = some (Value.int .i64 0) := (blk_cell BK7.out 0).trans rfl; have hf7_0 := blk_frozen BK7.out 0; have hc7_1 : w5.cell? ⟨g7, 1, none⟩ = some (Value.string (⟨#[]⟩ : ByteArray)) := (blk_cell BK7.out 1).trans rfl; have hf7_1 := blk_frozen BK7.out 1; have hc7_2 : w5.cell? ⟨g7, 2, none⟩ = some (Value.int .i64 0) := (blk_cell BK7.out 2).trans rfl; have hf7_2 := blk_frozen BK7.out 2) | (at_lookup; refine Mp.wp_look_vals (κ := ByteArray) (P := Try.prog) (kt := 9) (et := 33) (enc := Value.string) (b := bm) (g := encE) z33 rfl (.tmp 18) (.tmp 20) 61 rfl KS sinj Try.underlying61 (Try.zeroValue33 _) (((HM.out.set (p := ⟨g7, 0, none⟩) NE7.out.1 _).set (p := ⟨g7, 1, none⟩) NE7.out.1 _).set (p := ⟨g7, 2, none⟩) NE7.out.1 _) (rd_T33 l0 x).f1 (keyS _ (HKEY.out _ (rd33_mem l0 x i E1.out.1 (by have := E1.out; omega)))) rfl rfl ?_; unfold encE) | (go_at_call 27; refine (mg_calls _ _ _).mono ?_; rintro e w7 ⟨rfl, hd⟩; have hb := hd.below; have n1_ := Aside0.mk (Mp.At.below (((HM.out.set (p := ⟨g7, 0, none⟩) NE7.out.1 _).set (p := ⟨g7, 1, none⟩) NE7.out.1 _).set (p := ⟨g7, 2, none⟩) NE7.out.1 _) hb); have n2_ := Aside0.mk (blk_below (g := g7) (o := .cells #[.int .i64 (rd_T33 l0 x).f0, .string (rd_T33 l0 x).f1, .int .i64 (rd_T33 l0 x).f2] 33 (0, 0)) (by refine blk_put (cs := #[.int .i64 (rd_T33 l0 x).f0, .string (rd_T33 l0 x).f1, .int .i64 0]) ?_ 2 _ rfl; refine blk_put (cs := #[.int .i64 (rd_T33 l0 x).f0, .string (⟨#[]⟩ : ByteArray), .int .i64 0]) ?_ 1 _ rfl; refine blk_put (cs := #[.int .i64 0, .string (⟨#[]⟩ : ByteArray), .int .i64 0]) ?_ 0 _ rfl; exact BK7.out) hb); have n3_ := Aside0.mk (blk_below (g := g4) (o := .cells #[.int .i64 0, .slice none 0 0] 31 (0, 0)) ((Below.heap_setCell _ _ _ g4 NE7.out.2).trans ((Below.heap_setCell _ _ _ g4 NE7.out.2).trans ((Below.heap_setCell _ _ _ g4 NE7.out.2).trans BK4.out))) hb); have n4_ := Aside0.mk (below_step (show Below w.heap.size w _ from by repeat (first | exact HB.out | refine below_set ?_ GE7.out)) hb); clear HM HB BK4 hd hb; have HM := n1_; have BX := n2_; have BK4 := n3_; have HB := n4_; clear n1_ n2_ n3_ n4_; have hd_0 : w7.cell? ⟨g7, 0, none⟩ = some (.int .i64 (rd_T33 l0 x).f0) := (blk_cell BX.out 0).trans rfl; have hd_1 : w7.cell? ⟨g7, 1, none⟩ = some (.string (rd_T33 l0 x).f1) := (blk_cell BX.out 1).trans rfl; have hd_2 : w7.cell? ⟨g7, 2, none⟩ = some (.int .i64 (rd_T33 l0 x).f2) := (blk_cell BX.out 2).trans rfl; have he_0 := blk_frozen BX.out 0; have he_1 := blk_frozen BX.out 1; have he_2 := blk_frozen BX.out 2) | (at_mapUpdate; refine Mp.wp_store (κ := ByteArray) (P := Try.prog) (kt := 9) (et := 33) (enc := Value.string) (b := bm) rfl (.tmp 27) (.tmp 29) (.tmp 30) 61 rfl KS sinj Try.underlying61 (HM.out.set (p := ⟨g7, 2, none⟩) NE7.out.1 _) (rd_T33 l0 x).f1 (keyS _ (HKEY.out _ (rd33_mem l0 x i E1.out.1 (by have := E1.out; omega)))) (encE ⟨(rd_T33 l0 x).f0, (rd_T33 l0 x).f1, mg ((Mp.aget m (rd_T33 l0 x).f1).getD z33).f2 (rd_T33 l0 x).f2⟩) rfl rfl rfl ?_; intro w9 hm hg hs; have n1_ := Aside0.mk (show AtE w9 bm (merge1 m (rd_T33 l0 x)) from by rw [Mp.aset_vals] at hm; exact hm); have n2_ := Aside0.mk (Below.grown (show Below w.heap.size w _ from by repeat (first | exact HB.out | refine below_set ?_ GE7.out)) hg (by have := HB.out.size; first | exact this | (simp only [World.size_setCell]; exact this)) (fun k hk => by injection hk with hk; have := GM.out; omega)); have n3_ := Aside0.mk (blk_grown (g := g4) (o := .cells #[.int .i64 0, .slice none 0 0] 31 (0, 0)) ((Below.heap_setCell _ _ _ g4 NE7.out.2).trans BK4.out) hg (fun e => by injection e with e; have := GM.out; omega)); clear HM HB BK4; have HM := n1_; have HB := n2_; have BK4 := n3_; clear n1_ n2_ n3_ hm hg hs))
      go_roundg k1
      case measure => have := E1.out; omega
      case rel => exact ⟨wrap64 (x + 1), rfl, ⟨⟨i + 1, by have := E1.out; rw [w64_id' (by omega) (by have := HLEN.out; omega)]; omega, by have := E1.out; omega, by rw [take33' l0 i (by have := E1.out; omega), merged_snoc, ← E1.out.1, ← EM.out]; exact HM.out⟩⟩, HB, BK4⟩
    · have c1 : decide (x < (l0.length : Int)) = false := decide_eq_false c
      obtain ⟨i, e1, e2, hm⟩ := HX.out
      clear HX
      obtain rfl : i = l0.length := by omega
      rw [List.take_length] at hm
      have HM := Aside0.mk hm
      clear e1 e2 c hm
      have p2 : 0 ≤ wrap64 ((l0.length : Int) - 1) := by have := HLEN.out; rw [w64_id' (by omega) (by omega)]; omega
      have q2 : wrap64 ((l0.length : Int) - 1) < (l0.length : Int) := by have := HLEN.out; rw [w64_id' (by omega) (by omega)]; omega
      obtain ⟨ad, ea, hx0, hx1, hx2⟩ := at_T33 HR0.out _ p2 q2
      cases ea
      replace hx0 := (HB.out.cell (World.block_lt_of_cell? w _ hx0)).trans hx0
      have p3 := eq_true p2
      have q3 := eq_true q2
      clear hx1 hx2 p2 q2
      go_upto_region 9 with (((with_reducible refine gate_dst (N := 8) rfl ?_); refine box_event ?hg (N := 8) ?hd (cs := #[Value.int .i64 0, Value.slice none 0 0]) (t := 31) ?hr ?_; (case hd => rfl); (case hg => rfl); (case hr => first | (go_simp; done) | (go_simp; rfl)); intro g8 hg w11 hbox hb; have n1_ := Aside0.mk (below_step (by repeat (first | (with_reducible first | exact HB.out | apply below_alloc | apply pw_below_drewN | apply below_drew1) | exact HB.out)) hb); have BK8 := Aside0.mk (hbox); have GE8 := Aside0.mk ((by rw [hg]; exact (below_size (by repeat (first | (with_reducible first | exact HB.out | apply below_alloc | apply pw_below_drewN | apply below_drew1) | exact HB.out))) : w.heap.size ≤ g8)); have n4_ := Aside0.mk (HM.out.below hb); have n5_ := Aside0.mk (blk_below BK4.out hb); have NE8 := Aside0.mk (show bm ≠ g8 ∧ g4 ≠ g8 from by have := HM.out.lt; have := blk_lt BK4.out; omega); clear HM BK4; have HM := n4_; have BK4 := n5_; clear n4_ n5_; clear HB; have HB := n1_; clear n1_; clear hb hbox hg; have hc8_0 : w11.cell? ⟨g8, 0, none⟩ = some (Value.int .i64 0) := (blk_cell BK8.out 0).trans rfl; have hf8_0 := blk_frozen BK8.out 0; have hc8_1 : w11.cell? ⟨g8, 1, none⟩ = some (Value.slice none 0 0) := (blk_cell BK8.out 1).trans rfl; have hf8_1 := blk_frozen BK8.out 1))
      obtain ⟨tt, htt⟩ : ∃ tt, tt = wrap64 ((rd_T33 l0 (wrap64 ((l0.length : Int) - 1))).f0 + dl) := ⟨_, rfl⟩
      simp only [← htt]
      have HTT := Aside0.mk htt
      clear htt hx0 p3 q3
      have BY := Aside0.mk (show ((w11.setCell ⟨g8, 0, none⟩ (.int .i64 tt)).setCell ⟨g8, 1, none⟩ (.slice none 0 0)).heap[g8]? = some (.cells #[.int .i64 tt, .slice none 0 0] 31 (0, 0)) from by refine blk_put (cs := #[.int .i64 tt, .slice none 0 0]) ?_ 1 _ rfl; refine blk_put (cs := #[.int .i64 0, .slice none 0 0]) ?_ 0 _ rfl; exact BK8.out)
      have HM2 := Aside0.mk ((HM.out.set (p := ⟨g8, 0, none⟩) NE8.out.1 (.int .i64 tt)).set (p := ⟨g8, 1, none⟩) NE8.out.1 (.slice none 0 0))
      have BK42 := Aside0.mk ((Below.heap_setCell (w11.setCell ⟨g8, 0, none⟩ (.int .i64 tt)) ⟨g8, 1, none⟩ (.slice none 0 0) g4 NE8.out.2).trans ((Below.heap_setCell w11 ⟨g8, 0, none⟩ (.int .i64 tt) g4 NE8.out.2).trans BK4.out))
      have HB2 := Aside0.mk (show Below w.heap.size w ((w11.setCell ⟨g8, 0, none⟩ (.int .i64 tt)).setCell ⟨g8, 1, none⟩ (.slice none 0 0)) from by repeat (first | exact HB.out | refine below_set ?_ GE8.out))
      clear HM BK4 HB BK8 hc8_0 hc8_1 hf8_0 hf8_1
      generalize ((w11.setCell ⟨g8, 0, none⟩ (.int .i64 tt)).setCell ⟨g8, 1, none⟩ (.slice none 0 0)) = w12 at *
      obtain ⟨m, hmq⟩ : ∃ m, m = merged l0 := ⟨_, rfl⟩
      rw [← hmq] at HM2
      have EM := Aside0.mk hmq
      clear hmq
      have HLM := Aside0.mk (show m.length ≤ 2000000000 from by rw [EM.out]; have := merged_length l0; have := HLEN.out; omega)
      have HLS := Aside0.mk (show (Sk.sortedKeys m).length ≤ 2000000000 from by rw [keys_len]; exact HLM.out)
      have HKM := Aside0.mk (show ∀ p ∈ m, p.1.size ≤ maxLen from by rw [EM.out]; intro p hp; obtain ⟨e, he, hq⟩ := merged_key l0 p hp; rw [hq]; exact HKEY.out e he)
      go_upto_region 10 with (first | (go_at_call 28; refine (keys28 _ _).mono ?_; rintro e w7 ⟨rfl, rfl⟩) | (go_at_call 22; refine (sorted28 (base := w12.heap.size) HM2.out HLM.out (Nat.le_refl _)).mono ?_; rintro e w13 ⟨v, rfl, hR, hb⟩; have hb2 := ((Below.refl w12.heap.size w12).alloc (Nat.le_refl _) (.cells #[.map (some bm)] 61)).trans hb; have HV := Aside0.mk (Kd.R_mono (ok' := fun k => (k ≠ g8 ∧ k ≠ bm ∧ k ≠ g4)) (Kd.R_bound hR) (fun k hk => by have := blk_lt BY.out; have := HM2.out.lt; have := blk_lt BK42.out; omega)); have n1_ := Aside0.mk (HM2.out.below hb2); have n2_ := Aside0.mk (blk_below BY.out hb2); have n3_ := Aside0.mk (blk_below BK42.out hb2); have n4_ := Aside0.mk (below_step HB2.out hb2); clear HM2 BY BK42 HB2; have HM := n1_; have BY := n2_; have BK4 := n3_; have HB := n4_; clear n1_ n2_ n3_ n4_ hR hb hb2; obtain ⟨A4, c4, hv4⟩ := Kd.R_slice HV.out; subst hv4))
      go_loopg [46] (Sk.sortedKeys m).length (fun kq v46 w' => ∃ (x : Int) (v : Value) (st : List S33), v46 = .int .i64 x ∧ Aside0 (∃ i : Nat, x = i ∧ i + kq = (Sk.sortedKeys m).length ∧ st = outK m ((Sk.sortedKeys m).take i)) ∧ Aside0 (w'.heap[g8]? = some (.cells #[.int .i64 tt, v] 31 (0, 0))) ∧ Aside0 (Kd.R k33 33 w' w.heap.size (fun k => (k ≠ g8 ∧ k ≠ bm ∧ k ≠ g4) ∧ some k ≠ (Value.slice A4 (Sk.sortedKeys m).length c4).ownBlock) v st) ∧ Aside0 (Kd.string.R 9 w' w12.heap.size (fun k => k ≠ g8 ∧ k ≠ bm ∧ k ≠ g4) (.slice A4 (Sk.sortedKeys m).length c4) (Sk.sortedKeys m)) ∧ Aside0 (AtE w' bm m) ∧ Aside0 (w'.heap[g4]? = some (.cells #[.int .i64 0, .slice none 0 0] 31 (0, 0))) ∧ Aside0 (Below w.heap.size w w'))
      case atStart => exact ⟨0, .slice none 0 0, [], rfl, ⟨⟨0, rfl, by omega, rfl⟩⟩, BY, ⟨Kd.R_nil _ _ _ _ _⟩, HV, HM, BK4, HB⟩
      case round =>
        clear HM HB BK4 BY HV c1
        obtain ⟨x, v, st, rfl, HX, BY, HO, HV, HM, BK4, HB⟩ := hrel
        by_cases c : x < ((Sk.sortedKeys m).length : Int)
        · have c1 : decide (x < ((Sk.sortedKeys m).length : Int)) = true := decide_eq_true c
          obtain ⟨i, e1, e2, e3⟩ := HX.out
          clear HX
          obtain ⟨k1, rfl⟩ : ∃ k1, gk = k1 + 1 := ⟨gk - 1, by omega⟩
          have E1 := Aside0.mk (And.intro e1 e2)
          have E3 := Aside0.mk e3
          have p1 : 0 ≤ (x : Int) := by omega
          obtain ⟨A5, c5, hv5, _, hr5⟩ := Kd.R_reads HV.out
          cases hv5
          obtain ⟨ad2, ea, hx0⟩ := Kd.at_string hr5 x p1 c
          cases ea
          clear hr5
          obtain ⟨ky, hky⟩ : ∃ ky, ky = rdOf ByteArray.empty (Sk.sortedKeys m) x := ⟨_, rfl⟩
          rw [← hky] at hx0
          have KY := Aside0.mk hky
          have KM := Aside0.mk (show ky.size ≤ maxLen from by rw [hky]; exact keys_small HKM.out _ (rds_mem _ x i e1 (by omega)))
          obtain ⟨ev, hev⟩ : ∃ ev, ev = (Mp.aget m ky).getD z33 := ⟨_, rfl⟩
          have EV := Aside0.mk hev
          replace p1 := eq_true p1
          have q1 := eq_true c
          have hb8_0 := (blk_cell BY.out 0).trans rfl
          have hb8_1 : wr.cell? ⟨g8, 1, none⟩ = some v := (blk_cell BY.out 1).trans rfl
          clear e1 e2 e3 c hky hev hb8_0
          cases hz : (ev.f2 != 0) with
          | false =>
            go_wp2_with (at_lookup; refine Mp.wp_look_vals (κ := ByteArray) (P := Try.prog) (kt := 9) (et := 33) (enc := Value.string) (b := bm) (g := encE) z33 rfl (.tmp 50) (.tmp 51) 61 rfl KS sinj Try.underlying61 (Try.zeroValue33 _) HM.out ky (keyS _ KM.out) rfl rfl ?_; rw [← EV.out]; unfold encE)
            go_roundg k1
            case measure => have := E1.out; omega
            case rel => exact ⟨wrap64 (x + 1), v, st, rfl, ⟨⟨i + 1, by have := E1.out; rw [w64_id' (by omega) (by have := HLS.out; omega)]; omega, by have := E1.out; omega, by rw [E3.out]; exact (outK_skip m (Sk.sortedKeys m) i (by have := E1.out; omega) (by rw [← E1.out.1, ← KY.out, ← EV.out]; exact hz)).symm⟩⟩, BY, HO, HV, HM, BK4, HB⟩
          | true =>
            have TK1 : True := trivial
            have TK2 : True := trivial
            have OL := Aside0.mk (show st.length ≤ 2000000000 from by rw [E3.out]; have := outK_len m (Sk.sortedKeys m) i; have := E1.out; have := HLS.out; omega)
            have AF := Aside0.mk (show ∀ k, wr.heap.size ≤ k → (k ≠ g8 ∧ k ≠ bm ∧ k ≠ g4) ∧ some k ≠ (Value.slice (some ad2) (Sk.sortedKeys m).length c4).ownBlock from fun k hk => ⟨by have := blk_lt BY.out; have := HM.out.lt; have := blk_lt BK4.out; omega, fun e => by have := ((Kd.R_bound HV.out).1 k e.symm).2.2.1; omega⟩)
            go_wp2_with (first | (at_lookup; have _t := TK1; refine Mp.wp_look_vals (κ := ByteArray) (P := Try.prog) (kt := 9) (et := 33) (enc := Value.string) (b := bm) (g := encE) z33 rfl (.tmp 50) (.tmp 51) 61 rfl KS sinj Try.underlying61 (Try.zeroValue33 _) HM.out ky (keyS _ KM.out) rfl rfl ?_; rw [← EV.out]; unfold encE; clear TK1) | (at_lookup; have _t := TK2; refine Mp.wp_look_vals (κ := ByteArray) (P := Try.prog) (kt := 9) (et := 33) (enc := Value.string) (b := bm) (g := encE) z33 rfl (.tmp 57) (.tmp 58) 61 rfl KS sinj Try.underlying61 (Try.zeroValue33 _) HM.out ky (keyS _ KM.out) rfl rfl ?_; rw [← EV.out]; unfold encE; clear TK2) | (at_builtin; refine Kd.R_append k33 (w0 := w) w.heap.size rfl (.tmp 56) (.tmp 60) 22 33 (.agg #[.int .i64 0, .string ⟨#[]⟩, .int .i64 0]) 32 rfl Try.underlying22 info33 rfl (by decide) (by omega) v st ev [.int .i64 ev.f0, .string ev.f1, .int .i64 ev.f2] (fun k => (k ≠ g8 ∧ k ≠ bm ∧ k ≠ g4) ∧ some k ≠ (Value.slice (some ad2) (Sk.sortedKeys m).length c4).ownBlock) (fun _ => False) rfl (by first | (go_simp; done) | (go_simp; rfl)) (k33_mkM _ _ _ ev) (fun _ hk => hk.elim) AF.out HO.out HB.out HB.out.size (by have := OL.out; omega) ?_; intro v1 w6 ho hb hg hat; have n1_ := Aside0.mk (Kd.R_mono (Kd.R_grown (Kd.R_tight rfl HV.out) hg (fun k hk e => (HO.out.1 k e.symm).2 hk)) (fun k hk => HV.out.1 k hk.symm)); have n2_ := Aside0.mk (HM.out.grown hg (fun e => (HO.out.1 _ e.symm).1.2.1 rfl)); have n3_ := Aside0.mk (blk_grown BY.out hg (fun e => (HO.out.1 _ e.symm).1.1 rfl)); have n4_ := Aside0.mk (blk_grown BK4.out hg (fun e => (HO.out.1 _ e.symm).1.2.2 rfl)); clear HV HM BY BK4 HB HO; have HV := n1_; have HM := n2_; have BY := n3_; have BK4 := n4_; have HB := Aside0.mk hb; obtain ⟨A7, c7, hv7⟩ := Kd.R_slice ho; subst hv7; rw [List.length_append, List.length_singleton] at ho; have HO := Aside0.mk ho; clear n1_ n2_ n3_ n4_ hb hg hat ho hb8_1; have hcy_1 : w6.cell? ⟨g8, 1, none⟩ = some v := (blk_cell BY.out 1).trans rfl; have hfy_1 := blk_frozen BY.out 1))
            go_roundg k1
            case measure => have := E1.out; omega
            case rel => exact ⟨wrap64 (x + 1), _, st ++ [ev], rfl, ⟨⟨i + 1, by have := E1.out; rw [w64_id' (by omega) (by have := HLS.out; omega)]; omega, by have := E1.out; omega, by rw [E3.out, outK_more m (Sk.sortedKeys m) i (by have := E1.out; omega) (by rw [← E1.out.1, ← KY.out, ← EV.out]; exact hz), ← E1.out.1, ← KY.out, ← EV.out]⟩⟩, ⟨blk_put (cs := #[.int .i64 tt, v]) BY.out 1 _ rfl⟩, ⟨Kd.R_far (p := ⟨g8, 1, none⟩) HO.out (fun k hk => hk.1.1) _⟩, ⟨Kd.R_far (p := ⟨g8, 1, none⟩) HV.out (fun k hk => hk.1) _⟩, ⟨HM.out.set (p := ⟨g8, 1, none⟩) NE8.out.1 _⟩, ⟨(Below.heap_setCell _ _ _ g4 NE8.out.2).trans BK4.out⟩, ⟨by repeat (first | exact HB.out | refine below_set ?_ GE8.out)⟩⟩
        · have c1 : decide (x < ((Sk.sortedKeys m).length : Int)) = false := decide_eq_false c
          obtain ⟨i, e1, e2, e3⟩ := HX.out
          clear HX
          obtain rfl : i = (Sk.sortedKeys m).length := by omega
          rw [List.take_length] at e3
          have E3 := Aside0.mk e3
          have hb8_0 : wr.cell? ⟨g8, 0, none⟩ = some (.int .i64 tt) := (blk_cell BY.out 0).trans rfl
          have hb8_1 : wr.cell? ⟨g8, 1, none⟩ = some v := (blk_cell BY.out 1).trans rfl
          have hc4_0 : wr.cell? ⟨g4, 0, none⟩ = some (.int .i64 0) := (blk_cell BK4.out 0).trans rfl
          have hc4_1 : wr.cell? ⟨g4, 1, none⟩ = some (.slice none 0 0) := (blk_cell BK4.out 1).trans rfl
          have hf4_0 := blk_frozen BK4.out 0
          have hf4_1 := blk_frozen BK4.out 1
          obtain ⟨A6, c6, hv6⟩ := Kd.R_slice HO.out
          subst hv6
          clear e1 e2 e3 c
          go_wp2
          refine bodyPost_ret (results_cell_row rfl _ _ g4 31 #[.int .i64 tt, .slice A6 st.length c6] (0, 0) _ rfl (blk_put (cs := #[.int .i64 tt, .slice none 0 0]) (blk_put (cs := #[.int .i64 0, .slice none 0 0]) BK4.out 0 _ rfl) 1 _ rfl) Try.underlying31 rfl (by kernel_rfl)) rfl ?_
          exact ⟨_, by rw [← HTT.out], by rw [← EM.out, ← E3.out]; exact Kd.R_mono (Kd.R_far (p := ⟨g4, 1, none⟩) (Kd.R_far (p := ⟨g4, 0, none⟩) HO.out (fun k hk => hk.1.2.2) _) (fun k hk => hk.1.2.2) _) (fun _ _ => trivial), by repeat (first | exact HB.out | refine below_set ?_ GE4.out)⟩
def filewatch_newBatch.f (l0 : List (S33)) (a1 : Int) : Option (Int × (List (S33))) := if 0 < l0.length ∧ l0.length < 1000000000 ∧ (l0.all fun e => decide (e.f1.size ≤ 9223372036854775807)) = true then some (wrap64 ((rd_T33 l0 (wrap64 ((l0.length : Int) - 1))).f0 + a1), outK (merged l0) (Sk.sortedKeys (merged l0))) else none
theorem filewatch_newBatch.calls (A0 : Option Addr) (c0 : Nat) (l0 : List (S33)) (a1 : Int) (r1 : Int) (r2 : List (S33)) (w : World) (hr0 : Kd.C k33 w A0 l0.length l0) (hc0 : l0.length ≤ c0) (h : filewatch_newBatch.f l0 a1 = some (r1, r2)) :
    Calls Try.prog 20 #[.slice A0 l0.length c0, .int .i64 a1] w fun e w' => ∃ v1_ : Value, e = .returned (.agg #[.int .i64 r1, v1_]) ∧ Kd.R k33 33 w' w.heap.size (fun _ => True) v1_ r2 ∧ Below w.heap.size w w' := by
  unfold filewatch_newBatch.f at h
  split at h
  · rename_i hc
    simp only [Option.some.injEq, Prod.mk.injEq] at h
    obtain ⟨rfl, rfl⟩ := h
    exact newBatch_calls A0 c0 l0 a1 w hr0 hc0 hc.1 hc.2.1 (fun x hx => of_decide_eq_true (List.all_eq_true.1 hc.2.2 x hx))
  · cases h
end Go.Proofs.Ytgigbllohagfmaa.Fi
