/- framing.Next at a frame and at a proper beginning of one. -/
import Derived.Test.YtagmdkmgagfmhaaDoorFrhHd
import Derived.Deep.QuietTactic
import Derived.BigQuiet
import Derived.Deep.LoopGhost
namespace Go.Proofs.YtagmdkmgagfmhaaDoor.Fr
open Go.RowKit Go.Sort Go.Shelf Go.Lib Go.Proofs.YtagmdkmgagfmhaaDoorW.PrintWords Go.Proofs.YtagmdkmgagfmhaaDoorW.PrintLast Go.Proofs.YtagmdkmgagfmhaaDoorW.PrintMore
open Go.Proofs.YtagmdkmgagfmhaaDoor
set_option linter.unusedVariables false
set_option linter.unusedSimpArgs false

/-- The call of strings.Index at the rest of s from place o on. -/
theorem index_rest (s : ByteArray) (o : Nat) (hs : s.size ≤ 1000000) (x : Int) (hx : index ((bl s).drop o) crlf = x) (w : World) (h : Vs w) :
    Calls Tryd.prog 16 #[.string (s.extract o s.size), .string ⟨#[13, 10]⟩] w fun e w' => e = .returned (.int .i64 x) ∧ Below w.heap.size w w' := by
  have hb : bl (s.extract o s.size) = (bl s).drop o := by
    unfold bl
    rw [Lib.extract_data, List.take_of_length_le]
    rw [List.length_drop, ← Lib.size_eq]; exact Nat.le_refl _
  have hz : (s.extract o s.size).size ≤ 1000000 := by rw [size_bl, hb, List.length_drop, ← size_bl]; omega
  refine (index16 (s.extract o s.size) ⟨#[13, 10]⟩ hz w h).mono fun e w' he => ?_
  rw [hb] at he
  rw [← hx]
  exact he
theorem take_ext (s : ByteArray) (l : Nat) : s.extract 0 l = ofL ((bl s).take l) := by
  refine bl_inj ?_
  rw [bl_ofL]
  unfold bl
  rw [Lib.extract_data]
  simp

set_option maxHeartbeats 1000000 in
set_option maxRecDepth 100000 in
theorem next_first (s : ByteArray) (hx : index (bl s) crlf = -1) (hs : s.size ≤ 22) (w : World) (hV : Vs w) :
    Calls Tryd.prog 10 #[.string s] w fun e w' => e = .returned (.tuple #[.string ⟨#[]⟩, .int .i64 0, .int .i64 0]) ∧ Below w.heap.size w w' := by
  have IX : ∀ w' : World, Vs w' → Calls Tryd.prog 16 #[.string s, .string ⟨#[13, 10]⟩] w' fun e w'' => e = .returned (.int .i64 (-1)) ∧ Below w'.heap.size w' w'' := by
    intro w' h'
    refine (index16 s ⟨#[13, 10]⟩ (by omega) w' h').mono fun e w'' he => ?_
    rw [← hx]
    exact he
  have e1 : decide ((s.size : Int) ≥ 500) = false := decide_eq_false (by omega)
  have e2 : decide ((500 : Int) ≤ (s.size : Int)) = false := decide_eq_false (by omega)
  have hu46 := Tryd.underlying46
  have HB := Aside0.mk (Below.refl w.heap.size w)
  have HV := Aside0.mk hV
  have IX1 := Aside0.mk IX
  clear hx hs hV IX
  go_enter Tryd.func10, Tryd.ntmps10
  go_wp2_with (((with_reducible refine gate_dst (N := 10) rfl ?_); refine box_event ?hg (N := 10) ?hd (cs := #[.int .i64 (-1)]) (t := 46) ?hr ?_; (case hd => rfl); (case hg => rfl); (case hr => first | (go_simp; done) | (go_simp; rfl)); intro g10 hg w10 hbox hb; have BK := Aside0.mk hbox; have GE := Aside0.mk (show w.heap.size ≤ g10 from by rw [hg]; exact HB.out.size); have n1_ := Aside0.mk (below_step HB.out hb); clear HB; have HB := n1_; clear n1_; clear hbox hb hg))
  go_loopg [6] 0 (fun gq s6 wx => s6 = .int .i64 0 ∧ Below w.heap.size w wx)
  case atStart => exact ⟨rfl, HB.out⟩
  case round =>
    obtain ⟨rfl, hbx⟩ := hrel
    clear HB
    have HB := Aside0.mk hbx
    clear hbx
    go_wp2_with (go_at_call 16; (refine (IX1.out _ (HV.out.below HB.out)).mono ?_; rintro e_ w1 ⟨rfl, hb⟩; have n1_ := Aside0.mk (below_step HB.out hb); clear HB hb; have HB := n1_; clear n1_))
    go_ret3
    exact ⟨rfl, HB.out⟩

set_option maxHeartbeats 2000000 in
set_option maxRecDepth 100000 in
theorem next_second (s : ByteArray) (hs : s.size ≤ 1000000) (n l o : Nat) (hn : n ≤ 4000) (hl : l ≤ 20) (hl0 : 0 < l) (ho : o = l + 2) (hos : o ≤ s.size) (hx1 : index (bl s) crlf = (l : Int)) (hline_ : (bl s).take l = hline n) (hx2 : index ((bl s).drop o) crlf = -1) (hs2 : s.size ≤ 30) (w : World) (hV : Vs w) :
    Calls Tryd.prog 10 #[.string s] w fun e w' => e = .returned (.tuple #[.string ⟨#[]⟩, .int .i64 0, .int .i64 0]) ∧ Below w.heap.size w w' := by
  have IXa : ∀ w' : World, Vs w' → Calls Tryd.prog 16 #[.string s, .string ⟨#[13, 10]⟩] w' fun e w'' => e = .returned (.int .i64 (l : Int)) ∧ Below w'.heap.size w' w'' := by
    intro w' h'
    refine (index16 s ⟨#[13, 10]⟩ (by omega) w' h').mono fun e w'' he => ?_
    rw [← hx1]
    exact he
  have IXb := index_rest s o hs (-1) hx2
  have FDa : ∀ (g : Nat) (w' : World), Vs w' → w'.heap[g]? = some (.cells #[.int .i64 (-1)] 46 (0, 0)) → Calls Tryd.prog 17 #[.pointer (some ⟨g, 0, none⟩), .string (s.extract 0 l)] w' fun e w'' => e = .returned (.bool true) ∧ w''.heap[g]? = some (.cells #[.int .i64 (n : Int)] 46 (0, 0)) ∧ Below g w' w'' := by
    intro g w' h1 h2
    rw [take_ext, hline_]
    exact field17 n hn g w' h1 h2
  have HLsz : (s.extract 0 l).size = l := by rw [ByteArray.size_extract]; omega
  have e0 : (s.extract 0 l).toList.isEmpty = false := ne_empty (by omega)
  have e1 : decide ((s.size : Int) ≥ 500) = decide (500 ≤ s.size) := by congr 1; exact propext ⟨fun h => by omega, fun h => by omega⟩
  have e3 : decide ((l : Int) < 0) = false := decide_eq_false (by omega)
  have e6 : decide ((l : Int) + 2 > 500) = false := decide_eq_false (by omega)
  have e6b : decide ((500 : Int) < (l : Int) + 2) = false := decide_eq_false (by omega)
  have b5 : o ≤ 22 := by omega
  have c1 : l ≤ s.size := by omega
  have e7 : decide (500 ≤ s.size) = false := decide_eq_false (by omega)
  have hu46 := Tryd.underlying46
  have HB := Aside0.mk (Below.refl w.heap.size w)
  have HV := Aside0.mk hV
  have IX1 := Aside0.mk IXa
  have IX2 := Aside0.mk IXb
  have FD1 := Aside0.mk FDa
  have HO := Aside0.mk ho
  clear hx1 hx2 hV IXa IXb FDa hl0 ho hline_ HLsz
  go_enter Tryd.func10, Tryd.ntmps10
  go_wp2_with (((with_reducible refine gate_dst (N := 10) rfl ?_); refine box_event ?hg (N := 10) ?hd (cs := #[.int .i64 (-1)]) (t := 46) ?hr ?_; (case hd => rfl); (case hg => rfl); (case hr => first | (go_simp; done) | (go_simp; rfl)); intro g10 hg w10 hbox hb; have BK := Aside0.mk hbox; have GE := Aside0.mk (show w.heap.size ≤ g10 from by rw [hg]; exact HB.out.size); have n1_ := Aside0.mk (below_step HB.out hb); clear HB; have HB := n1_; clear n1_; clear hbox hb hg))
  go_loopg [6] 1 (fun gq s6 wx => ((gq = 1 ∧ s6 = .int .i64 0 ∧ wx.heap[g10]? = some (.cells #[.int .i64 (-1)] 46 (0, 0))) ∨ (gq = 0 ∧ s6 = .int .i64 (o : Int) ∧ wx.heap[g10]? = some (.cells #[.int .i64 (n : Int)] 46 (0, 0)))) ∧ Below w.heap.size w wx)
  case atStart => exact ⟨.inl ⟨rfl, rfl, BK.out⟩, HB.out⟩
  case round =>
    obtain ⟨hcase, hbx⟩ := hrel
    clear HB BK
    have HB := Aside0.mk hbx
    clear hbx
    rcases hcase with ⟨rfl, rfl, hbk⟩ | ⟨rfl, rfl, hbk⟩
    · have BK := Aside0.mk hbk
      have c0 : wr.cell? ⟨g10, 0, none⟩ = some (.int .i64 (-1)) := (blk_cell hbk 0).trans rfl
      have f0 := blk_frozen hbk 0
      clear hbk
      go_wp2_with (first
        | (go_at_call 16; refine (IX1.out _ (HV.out.below HB.out)).mono ?_; rintro e_ w1 ⟨rfl, hb⟩; have n1_ := Aside0.mk (below_step HB.out hb); have n2_ := Aside0.mk (blk_below BK.out hb); clear HB BK hb c0 f0; have HB := n1_; have BK := n2_; clear n1_ n2_; have c0 : w1.cell? ⟨g10, 0, none⟩ = some (.int .i64 (-1)) := (blk_cell BK.out 0).trans rfl; have f0 := blk_frozen BK.out 0)
        | (go_at_call 17; refine (FD1.out _ _ (HV.out.below HB.out) BK.out).mono ?_; rintro e_ w2 ⟨rfl, hk, hb⟩; have n1_ := Aside0.mk (HB.out.trans (hb.mono GE.out)); have n2_ := Aside0.mk hk; clear HB BK hb hk c0 f0; have HB := n1_; have BK := n2_; clear n1_ n2_; have c0 : w2.cell? ⟨g10, 0, none⟩ = some (.int .i64 (n : Int)) := (blk_cell BK.out 0).trans rfl; have f0 := blk_frozen BK.out 0))
      go_roundg 0
      case measure => exact Nat.lt_succ_self 0
      case rel => exact ⟨.inr ⟨rfl, congrArg (Value.int .i64) (by have := HO.out; omega), BK.out⟩, HB.out⟩
    · have BK := Aside0.mk hbk
      have c0 : wr.cell? ⟨g10, 0, none⟩ = some (.int .i64 (n : Int)) := (blk_cell hbk 0).trans rfl
      have f0 := blk_frozen hbk 0
      clear hbk
      go_wp2_with ((go_at_call 16; refine (IX2.out _ (HV.out.below HB.out)).mono ?_; rintro e_ w1 ⟨rfl, hb⟩; have n1_ := Aside0.mk (below_step HB.out hb); have n2_ := Aside0.mk (blk_below BK.out hb); clear HB BK hb c0 f0; have HB := n1_; have BK := n2_; clear n1_ n2_; have c0 : w1.cell? ⟨g10, 0, none⟩ = some (.int .i64 (n : Int)) := (blk_cell BK.out 0).trans rfl; have f0 := blk_frozen BK.out 0))
      go_ret3
      exact ⟨rfl, HB.out⟩

set_option maxHeartbeats 2000000 in
set_option maxRecDepth 100000 in
theorem next_third (s : ByteArray) (hs : s.size ≤ 1000000) (n l o : Nat) (hn : n ≤ 4000) (hl : l ≤ 20) (hl0 : 0 < l) (ho : o = l + 2) (hos : o ≤ s.size) (hx1 : index (bl s) crlf = (l : Int)) (hline_ : (bl s).take l = hline n) (hx2 : index ((bl s).drop o) crlf = 0) (hp : o + 2 ≤ s.size) (hq : s.size < o + 2 + n) (w : World) (hV : Vs w) :
    Calls Tryd.prog 10 #[.string s] w fun e w' => e = .returned (.tuple #[.string ⟨#[]⟩, .int .i64 0, .int .i64 0]) ∧ Below w.heap.size w w' := by
  have IXa : ∀ w' : World, Vs w' → Calls Tryd.prog 16 #[.string s, .string ⟨#[13, 10]⟩] w' fun e w'' => e = .returned (.int .i64 (l : Int)) ∧ Below w'.heap.size w' w'' := by
    intro w' h'
    refine (index16 s ⟨#[13, 10]⟩ (by omega) w' h').mono fun e w'' he => ?_
    rw [← hx1]
    exact he
  have IXb := index_rest s o hs 0 hx2
  have FDa : ∀ (g : Nat) (w' : World), Vs w' → w'.heap[g]? = some (.cells #[.int .i64 (-1)] 46 (0, 0)) → Calls Tryd.prog 17 #[.pointer (some ⟨g, 0, none⟩), .string (s.extract 0 l)] w' fun e w'' => e = .returned (.bool true) ∧ w''.heap[g]? = some (.cells #[.int .i64 (n : Int)] 46 (0, 0)) ∧ Below g w' w'' := by
    intro g w' h1 h2
    rw [take_ext, hline_]
    exact field17 n hn g w' h1 h2
  have HLsz : (s.extract 0 l).size = l := by rw [ByteArray.size_extract]; omega
  have e0 : (s.extract 0 l).toList.isEmpty = false := ne_empty (by omega)
  have e1 : decide ((s.size : Int) ≥ 500) = decide (500 ≤ s.size) := by congr 1; exact propext ⟨fun h => by omega, fun h => by omega⟩
  have e3 : decide ((l : Int) < 0) = false := decide_eq_false (by omega)
  have e6 : decide ((l : Int) + 2 > 500) = false := decide_eq_false (by omega)
  have e6b : decide ((500 : Int) < (l : Int) + 2) = false := decide_eq_false (by omega)
  have b5 : o ≤ 22 := by omega
  have c1 : l ≤ s.size := by omega
  have e2 : (s.extract o o).toList.isEmpty = true := is_empty (by rw [ByteArray.size_extract]; omega)
  have e8 : decide ((n : Int) < 0) = false := decide_eq_false (by omega)
  have e9 : decide ((o : Int) + 2 > 500) = false := decide_eq_false (by omega)
  have e9b : decide ((500 : Int) < (o : Int) + 2) = false := decide_eq_false (by omega)
  have e10 : decide ((s.size : Int) - ((o : Int) + 2) < (n : Int)) = true := decide_eq_true (by omega)
  clear hq
  have hu46 := Tryd.underlying46
  have HB := Aside0.mk (Below.refl w.heap.size w)
  have HV := Aside0.mk hV
  have IX1 := Aside0.mk IXa
  have IX2 := Aside0.mk IXb
  have FD1 := Aside0.mk FDa
  have HO := Aside0.mk ho
  clear hx1 hx2 hV IXa IXb FDa hl0 ho hline_ HLsz
  go_enter Tryd.func10, Tryd.ntmps10
  go_wp2_with (((with_reducible refine gate_dst (N := 10) rfl ?_); refine box_event ?hg (N := 10) ?hd (cs := #[.int .i64 (-1)]) (t := 46) ?hr ?_; (case hd => rfl); (case hg => rfl); (case hr => first | (go_simp; done) | (go_simp; rfl)); intro g10 hg w10 hbox hb; have BK := Aside0.mk hbox; have GE := Aside0.mk (show w.heap.size ≤ g10 from by rw [hg]; exact HB.out.size); have n1_ := Aside0.mk (below_step HB.out hb); clear HB; have HB := n1_; clear n1_; clear hbox hb hg))
  go_loopg [6] 1 (fun gq s6 wx => ((gq = 1 ∧ s6 = .int .i64 0 ∧ wx.heap[g10]? = some (.cells #[.int .i64 (-1)] 46 (0, 0))) ∨ (gq = 0 ∧ s6 = .int .i64 (o : Int) ∧ wx.heap[g10]? = some (.cells #[.int .i64 (n : Int)] 46 (0, 0)))) ∧ Below w.heap.size w wx)
  case atStart => exact ⟨.inl ⟨rfl, rfl, BK.out⟩, HB.out⟩
  case round =>
    obtain ⟨hcase, hbx⟩ := hrel
    clear HB BK
    have HB := Aside0.mk hbx
    clear hbx
    rcases hcase with ⟨rfl, rfl, hbk⟩ | ⟨rfl, rfl, hbk⟩
    · have BK := Aside0.mk hbk
      have c0 : wr.cell? ⟨g10, 0, none⟩ = some (.int .i64 (-1)) := (blk_cell hbk 0).trans rfl
      have f0 := blk_frozen hbk 0
      clear hbk
      go_wp2_with (first
        | (go_at_call 16; refine (IX1.out _ (HV.out.below HB.out)).mono ?_; rintro e_ w1 ⟨rfl, hb⟩; have n1_ := Aside0.mk (below_step HB.out hb); have n2_ := Aside0.mk (blk_below BK.out hb); clear HB BK hb c0 f0; have HB := n1_; have BK := n2_; clear n1_ n2_; have c0 : w1.cell? ⟨g10, 0, none⟩ = some (.int .i64 (-1)) := (blk_cell BK.out 0).trans rfl; have f0 := blk_frozen BK.out 0)
        | (go_at_call 17; refine (FD1.out _ _ (HV.out.below HB.out) BK.out).mono ?_; rintro e_ w2 ⟨rfl, hk, hb⟩; have n1_ := Aside0.mk (HB.out.trans (hb.mono GE.out)); have n2_ := Aside0.mk hk; clear HB BK hb hk c0 f0; have HB := n1_; have BK := n2_; clear n1_ n2_; have c0 : w2.cell? ⟨g10, 0, none⟩ = some (.int .i64 (n : Int)) := (blk_cell BK.out 0).trans rfl; have f0 := blk_frozen BK.out 0))
      go_roundg 0
      case measure => exact Nat.lt_succ_self 0
      case rel => exact ⟨.inr ⟨rfl, congrArg (Value.int .i64) (by have := HO.out; omega), BK.out⟩, HB.out⟩
    · have BK := Aside0.mk hbk
      have c0 : wr.cell? ⟨g10, 0, none⟩ = some (.int .i64 (n : Int)) := (blk_cell hbk 0).trans rfl
      have f0 := blk_frozen hbk 0
      clear hbk
      go_wp2_with ((go_at_call 16; refine (IX2.out _ (HV.out.below HB.out)).mono ?_; rintro e_ w1 ⟨rfl, hb⟩; have n1_ := Aside0.mk (below_step HB.out hb); have n2_ := Aside0.mk (blk_below BK.out hb); clear HB BK hb c0 f0; have HB := n1_; have BK := n2_; clear n1_ n2_; have c0 : w1.cell? ⟨g10, 0, none⟩ = some (.int .i64 (n : Int)) := (blk_cell BK.out 0).trans rfl; have f0 := blk_frozen BK.out 0))
      go_ret3
      exact ⟨rfl, HB.out⟩

set_option maxHeartbeats 2000000 in
set_option maxRecDepth 100000 in
theorem next_whole (s : ByteArray) (hs : s.size ≤ 1000000) (n l o : Nat) (hn : n ≤ 4000) (hl : l ≤ 20) (hl0 : 0 < l) (ho : o = l + 2) (hos : o ≤ s.size) (hx1 : index (bl s) crlf = (l : Int)) (hline_ : (bl s).take l = hline n) (hx2 : index ((bl s).drop o) crlf = 0) (hp : o + 2 ≤ s.size) (hq : o + 2 + n ≤ s.size) (w : World) (hV : Vs w) :
    Calls Tryd.prog 10 #[.string s] w fun e w' => e = .returned (.tuple #[.string (s.extract (o + 2) (o + 2 + n)), .int .i64 ((o + 2 + n : Nat) : Int), .int .i64 0]) ∧ Below w.heap.size w w' := by
  have IXa : ∀ w' : World, Vs w' → Calls Tryd.prog 16 #[.string s, .string ⟨#[13, 10]⟩] w' fun e w'' => e = .returned (.int .i64 (l : Int)) ∧ Below w'.heap.size w' w'' := by
    intro w' h'
    refine (index16 s ⟨#[13, 10]⟩ (by omega) w' h').mono fun e w'' he => ?_
    rw [← hx1]
    exact he
  have IXb := index_rest s o hs 0 hx2
  have FDa : ∀ (g : Nat) (w' : World), Vs w' → w'.heap[g]? = some (.cells #[.int .i64 (-1)] 46 (0, 0)) → Calls Tryd.prog 17 #[.pointer (some ⟨g, 0, none⟩), .string (s.extract 0 l)] w' fun e w'' => e = .returned (.bool true) ∧ w''.heap[g]? = some (.cells #[.int .i64 (n : Int)] 46 (0, 0)) ∧ Below g w' w'' := by
    intro g w' h1 h2
    rw [take_ext, hline_]
    exact field17 n hn g w' h1 h2
  have HLsz : (s.extract 0 l).size = l := by rw [ByteArray.size_extract]; omega
  have e0 : (s.extract 0 l).toList.isEmpty = false := ne_empty (by omega)
  have e1 : decide ((s.size : Int) ≥ 500) = decide (500 ≤ s.size) := by congr 1; exact propext ⟨fun h => by omega, fun h => by omega⟩
  have e3 : decide ((l : Int) < 0) = false := decide_eq_false (by omega)
  have e6 : decide ((l : Int) + 2 > 500) = false := decide_eq_false (by omega)
  have e6b : decide ((500 : Int) < (l : Int) + 2) = false := decide_eq_false (by omega)
  have b5 : o ≤ 22 := by omega
  have c1 : l ≤ s.size := by omega
  have e2 : (s.extract o o).toList.isEmpty = true := is_empty (by rw [ByteArray.size_extract]; omega)
  have e8 : decide ((n : Int) < 0) = false := decide_eq_false (by omega)
  have e9 : decide ((o : Int) + 2 > 500) = false := decide_eq_false (by omega)
  have e9b : decide ((500 : Int) < (o : Int) + 2) = false := decide_eq_false (by omega)
  have e10 : decide ((s.size : Int) - ((o : Int) + 2) < (n : Int)) = false := decide_eq_false (by omega)
  have hu46 := Tryd.underlying46
  have HB := Aside0.mk (Below.refl w.heap.size w)
  have HV := Aside0.mk hV
  have IX1 := Aside0.mk IXa
  have IX2 := Aside0.mk IXb
  have FD1 := Aside0.mk FDa
  have HO := Aside0.mk ho
  clear hx1 hx2 hV IXa IXb FDa hl0 ho hline_ HLsz
  go_enter Tryd.func10, Tryd.ntmps10
  go_wp2_with (((with_reducible refine gate_dst (N := 10) rfl ?_); refine box_event ?hg (N := 10) ?hd (cs := #[.int .i64 (-1)]) (t := 46) ?hr ?_; (case hd => rfl); (case hg => rfl); (case hr => first | (go_simp; done) | (go_simp; rfl)); intro g10 hg w10 hbox hb; have BK := Aside0.mk hbox; have GE := Aside0.mk (show w.heap.size ≤ g10 from by rw [hg]; exact HB.out.size); have n1_ := Aside0.mk (below_step HB.out hb); clear HB; have HB := n1_; clear n1_; clear hbox hb hg))
  go_loopg [6] 1 (fun gq s6 wx => ((gq = 1 ∧ s6 = .int .i64 0 ∧ wx.heap[g10]? = some (.cells #[.int .i64 (-1)] 46 (0, 0))) ∨ (gq = 0 ∧ s6 = .int .i64 (o : Int) ∧ wx.heap[g10]? = some (.cells #[.int .i64 (n : Int)] 46 (0, 0)))) ∧ Below w.heap.size w wx)
  case atStart => exact ⟨.inl ⟨rfl, rfl, BK.out⟩, HB.out⟩
  case round =>
    obtain ⟨hcase, hbx⟩ := hrel
    clear HB BK
    have HB := Aside0.mk hbx
    clear hbx
    rcases hcase with ⟨rfl, rfl, hbk⟩ | ⟨rfl, rfl, hbk⟩
    · have BK := Aside0.mk hbk
      have c0 : wr.cell? ⟨g10, 0, none⟩ = some (.int .i64 (-1)) := (blk_cell hbk 0).trans rfl
      have f0 := blk_frozen hbk 0
      clear hbk
      go_wp2_with (first
        | (go_at_call 16; refine (IX1.out _ (HV.out.below HB.out)).mono ?_; rintro e_ w1 ⟨rfl, hb⟩; have n1_ := Aside0.mk (below_step HB.out hb); have n2_ := Aside0.mk (blk_below BK.out hb); clear HB BK hb c0 f0; have HB := n1_; have BK := n2_; clear n1_ n2_; have c0 : w1.cell? ⟨g10, 0, none⟩ = some (.int .i64 (-1)) := (blk_cell BK.out 0).trans rfl; have f0 := blk_frozen BK.out 0)
        | (go_at_call 17; refine (FD1.out _ _ (HV.out.below HB.out) BK.out).mono ?_; rintro e_ w2 ⟨rfl, hk, hb⟩; have n1_ := Aside0.mk (HB.out.trans (hb.mono GE.out)); have n2_ := Aside0.mk hk; clear HB BK hb hk c0 f0; have HB := n1_; have BK := n2_; clear n1_ n2_; have c0 : w2.cell? ⟨g10, 0, none⟩ = some (.int .i64 (n : Int)) := (blk_cell BK.out 0).trans rfl; have f0 := blk_frozen BK.out 0))
      go_roundg 0
      case measure => exact Nat.lt_succ_self 0
      case rel => exact ⟨.inr ⟨rfl, congrArg (Value.int .i64) (by have := HO.out; omega), BK.out⟩, HB.out⟩
    · have BK := Aside0.mk hbk
      have c0 : wr.cell? ⟨g10, 0, none⟩ = some (.int .i64 (n : Int)) := (blk_cell hbk 0).trans rfl
      have f0 := blk_frozen hbk 0
      clear hbk
      go_wp2_with ((go_at_call 16; refine (IX2.out _ (HV.out.below HB.out)).mono ?_; rintro e_ w1 ⟨rfl, hb⟩; have n1_ := Aside0.mk (below_step HB.out hb); have n2_ := Aside0.mk (blk_below BK.out hb); clear HB BK hb c0 f0; have HB := n1_; have BK := n2_; clear n1_ n2_; have c0 : w1.cell? ⟨g10, 0, none⟩ = some (.int .i64 (n : Int)) := (blk_cell BK.out 0).trans rfl; have f0 := blk_frozen BK.out 0))
      obtain ⟨p, hpo⟩ : ∃ p, p = o + 2 := ⟨_, rfl⟩
      obtain ⟨q, hqp⟩ : ∃ q, q = p + n := ⟨_, rfl⟩
      have e12 : (o : Int) + 2 = (p : Int) := by omega
      have e11 : (p : Int) + (n : Int) = (q : Int) := by omega
      have c2 : p ≤ q := by omega
      have c3 : q ≤ s.size := by omega
      have c4 : p ≤ s.size := by omega
      have HPQ := Aside0.mk (show o + 2 = p ∧ o + 2 + n = q from by omega)
      rw [e12]
      clear hpo hqp hq hp hos e9 e9b e10 e12 b5
      go_region
      go_wp2
      go_ret3
      exact ⟨by rw [HPQ.out.2, HPQ.out.1]; rfl, by first | exact HB.out | exact below_drew HB.out | exact pw_below_drewN HB.out _⟩
end Go.Proofs.YtagmdkmgagfmhaaDoor.Fr
