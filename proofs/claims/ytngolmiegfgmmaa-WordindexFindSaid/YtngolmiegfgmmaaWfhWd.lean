/- wordindex.Words: the sorted words of a text, each once, the first 400. Condition: a text below 1000000 bytes. -/
import Derived.Test.YtngolmiegfgmmaaWfx0
import Derived.Test.YtngolmiegfgmmaaWfhSl
import Derived.BigQuiet
import Derived.Lib.OwnBridge
import Derived.Sort.OwnSorted
import Derived.Laws.Cover1
namespace Go.Proofs.Ytngolmiegfgmmaa.Wf
open Go.RowKit Go.Sort Go.Proofs.YtngolmiegfgmmaaW.PrintWords Go.Proofs.YtngolmiegfgmmaaW.PrintLast Go.Proofs.YtngolmiegfgmmaaW.PrintMore
open Go.Proofs.Ytngolmiegfgmmaa
set_option linter.unusedVariables false
set_option linter.unusedSimpArgs false
/-! ### isWordByte0: function 15 -/
def isWordByte0.f (a0 : Int) : Option (Bool) := if a0 = 95 then (some true) else (if a0 ≥ 48 then (if a0 ≤ 57 then (some true) else (if (Go.bits .or .u8 a0 32) ≥ 97 then (some (decide ((Go.bits .or .u8 a0 32) ≤ 122))) else (some false))) else (if (Go.bits .or .u8 a0 32) ≥ 97 then (some (decide ((Go.bits .or .u8 a0 32) ≤ 122))) else (some false)))
set_option maxHeartbeats 8000000 in
set_option maxRecDepth 100000 in
theorem isWordByte0.calls (a0 : Int) (r : Bool) (w : World) (h : isWordByte0.f a0 = some r) :
    Calls Try.prog 15 #[.int .u8 a0] w fun e w' => e = .returned (.bool r) ∧ Drawn0 w w' := by
  have H : (if a0 = 95 then (some true) else (if a0 ≥ 48 then (if a0 ≤ 57 then (some true) else (if (Go.bits .or .u8 a0 32) ≥ 97 then (some (decide ((Go.bits .or .u8 a0 32) ≤ 122))) else (some false))) else (if (Go.bits .or .u8 a0 32) ≥ 97 then (some (decide ((Go.bits .or .u8 a0 32) ≤ 122))) else (some false)))) = some r := h
  clear h
  by_cases c2 : a0 = 95
  · rw [if_pos c2] at H
    have c2b0 : (a0 == 95) = true := beq_iff_eq.mpr c2
    have c2b1 : (a0 != 95) = false := bne_eq_false_iff_eq.mpr c2
    clear c2
    obtain rfl := Option.some.inj H
    go_enter Try.func15, Try.ntmps15
    go_wp2
    go_ret
    exact ⟨by first | rfl | (simp; done) | (simp [*]; done), by repeat (first | exact Drawn0.refl _ | apply Drawn0.step)⟩
  · rw [if_neg c2] at H
    have c2b0 : (a0 == 95) = false := beq_eq_false_iff_ne.mpr c2
    have c2b1 : (a0 != 95) = true := bne_iff_ne.mpr c2
    by_cases c3 : a0 ≥ 48
    · rw [if_pos c3] at H
      have c3b0 : decide (48 ≤ a0) = true := decide_eq_true c3
      clear c3
      by_cases c4 : a0 ≤ 57
      · rw [if_pos c4] at H
        have c4b0 : decide (a0 ≤ 57) = true := decide_eq_true c4
        clear c4
        obtain rfl := Option.some.inj H
        go_enter Try.func15, Try.ntmps15
        go_wp2
        go_ret
        exact ⟨by first | rfl | (simp; done) | (simp [*]; done), by repeat (first | exact Drawn0.refl _ | apply Drawn0.step)⟩
      · rw [if_neg c4] at H
        have c4b0 : decide (a0 ≤ 57) = false := decide_eq_false c4
        clear c4
        by_cases c5 : (Go.bits .or .u8 a0 32) ≥ 97
        · rw [if_pos c5] at H
          have c5b0 : decide (97 ≤ (Go.bits .or .u8 a0 32)) = true := decide_eq_true c5
          clear c5
          obtain rfl := Option.some.inj H
          go_enter Try.func15, Try.ntmps15
          go_wp2
          go_ret
          exact ⟨by first | rfl | (simp; done) | (simp [*]; done), by repeat (first | exact Drawn0.refl _ | apply Drawn0.step)⟩
        · rw [if_neg c5] at H
          have c5b0 : decide (97 ≤ (Go.bits .or .u8 a0 32)) = false := decide_eq_false c5
          clear c5
          obtain rfl := Option.some.inj H
          go_enter Try.func15, Try.ntmps15
          go_wp2
          go_ret
          exact ⟨by first | rfl | (simp; done) | (simp [*]; done), by repeat (first | exact Drawn0.refl _ | apply Drawn0.step)⟩
    · rw [if_neg c3] at H
      have c3b0 : decide (48 ≤ a0) = false := decide_eq_false c3
      clear c3
      by_cases c6 : (Go.bits .or .u8 a0 32) ≥ 97
      · rw [if_pos c6] at H
        have c6b0 : decide (97 ≤ (Go.bits .or .u8 a0 32)) = true := decide_eq_true c6
        clear c6
        obtain rfl := Option.some.inj H
        go_enter Try.func15, Try.ntmps15
        go_wp2
        go_ret
        exact ⟨by first | rfl | (simp; done) | (simp [*]; done), by repeat (first | exact Drawn0.refl _ | apply Drawn0.step)⟩
      · rw [if_neg c6] at H
        have c6b0 : decide (97 ≤ (Go.bits .or .u8 a0 32)) = false := decide_eq_false c6
        clear c6
        obtain rfl := Option.some.inj H
        go_enter Try.func15, Try.ntmps15
        go_wp2
        go_ret
        exact ⟨by first | rfl | (simp; done) | (simp [*]; done), by repeat (first | exact Drawn0.refl _ | apply Drawn0.step)⟩


theorem w64_id' {n : Int} (h : -9223372036854775808 ≤ n) (h' : n ≤ 9223372036854775807) : wrap64 n = n := by unfold wrap64; omega
def wbI (x : Int) : Bool := (isWordByte0.f x).getD false
theorem wbI_some (x : Int) : isWordByte0.f x = some (wbI x) := by
  unfold wbI isWordByte0.f
  repeat' split
  all_goals rfl
def wb (c : UInt8) : Bool := wbI (c.toNat : Int)
/-- the runs of word bytes -/
def tok : List UInt8 → List UInt8 → List (List UInt8)
  | cur, [] => if cur = [] then [] else [cur]
  | cur, c :: cs => if wb c = true then tok (cur ++ [c]) cs else if cur = [] then tok [] cs else cur :: tok [] cs
theorem tok_nil (cur : List UInt8) : tok cur [] = if cur = [] then [] else [cur] := rfl
theorem tok_cons (cur : List UInt8) (c : UInt8) (cs : List UInt8) : tok cur (c :: cs) = if wb c = true then tok (cur ++ [c]) cs else if cur = [] then tok [] cs else cur :: tok [] cs := rfl
def lb (s : ByteArray) : List UInt8 := s.data.toList
theorem lb_len (s : ByteArray) : (lb s).length = s.size := by unfold lb; rw [Array.length_toList]; rfl
theorem bt_nat (s : ByteArray) (i : Nat) (h : i < s.size) : ∃ c, (lb s).drop i = c :: (lb s).drop (i + 1) ∧ bt s (i : Int) = (c.toNat : Int) := by
  have hl : i < (lb s).length := by rw [lb_len]; exact h
  refine ⟨(lb s)[i], List.drop_eq_getElem_cons hl, ?_⟩
  unfold bt
  rw [dif_pos (by rw [Int.toNat_natCast]; exact h)]
  rfl
theorem lb_extract (s : ByteArray) (a b : Nat) (hb : b ≤ s.size) : lb (s.extract a b) = ((lb s).drop a).take (b - a) := by
  unfold lb
  rw [ByteArray.data_extract, Array.toList_extract]
/-- what is read so far, and what is to come -/
def cur (s : ByteArray) (st i : Nat) : List UInt8 := ((lb s).drop st).take (i - st)
theorem cur_snoc (s : ByteArray) (st i : Nat) (h1 : st ≤ i) (c : UInt8) (hc : (lb s).drop i = c :: (lb s).drop (i + 1)) : cur s st (i + 1) = cur s st i ++ [c] := by
  have hl : i < (lb s).length := by
    rcases Nat.lt_or_ge i (lb s).length with h | h
    · exact h
    · rw [List.drop_eq_nil_of_le h] at hc; cases hc
  have hg : (lb s)[i] = c := by
    rw [List.drop_eq_getElem_cons hl] at hc
    exact (List.cons.inj hc).1
  unfold cur
  rw [show i + 1 - st = (i - st) + 1 from by omega, List.take_add_one, List.getElem?_drop, show st + (i - st) = i from by omega, List.getElem?_eq_getElem hl, hg]
  rfl
theorem cur_nil (s : ByteArray) (st i : Nat) (h1 : st ≤ i) (h2 : i ≤ s.size) : cur s st i = [] ↔ i = st := by
  unfold cur
  constructor
  · intro h
    have := congrArg List.length h
    rw [List.length_take, List.length_drop, lb_len, List.length_nil] at this
    omega
  · intro h; subst h; rw [Nat.sub_self, List.take_zero]
/-- at the end of a run -/
theorem tok_end (s : ByteArray) (st i : Nat) (h1 : st ≤ i) (h2 : i ≤ s.size) (h3 : i < s.size → wbI (bt s (i : Int)) = false) : tok (cur s st i) ((lb s).drop i) = (if st < i then [cur s st i] else []) ++ tok [] ((lb s).drop (i + 1)) := by
  rcases Nat.lt_or_ge i s.size with h | h
  · obtain ⟨c, hc, hb⟩ := bt_nat s i h
    have hw : wb c = false := by have := h3 h; rw [hb] at this; exact this
    rw [hc, tok_cons, if_neg (by rw [hw]; simp)]
    by_cases he : st < i
    · rw [if_pos he, if_neg (by rw [cur_nil s st i h1 h2]; omega)]
      rfl
    · rw [if_neg he, if_pos (by rw [cur_nil s st i h1 h2]; omega)]
      rfl
  · rw [List.drop_eq_nil_of_le (by rw [lb_len]; exact h), List.drop_eq_nil_of_le (by rw [lb_len]; omega), tok_nil, tok_nil]
    by_cases he : st < i
    · rw [if_pos he, if_neg (by rw [cur_nil s st i h1 h2]; omega)]
      simp
    · rw [if_neg he, if_pos (by rw [cur_nil s st i h1 h2]; omega)]
      simp
def strs (l : List (List UInt8)) : List ByteArray := l.map fun x => ⟨x.toArray⟩
theorem strs_lb (l : List ByteArray) : strs (l.map lb) = l := by unfold strs; rw [List.map_map]; exact (List.map_congr_left (fun x _ => by cases x; simp [lb])).trans (List.map_id l)
theorem lb_strs (l : List (List UInt8)) : (strs l).map lb = l := by unfold strs; rw [List.map_map]; exact (List.map_congr_left (fun x _ => by simp [lb])).trans (List.map_id l)
def uniqL (l : List (List UInt8)) : List (List UInt8) := Lib.compact (l.mergeSort fun x y => decide (x ≤ y))
def wordsL (l : List UInt8) : List (List UInt8) := (uniqL (tok [] l)).take 400
def wordindex_Words.f (a0 : ByteArray) : Option (List ByteArray) := if a0.size < 1000000 then some (strs (wordsL (lb a0))) else none
theorem encs_strs (ts : List (List UInt8)) : encs Value.string (strs ts) = ts.map encStr := by unfold encs strs; rw [List.map_map]; rfl
theorem encs_lb (xs : List ByteArray) : (xs.map lb).map encStr = encs Value.string xs := Lib.map_encStr xs
theorem strs_len (ts : List (List UInt8)) : (strs ts).length = ts.length := List.length_map ..
/-- SORT: the row of the call's own -/
theorem sortS {W : World} {base : Nat} {v : Value} {xs : List ByteArray} (h : Kd.R Kd.string 9 W base (fun _ => True) v xs) (hl : xs.length < 1000000000) :
    Calls Try.prog 16 #[v] W fun e w' => e = .returned (.tuple #[]) ∧ Kd.R Kd.string 9 w' base (fun _ => True) v (strs ((xs.map lb).mergeSort fun x y => decide (x ≤ y))) ∧ W.grownBy w' v.ownBlock := by
  obtain ⟨A, c, hv⟩ := Kd.R_slice h
  have hown : W.ownsRow base 9 1 v xs.length (encs Value.string xs) := Kd.own_of_R h
  by_cases hne : v = .slice none 0 0
  · have hx : xs = [] := by
      rw [hne] at hv
      injection hv with _ h2 _
      exact List.eq_nil_of_length_eq_zero h2.symm
    subst hx
    have hcon := Any.slices_Sort_string_none Ytngolmiegfgmmaa.laysSort none 0 W
    change Calls Try.prog 16 _ _ _ at hcon
    rw [hne]
    refine hcon.mono ?_
    rintro e w' ⟨rfl, rfl⟩
    exact ⟨rfl, by rw [← hne]; simpa [strs] using h, ⟨rfl, rfl, rfl, Nat.le_refl _, fun _ _ _ => rfl⟩⟩
  · rw [← encs_lb] at hown
    obtain ⟨g, cap, rfl, hbg, hgl, hncap, hcm, hlen, hH⟩ := Lib.holds_of_ownsRow hown hne
    have hcon := Any.slices_Sort_string Ytngolmiegfgmmaa.laysSort g 0 cap (xs.map lb) W hH hgl (by rw [List.length_map]; omega)
    change Calls Try.prog 16 _ _ _ at hcon
    rw [List.length_map] at hcon
    refine hcon.mono ?_
    rintro e w' ⟨rfl, n, os, rfl⟩
    rcases hown.2 with ⟨h0, _⟩ | ⟨g', cap', cur, hv2, hbase, hb, h1, h2, h3, h4⟩
    · cases h0
    cases hv2
    have hs := ownsRow_sorted (n := n) (os := os) (ss := xs.map lb) (ts := (xs.map lb).mergeSort fun x y => decide (x ≤ y)) (List.length_mergeSort _) hbase hb (by rw [List.length_map]; exact h1) h2 h3
    rw [List.length_map, ← encs_strs] at hs
    refine ⟨rfl, Kd.R_of_own (by rw [strs_len, List.length_mergeSort, List.length_map]; exact hs) (fun _ _ => trivial), grownBy_sorted _⟩
/-- COMPACT: of a row of the call's own -/
theorem compactS {w W : World} {v : Value} {xs : List ByteArray} (h : Kd.R Kd.string 9 W w.heap.size (fun _ => True) v xs) (hb : Below w.heap.size w W) (hl : xs.length < 1000000000) :
    Calls Try.prog 17 #[v] W fun e w' => ∃ v', e = .returned v' ∧ Kd.R Kd.string 9 w' w.heap.size (fun _ => True) v' (strs (Lib.compact (xs.map lb))) ∧ Below w.heap.size w w' := by
  obtain ⟨A, c, hv⟩ := Kd.R_slice h
  have hown : W.ownsRow w.heap.size 9 1 v xs.length (encs Value.string xs) := Kd.own_of_R h
  by_cases hne : v = .slice none 0 0
  · have hx : xs = [] := by
      rw [hne] at hv
      injection hv with _ h2 _
      exact List.eq_nil_of_length_eq_zero h2.symm
    subst hx
    have hcon := Any.slices_Compact_string_empty Ytngolmiegfgmmaa.laysCompact none 0 W
    change Calls Try.prog 17 _ _ _ at hcon
    rw [hne]
    refine hcon.mono ?_
    rintro e w' ⟨rfl, rfl⟩
    exact ⟨_, rfl, Kd.R_nil _ _ _ _ _, hb⟩
  · rw [← encs_lb] at hown
    obtain ⟨g, cap, rfl, hbg, hgl, hncap, hcm, hlen, hH⟩ := Lib.holds_of_ownsRow hown hne
    have hcon := Any.slices_Compact_string Ytngolmiegfgmmaa.laysCompact g 0 cap (xs.map lb) W hH (by rw [List.length_map]; omega) (by rw [List.length_map]; exact hncap)
    change Calls Try.prog 17 _ _ _ at hcon
    rw [List.length_map] at hcon
    refine hcon.mono ?_
    rintro e w' ⟨rfl, q, rfl⟩
    have hle := Lib.compact_length_le (xs.map lb)
    rw [List.length_map] at hle
    have hc := Lib.ownsRow_putRow (q := q) (k := (Lib.compact (xs.map lb)).length) (ys := Lib.compact (xs.map lb) ++ List.replicate (xs.length - (Lib.compact (xs.map lb)).length) []) hown (by simp; omega) hle
    rw [List.take_left, ← encs_strs] at hc
    exact ⟨_, rfl, Kd.R_of_own (by rw [strs_len]; exact hc) (fun _ _ => trivial), Lib.below_putRow hb hbg⟩
attribute [local go_sem] max2_int min2_int max_two min_two max_three min_three max_four min_four
set_option maxHeartbeats 16000000 in
set_option maxRecDepth 100000 in
theorem wordindex_Words.calls (a0 : ByteArray) (r : List ByteArray) (w : World) (h : wordindex_Words.f a0 = some r) :
    Calls Try.prog 6 #[.string a0] w fun e w' => ∃ v0_ : Value, e = .returned (v0_) ∧ Kd.R Kd.string 9 w' w.heap.size (fun _ => True) v0_ r ∧ Below w.heap.size w w' := by
  obtain ⟨s, rfl⟩ : ∃ s, s = a0 := ⟨_, rfl⟩
  unfold wordindex_Words.f at h
  split at h
  case isFalse => cases h
  rename_i hs
  have HSM := Aside0.mk hs
  have hr := Option.some.inj h
  have HR := Aside0.mk hr
  clear h hs hr
  have HB := Aside0.mk (Below.refl w.heap.size w)
  have HU := Aside0.mk (show Kd.R Kd.string 9 w w.heap.size (fun _ => True) (.slice none 0 0) [] from Kd.R_nil _ _ _ _ _)
  go_enter Try.func6, Try.ntmps6
  go_wp2
  go_loopg [3, 4] (s.size + 1) (fun kq v3 v4 w' => ∃ i : Nat, v4 = .int .i64 (i : Int) ∧ Aside0 (∃ ws : List ByteArray, i + kq = s.size + 1 ∧ ws.length ≤ i ∧ ws.map lb ++ tok [] ((lb s).drop i) = tok [] (lb s) ∧ Kd.R Kd.string 9 w' w.heap.size (fun _ => True) v3 ws ∧ Below w.heap.size w w'))
  case atStart => exact ⟨0, rfl, ⟨[], by omega, Nat.le_refl _, by rw [List.drop_zero]; rfl, HU.out, HB.out⟩⟩
  case round =>
    clear HB HU
    obtain ⟨i0, rfl, HX⟩ := hrel
    obtain ⟨ws, x1, x2, x3, x4, x5⟩ := HX.out
    clear HX
    obtain ⟨Au, cu, rfl⟩ := Kd.R_slice x4
    by_cases c : i0 < s.size
    · have c1 : decide ((i0 : Int) < (s.size : Int)) = true := decide_eq_true (by omega)
      have c1b : decide (i0 < s.size) = true := decide_eq_true c
      obtain ⟨st, hst⟩ : ∃ st, st = i0 := ⟨_, rfl⟩
      have HST := Aside0.mk (show st < s.size ∧ st + gk = s.size + 1 from by omega)
      have HWL := Aside0.mk (show ws.length ≤ st ∧ st < s.size from by omega)
      have HT := Aside0.mk (show ws.map lb ++ tok [] ((lb s).drop st) = tok [] (lb s) from hst ▸ x3)
      have HU := Aside0.mk x4
      have HB := Aside0.mk x5
      subst hst
      clear x1 x2 x3 x4 x5 c
      go_wp2
      go_loopg [4] (s.size - st) (fun kq v4 w' => ∃ i : Nat, v4 = .int .i64 (i : Int) ∧ Aside0 (i + kq = s.size ∧ st ≤ i ∧ tok (cur s st i) ((lb s).drop i) = tok [] ((lb s).drop st)) ∧ Aside0 (Kd.R Kd.string 9 w' w.heap.size (fun _ => True) (.slice Au ws.length cu) ws) ∧ Aside0 (Below w.heap.size w w'))
      case atStart => exact ⟨st, rfl, ⟨by have h_ := HST.out; omega, Nat.le_refl _, by unfold cur; rw [Nat.sub_self, List.take_zero]⟩, HU, HB⟩
      case round =>
        clear HB HU
        obtain ⟨i, rfl, HX, HU, HB⟩ := hrel
        obtain ⟨y1, y2, y3⟩ := HX.out
        clear HX
        have HY := Aside0.mk (And.intro y1 y2)
        have HYT := Aside0.mk y3
        by_cases d : i < s.size
        · have d1 : decide ((i : Int) < (s.size : Int)) = true := decide_eq_true (by omega)
          have d1b : decide (i < s.size) = true := decide_eq_true d
          have p1 : 0 ≤ (i : Int) := by omega
          have p2 : (i : Int) < (s.size : Int) := by omega
          have hx := bt_at s (i : Int)
          rw [Int.toNat_natCast] at hx
          have HD := Aside0.mk d
          replace p1 := eq_true p1
          replace p2 := eq_true p2
          have p2b := eq_true d
          clear y1 y2 y3 d
          cases hw : wbI (bt s (i : Int)) with
          | true =>
            have hww : wrap64 ((i : Int) + 1) = (i : Int) + 1 := w64_id' (by omega) (by have h_ := HD.out; have h2_ := HSM.out; omega)
            have hwwb : IntKind.i64.wrap ((i : Int) + 1) = (i : Int) + 1 := (i64_w _).trans hww
            have HT2 := Aside0.mk (show tok (cur s st (i + 1)) ((lb s).drop (i + 1)) = tok [] ((lb s).drop st) from by
              obtain ⟨c, hc, hb⟩ := bt_nat s i HD.out
              have hwc : wb c = true := by rw [hb] at hw; exact hw
              rw [cur_snoc s st i HY.out.2 c hc, ← HYT.out, hc, tok_cons, if_pos hwc])
            go_wp2_with (go_at_call 15; refine (isWordByte0.calls (bt s (i : Int)) _ _ (wbI_some _)).mono ?_; rintro e_ w7 ⟨rfl, hd⟩; have n1_ := Aside0.mk (below_step HB.out hd.below); have n2_ := Aside0.mk (Kd.R_below HU.out hd.below); clear HB HU hd; have HB := n1_; have HU := n2_; clear n1_ n2_)
            go_roundg (gk - 1)
            case measure => have h_ := HY.out; have h2_ := HD.out; omega
            case rel => exact ⟨i + 1, by simp [hww, hwwb], ⟨by have h_ := HY.out; have h2_ := HD.out; omega, by have h_ := HY.out; omega, HT2.out⟩, HU, HB⟩
          | false =>
            have HTE := Aside0.mk (tok_end s st i HY.out.2 (Nat.le_of_lt HD.out) (fun _ => hw))
            by_cases he : st < i
            · have f1 : decide ((st : Int) < (i : Int)) = true := decide_eq_true (by omega)
              have f1b : decide (st < i) = true := decide_eq_true he
              have e1 := eq_true (show (st : Int) ≤ (i : Int) by omega)
              have e1b := eq_true (show st ≤ i by omega)
              have e2 := eq_true (show (i : Int) ≤ (s.size : Int) by have h_ := HY.out; omega)
              have e2b := eq_true (show i ≤ s.size by have h_ := HY.out; omega)
              have e3 := eq_true (show (0 : Int) ≤ (st : Int) by omega)
              have e4 := eq_true (show (0 : Int) ≤ (i : Int) by omega)
              have HIS := Aside0.mk (show i ≤ s.size from by have h_ := HY.out; omega)
              have hww : wrap64 ((i : Int) + 1) = (i : Int) + 1 := w64_id' (by omega) (by have h_ := HIS.out; have h2_ := HSM.out; omega)
              have hwwb : IntKind.i64.wrap ((i : Int) + 1) = (i : Int) + 1 := (i64_w _).trans hww
              have HN := Aside0.mk (show (ws ++ [s.extract st i]).map lb ++ tok [] ((lb s).drop (i + 1)) = tok [] (lb s) from by
                have h1_ := HTE.out
                rw [HYT.out, if_pos he] at h1_
                rw [← HT.out, h1_, List.map_append, List.append_assoc]
                congr 2
                show lb (s.extract st i) :: [] ++ _ = _
                rw [lb_extract s st i HIS.out]
                rfl)
              have HE := Aside0.mk he
              clear he
              go_wp2_with (first | (go_at_call 15; refine (isWordByte0.calls (bt s (i : Int)) _ _ (wbI_some _)).mono ?_; rintro e_ w7 ⟨rfl, hd⟩; have n1_ := Aside0.mk (below_step HB.out hd.below); have n2_ := Aside0.mk (Kd.R_below HU.out hd.below); clear HB HU hd; have HB := n1_; have HU := n2_; clear n1_ n2_) | (at_builtin; refine Kd.R_append Kd.string (w0 := w) w.heap.size rfl (.tmp 28) (.tmp 33) 23 9 (.string ByteArray.empty) 16 rfl Try.underlying23 info9 rfl (by decide) (by omega) (.slice Au ws.length cu) ws (s.extract st i) [.string (s.extract st i)] (fun _ => True) (fun _ => False) rfl (by first | (go_simp; done) | (go_simp; rfl)) rfl (fun _ hk => hk.elim) (fun _ _ => trivial) HU.out HB.out HB.out.size (by have h_ := HWL.out; have h2_ := HSM.out; omega) ?_; intro v1 w9 ho hb hg hat; obtain ⟨A9, n9, c9, rfl⟩ : ∃ A n c, v1 = .slice A n c := (by obtain ⟨A, c, e_⟩ := Kd.R_slice ho; exact ⟨A, _, c, e_⟩); have HU9 := Aside0.mk ho; have HB9 := Aside0.mk hb; clear ho hb hg hat))
              go_roundg (s.size + 1 - (i + 1))
              case measure => have h_ := HST.out; have h2_ := HE.out; omega
              case rel => exact ⟨i + 1, by simp [hww, hwwb], ⟨ws ++ [s.extract st i], by have h_ := HIS.out; omega, by rw [List.length_append]; simp only [List.length_cons, List.length_nil]; have h_ := HWL.out; have h2_ := HE.out; omega, HN.out, HU9.out, HB9.out⟩⟩
            · have f1 : decide ((st : Int) < (i : Int)) = false := decide_eq_false (by omega)
              have f1b : decide (st < i) = false := decide_eq_false he
              have HIS := Aside0.mk (show i ≤ s.size ∧ st = i from by have h_ := HY.out; omega)
              have hww : wrap64 ((i : Int) + 1) = (i : Int) + 1 := w64_id' (by omega) (by have h_ := HIS.out; have h2_ := HSM.out; omega)
              have hwwb : IntKind.i64.wrap ((i : Int) + 1) = (i : Int) + 1 := (i64_w _).trans hww
              have HN := Aside0.mk (show ws.map lb ++ tok [] ((lb s).drop (i + 1)) = tok [] (lb s) from by
                have h1_ := HTE.out
                rw [HYT.out, if_neg he] at h1_
                rw [← HT.out, h1_]
                rfl)
              clear he
              go_wp2_with (first | (go_at_call 15; refine (isWordByte0.calls (bt s (i : Int)) _ _ (wbI_some _)).mono ?_; rintro e_ w7 ⟨rfl, hd⟩; have n1_ := Aside0.mk (below_step HB.out hd.below); have n2_ := Aside0.mk (Kd.R_below HU.out hd.below); clear HB HU hd; have HB := n1_; have HU := n2_; clear n1_ n2_))
              go_roundg (s.size + 1 - (i + 1))
              case measure => have h_ := HST.out; have h2_ := HIS.out; omega
              case rel => exact ⟨i + 1, by simp [hww, hwwb], ⟨ws, by have h_ := HIS.out; omega, by have h_ := HWL.out; have h2_ := HIS.out; omega, HN.out, HU.out, HB.out⟩⟩
        · have d1 : decide ((i : Int) < (s.size : Int)) = false := decide_eq_false (by omega)
          have d1b : decide (i < s.size) = false := decide_eq_false d
          have HD := Aside0.mk (show i = s.size from by omega)
          have HTE := Aside0.mk (tok_end s st i HY.out.2 (by omega) (fun h => absurd h d))
          clear y1 y2 y3 d
          by_cases he : st < i
          · have f1 : decide ((st : Int) < (i : Int)) = true := decide_eq_true (by omega)
            have f1b : decide (st < i) = true := decide_eq_true he
            have e1 := eq_true (show (st : Int) ≤ (i : Int) by omega)
            have e1b := eq_true (show st ≤ i by omega)
            have e2 := eq_true (show (i : Int) ≤ (s.size : Int) by have h_ := HY.out; omega)
            have e2b := eq_true (show i ≤ s.size by have h_ := HY.out; omega)
            have e3 := eq_true (show (0 : Int) ≤ (st : Int) by omega)
            have e4 := eq_true (show (0 : Int) ≤ (i : Int) by omega)
            have HIS := Aside0.mk (show i ≤ s.size from by have h_ := HY.out; omega)
            have hww : wrap64 ((i : Int) + 1) = (i : Int) + 1 := w64_id' (by omega) (by have h_ := HIS.out; have h2_ := HSM.out; omega)
            have hwwb : IntKind.i64.wrap ((i : Int) + 1) = (i : Int) + 1 := (i64_w _).trans hww
            have HN := Aside0.mk (show (ws ++ [s.extract st i]).map lb ++ tok [] ((lb s).drop (i + 1)) = tok [] (lb s) from by
              have h1_ := HTE.out
              rw [HYT.out, if_pos he] at h1_
              rw [← HT.out, h1_, List.map_append, List.append_assoc]
              congr 2
              show lb (s.extract st i) :: [] ++ _ = _
              rw [lb_extract s st i HIS.out]
              rfl)
            have HE := Aside0.mk he
            clear he
            go_wp2_with (first | (go_at_call 15; refine (isWordByte0.calls (bt s (i : Int)) _ _ (wbI_some _)).mono ?_; rintro e_ w7 ⟨rfl, hd⟩; have n1_ := Aside0.mk (below_step HB.out hd.below); have n2_ := Aside0.mk (Kd.R_below HU.out hd.below); clear HB HU hd; have HB := n1_; have HU := n2_; clear n1_ n2_) | (at_builtin; refine Kd.R_append Kd.string (w0 := w) w.heap.size rfl (.tmp 28) (.tmp 33) 23 9 (.string ByteArray.empty) 16 rfl Try.underlying23 info9 rfl (by decide) (by omega) (.slice Au ws.length cu) ws (s.extract st i) [.string (s.extract st i)] (fun _ => True) (fun _ => False) rfl (by first | (go_simp; done) | (go_simp; rfl)) rfl (fun _ hk => hk.elim) (fun _ _ => trivial) HU.out HB.out HB.out.size (by have h_ := HWL.out; have h2_ := HSM.out; omega) ?_; intro v1 w9 ho hb hg hat; obtain ⟨A9, n9, c9, rfl⟩ : ∃ A n c, v1 = .slice A n c := (by obtain ⟨A, c, e_⟩ := Kd.R_slice ho; exact ⟨A, _, c, e_⟩); have HU9 := Aside0.mk ho; have HB9 := Aside0.mk hb; clear ho hb hg hat))
            go_roundg (s.size + 1 - (i + 1))
            case measure => have h_ := HST.out; have h2_ := HE.out; omega
            case rel => exact ⟨i + 1, by simp [hww, hwwb], ⟨ws ++ [s.extract st i], by have h_ := HIS.out; omega, by rw [List.length_append]; simp only [List.length_cons, List.length_nil]; have h_ := HWL.out; have h2_ := HE.out; omega, HN.out, HU9.out, HB9.out⟩⟩
          · have f1 : decide ((st : Int) < (i : Int)) = false := decide_eq_false (by omega)
            have f1b : decide (st < i) = false := decide_eq_false he
            have HIS := Aside0.mk (show i ≤ s.size ∧ st = i from by have h_ := HY.out; omega)
            have hww : wrap64 ((i : Int) + 1) = (i : Int) + 1 := w64_id' (by omega) (by have h_ := HIS.out; have h2_ := HSM.out; omega)
            have hwwb : IntKind.i64.wrap ((i : Int) + 1) = (i : Int) + 1 := (i64_w _).trans hww
            have HN := Aside0.mk (show ws.map lb ++ tok [] ((lb s).drop (i + 1)) = tok [] (lb s) from by
              have h1_ := HTE.out
              rw [HYT.out, if_neg he] at h1_
              rw [← HT.out, h1_]
              rfl)
            clear he
            go_wp2_with (first | (go_at_call 15; refine (isWordByte0.calls (bt s (i : Int)) _ _ (wbI_some _)).mono ?_; rintro e_ w7 ⟨rfl, hd⟩; have n1_ := Aside0.mk (below_step HB.out hd.below); have n2_ := Aside0.mk (Kd.R_below HU.out hd.below); clear HB HU hd; have HB := n1_; have HU := n2_; clear n1_ n2_))
            go_roundg (s.size + 1 - (i + 1))
            case measure => have h_ := HST.out; have h2_ := HIS.out; omega
            case rel => exact ⟨i + 1, by simp [hww, hwwb], ⟨ws, by have h_ := HIS.out; omega, by have h_ := HWL.out; have h2_ := HIS.out; omega, HN.out, HU.out, HB.out⟩⟩
    · have c1 : decide ((i0 : Int) < (s.size : Int)) = false := decide_eq_false (by omega)
      have c1b : decide (i0 < s.size) = false := decide_eq_false c
      have HWL := Aside0.mk (show ws.length ≤ s.size + 1 from by omega)
      have HT := Aside0.mk (show ws.map lb = tok [] (lb s) from by
        rw [List.drop_eq_nil_of_le (by rw [lb_len]; omega), tok_nil, if_pos rfl, List.append_nil] at x3
        exact x3)
      have HU := Aside0.mk x4
      have HB := Aside0.mk x5
      clear x1 x2 x3 x4 x5 c
      obtain ⟨U, hU⟩ : ∃ U, U = strs (uniqL (tok [] (lb s))) := ⟨_, rfl⟩
      obtain ⟨j, hj⟩ : ∃ j, j = min U.length 400 := ⟨_, rfl⟩
      have hmin : (if 400 < (U.length : Int) then 400 else (U.length : Int)) = (j : Int) := by split <;> omega
      have hmin2 : (if 400 < U.length then 400 else (U.length : Int)) = (j : Int) := by split <;> omega
      have HEQ := Aside0.mk (show strs (Lib.compact ((strs ((ws.map lb).mergeSort fun x y => decide (x ≤ y))).map lb)) = U from by rw [lb_strs, HT.out, hU]; rfl)
      have HRJ := Aside0.mk (show U.take j = r from by
        rw [← HR.out, hU, hj]
        unfold wordsL strs
        rw [← List.map_take]
        congr 1
        rw [show U.length = (uniqL (tok [] (lb s))).length from by rw [hU, strs_len]]
        rcases Nat.le_total (uniqL (tok [] (lb s))).length 400 with h | h
        · rw [Nat.min_eq_left h, List.take_of_length_le (Nat.le_refl _), List.take_of_length_le h]
        · rw [Nat.min_eq_right h])
      have HJ := Aside0.mk (show j ≤ U.length from by omega)
      obtain ⟨i9, hi9, _, _, _⟩ := info_parts info9
      have HCUT := Aside0.mk (show ∀ (A : Option Addr) (c : Nat), U.length ≤ c → ∀ W : World, (Instr.slice 23 (.slice A U.length c) none (some (.int .i64 (j : Int))) none).run Try.prog W = .ok (.slice A j c) W from fun A c hc W => by
        have := cut_to (P := Try.prog) 23 9 .i64 Try.underlying23 hi9 A U.length c (j : Int) (by omega) (by have h_ := HJ.out; omega) hc W
        rwa [Int.toNat_natCast] at this)
      clear hU hj hi9
      go_wp2_with (first | (go_at_call 16; refine (sortS HU.out (by have h_ := HWL.out; have h2_ := HSM.out; omega)).mono ?_; rintro e_ w7 ⟨rfl, hs, hg⟩; have n1_ := Aside0.mk hs; have n2_ := Aside0.mk (pw_below_grown HB.out _ HB.out.size hg (fun k hk => Kd.R_base HU.out k hk)); clear HU HB hs hg; have HU := n1_; have HB := n2_; clear n1_ n2_) | (go_at_call 17; refine (compactS HU.out HB.out (by rw [strs_len, List.length_mergeSort, List.length_map]; have h_ := HWL.out; have h2_ := HSM.out; omega)).mono ?_; rintro e_ w8 ⟨vc, rfl, hc, hb⟩; rw [HEQ.out] at hc; obtain ⟨Ac, cc, evc⟩ := Kd.R_slice hc; subst evc; have HC := Aside0.mk hc; have HB8 := Aside0.mk hb; clear hc hb; have hcut := HCUT.out Ac cc (Kd.R_reads' HC.out).2.1; clear HU HB))
      go_ret
      exact ⟨_, rfl, by rw [← HRJ.out]; exact Kd.R_take HC.out HJ.out, HB8.out⟩
end Go.Proofs.Ytngolmiegfgmmaa.Wf
