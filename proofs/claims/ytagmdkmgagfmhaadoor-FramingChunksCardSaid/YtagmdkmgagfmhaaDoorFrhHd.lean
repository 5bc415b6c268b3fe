/- framing: header.setLength and header.field at a frame's own header line. -/
import Derived.Test.YtagmdkmgagfmhaaDoorFrhVs
namespace Go.Proofs.YtagmdkmgagfmhaaDoor.Fr
open Go.RowKit Go.Sort Go.Shelf Go.Lib Go.Proofs.YtagmdkmgagfmhaaDoorW.PrintWords Go.Proofs.YtagmdkmgagfmhaaDoorW.PrintLast Go.Proofs.YtagmdkmgagfmhaaDoorW.PrintMore
open Go.Proofs.YtagmdkmgagfmhaaDoor
set_option linter.unusedVariables false
set_option linter.unusedSimpArgs false

theorem ne_empty {s : ByteArray} (h : 0 < s.size) : s.toList.isEmpty = false := by
  rw [Lib.toList_data]
  rw [Lib.size_eq] at h
  cases hl : s.data.toList with
  | nil => rw [hl] at h; simp at h
  | cons _ _ => rfl
theorem is_empty {s : ByteArray} (h : s.size = 0) : s.toList.isEmpty = true := by
  rw [Lib.toList_data]
  rw [Lib.size_eq] at h
  cases hl : s.data.toList with
  | nil => rfl
  | cons _ _ => rw [hl] at h; simp at h
theorem trim25_digits (n : Nat) (hn : n ≤ 4000) (w : World) :
    Calls Tryd.prog 25 #[.string (ofL (decDigits n)), .string ⟨#[48, 49, 50, 51, 52, 53, 54, 55, 56, 57]⟩] w fun e w' => e = .returned (.string ⟨#[]⟩) ∧ Below w.heap.size w w' := by
  have hl := digits_len (n := n) 3 (by omega)
  refine (trim25 (ofL (decDigits n)) (ofL tens) (by rw [size_bl, bl_ofL]; omega) (by decide) (by rw [bl_ofL]; decide) w).mono fun e w' he => ?_
  rw [bl_ofL, bl_ofL, trim_digits] at he
  exact he
theorem trim25_value (n : Nat) (hn : n ≤ 4000) (w : World) :
    Calls Tryd.prog 25 #[.string (ofL (32 :: decDigits n)), .string ⟨#[32, 9]⟩] w fun e w' => e = .returned (.string (ofL (decDigits n))) ∧ Below w.heap.size w w' := by
  have hl := digits_len (n := n) 3 (by omega)
  refine (trim25 (ofL (32 :: decDigits n)) (ofL [32, 9]) (by rw [size_bl, bl_ofL, List.length_cons]; omega) (by decide) (by rw [bl_ofL]; decide) w).mono fun e w' he => ?_
  rw [bl_ofL, bl_ofL, trim_value] at he
  exact he
theorem cut20_line (n : Nat) (hn : n ≤ 4000) (w : World) (h : Vs w) :
    Calls Tryd.prog 20 #[.string (ofL (hline n)), .string ⟨#[58]⟩] w fun e w' => e = .returned (.tuple #[.string (ofL hname), .string (ofL (32 :: decDigits n)), .bool true]) ∧ Below w.heap.size w w' := by
  have hl := hline_lt hn
  refine (cut20 (ofL (hline n)) (ofL [58]) (by rw [size_bl, bl_ofL]; omega) w h).mono fun e w' he => ?_
  rw [bl_ofL, bl_ofL, cut_line] at he
  exact he
theorem fold23_name (w : World) : Calls Tryd.prog 23 #[.string (ofL hname), .string ⟨#[67, 111, 110, 116, 101, 110, 116, 45, 76, 101, 110, 103, 116, 104]⟩] w fun e w' => e = .returned (.bool true) ∧ Below w.heap.size w w' := fold23 w
theorem name21 (w : World) : Calls Tryd.prog 21 #[.string (ofL hname)] w fun e w' => e = .returned (.bool true) ∧ Drawn0 w w' :=
  framing_validName.calls 20 (ofL hname) true w (by decide +kernel)

set_option maxHeartbeats 4000000 in
set_option maxRecDepth 100000 in
theorem setLength24 (n : Nat) (hn : n ≤ 4000) (g : Nat) (w : World) (hB : w.heap[g]? = some (.cells #[.int .i64 (-1)] 46 (0, 0))) :
    Calls Tryd.prog 24 #[.pointer (some ⟨g, 0, none⟩), .string (ofL (decDigits n))] w fun e w' => e = .returned (.bool true) ∧ w'.heap[g]? = some (.cells #[.int .i64 (n : Int)] 46 (0, 0)) ∧ Below g w w' := by
  have hu46 := Tryd.underlying46
  have hgl := blk_lt hB
  obtain ⟨D, hD⟩ : ∃ D, ofL (decDigits n) = D := ⟨_, rfl⟩
  have hDs : D.size ≤ 4 := by rw [← hD, size_bl, bl_ofL]; exact digits_len 3 (by omega)
  have hD0 : 0 < D.size := by rw [← hD, size_bl, bl_ofL]; exact digits_pos n
  have e1 : decide ((D.size : Int) > 6) = false := decide_eq_false (by omega)
  have e2 : decide ((6 : Int) < (D.size : Int)) = false := decide_eq_false (by omega)
  have e0 := ne_empty hD0
  have e3 : decide ((n : Int) ≤ 4000) = true := decide_eq_true (by omega)
  have c0 : w.cell? ⟨g, 0, none⟩ = some (.int .i64 (-1)) := (blk_cell hB 0).trans rfl
  have f0 := blk_frozen hB 0
  have T25 := fun w' => trim25_digits n hn w'
  have A34 := fun w' => atoi34 n hn w'
  rw [hD] at T25 A34
  have HD := Aside0.mk hD
  have HB := Aside0.mk (Below.refl w.heap.size w)
  have BK := Aside0.mk hB
  have GL := Aside0.mk hgl
  have TT := Aside0.mk T25
  have AA := Aside0.mk A34
  clear hD hB hn hgl T25 A34
  rw [HD.out]
  go_enter Tryd.func24, Tryd.ntmps24
  go_wp2_with (first
    | (go_at_call 25; refine (TT.out _).mono ?_; rintro e_ w1 ⟨rfl, hb⟩; have n1_ := Aside0.mk (below_step HB.out hb); have n2_ := Aside0.mk (blk_below BK.out hb); clear HB BK hb c0 f0; have HB := n1_; have BK := n2_; clear n1_ n2_; have c0 : w1.cell? ⟨g, 0, none⟩ = some (.int .i64 (-1)) := (blk_cell BK.out 0).trans rfl; have f0 := blk_frozen BK.out 0)
    | (go_at_call 34; refine (AA.out _).mono ?_; rintro e_ w2 ⟨rfl, hb⟩; have n1_ := Aside0.mk (below_step HB.out hb); have n2_ := Aside0.mk (blk_below BK.out hb); clear HB BK hb c0 f0; have HB := n1_; have BK := n2_; clear n1_ n2_; have c0 : w2.cell? ⟨g, 0, none⟩ = some (.int .i64 (-1)) := (blk_cell BK.out 0).trans rfl; have f0 := blk_frozen BK.out 0))
  go_ret
  exact ⟨rfl, blk_put BK.out 0 _ rfl, ((HB.out.mono (Nat.le_of_lt GL.out))).setCell (Nat.le_refl _) _⟩

theorem valid_ok (s : ByteArray) (ha : ∀ (i : Nat), i < s.size → 32 ≤ bt s (i : Int) ∧ bt s (i : Int) ≤ 126) (hs : s.size ≤ 1000) :
    ∀ (k i : Nat), i + k = s.size + 1 → 0 < k → framing_validValue.l0 k s (s.size : Int) (i : Int) = some true := by
  intro k
  induction k with
  | zero => intro i _ h; omega
  | succ k ih =>
    intro i hi _
    unfold framing_validValue.l0
    by_cases h : i < s.size
    · have hb := ha i h
      rw [if_pos (by omega), if_pos (by omega), if_pos (by omega), if_neg (by omega), if_neg (by omega), if_neg (by omega)]
      have e : wrap64 ((i : Int) + 1) = ((i + 1 : Nat) : Int) := by unfold wrap64; omega
      rw [e]
      exact ih (i + 1) (by omega) (by omega)
    · rw [if_neg (by omega)]
theorem value22 (n : Nat) (hn : n ≤ 4000) (w : World) : Calls Tryd.prog 22 #[.string (ofL (32 :: decDigits n))] w fun e w' => e = .returned (.bool true) ∧ Drawn0 w w' := by
  have hl := digits_len (n := n) 3 (by omega)
  have ha := digits_all n
  refine framing_validValue.calls ((ofL (32 :: decDigits n)).size + 1) (ofL (32 :: decDigits n)) true w (valid_ok _ (fun i hi => ?_) ?_ _ 0 (by omega) (by omega))
  · have hi' : i < (32 :: decDigits n).length := by rw [size_bl, bl_ofL] at hi; exact hi
    have hm : (32 :: decDigits n)[i] ∈ 32 :: decDigits n := List.getElem_mem hi'
    have e : bt (ofL (32 :: decDigits n)) (i : Int) = (((32 :: decDigits n)[i]).toNat : Int) := by
      unfold bt
      rw [dif_pos (by simpa using hi)]
      rfl
    rw [e]
    rcases List.mem_cons.1 hm with h | h
    · rw [h]; decide
    · have := ha _ h; omega
  · rw [size_bl, bl_ofL, List.length_cons]; omega

set_option maxHeartbeats 400000 in
set_option maxRecDepth 100000 in
theorem field17 (n : Nat) (hn : n ≤ 4000) (g : Nat) (w : World) (hV : Vs w) (hB : w.heap[g]? = some (.cells #[.int .i64 (-1)] 46 (0, 0))) :
    Calls Tryd.prog 17 #[.pointer (some ⟨g, 0, none⟩), .string (ofL (hline n))] w fun e w' => e = .returned (.bool true) ∧ w'.heap[g]? = some (.cells #[.int .i64 (n : Int)] 46 (0, 0)) ∧ Below g w w' := by
  have hgl := blk_lt hB
  have V22 := fun w' => value22 n hn w'
  have T25 := fun w' => trim25_value n hn w'
  have C20 := fun w' => cut20_line n hn w'
  have S24 := fun w' => setLength24 n hn g w'
  have N21 := name21
  have F23 := fold23_name
  obtain ⟨LN, hLN⟩ : ∃ LN, ofL (hline n) = LN := ⟨_, rfl⟩
  obtain ⟨V, hVa⟩ : ∃ V, ofL (32 :: decDigits n) = V := ⟨_, rfl⟩
  obtain ⟨D, hD⟩ : ∃ D, ofL (decDigits n) = D := ⟨_, rfl⟩
  obtain ⟨NM, hNM⟩ : ∃ NM, ofL hname = NM := ⟨_, rfl⟩
  rw [hLN, hNM, hVa] at C20
  rw [hVa] at V22 T25
  rw [hD] at T25 S24
  rw [hNM] at N21 F23
  rw [hLN]
  have HB := Aside0.mk (Below.refl w.heap.size w)
  have BK := Aside0.mk hB
  have GL := Aside0.mk hgl
  have HV := Aside0.mk hV
  have NN := Aside0.mk hNM
  have CC := Aside0.mk C20
  have VV := Aside0.mk V22
  have TT := Aside0.mk T25
  have SS := Aside0.mk S24
  have N1 := Aside0.mk N21
  have FF := Aside0.mk F23
  clear hB hn hgl V22 T25 C20 S24 N21 F23 hLN hVa hD hNM hV
  go_enter Tryd.func17, Tryd.ntmps17
  go_wp2_with (first
    | (go_at_call 20; refine (CC.out _ (HV.out.below HB.out)).mono ?_; rintro e_ w1 ⟨rfl, hb⟩; have n1_ := Aside0.mk (below_step HB.out hb); have n2_ := Aside0.mk (blk_below BK.out hb); clear HB BK hb; have HB := n1_; have BK := n2_; clear n1_ n2_)
    | (go_at_call 21; refine (N1.out _).mono ?_; rintro e_ w2 ⟨rfl, m_, rfl⟩)
    | (go_at_call 22; refine (VV.out _).mono ?_; rintro e_ w3 ⟨rfl, m_, rfl⟩)
    | (go_at_call 23; refine (FF.out _).mono ?_; rintro e_ w4 ⟨rfl, hb⟩; have n1_ := Aside0.mk (below_step (pw_below_drewN HB.out _) hb); have n2_ := Aside0.mk (blk_below (blk_drewN BK.out _) hb); clear HB BK hb; have HB := n1_; have BK := n2_; clear n1_ n2_)
    | (go_at_call 25; refine (TT.out _).mono ?_; rintro e_ w5 ⟨rfl, hb⟩; have n1_ := Aside0.mk (below_step HB.out hb); have n2_ := Aside0.mk (blk_below BK.out hb); clear HB BK hb; have HB := n1_; have BK := n2_; clear n1_ n2_)
    | (go_at_call 24; refine (SS.out _ BK.out).mono ?_; rintro e_ w6 ⟨rfl, hk, hb⟩; have HK := Aside0.mk hk; have HC := Aside0.mk hb; clear hk hb))
  go_ret
  exact ⟨rfl, HK.out, (HB.out.mono (Nat.le_of_lt GL.out)).trans HC.out⟩
end Go.Proofs.YtagmdkmgagfmhaaDoor.Fr
