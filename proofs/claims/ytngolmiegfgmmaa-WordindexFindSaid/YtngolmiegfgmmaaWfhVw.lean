/- wordindex.validWords. Condition: the words are valid (the answer is true). -/
import Derived.Test.YtngolmiegfgmmaaWfx0
import Derived.Test.YtngolmiegfgmmaaWfhWd
import Derived.BigQuiet
import Derived.Laws.Cover1
namespace Go.Proofs.Ytngolmiegfgmmaa.Wf
open Go.RowKit Go.Sort Go.Proofs.YtngolmiegfgmmaaW.PrintWords Go.Proofs.YtngolmiegfgmmaaW.PrintLast Go.Proofs.YtngolmiegfgmmaaW.PrintMore
open Go.Proofs.Ytngolmiegfgmmaa
set_option linter.unusedVariables false
set_option linter.unusedSimpArgs false
def szW (l : List ByteArray) : Nat := (l.map fun x => x.size + 1).sum
def okW (l : List ByteArray) : Prop := l.length ≤ 400 ∧ szW l ≤ 2001 ∧ (∀ x ∈ l, x.toList ≠ [] ∧ ∀ j : Nat, j < x.size → wbI (bt x (j : Int)) = true) ∧ ∀ i : Nat, 0 < i → i < l.length → Op.bytesLess (rdOf ByteArray.empty l ((i - 1 : Nat) : Int)).toList (rdOf ByteArray.empty l (i : Int)).toList = true
theorem szW_snoc (l : List ByteArray) (i : Nat) (h : i < l.length) : szW (l.take (i + 1)) = szW (l.take i) + ((rdOf ByteArray.empty l (i : Int)).size + 1) := by
  have e : rdOf ByteArray.empty l (i : Int) = l[i] := by simp [rdOf, h]
  unfold szW
  rw [List.take_succ_eq_append_getElem h, List.map_append, List.sum_append, e]
  simp
theorem sum_take (f : ByteArray → Nat) : ∀ (l : List ByteArray) (i : Nat), ((l.take i).map f).sum ≤ (l.map f).sum
  | [], i => by simp
  | a :: r, 0 => by simp
  | a :: r, i + 1 => by
    have := sum_take f r i
    simp only [List.take_succ_cons, List.map_cons, List.sum_cons]
    omega
theorem szW_le (l : List ByteArray) (i : Nat) : szW (l.take i) ≤ szW l := sum_take _ l i
set_option maxHeartbeats 8000000 in
set_option maxRecDepth 100000 in
theorem valid38 (A0 : Option Addr) (c0 : Nat) (l0 : List ByteArray) (w : World) (hr0 : Kd.C Kd.string w A0 l0.length l0) (hc0 : l0.length ≤ c0) (ho : okW l0) :
    Calls Try.prog 38 #[.slice A0 l0.length c0] w fun e w' => e = .returned (.bool true) ∧ Below w.heap.size w w' := by
  have HR0 := Aside0.mk hr0
  have HC0 := Aside0.mk hc0
  have HO := Aside0.mk ho
  have HB := Aside0.mk (Below.refl w.heap.size w)
  clear hr0 hc0 ho
  go_enter Try.func38, Try.ntmps38
  go_wp2
  go_loopg [3, 9] l0.length (fun kq v3 v9 w' => ∃ x s : Int, v3 = .int .i64 s ∧ v9 = .int .i64 x ∧ Aside0 (∃ i : Nat, x = i ∧ i + kq = l0.length ∧ s = (szW (l0.take i) : Int)) ∧ Aside0 (Below w.heap.size w w'))
  case atStart => exact ⟨0, 0, rfl, rfl, ⟨⟨0, rfl, by omega, rfl⟩⟩, HB⟩
  case round =>
    clear HB
    obtain ⟨x, s, rfl, rfl, HX, HB⟩ := hrel
    by_cases c : x < (l0.length : Int)
    · have c1 : decide (x < (l0.length : Int)) = true := decide_eq_true c
      obtain ⟨i, e1, e2, e3⟩ := HX.out
      clear HX
      have hil : i < l0.length := by omega
      obtain ⟨k1, rfl⟩ : ∃ k1, gk = k1 + 1 := ⟨gk - 1, by omega⟩
      have E1 := Aside0.mk (And.intro e1 e2)
      have p1 : 0 ≤ (x : Int) := by omega
      obtain ⟨ad, ea, hx0⟩ := Kd.at_string HR0.out x p1 c
      cases ea
      replace hx0 := (HB.out.cell (World.block_lt_of_cell? w _ hx0)).trans hx0
      have hmem : rdOf ByteArray.empty l0 x ∈ l0 := by
        have e : rdOf ByteArray.empty l0 x = l0[i] := by rw [e1]; simp [rdOf, hil]
        rw [e]; exact List.getElem_mem hil
      have hwd := HO.out.2.2.1 _ hmem
      have S1 := Aside0.mk (show s + ((rdOf ByteArray.empty l0 x).size + 1 : Int) = (szW (l0.take (i + 1)) : Int) ∧ 0 ≤ s ∧ s ≤ 2001 ∧ (rdOf ByteArray.empty l0 x).size ≤ 2001 ∧ s + ((rdOf ByteArray.empty l0 x).size + 1 : Int) ≤ 2001 from by
        have a1 := szW_snoc l0 i hil
        have a2 := szW_le l0 i
        have a3 := szW_le l0 (i + 1)
        have a4 := HO.out.2.1
        rw [← e1] at a1
        omega)
      have NE : ((rdOf ByteArray.empty l0 x).toList == ([] : List UInt8)) = false := beq_eq_false_iff_ne.mpr hwd.1
      have WB := Aside0.mk hwd.2
      have HL := Aside0.mk HO.out.1
      have SL : s ≤ 2001 := S1.out.2.2.1
      have S0 : 0 ≤ s := S1.out.2.1
      have ZL : (rdOf ByteArray.empty l0 x).size ≤ 2001 := S1.out.2.2.2.1
      have hp0 := p1
      replace p1 := eq_true p1
      have q1 := eq_true c
      rcases Nat.eq_zero_or_pos i with h0 | h0
      · have c2 : decide (0 < x) = false := decide_eq_false (by omega)
        clear e1 e2 e3 c hmem hwd hp0
        go_wp2_with fail
        go_loopg [36] (rdOf ByteArray.empty l0 x).size (fun kq v36 w' => ∃ y : Int, v36 = .int .i64 y ∧ Aside0 (∃ j : Nat, y = j ∧ j + kq = (rdOf ByteArray.empty l0 x).size) ∧ Aside0 (Below w.heap.size w w'))
        case atStart => exact ⟨0, rfl, ⟨⟨0, rfl, by omega⟩⟩, HB⟩
        case round =>
          clear HB
          obtain ⟨y, rfl, HY, HB⟩ := hrel
          by_cases d : y < ((rdOf ByteArray.empty l0 x).size : Int)
          · have d1 : decide (y < ((rdOf ByteArray.empty l0 x).size : Int)) = true := decide_eq_true d
            obtain ⟨j, f1, f2⟩ := HY.out
            clear HY
            obtain ⟨k2, rfl⟩ : ∃ k2, gk = k2 + 1 := ⟨gk - 1, by omega⟩
            have F1 := Aside0.mk (And.intro f1 f2)
            have hx5 := bt_at (rdOf ByteArray.empty l0 x) y
            have HW := Aside0.mk (show isWordByte0.f (bt (rdOf ByteArray.empty l0 x) y) = some true from by rw [wbI_some, f1, WB.out j (by omega)])
            have p5 : (0 ≤ y) = True := eq_true (by omega)
            have q5 : (y < ((rdOf ByteArray.empty l0 x).size : Int)) = True := eq_true d
            clear f1 f2 d
            go_wp2_with (go_at_call 15; refine (isWordByte0.calls _ true _ HW.out).mono ?_; rintro e_ w7 ⟨rfl, hd_⟩; have n1_ := Aside0.mk (below_step HB.out hd_.below); clear HB hd_; have HB := n1_; clear n1_)
            go_roundg k2
            case measure => have := F1.out; omega
            case rel => exact ⟨wrap64 (y + 1), rfl, ⟨⟨j + 1, by have := F1.out; rw [w64_id' (by omega) (by omega)]; omega, by have := F1.out; omega⟩⟩, HB⟩
          · have d1 : decide (y < ((rdOf ByteArray.empty l0 x).size : Int)) = false := decide_eq_false d
            clear d HY
            go_wp2
            go_roundg k1
            case measure => have := E1.out; omega
            case rel => exact ⟨wrap64 (x + 1), _, rfl, rfl, ⟨⟨i + 1, by have := E1.out; rw [w64_id' (by omega) (by have := HL.out; omega)]; omega, by have := E1.out; omega, by have := S1.out; first | (rw [w64_id' (by omega) (by omega)]; omega) | (rw [w64_id' (by omega) (by omega), w64_id' (by omega) (by omega)]; omega) | omega⟩⟩, HB⟩
      · have c2 : decide (0 < x) = true := decide_eq_true (by omega)
        have hm1 : wrap64 (x - 1) = ((i - 1 : Nat) : Int) := by rw [w64_id' (by omega) (by have := HL.out; omega)]; omega
        obtain ⟨ad2, ea2, hy0⟩ := Kd.at_string HR0.out ((i - 1 : Nat) : Int) (by omega) (by omega)
        cases ea2
        replace hy0 := (HB.out.cell (World.block_lt_of_cell? w _ hy0)).trans hy0
        have BLx : Op.bytesLess (rdOf ByteArray.empty l0 ((i - 1 : Nat) : Int)).toList (rdOf ByteArray.empty l0 x).toList = true := by rw [e1]; exact HO.out.2.2.2 i h0 hil
        have p2 : ((0 : Int) ≤ ((i - 1 : Nat) : Int)) = True := eq_true (by omega)
        have q2 : (((i - 1 : Nat) : Int) < (l0.length : Int)) = True := eq_true (by omega)
        generalize ((i - 1 : Nat) : Int) = xm at hm1 hy0 BLx p2 q2
        clear e1 e2 e3 c hmem hwd hp0 h0
        go_wp2_with fail
        rw [hm1]
        go_loopg [36] (rdOf ByteArray.empty l0 x).size (fun kq v36 w' => ∃ y : Int, v36 = .int .i64 y ∧ Aside0 (∃ j : Nat, y = j ∧ j + kq = (rdOf ByteArray.empty l0 x).size) ∧ Aside0 (Below w.heap.size w w'))
        case atStart => exact ⟨0, rfl, ⟨⟨0, rfl, by omega⟩⟩, HB⟩
        case round =>
          clear HB
          obtain ⟨y, rfl, HY, HB⟩ := hrel
          by_cases d : y < ((rdOf ByteArray.empty l0 x).size : Int)
          · have d1 : decide (y < ((rdOf ByteArray.empty l0 x).size : Int)) = true := decide_eq_true d
            obtain ⟨j, f1, f2⟩ := HY.out
            clear HY
            obtain ⟨k2, rfl⟩ : ∃ k2, gk = k2 + 1 := ⟨gk - 1, by omega⟩
            have F1 := Aside0.mk (And.intro f1 f2)
            have hx5 := bt_at (rdOf ByteArray.empty l0 x) y
            have HW := Aside0.mk (show isWordByte0.f (bt (rdOf ByteArray.empty l0 x) y) = some true from by rw [wbI_some, f1, WB.out j (by omega)])
            have p5 : (0 ≤ y) = True := eq_true (by omega)
            have q5 : (y < ((rdOf ByteArray.empty l0 x).size : Int)) = True := eq_true d
            clear f1 f2 d
            go_wp2_with (go_at_call 15; refine (isWordByte0.calls _ true _ HW.out).mono ?_; rintro e_ w7 ⟨rfl, hd_⟩; have n1_ := Aside0.mk (below_step HB.out hd_.below); clear HB hd_; have HB := n1_; clear n1_)
            go_roundg k2
            case measure => have := F1.out; omega
            case rel => exact ⟨wrap64 (y + 1), rfl, ⟨⟨j + 1, by have := F1.out; rw [w64_id' (by omega) (by omega)]; omega, by have := F1.out; omega⟩⟩, HB⟩
          · have d1 : decide (y < ((rdOf ByteArray.empty l0 x).size : Int)) = false := decide_eq_false d
            clear d HY
            go_wp2
            go_roundg k1
            case measure => have := E1.out; omega
            case rel => exact ⟨wrap64 (x + 1), _, rfl, rfl, ⟨⟨i + 1, by have := E1.out; rw [w64_id' (by omega) (by have := HL.out; omega)]; omega, by have := E1.out; omega, by have := S1.out; first | (rw [w64_id' (by omega) (by omega)]; omega) | (rw [w64_id' (by omega) (by omega), w64_id' (by omega) (by omega)]; omega) | omega⟩⟩, HB⟩
    · have c1 : decide (x < (l0.length : Int)) = false := decide_eq_false c
      obtain ⟨i, e1, e2, e3⟩ := HX.out
      clear HX
      have d1 : decide ((l0.length : Int) ≤ 400) = true := decide_eq_true (by have := HO.out.1; omega)
      have d2 : decide (s ≤ 2001) = true := decide_eq_true (by have a2 := szW_le l0 i; have a4 := HO.out.2.1; omega)
      clear c e1 e2 e3
      go_wp2
      go_ret
      exact ⟨rfl, HB.out⟩
open Classical in
noncomputable def wordindex_validWords.f (l0 : List ByteArray) : Option (Bool) := if okW l0 then some true else none
theorem wordindex_validWords.calls (A0 : Option Addr) (c0 : Nat) (l0 : List ByteArray) (r : Bool) (w : World) (hr0 : Kd.C Kd.string w A0 l0.length l0) (hc0 : l0.length ≤ c0) (h : wordindex_validWords.f l0 = some r) :
    Calls Try.prog 38 #[.slice A0 l0.length c0] w fun e w' => e = .returned (.bool r) ∧ Below w.heap.size w w' := by
  unfold wordindex_validWords.f at h
  split at h
  · rename_i ho
    cases h
    exact valid38 A0 c0 l0 w hr0 hc0 ho
  · cases h
end Go.Proofs.Ytngolmiegfgmmaa.Wf
