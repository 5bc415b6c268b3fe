/- jsonval.encodeString, for a text without quotes, backslashes and control characters. -/
import Derived.Test.YtmonbhoeplmieaaDoorJsx0
import Derived.Test.YtmonbhoeplmieaaDoorBw
import Derived.Deep.QuietTactic
import Derived.BigQuiet
import Derived.Deep.LoopGhost
import Derived.Shelf.Abstract
namespace Go.Proofs.YtmonbhoeplmieaaDoor.Bl
open Go.Shelf
def cs (l : List UInt8) : List Value := l.map fun b => Value.int .u8 b.toNat
theorem cs_len (l : List UInt8) : (cs l).length = l.length := by unfold cs; rw [List.length_map]
theorem cs_append (l m : List UInt8) : cs (l ++ m) = cs l ++ cs m := List.map_append
theorem Kept.refl (b : Nat) (w : World) : Kept b w w := fun _ _ _ _ _ h => h
theorem Kept.trans {b : Nat} {w w1 w2 : World} (h : Kept b w w1) (h2 : Kept b w1 w2) : Kept b w w2 := fun k c t ht hk hc => h2 k c t ht hk (h k c t ht hk hc)
end Go.Proofs.YtmonbhoeplmieaaDoor.Bl
namespace Go.Proofs.YtmonbhoeplmieaaDoor.Js
open Go.RowKit Go.Proofs.YtmonbhoeplmieaaDoorW.PrintWords Go.Proofs.YtmonbhoeplmieaaDoorW.PrintLast Go.Proofs.YtmonbhoeplmieaaDoorW.PrintMore
open Go.Proofs.YtmonbhoeplmieaaDoor
set_option linter.unusedVariables false
set_option linter.unusedSimpArgs false

open Go.Shelf
/-- no quote, no backslash, no control character -/
def plain (s : ByteArray) : Prop := ∀ c ∈ s.data.toList, 32 ≤ c.toNat ∧ c.toNat ≠ 34 ∧ c.toNat ≠ 92
theorem ix_none (n : Nat) (h1 : 32 ≤ n) (h2 : n < 256) (w : World) : Calls Tryd.prog 42 #[.string ⟨#[8, 9, 10, 12, 13]⟩, .int .u8 (n : Int)] w fun e w' => e = .returned (.int .i64 (-1)) ∧ w' = w := by
  have hz : Lib.indexByte [8, 9, 10, 12, 13] n.toUInt8 = -1 := by
    have h3 : (Nat.toUInt8 n).toNat = n := by simp only [Nat.toUInt8, UInt8.toNat_ofNat']; omega
    have key : ∀ m : UInt8, m.toNat < 32 → (m == n.toUInt8) = false := fun m hm => by
      rw [beq_eq_false_iff_ne]
      intro e
      rw [e, h3] at hm
      omega
    simp [Lib.indexByte, key]
  have h0 := Any.stringslite_IndexByte lays217 ⟨#[8, 9, 10, 12, 13]⟩ (n : Int) w
  rw [Int.toNat_natCast, hz] at h0
  clear hz h1 h2
  have H0 := Aside0.mk h0
  clear h0
  go_enter Tryd.func42, Tryd.ntmps42
  go_wp2_with (go_at_call 54; refine H0.out.mono ?_; rintro e_ w_ ⟨rfl, rfl⟩)
  go_ret
  exact ⟨rfl, rfl⟩
def quo (s : ByteArray) : List Value := [.int .u8 34] ++ Bl.cs s.data.toList ++ [.int .u8 34]
theorem quo_len (s : ByteArray) : (quo s).length = s.size + 2 := by unfold quo; rw [List.length_append, List.length_append, Bl.cs_len]; show 1 + s.data.toList.length + 1 = s.size + 2; have h_ : s.data.toList.length = s.size := Array.length_toList; omega
set_option maxHeartbeats 4000000 in
set_option maxRecDepth 100000 in
theorem encodeString_says (s : ByteArray) (hp : plain s) (B b : Nat) (bs : List Value) (w : World) (h : Lib.IsBuilder 49 5 B b bs w) (hl : bs.length + s.size + 2 ≤ 1000000) (hBw : B ≤ w.heap.size) :
    Calls Tryd.prog 35 #[.pointer (some ⟨b, 0, none⟩), .string s] w fun e w' => e = .returned (.tuple #[]) ∧ Lib.IsBuilder 49 5 B b (bs ++ quo s) w' ∧ Below B w w' ∧ Bl.Kept b w w' := by
  have hu9 := Tryd.underlying9
  obtain ⟨k, hk⟩ : ∃ k, s.size = k := ⟨_, rfl⟩
  have HI := Aside0.mk h
  have HB := Aside0.mk (Below.refl B w)
  have HK := Aside0.mk (Bl.Kept.refl b w)
  have HSZ := Aside0.mk hBw
  have HL := Aside0.mk hl
  have HP := Aside0.mk hp
  have HE := Aside0.mk hk
  clear h hl hBw hp
  go_enter Tryd.func35, Tryd.ntmps35
  go_wp2_with (go_at_call 50; refine (Bl.writeByte B b (bs) _ _ (HI.out) (by have h_ := HL.out; (try simp only [List.length_append, List.length_cons, List.length_nil, Bl.cs_len]); omega) HSZ.out).mono ?_; rintro e_ w1 ⟨rfl, hi_, hb_, hk_⟩; have n0_ := Aside0.mk (Or.inr hi_ : Lib.IsBuilder 49 5 B b _ w1); have n1_ := Aside0.mk (HB.out.trans hb_); have n2_ := Aside0.mk (HK.out.trans hk_); have n3_ := Aside0.mk (Nat.le_trans HSZ.out hb_.size); clear HI HB HK HSZ hi_ hb_ hk_; have HI := n0_; have HB := n1_; have HK := n2_; have HSZ := n3_; clear n0_ n1_ n2_ n3_)
  go_loopg [11] k (fun gq s11 wx => ∃ (dn td : List UInt8), s.data.toList = dn ++ td ∧ gq = td.length ∧ s11 = .int .i64 (dn.length : Int) ∧ Lib.IsBuilder 49 5 B b (bs ++ [.int .u8 34] ++ Bl.cs dn) wx ∧ Below B w wx ∧ Bl.Kept b w wx ∧ B ≤ wx.heap.size)
  case atStart => exact ⟨[], s.data.toList, rfl, by rw [← HE.out]; exact Array.length_toList.symm, rfl, by rw [show Bl.cs [] = [] from rfl, List.append_nil]; exact HI.out, HB.out, HK.out, HSZ.out⟩
  case round =>
    clear HI HB HK HSZ
    obtain ⟨dn, td, hdt, rfl, rfl, hi_, hb_, hk_, hs_⟩ := hrel
    have HI := Aside0.mk hi_
    have HB := Aside0.mk hb_
    have HK := Aside0.mk hk_
    have HSZ := Aside0.mk hs_
    clear hi_ hb_ hk_ hs_
    have HDT := Aside0.mk hdt
    have hlen : k = dn.length + td.length := by rw [← HE.out, show s.size = s.data.toList.length from Array.length_toList.symm, hdt, List.length_append]
    have HDL := Aside0.mk (show dn.length + bs.length + 2 ≤ 1000000 from by have h_ := HL.out; rw [HE.out] at h_; omega)
    obtain ⟨i, hi⟩ : ∃ i, i = dn.length := ⟨_, rfl⟩
    have HII := Aside0.mk hi
    rw [← hi]
    cases td with
    | nil =>
      have b1 : k ≤ i := by simp at hlen; omega
      have e5 : decide ((i : Int) < (k : Int)) = false := decide_eq_false (by omega)
      have e6 : decide ((i : Int) < (s.size : Int)) = false := decide_eq_false (by rw [HE.out]; omega)
      try clear HE2
      have hed := Aside0.mk (show s.data.toList = dn from by rw [hdt, List.append_nil])
      clear hdt hlen hi
      go_wp2_with (go_at_call 50; refine (Bl.writeByte B b (bs ++ [.int .u8 34] ++ Bl.cs dn) _ _ (HI.out) (by have h_ := HDL.out; (try simp only [List.length_append, List.length_cons, List.length_nil, Bl.cs_len]); omega) HSZ.out).mono ?_; rintro e_ w9 ⟨rfl, hi_, hb_, hk_⟩; have n0_ := Aside0.mk (Or.inr hi_ : Lib.IsBuilder 49 5 B b _ w9); have n1_ := Aside0.mk (HB.out.trans hb_); have n2_ := Aside0.mk (HK.out.trans hk_); have n3_ := Aside0.mk (Nat.le_trans HSZ.out hb_.size); clear HI HB HK HSZ hi_ hb_ hk_; have HI := n0_; have HB := n1_; have HK := n2_; have HSZ := n3_; clear n0_ n1_ n2_ n3_)
      go_end0
      refine ⟨rfl, ?_, HB.out, HK.out⟩
      unfold quo
      rw [hed.out, show bs ++ ([Value.int .u8 34] ++ Bl.cs dn ++ [Value.int .u8 34]) = bs ++ [Value.int .u8 34] ++ Bl.cs dn ++ [Value.int .u8 34] from by simp only [List.append_assoc]]
      exact HI.out
    | cons c t =>
      have b1 : i < k := by simp at hlen; omega
      have e5 : decide ((i : Int) < (k : Int)) = true := decide_eq_true (by omega)
      have hik : i < s.size := by rw [HE.out]; exact b1
      have hcn : (s[i]'hik).toNat = c.toNat := by
        have h1 : s.data.toList[i]? = some c := by rw [hdt, hi]; simp
        have h2 : s.data.toList[i]? = some (s[i]'hik) := by
          rw [Array.getElem?_toList]
          exact Array.getElem?_eq_getElem hik
        rw [Option.some.inj (h2.symm.trans h1)]
      have hpc := HP.out c (by rw [hdt]; simp)
      have hc256 : c.toNat < 256 := c.toNat_lt
      obtain ⟨n, hn⟩ : ∃ n, n = c.toNat := ⟨_, rfl⟩
      rw [← hn] at hcn hpc hc256
      have HN := Aside0.mk hn
      have d1 : decide ((n : Int) = 34) = false := decide_eq_false (by omega)
      have d2 : decide ((n : Int) = 92) = false := decide_eq_false (by omega)
      have d3 : decide ((n : Int) < 32) = false := decide_eq_false (by omega)
      have d4 : ((n : Int) == 34) = false := by rw [beq_eq_false_iff_ne]; omega
      have d5 : ((n : Int) == 92) = false := by rw [beq_eq_false_iff_ne]; omega
      have IX := Aside0.mk (fun w' => ix_none n hpc.1 hc256 w')
      have p1 : (0 : Int) ≤ (i : Int) := by omega
      have p2 : (i : Int) < (s.size : Int) := by omega
      have HKB := Aside0.mk (show i + 1 ≤ 1000000 from by have h_ := HDL.out; omega)
      clear hdt hlen hi hn hpc hc256
      go_wp2_with (first
        | (go_at_call 42; refine (IX.out _).mono ?_; rintro e_ w_ ⟨rfl, rfl⟩)
        | (go_at_call 50; refine (Bl.writeByte B b (bs ++ [.int .u8 34] ++ Bl.cs dn) _ _ (HI.out) (by have h_ := HDL.out; (try simp only [List.length_append, List.length_cons, List.length_nil, Bl.cs_len]); omega) HSZ.out).mono ?_; rintro e_ w9 ⟨rfl, hi_, hb_, hk_⟩; have n0_ := Aside0.mk (Or.inr hi_ : Lib.IsBuilder 49 5 B b _ w9); have n1_ := Aside0.mk (HB.out.trans hb_); have n2_ := Aside0.mk (HK.out.trans hk_); have n3_ := Aside0.mk (Nat.le_trans HSZ.out hb_.size); clear HI HB HK HSZ hi_ hb_ hk_; have HI := n0_; have HB := n1_; have HK := n2_; have HSZ := n3_; clear n0_ n1_ n2_ n3_))
      go_roundg t.length
      case measure => exact Nat.lt_succ_self _
      case rel => exact ⟨dn ++ [c], t, by rw [HDT.out]; simp, rfl, congrArg (Value.int .i64) (by have h_ := HKB.out; have h2_ := HII.out; rw [List.length_append]; simp only [List.length_cons, List.length_nil]; unfold wrap64; omega), by rw [Bl.cs_append, ← List.append_assoc, show Bl.cs [c] = [.int .u8 (c.toNat : Int)] from rfl, ← HN.out]; exact HI.out, HB.out, HK.out, HSZ.out⟩
end Go.Proofs.YtmonbhoeplmieaaDoor.Js
