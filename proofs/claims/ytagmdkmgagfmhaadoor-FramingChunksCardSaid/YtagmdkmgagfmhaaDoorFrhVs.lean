/- framing: what the library's variables hold (Vs), the library's functions at the inputs that frames have, framing.Encode. -/
import Derived.Test.YtagmdkmgagfmhaaDoorFrx1
import Derived.Test.YtagmdkmgagfmhaaDoorFrhSl
import Derived.Test.YtagmdkmgagfmhaaDoorFrPa
import Derived.Shelf.Abstract
import Derived.Lib.LaidTab
namespace Go.Proofs.YtagmdkmgagfmhaaDoor.Fr
open Go.RowKit Go.Sort Go.Shelf Go.Lib Go.Proofs.YtagmdkmgagfmhaaDoorW.PrintWords Go.Proofs.YtagmdkmgagfmhaaDoorW.PrintLast Go.Proofs.YtagmdkmgagfmhaaDoorW.PrintMore
open Go.Proofs.YtagmdkmgagfmhaaDoor
set_option linter.unusedVariables false
set_option linter.unusedSimpArgs false

theorem gML : Tryd.prog.globalNamed "internal/bytealg.MaxLen" = some 0 := by kernel_rfl
theorem gPow : Tryd.prog.globalNamed "internal/strconv.uint64pow10" = some 4 := by kernel_rfl

/-- The library's variables that the calls read. -/
structure Vs (w : World) : Prop where
  ml : ∃ m, w.cell? ⟨0, 0, none⟩ = some (.int .i64 m)
  tab : TabIs Tryd.prog w "internal/strconv.uint64pow10" .u64 pow10Tab

theorem Vs.below {w w' : World} (h : Vs w) (hb : Below w.heap.size w w') : Vs w' := by
  obtain ⟨⟨m, hm⟩, ht⟩ := h
  refine ⟨⟨m, (hb.cell (World.block_lt_of_cell? _ _ hm)).trans hm⟩, ?_⟩
  have h4 := World.block_lt_of_cell? _ _ (TabIs.cell ht gPow 0 (by decide))
  unfold TabIs World.var? at ht ⊢
  simp only [gPow, Option.bind_some] at ht ⊢
  rw [hb.block 4 h4]
  exact ht

theorem gw_below (W : World) (q : Nat) (os : Array Obj) : Below W.heap.size W (grow (W.drewN q) os) := by
  refine ⟨rfl, rfl, rfl, by simp [grow, World.drewN], fun k hk => ?_⟩
  show (W.heap ++ os)[k]? = _
  rw [Array.getElem?_append_left hk]

/-- A row of bytes as a string. -/
def ofL (l : List UInt8) : ByteArray := ⟨l.toArray⟩
def bl (s : ByteArray) : List UInt8 := s.data.toList
theorem bl_ofL (l : List UInt8) : bl (ofL l) = l := by simp [bl, ofL]
theorem ofL_bl (s : ByteArray) : ofL (bl s) = s := by cases s; simp [bl, ofL]
theorem size_bl (s : ByteArray) : s.size = (bl s).length := Lib.size_eq s
theorem bl_append (a b : ByteArray) : bl (a ++ b) = bl a ++ bl b := by simp [bl]
theorem bl_inj {a b : ByteArray} (h : bl a = bl b) : a = b := by rw [← ofL_bl a, ← ofL_bl b, h]
def frameB (b : ByteArray) : ByteArray := ofL (frame (bl b))

theorem itoa15 (n : Nat) (hn : n ≤ 100000) (w : World) (h : Vs w) :
    Calls Tryd.prog 15 #[.int .i64 (n : Int)] w fun e w' => e = .returned (.string (ofL (decDigits n))) ∧ Below w.heap.size w w' := by
  refine (Any.strconv_Itoa lays171 (n : Int) (by omega) (by omega) w h.tab).mono fun e w' he => ?_
  obtain ⟨rfl, k, os, rfl⟩ := he
  exact ⟨by rw [itoa_nat]; rfl, gw_below w k os⟩
theorem index16 (s sub : ByteArray) (hs : s.size ≤ 1000000) (w : World) (h : Vs w) :
    Calls Tryd.prog 16 #[.string s, .string sub] w fun e w' => e = .returned (.int .i64 (index (bl s) (bl sub))) ∧ Below w.heap.size w w' := by
  obtain ⟨m, hm⟩ := h.ml
  refine (Any.strings_Index lays143 s sub m w (by omega) hm).mono fun e w' he => ?_
  obtain ⟨rfl, rfl⟩ := he
  exact ⟨rfl, Below.refl _ _⟩
theorem cut20 (s sub : ByteArray) (hs : s.size ≤ 1000000) (w : World) (h : Vs w) :
    Calls Tryd.prog 20 #[.string s, .string sub] w fun e w' => e = .returned (.tuple #[.string (ofL (cut (bl s) (bl sub)).1), .string (ofL (cut (bl s) (bl sub)).2.1), .bool (cut (bl s) (bl sub)).2.2]) ∧ Below w.heap.size w w' := by
  obtain ⟨m, hm⟩ := h.ml
  refine (Any.strings_Cut lays145 s sub m w (by omega) hm).mono fun e w' he => ?_
  obtain ⟨rfl, n, rfl⟩ := he
  exact ⟨rfl, pw_below_drewN (Below.refl _ _) n⟩
theorem fold23 (w : World) :
    Calls Tryd.prog 23 #[.string (ofL hname), .string (ofL hname)] w fun e w' => e = .returned (.bool true) ∧ Below w.heap.size w w' := by
  have ha : ∀ (j : Nat) b, (ofL hname).data.toList[j]? = some b → b.toNat < 128 := by
    have hall : ∀ x ∈ hname, x.toNat < 128 := by decide
    intro j b hb
    exact hall b (List.mem_of_getElem? hb)
  refine (Any.strings_EqualFold lays164 (ofL hname) (ofL hname) w (by decide) ha ha).mono fun e w' he => ?_
  obtain ⟨rfl, rfl⟩ := he
  exact ⟨by rw [show equalFold (ofL hname).data.toList (ofL hname).data.toList = true from fold_name], Below.refl _ _⟩
theorem trim25 (s set : ByteArray) (hs : s.size ≤ 1000000) (hc : set.size ≤ 100) (ha : ∀ x ∈ bl set, x.toNat < 128) (w : World) :
    Calls Tryd.prog 25 #[.string s, .string set] w fun e w' => e = .returned (.string (ofL (trimS (bl s) (bl set)))) ∧ Below w.heap.size w w' := by
  refine (Any.strings_Trim_laid lays160 (by kernel_rfl) s set w (by omega) (by omega) fun j b hb => ha b (List.mem_of_getElem? hb)).mono fun e w' he => ?_
  obtain ⟨rfl, hb⟩ := he
  exact ⟨rfl, hb⟩
theorem below_bytes (w : World) (e : TypeId) (s : ByteArray) : Below w.heap.size w (bytesWorld w e s) := by
  refine ⟨rfl, rfl, rfl, ?_, fun k hk => ?_⟩
  · show w.heap.size ≤ ((w.heap.push _).modify w.heap.size _).size
    rw [Array.size_modify, Array.size_push]
    omega
  · show ((w.heap.push _).modify w.heap.size _)[k]? = w.heap[k]?
    rw [Array.getElem?_modify, if_neg (by omega), Array.getElem?_push, if_neg (by omega)]
theorem atoi34 (n : Nat) (hn : n ≤ 4000) (w : World) :
    Calls Tryd.prog 34 #[.string (ofL (decDigits n))] w fun e w' => e = .returned (.tuple #[.int .i64 (n : Int), .nilIface]) ∧ Below w.heap.size w w' := by
  have hl := digits_len (n := n) 3 (by omega)
  refine (Any.strconv_Atoi lays172 (ofL (decDigits n)) (n : Int) (by rw [size_bl, bl_ofL]; omega) (atoi_digits n) w).mono fun e w' he => ?_
  obtain ⟨rfl, t, rfl⟩ := he
  exact ⟨rfl, below_bytes w _ _⟩

theorem frame_bytes (b : ByteArray) : ((((⟨#[67, 111, 110, 116, 101, 110, 116, 45, 76, 101, 110, 103, 116, 104, 58, 32]⟩ : ByteArray) ++ ofL (decDigits b.size)) ++ ⟨#[13, 10]⟩) ++ ⟨#[13, 10]⟩) ++ b = frameB b := by
  refine bl_inj ?_
  simp only [bl_append, frameB, bl_ofL, frame, hline, crlf, hname]
  rw [size_bl b]
  simp [bl]

set_option maxHeartbeats 4000000 in
set_option maxRecDepth 100000 in
theorem encode9 (b : ByteArray) (hb : b.size ≤ 4000) (w : World) (h : Vs w) :
    Calls Tryd.prog 9 #[.string b] w fun e w' => e = .returned (.tuple #[.string (frameB b), .int .i64 0]) ∧ Below w.heap.size w w' := by
  have e1 : decide ((b.size : Int) > 4000) = false := decide_eq_false (by omega)
  have e2 : decide ((4000 : Int) < (b.size : Int)) = false := decide_eq_false (by omega)
  obtain ⟨D, hD⟩ : ∃ D, ofL (decDigits b.size) = D := ⟨_, rfl⟩
  have hDs : D.size ≤ 4 := by rw [← hD, size_bl, bl_ofL]; exact digits_len 3 (by omega)
  have c1 : 16 + D.size ≤ 9223372036854775807 := by omega
  have c2 : 16 + D.size + 2 ≤ 9223372036854775807 := by omega
  have c3 : 16 + D.size + 2 + 2 ≤ 9223372036854775807 := by omega
  have c4 : 16 + D.size + 2 + 2 + b.size ≤ 9223372036854775807 := by omega
  have HS := Aside0.mk hb
  have HD := Aside0.mk hD
  clear hb hD hDs
  go_enter Tryd.func9, Tryd.ntmps9
  go_wp2_with (go_at_call 15; refine (itoa15 b.size (by have := HS.out; omega) _ h).mono ?_; rw [HD.out]; rintro e_ w1 ⟨rfl, hb⟩)
  go_ret2
  exact ⟨by rw [← frame_bytes, HD.out]; rfl, hb⟩
set_option maxHeartbeats 4000000 in
set_option maxRecDepth 100000 in
theorem encode9_no (b : ByteArray) (hb : ¬ b.size ≤ 4000) (w : World) :
    Calls Tryd.prog 9 #[.string b] w fun e w' => e = .returned (.tuple #[.string ⟨#[]⟩, .int .i64 2]) ∧ Below w.heap.size w w' := by
  have e1 : decide ((b.size : Int) > 4000) = true := decide_eq_true (by omega)
  have e2 : decide ((4000 : Int) < (b.size : Int)) = true := decide_eq_true (by omega)
  have HS := Aside0.mk hb
  clear hb
  go_enter Tryd.func9, Tryd.ntmps9
  go_wp2
  go_ret2
  exact ⟨rfl, Below.refl _ _⟩
end Go.Proofs.YtagmdkmgagfmhaaDoor.Fr
