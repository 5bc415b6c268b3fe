/- What the printed functions of the journal compute: checksums, frames, payloads, and how a sequence of frames is read again. No condition. -/
import Derived.Test.YtflemfibjjognaaJsx6
set_option linter.unusedVariables false
set_option linter.unusedSimpArgs false
namespace Go.Proofs.Ytflemfibjjognaa.Js
open Go.RowKit Go.Proofs.YtflemfibjjognaaW.PrintWords Go.Proofs.YtflemfibjjognaaW.PrintLast Go.Proofs.YtflemfibjjognaaW.PrintMore

theorem w64_id {n : Int} (h : -9223372036854775808 ≤ n) (h' : n ≤ 9223372036854775807) : wrap64 n = n := by unfold wrap64; omega

/-! ### the checksum -/
def ck1 (h : Int) (b : UInt8) : Int := ((Go.bits .xor .u32 h ((b.toNat : Int) % 4294967296)) * 16777619) % 4294967296
def ck (h : Int) (l : List UInt8) : Int := l.foldl ck1 h
def cs (s : ByteArray) : Int := ck 2166136261 s.data.toList

theorem ck1_range (h : Int) (b : UInt8) : 0 ≤ ck1 h b ∧ ck1 h b < 4294967296 := by unfold ck1; omega
theorem ck_range (l : List UInt8) : ∀ h : Int, 0 ≤ h → h < 4294967296 → 0 ≤ ck h l ∧ ck h l < 4294967296 := by
  induction l with
  | nil => intro h h0 h1; exact ⟨h0, h1⟩
  | cons b l ih => intro h _ _; exact ih _ (ck1_range h b).1 (ck1_range h b).2
theorem cs_range (s : ByteArray) : 0 ≤ cs s ∧ cs s < 4294967296 := ck_range _ _ (by decide) (by decide)

theorem bt_data (s : ByteArray) (i : Nat) (h : i < s.size) : ∃ b, s.data.toList[i]? = some b ∧ bt s (i : Int) = (b.toNat : Int) := by
  refine ⟨s[i], ?_, ?_⟩
  · have h' : i < s.data.size := h
    rw [Array.getElem?_toList, Array.getElem?_eq_getElem h']
    rfl
  · unfold bt
    rw [dif_pos (by simpa using h)]
    rfl

theorem checksum_loop (s : ByteArray) (hs : s.size ≤ 9223372036854775806) : ∀ (d i : Nat) (k : Nat) (h : Int), i + d = s.size → d < k →
    journal_Checksum.l0 k s h (s.size : Int) (i : Int) = some (ck h (s.data.toList.drop i)) := by
  intro d
  induction d with
  | zero =>
    intro i k h hi hk
    obtain ⟨k, rfl⟩ : ∃ m, k = m + 1 := ⟨k - 1, by omega⟩
    simp only [journal_Checksum.l0]
    rw [if_neg (by omega), List.drop_eq_nil_of_le (by rw [Array.length_toList]; show s.size ≤ i; omega)]
    rfl
  | succ d ih =>
    intro i k h hi hk
    obtain ⟨k, rfl⟩ : ∃ m, k = m + 1 := ⟨k - 1, by omega⟩
    obtain ⟨b, hb, hbt⟩ := bt_data s i (by omega)
    simp only [journal_Checksum.l0]
    rw [if_pos (by omega), if_pos (by omega), if_pos (by omega), w64_id (by omega) (by omega)]
    have e : ((i : Int) + 1) = ((i + 1 : Nat) : Int) := by omega
    rw [e, ih (i + 1) k _ (by omega) (by omega), hbt]
    obtain ⟨hlt, hget⟩ := List.getElem?_eq_some_iff.1 hb
    rw [List.drop_eq_getElem_cons hlt, hget]
    rfl

theorem checksum_is (s : ByteArray) (hs : s.size ≤ 9223372036854775806) (k : Nat) (hk : s.size < k) : journal_Checksum.f k s = some (cs s) := by
  unfold journal_Checksum.f cs
  exact checksum_loop s hs s.size 0 k _ (by omega) hk

/-- xor with one byte, on 32 bits -/
theorem xor_nat (h : Int) (b : UInt8) (h0 : 0 ≤ h) (h1 : h < 4294967296) : Go.bits .xor .u32 h ((b.toNat : Int) % 4294967296) = ((h.toNat ^^^ b.toNat : Nat) : Int) := by
  obtain ⟨n, rfl⟩ := Int.eq_ofNat_of_zero_le h0
  have hb := b.toNat_lt
  have e : ((b.toNat : Int) % 4294967296) = ((b.toNat : Nat) : Int) := by omega
  rw [e]
  unfold Go.bits
  have hn : n < 2 ^ 32 := by omega
  have hx : n ^^^ b.toNat < 2 ^ 32 := Nat.xor_lt_two_pow hn (by omega)
  have e1 : (BitVec.ofInt 32 (n : Int) ^^^ BitVec.ofInt 32 (b.toNat : Int)).toNat = n ^^^ b.toNat := by
    rw [BitVec.toNat_xor, BitVec.ofInt_natCast, BitVec.ofInt_natCast, BitVec.toNat_ofNat, BitVec.toNat_ofNat, Nat.mod_eq_of_lt hn, Nat.mod_eq_of_lt (by omega)]
  show IntKind.wrap .u32 ((BitVec.ofInt 32 (n : Int) ^^^ BitVec.ofInt 32 (b.toNat : Int)).toNat : Int) = _
  rw [e1, IntKind.wrap_u32]
  have e2 : ((n : Int).toNat) = n := by omega
  rw [e2]
  have : ((n ^^^ b.toNat : Nat) : Int) < 4294967296 := by
    have : (n ^^^ b.toNat) < 4294967296 := hx
    omega
  omega

theorem mul_inj_gen {M p q s : Int} (hp : p * q = 1 + M * s) {x y : Int} (hx0 : 0 ≤ x) (hx1 : x < M) (hy0 : 0 ≤ y) (hy1 : y < M) (h : (x * p) % M = (y * p) % M) : x = y := by
  have h1 : M ∣ x * p - y * p := Int.dvd_of_emod_eq_zero (Int.emod_eq_emod_iff_emod_sub_eq_zero.1 h)
  have h2 : M ∣ x - y := by
    obtain ⟨k, hk⟩ := h1
    refine ⟨k * q - (x - y) * s, ?_⟩
    have e1 : (x - y) * (p * q) = M * (k * q) := by rw [← Int.mul_assoc, Int.sub_mul, hk, Int.mul_assoc]
    rw [hp, Int.mul_add, Int.mul_one] at e1
    have e2 : (x - y) * (M * s) = M * ((x - y) * s) := by rw [Int.mul_left_comm]
    rw [Int.mul_sub, ← e1, e2]
    omega
  rw [← Int.emod_eq_of_lt hx0 hx1, ← Int.emod_eq_of_lt hy0 hy1]
  exact Int.emod_eq_emod_iff_emod_sub_eq_zero.2 (Int.emod_eq_zero_of_dvd h2)
theorem mul_inj {x y : Int} (hx0 : 0 ≤ x) (hx1 : x < 4294967296) (hy0 : 0 ≤ y) (hy1 : y < 4294967296) (h : (x * 16777619) % 4294967296 = (y * 16777619) % 4294967296) : x = y :=
  mul_inj_gen (q := 899433627) (s := 3513497) (by rfl) hx0 hx1 hy0 hy1 h

theorem xor_lt {n m : Nat} (hn : n < 4294967296) (hm : m < 4294967296) : n ^^^ m < 4294967296 := Nat.xor_lt_two_pow (n := 32) hn hm
theorem byte_lt (b : UInt8) : b.toNat < 4294967296 := Nat.lt_of_lt_of_le b.toNat_lt (by decide)
theorem toNat_lt32 {h : Int} (h0 : 0 ≤ h) (h1 : h < 4294967296) : h.toNat < 4294967296 := by omega
theorem ck1_eq {h h' : Int} {b c : UInt8} (h0 : 0 ≤ h) (h1 : h < 4294967296) (g0 : 0 ≤ h') (g1 : h' < 4294967296) (e : ck1 h b = ck1 h' c) : h.toNat ^^^ b.toNat = h'.toNat ^^^ c.toNat := by
  unfold ck1 at e
  rw [xor_nat h b h0 h1, xor_nat h' c g0 g1] at e
  exact Int.ofNat.inj (mul_inj (Int.natCast_nonneg _) (Int.ofNat_lt.2 (xor_lt (toNat_lt32 h0 h1) (byte_lt b))) (Int.natCast_nonneg _) (Int.ofNat_lt.2 (xor_lt (toNat_lt32 g0 g1) (byte_lt c))) e)
theorem ck1_inj {h h' : Int} {b : UInt8} (h0 : 0 ≤ h) (h1 : h < 4294967296) (g0 : 0 ≤ h') (g1 : h' < 4294967296) (e : ck1 h b = ck1 h' b) : h = h' := by
  have e4 := congrArg (· ^^^ b.toNat) (ck1_eq h0 h1 g0 g1 e)
  simp only [Nat.xor_assoc, Nat.xor_self, Nat.xor_zero] at e4
  clear e
  omega
theorem ck1_byte {h : Int} {b c : UInt8} (h0 : 0 ≤ h) (h1 : h < 4294967296) (e : ck1 h b = ck1 h c) : b = c := by
  have e4 := congrArg (h.toNat ^^^ ·) (ck1_eq h0 h1 h0 h1 e)
  simp only [← Nat.xor_assoc, Nat.xor_self, Nat.zero_xor] at e4
  exact UInt8.toNat_inj.1 e4

theorem ck_inj (l : List UInt8) : ∀ h h' : Int, 0 ≤ h → h < 4294967296 → 0 ≤ h' → h' < 4294967296 → ck h l = ck h' l → h = h' := by
  induction l with
  | nil => intro h h' _ _ _ _ e; exact e
  | cons b l ih =>
    intro h h' h0 h1 g0 g1 e
    exact ck1_inj h0 h1 g0 g1 (ih _ _ (ck1_range _ _).1 (ck1_range _ _).2 (ck1_range _ _).1 (ck1_range _ _).2 e)

/-- One byte replaced: another checksum. -/
theorem ck_differs (l r : List UInt8) (b c : UInt8) (hne : b ≠ c) (h : Int) (h0 : 0 ≤ h) (h1 : h < 4294967296) : ck h (l ++ b :: r) ≠ ck h (l ++ c :: r) := by
  intro e
  unfold ck at e
  rw [List.foldl_append, List.foldl_append] at e
  have hr := ck_range l h h0 h1
  unfold ck at hr
  have e2 := ck_inj r _ _ (ck1_range _ _).1 (ck1_range _ _).2 (ck1_range _ _).1 (ck1_range _ _).2 e
  exact hne (ck1_byte hr.1 hr.2 e2)

end Go.Proofs.Ytflemfibjjognaa.Js
