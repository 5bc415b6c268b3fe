/- The three laws of the journal, as statements about the printed functions. No condition beside the arguments' size. -/
import Derived.Test.YtflemfibjjognaaJo
import Derived.Test.YtflemfibjjognaaJrx
set_option linter.unusedVariables false
set_option linter.unusedSimpArgs false
namespace Go.Proofs.Ytflemfibjjognaa.Jr
open Go.RowKit Go.Proofs.YtflemfibjjognaaW.PrintWords Go.Proofs.YtflemfibjjognaaW.PrintLast Go.Proofs.YtflemfibjjognaaW.PrintMore

/-- the fixed example -/
theorem example_is (k : Nat) (hk : 4000 ≤ k) : glossatorkeep3_journalExample.f k = some true := by
  have h1 := append_is ⟨#[]⟩ ⟨⟨#[107]⟩, ⟨#[118]⟩, false⟩ (by decide) k hk
  have h2 := checksum_is ⟨#[97]⟩ (by decide) k (by show 1 < k; omega)
  have e2 : cs ⟨#[97]⟩ = 3826002220 := by decide +kernel
  have e1 : (app ⟨#[]⟩ ⟨⟨#[107]⟩, ⟨#[118]⟩, false⟩).2 = 0 ∧ ((app ⟨#[]⟩ ⟨⟨#[107]⟩, ⟨#[118]⟩, false⟩).1.size : Int) = 10 := by
    have hv : vcode ⟨⟨#[107]⟩, ⟨#[118]⟩, false⟩ = 0 := by decide
    have hp : (pay ⟨⟨#[107]⟩, ⟨#[118]⟩, false⟩).size = 4 := (pay_size _).trans rfl
    have hf := frm_size (pay ⟨⟨#[107]⟩, ⟨#[118]⟩, false⟩)
    have h := appF_fits (lg := ⟨#[]⟩) (F := frm (pay ⟨⟨#[107]⟩, ⟨#[118]⟩, false⟩)) hv (by show 0 + _ ≤ _; omega)
    unfold app
    rw [h]
    refine ⟨rfl, ?_⟩
    simp only
    rw [empty_append]
    omega
  unfold glossatorkeep3_journalExample.f
  rw [h1, Option.bind_some, h2, Option.bind_some, e2, if_pos rfl, if_pos e1.1, e1.2]
  rfl

/-- equal lists of records are told as equal -/
theorem equal_loop (xs : List S31) (hx : xs.length ≤ 1000) : ∀ (d i k : Nat), i + d = xs.length → d < k → api_QRecord.l0 k xs xs (xs.length : Int) (i : Int) = some true := by
  intro d
  induction d with
  | zero =>
    intro i k hi hk
    obtain ⟨k, rfl⟩ : ∃ m, k = m + 1 := ⟨k - 1, by omega⟩
    simp only [api_QRecord.l0]
    rw [if_neg (by omega)]
  | succ d ih =>
    intro i k hi hk
    obtain ⟨k, rfl⟩ : ∃ m, k = m + 1 := ⟨k - 1, by omega⟩
    simp only [api_QRecord.l0]
    rw [if_pos (by omega), if_pos (by omega), if_pos (by omega), if_pos (by omega), if_neg (by simp), w64_id (by omega) (by omega), show ((i : Int) + 1) = ((i + 1 : Nat) : Int) from by omega]
    exact ih (i + 1) k (by omega) (by omega)
theorem equal_is (xs : List S31) (hx : xs.length ≤ 1000) (k : Nat) (hk : 1000 < k) : api_QRecord.f k xs xs = some true := by
  unfold api_QRecord.f
  rw [if_pos rfl]
  exact equal_loop xs hx xs.length 0 k (by omega) (by omega)

theorem nothing_left : ∃ x0 x1 x2, ∀ k, 4000 ≤ k → journal_next.f k (⟨#[]⟩ : ByteArray) = some (x0, x1, x2, 0, 0) := ⟨_, _, _, fun k _ => next_short k _ (by decide)⟩

theorem RoundTrip (l0 : List S31) (hl : l0.length ≤ 9223372036854775807) : ∃ k, glossatorkeep3_JournalRoundTrip.f k l0 = some true := by
  refine ⟨5000, ?_⟩
  obtain ⟨lg, vs, hw, hg⟩ := written_is l0 hl 5000 (by omega)
  have hr := read_is nothing_left vs hg.ok (by rw [append_empty, ← hg.eq]; exact hg.small) (by have := hg.few; omega) 5000 (by omega)
  rw [append_empty, ← hg.eq, if_pos rfl] at hr
  unfold glossatorkeep3_JournalRoundTrip.f
  rw [example_is 5000 (by omega), Option.bind_some, if_pos rfl, hw, Option.bind_some, hr, Option.bind_some, Option.bind_some, if_pos rfl, if_pos rfl, if_pos rfl, equal_is vs (by have := hg.few; omega) 5000 (by omega)]
  rfl

theorem mod_range (a m : Int) (hm : 0 < m) (hm' : m ≤ 1000000) : ∃ r, glossatorref3_Mod.f a m = some r ∧ 0 ≤ r ∧ r < m := by
  unfold glossatorref3_Mod.f
  rw [if_neg (by omega)]
  have h1 := Int.tmod_lt_of_pos a hm
  by_cases h : Int.tmod a m < 0
  · rw [if_pos h]
    have h2 : -m < Int.tmod a m := Int.lt_tmod_of_pos a hm
    exact ⟨_, rfl, by rw [w64_id (by omega) (by omega)]; omega, by rw [w64_id (by omega) (by omega)]; omega⟩
  · rw [if_neg h]; exact ⟨_, rfl, by omega, h1⟩

/-- Cutting a sequence of frames: whole frames, and a rest that is part of the next one. -/
theorem cut_flat : ∀ (vs : List S31) (c : Nat), c < (flat vs).size → ∃ i t t', ∃ h : i < vs.length, (flat vs).extract 0 c = flat (vs.take i) ++ t ∧ t ++ t' = frm (pay vs[i]) ∧ 0 < t'.size := by
  intro vs
  induction vs with
  | nil => intro c h; exact absurd h (by show ¬ c < 0; omega)
  | cons r vs ih =>
    intro c h
    have hz : (flat (r :: vs)).size = (frm (pay r)).size + (flat vs).size := by simp only [flat, ByteArray.size_append]
    by_cases hc : c < (frm (pay r)).size
    · refine ⟨0, (frm (pay r)).extract 0 c, (frm (pay r)).extract c (frm (pay r)).size, by simp, ?_, ?_, ?_⟩
      · simp only [flat, List.take_zero]
        rw [empty_append, ByteArray.extract_append, show 0 - (frm (pay r)).size = 0 from by omega, show c - (frm (pay r)).size = 0 from by omega, ByteArray.extract_same]
        exact ByteArray.append_empty
      · simp only [List.getElem_cons_zero]
        rw [ByteArray.extract_append_extract, show min 0 c = 0 from by omega, show max c (frm (pay r)).size = (frm (pay r)).size from by omega, ByteArray.extract_zero_size]
      · rw [ByteArray.size_extract]; omega
    · obtain ⟨i, t, t', hi, h1, h2, h3⟩ := ih (c - (frm (pay r)).size) (by omega)
      refine ⟨i + 1, t, t', by simp; omega, ?_, ?_, h3⟩
      · simp only [flat, List.take_succ_cons]
        rw [ByteArray.extract_append, show 0 - (frm (pay r)).size = 0 from by omega, h1]
        have : (frm (pay r)).extract 0 c = frm (pay r) := by
          rw [show c = max c (frm (pay r)).size from by omega, ByteArray.extract_zero_max_size]
        rw [this, ByteArray.append_assoc]
      · simpa using h2

theorem TornWrite (l0 : List S31) (cut : Int) (hl : l0.length ≤ 9223372036854775807) : ∃ k, glossatorkeep3_JournalTornWrite.f k l0 cut = some true := by
  refine ⟨5000, ?_⟩
  obtain ⟨lg, vs, hw, hg⟩ := written_is l0 hl 5000 (by omega)
  have hsm := hg.small
  have hfew := hg.few
  obtain ⟨c, hm, hc0, hc1⟩ := mod_range cut ((lg.size : Int) + 1) (by omega) (by omega)
  obtain ⟨c, rfl⟩ := Int.eq_ofNat_of_zero_le hc0
  have he := example_is 5000 (by omega)
  unfold glossatorkeep3_JournalTornWrite.f
  rw [he, Option.bind_some, if_pos rfl, hw, Option.bind_some]
  simp only
  rw [w64_id (by omega) (by omega), hm, Option.bind_some, if_pos (by omega), if_pos (by omega), show ((c : Nat) : Int).toNat = c from by omega]
  by_cases hcut : c < lg.size
  · -- the journal is cut off inside of a frame
    obtain ⟨i, t, t', hi, h1, h2, h3⟩ := cut_flat vs c (by rw [← hg.eq]; exact hcut)
    rw [← hg.eq] at h1
    have hvi : vcode vs[i] = 0 := hg.ok _ (List.getElem_mem hi)
    have hok : ∀ r ∈ vs.take i, vcode r = 0 := fun r hr => hg.ok r (List.mem_of_mem_take hr)
    have hps := pay_small hvi
    have ht : ∃ x0 x1 x2, ∀ k, 4000 ≤ k → journal_next.f k t = some (x0, x1, x2, 0, 0) := ⟨_, _, _, fun k hk => next_torn k hk (pay vs[i]) t t' (by omega) h2 h3⟩
    have hlt : (vs.take i).length = i := by rw [List.length_take]; omega
    have hsz : (flat (vs.take i) ++ t).size ≤ 40000 := by rw [← h1, ByteArray.size_extract]; omega
    have hcs : (flat (vs.take i)).size + t.size = c := by rw [← ByteArray.size_append, ← h1, ByteArray.size_extract]; omega
    have hfz : (frm (pay vs[i])).size = t.size + t'.size := by rw [← h2, ByteArray.size_append]
    have hr := read_is ht (vs.take i) hok hsz (by omega) 5000 (by omega)
    have hrec := recover_is ht (vs.take i) hok hsz (by omega) 5000 (by omega)
    rw [if_pos rfl] at hr
    -- the journal: what was read, the torn frame, the rest
    have hsplit : vs = vs.take i ++ vs[i] :: vs.drop (i + 1) := by rw [List.getElem_cons_drop, List.take_append_drop]
    have hlg : lg = flat (vs.take i) ++ (frm (pay vs[i]) ++ flat (vs.drop (i + 1))) := by
      rw [hg.eq]; exact (congrArg flat hsplit).trans (by rw [flat_append]; rfl)
    have hpre : lg.extract 0 (flat (vs.take i)).size = flat (vs.take i) := by rw [hlg]; exact ByteArray.extract_append_eq_left rfl
    have hlz : lg.size = (flat (vs.take i)).size + ((frm (pay vs[i])).size + (flat (vs.drop (i + 1))).size) := (congrArg ByteArray.size hlg).trans (by rw [ByteArray.size_append, ByteArray.size_append])
    rw [h1, hr, Option.bind_some, hrec, Option.bind_some]
    simp only
    rw [if_pos trivial, if_neg (by omega), if_pos (by omega), if_pos (by omega), show (((flat (vs.take i)).size : Nat) : Int).toNat = (flat (vs.take i)).size from by omega, hpre, if_pos rfl, equal_is _ (by omega) 5000 (by omega), Option.bind_some, if_pos rfl, if_neg (by omega), if_pos (by omega), if_pos (by omega),
      show (((vs.take i).length : Nat) : Int).toNat = i from by omega, equal_is _ (by omega) 5000 (by omega), Option.bind_some]
    simp only [Bool.not_true, glossatorkeep3_JournalTornWrite.j0]
    rw [if_neg (by simp), if_pos (by omega), if_pos (by omega), if_pos (by omega), if_pos (by omega), show (((flat (vs.take i)).size : Nat) : Int).toNat = (flat (vs.take i)).size from by omega, hpre, hlt, rd_get vs i hi,
      append_is _ vs[i] (by omega) 4999 (by omega), Option.bind_some, example_is 4999 (by omega), Option.bind_some, if_pos rfl]
    have happ : app (flat (vs.take i)) vs[i] = (flat (vs.take i) ++ frm (pay vs[i]), 0) := appF_fits hvi (by omega)
    rw [happ]
    simp only
    have hnz : (flat (vs.take i) ++ frm (pay vs[i])).size = (flat (vs.take i)).size + (frm (pay vs[i])).size := ByteArray.size_append
    rw [if_pos trivial, if_pos (by omega), if_pos (by omega), if_pos (by omega), show (((flat (vs.take i) ++ frm (pay vs[i])).size : Nat) : Int).toNat = (flat (vs.take i) ++ frm (pay vs[i])).size from by omega]
    have hx : lg.extract 0 (flat (vs.take i) ++ frm (pay vs[i])).size = flat (vs.take i) ++ frm (pay vs[i]) := by
      rw [hlg, ← ByteArray.append_assoc]; exact ByteArray.extract_append_eq_left rfl
    rw [hx]
    simp
  · -- nothing is missing
    have hce : c = lg.size := by omega
    subst hce
    rw [ByteArray.extract_zero_size]
    have hr := read_is nothing_left vs hg.ok (by rw [append_empty, ← hg.eq]; exact hg.small) (by omega) 5000 (by omega)
    have hrec := recover_is nothing_left vs hg.ok (by rw [append_empty, ← hg.eq]; exact hg.small) (by omega) 5000 (by omega)
    rw [append_empty, ← hg.eq, if_pos rfl] at hr
    rw [append_empty, ← hg.eq] at hrec
    rw [hr, Option.bind_some, hrec, Option.bind_some]
    simp only
    rw [if_pos trivial, if_neg (by omega), if_pos (by omega), if_pos (by omega), show ((lg.size : Nat) : Int).toNat = lg.size from by omega, ByteArray.extract_zero_size, if_pos rfl, equal_is _ (by omega) 5000 (by omega), Option.bind_some, if_pos rfl, if_neg (by omega), if_pos (by omega), if_pos (by omega),
      show ((vs.length : Nat) : Int).toNat = vs.length from by omega, List.take_length, equal_is _ (by omega) 5000 (by omega), Option.bind_some]
    simp only [Bool.not_true, glossatorkeep3_JournalTornWrite.j0]
    rw [if_neg (by simp), if_pos (by omega), if_pos (by omega), if_neg (by omega), example_is 4999 (by omega), Option.bind_some, if_pos rfl]
    simp

/-! ### a byte replaced -/
theorem xor8 (b c : Nat) (hb : b < 256) (hc : c < 256) : Go.bits .xor .u8 (b : Int) (c : Int) = ((b ^^^ c : Nat) : Int) := by
  unfold Go.bits
  have hx : b ^^^ c < 256 := Nat.xor_lt_two_pow (n := 8) hb hc
  have e1 : (BitVec.ofInt 8 (b : Int) ^^^ BitVec.ofInt 8 (c : Int)).toNat = b ^^^ c := by
    rw [BitVec.toNat_xor, BitVec.ofInt_natCast, BitVec.ofInt_natCast, BitVec.toNat_ofNat, BitVec.toNat_ofNat, Nat.mod_eq_of_lt (by omega), Nat.mod_eq_of_lt (by omega)]
  show IntKind.wrap .u8 ((BitVec.ofInt 8 (b : Int) ^^^ BitVec.ofInt 8 (c : Int)).toNat : Int) = _
  rw [e1, IntKind.wrap_u8]
  omega
theorem xor_ne (b c : Nat) (hc : c ≠ 0) : b ^^^ c ≠ b := by
  intro h
  have := congrArg (b ^^^ ·) h
  simp only [← Nat.xor_assoc, Nat.xor_self, Nat.zero_xor] at this
  exact hc this

theorem ofNat_inj8 {a b : Int} (h : UInt8.ofNat (a % 256).toNat = UInt8.ofNat (b % 256).toNat) : a % 256 = b % 256 := by
  have := congrArg UInt8.toNat h
  rw [UInt8.toNat_ofNat', UInt8.toNat_ofNat'] at this
  omega
theorem sum4_inj {x y : Int} (hx0 : 0 ≤ x) (hx1 : x < 4294967296) (hy0 : 0 ≤ y) (hy1 : y < 4294967296) (h : sum4 x = sum4 y) : x = y := by
  have h1 := congrArg L h
  unfold sum4 at h1
  rw [L_nums, L_nums] at h1
  simp only [List.map_cons, List.map_nil, List.cons.injEq, and_true] at h1
  obtain ⟨a, b, c, d⟩ := h1
  have a := ofNat_inj8 a
  have b := ofNat_inj8 b
  have c := ofNat_inj8 c
  have d := ofNat_inj8 d
  omega

/-- The frame with one byte of its payload replaced. -/
theorem next_damaged (k : Nat) (hk : 4000 ≤ k) (p q : ByteArray) (hp : p.size ≤ 3900) (hq : q.size = p.size) (l r : List UInt8) (b c : UInt8) (hpL : L p = l ++ b :: r) (hqL : L q = l ++ c :: r) (hne : b ≠ c) :
    journal_next.f k ((len2 p ++ sum4 (cs (len2 p ++ p))) ++ q) = some ((⟨#[]⟩ : ByteArray), (⟨#[]⟩ : ByteArray), false, 0, 13) := by
  have hL : L ((len2 p ++ sum4 (cs (len2 p ++ p))) ++ q) = L (len2 p) ++ (L (sum4 (cs (len2 p ++ p))) ++ L q) := by rw [L_append, L_append, List.append_assoc]
  have hs : ((len2 p ++ sum4 (cs (len2 p ++ p))) ++ q).size = 6 + p.size := by rw [ByteArray.size_append, ByteArray.size_append, len2_size, sum4_size, hq]
  have hd : Head ((len2 p ++ sum4 (cs (len2 p ++ p))) ++ q) p.size := by
    refine head_of (by omega) ?_ ?_
    · rw [hL, L_len2 p (by omega)]; rfl
    · rw [hL, L_len2 p (by omega)]; rfl
  have h6 : (len2 p ++ sum4 (cs (len2 p ++ p))).size = 6 := by rw [ByteArray.size_append, len2_size, sum4_size]
  have x6 : ((len2 p ++ sum4 (cs (len2 p ++ p))) ++ q).extract 6 (6 + p.size) = q := by
    exact ByteArray.extract_append_eq_right h6.symm (by rw [h6, hq])
  have x0 : ((len2 p ++ sum4 (cs (len2 p ++ p))) ++ q).extract 0 (6 + p.size) = (len2 p ++ sum4 (cs (len2 p ++ p))) ++ q := by
    rw [← hs, ByteArray.extract_zero_size]
  have e2 : len2 q = len2 p := by unfold len2; rw [hq]
  have hdiff : ¬ (frm q).toList = ((len2 p ++ sum4 (cs (len2 p ++ p))) ++ q).toList := by
    intro e
    rw [toList_L, toList_L] at e
    have e := L_inj e
    unfold frm at e
    rw [e2] at e
    have e3 := (ByteArray.append_left_inj q).1 e
    have e4 := (ByteArray.append_right_inj _).1 e3
    have e5 := sum4_inj (cs_range _).1 (cs_range _).2 (cs_range _).1 (cs_range _).2 e4
    unfold cs at e5
    have ea : (len2 p ++ q).data.toList = (L (len2 p) ++ l) ++ c :: r := by show L (len2 p ++ q) = _; rw [L_append, hqL, List.append_assoc]
    have eb : (len2 p ++ p).data.toList = (L (len2 p) ++ l) ++ b :: r := by show L (len2 p ++ p) = _; rw [L_append, hpL, List.append_assoc]
    rw [ea, eb] at e5
    exact ck_differs _ _ c b (fun h => hne h.symm) _ (by decide) (by decide) e5
  rw [next_eq k _ p.size (by omega) (by omega) hd, if_neg (by omega), x6, x0, frame_is q (by omega) k (by omega), Option.bind_some, if_neg hdiff]

theorem bt_byte (s : ByteArray) (i : Nat) (h : i < s.size) : ∃ b, (L s)[i]? = some b ∧ bt s (i : Int) = (b.toNat : Int) := bt_data s i h

/-- The place of byte r of the payload of the last frame. -/
theorem L_last (lg p : ByteArray) : L (lg ++ frm p) = (L lg ++ (L (len2 p) ++ L (sum4 (cs (len2 p ++ p))))) ++ L p ∧ (L lg ++ (L (len2 p) ++ L (sum4 (cs (len2 p ++ p))))).length = lg.size + 6 := by
  refine ⟨by rw [L_append, L_frm, List.append_assoc, List.append_assoc, List.append_assoc], ?_⟩
  have l2 : (L (len2 p)).length = 2 := (L_size _).trans (len2_size _)
  have l4 : (L (sum4 (cs (len2 p ++ p)))).length = 4 := (L_size _).trans (sum4_size _)
  have llg : (L lg).length = lg.size := L_size _
  rw [List.length_append, List.length_append]; omega
theorem byte_last (lg p : ByteArray) (r : Nat) (b : UInt8) (hb : (L p)[r]? = some b) : bt (lg ++ frm p) ((lg.size + 6 + r : Nat) : Int) = (b.toNat : Int) := by
  obtain ⟨h1, h2⟩ := L_last lg p
  exact bt_L (by rw [h1, List.getElem?_append_right (by omega), h2, show lg.size + 6 + r - (lg.size + 6) = r from by omega]; exact hb)
theorem damaged (lg p q : ByteArray) (r n : Nat) (hr : r < p.size) (hq : L q = (L p).take r ++ UInt8.ofNat n :: (L p).drop (r + 1)) :
    ((lg ++ frm p).extract 0 (lg.size + 6 + r) ++ strOfNums [(n : Int)]) ++ (lg ++ frm p).extract (lg.size + 6 + r + 1) (lg ++ frm p).size = lg ++ ((len2 p ++ sum4 (cs (len2 p ++ p))) ++ q) := by
  obtain ⟨h1, h2⟩ := L_last lg p
  have lp : (L p).length = p.size := L_size _
  have hz : (lg ++ frm p).size = lg.size + (6 + p.size) := by rw [ByteArray.size_append, frm_size]
  apply L_inj
  rw [L_append, L_append, L_extract, L_extract, h1, L_append lg, L_append, L_append, hq, L_nums]
  simp only [List.map_cons, List.map_nil, List.drop_zero, Nat.sub_zero]
  generalize hA : L lg ++ (L (len2 p) ++ L (sum4 (cs (len2 p ++ p)))) = A at h2 ⊢
  rw [show ((n : Nat) : Int).toNat = n from by omega, ← List.append_assoc (L lg), hA]
  have e1 : (A ++ L p).take (lg.size + 6 + r) = A ++ (L p).take r := by rw [List.take_append, h2, List.take_of_length_le (by omega), show lg.size + 6 + r - (lg.size + 6) = r from by omega]
  have e2 : (A ++ L p).drop (lg.size + 6 + r + 1) = (L p).drop (r + 1) := by rw [List.drop_append, h2, List.drop_eq_nil_of_le (by omega), show lg.size + 6 + r + 1 - (lg.size + 6) = r + 1 from by omega, List.nil_append]
  rw [e1, e2, List.take_of_length_le (l := (L p).drop (r + 1)) (by rw [List.length_drop]; omega)]
  simp only [List.append_assoc, List.cons_append, List.nil_append]
theorem damaged_sizes (lg F : ByteArray) (P r n : Nat) (hr : r < P) (hF : F.size = 6 + P) :
    ((lg ++ F).extract 0 (lg.size + 6 + r)).size = lg.size + 6 + r ∧ ((lg ++ F).extract (lg.size + 6 + r + 1) (lg ++ F).size).size = P - (r + 1) ∧ (strOfNums [(n : Int)]).size = 1 ∧ (lg ++ F).size = lg.size + 6 + P ∧
    ((lg ++ F).extract 0 (lg.size + 6 + r) ++ strOfNums [(n : Int)]).size = lg.size + 6 + r + 1 := by
  have hz : (lg ++ F).size = lg.size + (6 + P) := by rw [ByteArray.size_append, hF]
  have h1 : ((lg ++ F).extract 0 (lg.size + 6 + r)).size = lg.size + 6 + r := by rw [ByteArray.size_extract]; omega
  have h3 : (strOfNums [(n : Int)]).size = 1 := size_nums _
  refine ⟨h1, ?_, h3, by omega, by rw [ByteArray.size_append, h1, h3]⟩
  rw [ByteArray.size_extract]; omega
theorem replaced (p : ByteArray) (r n : Nat) (hr : r < p.size) : ∃ q : ByteArray, L q = (L p).take r ++ UInt8.ofNat n :: (L p).drop (r + 1) ∧ q.size = p.size := by
  have lp : (L p).length = p.size := L_size _
  refine ⟨⟨((L p).take r ++ UInt8.ofNat n :: (L p).drop (r + 1)).toArray⟩, by simp [L], ?_⟩
  rw [← L_size]
  show (((L p).take r ++ UInt8.ofNat n :: (L p).drop (r + 1)).toArray.toList).length = _
  rw [List.toList_toArray, List.length_append, List.length_cons, List.length_take, List.length_drop]
  omega

/-- The journal whose last frame is damaged, read and recovered. -/
theorem damaged_read (lg : ByteArray) (vs : List S31) (hg : Good lg vs) (last : S31) (hv : vcode last = 0) (hfit : lg.size + (frm (pay last)).size ≤ 40000) (r n : Nat) (hr : r < (pay last).size) (b : UInt8) (hb : (L (pay last))[r]? = some b) (hn0 : n ≠ 0) (hn1 : n < 256) (k : Nat) (hk : 4200 ≤ k) :
    ∃ s, ((lg ++ frm (pay last)).extract 0 (lg.size + 6 + r) ++ strOfNums [((b.toNat ^^^ n : Nat) : Int)]) ++ (lg ++ frm (pay last)).extract (lg.size + 6 + r + 1) (lg ++ frm (pay last)).size = s ∧ journal_Read.f k s = some ([], 0, 13) ∧ journal_Recover.f k s = some (lg, vs) := by
  have hps := pay_small hv
  obtain ⟨q, hqL, hqz⟩ := replaced (pay last) r (b.toNat ^^^ n) hr
  have hblt := b.toNat_lt
  have hxl : b.toNat ^^^ n < 256 := Nat.xor_lt_two_pow (n := 8) hblt (by omega)
  have hne : b ≠ UInt8.ofNat (b.toNat ^^^ n) := by
    intro e
    have e := congrArg UInt8.toNat e
    rw [UInt8.toNat_ofNat', Nat.mod_eq_of_lt (by omega)] at e
    exact xor_ne b.toNat n hn0 e.symm
  have hsplit : L (pay last) = (L (pay last)).take r ++ b :: (L (pay last)).drop (r + 1) := by
    obtain ⟨hlt, hget⟩ := List.getElem?_eq_some_iff.1 hb
    rw [← hget, List.getElem_cons_drop, List.take_append_drop]
  have ht : ∃ x0 x1 x2, ∀ k, 4000 ≤ k → journal_next.f k ((len2 (pay last) ++ sum4 (cs (len2 (pay last) ++ pay last))) ++ q) = some (x0, x1, x2, 0, 13) := ⟨_, _, _, fun k hk => next_damaged k hk (pay last) q (by omega) hqz _ _ b _ hsplit hqL hne⟩
  have hfz := frm_size (pay last)
  have hdz : (flat vs ++ ((len2 (pay last) ++ sum4 (cs (len2 (pay last) ++ pay last))) ++ q)).size ≤ 40000 := by
    rw [← hg.eq, ByteArray.size_append, ByteArray.size_append, ByteArray.size_append, len2_size, sum4_size]; omega
  have h1 := read_is ht vs hg.ok hdz (by have := hg.few; omega) k hk
  have h2 := recover_is ht vs hg.ok hdz (by have := hg.few; omega) k hk
  rw [if_neg (by decide), ← hg.eq] at h1
  rw [← hg.eq] at h2
  exact ⟨_, damaged lg (pay last) q r _ hr hqL, h1, h2⟩

theorem corrupt_rest (at_ x : Int) (lg : ByteArray) (vs : List S31) (nx : ByteArray) (k : Nat) (hk : 4000 ≤ k) : glossatorkeep3_JournalCorruption.j0 (k + 1) at_ x lg vs nx true = some true := by
  simp only [glossatorkeep3_JournalCorruption.j0, if_true]
  rw [example_is k hk]; rfl

/-- the numbers in the walk of the damage -/
theorem corrupt_nums (lg F : ByteArray) (P r y : Nat) (hF : F.size = 6 + P) (hP : P ≤ 4000) (hlg : lg.size ≤ 40000) (hr : r < P) :
    wrap64 ((wrap64 (((lg ++ F).size : Int) - (lg.size : Int))) - 6) = (P : Int) ∧ wrap64 ((wrap64 ((lg.size : Int) + 6)) + (r : Int)) = ((lg.size + 6 + r : Nat) : Int) ∧ wrap64 (((lg.size + 6 + r : Nat) : Int) + 1) = ((lg.size + 6 + r + 1 : Nat) : Int) ∧
    ((lg.size + 6 + r : Nat) : Int) ≤ ((lg ++ F).size : Int) ∧ ((lg.size + 6 + r : Nat) : Int) < ((lg ++ F).size : Int) ∧ ((lg.size + 6 + r + 1 : Nat) : Int) ≤ ((lg ++ F).size : Int) ∧
    ((lg ++ F).extract 0 (lg.size + 6 + r)).size + (strOfNums [(y : Int)]).size ≤ 9223372036854775807 ∧
    ((lg ++ F).extract 0 (lg.size + 6 + r) ++ strOfNums [(y : Int)]).size + ((lg ++ F).extract (lg.size + 6 + r + 1) (lg ++ F).size).size ≤ 9223372036854775807 := by
  obtain ⟨z1, z2, z3, z4, z5⟩ := damaged_sizes lg F P r y hr hF
  rw [z5, z2, z1, z3, z4]
  refine ⟨?_, ?_, ?_, by omega, by omega, by omega, by omega, by omega⟩
  · rw [w64_id (n := ((lg.size + 6 + P : Nat) : Int) - (lg.size : Int)) (by omega) (by omega), w64_id (by omega) (by omega)]; omega
  · rw [w64_id (n := (lg.size : Int) + 6) (by omega) (by omega), w64_id (by omega) (by omega)]; omega
  · rw [w64_id (by omega) (by omega)]; omega
theorem corrupt_step (k : Nat) (at_ : Int) (lg F : ByteArray) (vs : List S31) (P r n : Nat) (s : ByteArray) (hF : F.size = 6 + P) (hP : P ≤ 4000) (hlg : lg.size ≤ 40000) (hr : r < P)
    (hm : glossatorref3_Mod.f at_ (P : Int) = some (r : Int)) (y : Nat) (hx : Go.bits .xor .u8 (bt (lg ++ F) ((lg.size + 6 + r : Nat) : Int)) (n : Int) = (y : Int))
    (hs : ((lg ++ F).extract 0 (lg.size + 6 + r) ++ strOfNums [(y : Int)]) ++ (lg ++ F).extract (lg.size + 6 + r + 1) (lg ++ F).size = s) :
    glossatorkeep3_JournalCorruption.j0 (k + 1) at_ (n : Int) lg vs (lg ++ F) false = (journal_Read.f k s).bind fun bt178 => ((journal_Recover.f k s).bind fun bt183 => ((glossatorkeep3_journalExample.f k).bind fun t187 => (if t187 = true then (if bt178.2.2 = 13 then (if bt183.1.toList = lg.toList then ((api_QRecord.f k bt183.2 vs).bind fun t188 => (some t188)) else (some false)) else (some false)) else (some false)))) := by
  obtain ⟨em, ep, ep1, c2, c3, c6, c4, c7⟩ := corrupt_nums lg F P r y hF hP hlg hr
  have i1 : ((lg.size + 6 + r : Nat) : Int).toNat = lg.size + 6 + r := Int.toNat_natCast _
  have i2 : ((lg.size + 6 + r + 1 : Nat) : Int).toNat = lg.size + 6 + r + 1 := Int.toNat_natCast _
  simp only [glossatorkeep3_JournalCorruption.j0, Bool.false_eq_true, if_false]
  rw [em, hm, Option.bind_some, ep, if_pos (Int.natCast_nonneg _), if_pos c2, if_pos c3, Option.bind_some, ep1, i1, i2, hx, if_pos c4, if_pos (Int.natCast_nonneg _), if_pos c6, if_pos c7, hs]

theorem corrupt_main (at_ : Int) (lg : ByteArray) (vs : List S31) (hg : Good lg vs) (last : S31) (hv : vcode last = 0) (hfit : lg.size + (frm (pay last)).size ≤ 40000) (n : Nat) (hn0 : n ≠ 0) (hn1 : n < 256) (k : Nat) (hk : 4200 ≤ k) :
    glossatorkeep3_JournalCorruption.j0 (k + 1) at_ (n : Int) lg vs (lg ++ frm (pay last)) false = some true := by
  have hps := pay_small hv
  have hpz := pay_size last
  have hfz := frm_size (pay last)
  obtain ⟨r, hm, hr0, hr1⟩ := mod_range at_ ((pay last).size : Int) (by omega) (by omega)
  obtain ⟨r, rfl⟩ := Int.eq_ofNat_of_zero_le hr0
  have hr : r < (pay last).size := by omega
  obtain ⟨b, hb, _⟩ := bt_byte (pay last) r hr
  obtain ⟨s, hs, h1, h2⟩ := damaged_read lg vs hg last hv hfit r n hr b hb hn0 hn1 k hk
  have hbn := byte_last lg (pay last) r b hb
  have hx8 := xor8 b.toNat n b.toNat_lt hn1
  rw [← hbn] at hx8
  rw [corrupt_step k at_ lg (frm (pay last)) vs (pay last).size r n s hfz (by omega) hg.small hr hm _ hx8 hs, h1, Option.bind_some, h2, Option.bind_some, example_is k (by omega), Option.bind_some, if_pos rfl]
  simp only
  rw [if_pos trivial, if_pos trivial, equal_is vs (by have := hg.few; omega) k (by omega)]
  rfl

theorem Corruption (l0 : List S31) (last : S31) (at_ by_ : Int) (hl : l0.length ≤ 9223372036854775807) (hb0 : 0 ≤ by_) (hb1 : by_ ≤ 255) : ∃ k, glossatorkeep3_JournalCorruption.f k l0 last.f0 last.f1 last.f2 at_ by_ = some true := by
  refine ⟨5001, ?_⟩
  obtain ⟨lg, vs, hw, hg⟩ := written_is l0 hl 5001 (by omega)
  unfold glossatorkeep3_JournalCorruption.f
  rw [example_is 5001 (by omega), Option.bind_some, if_pos rfl, hw, Option.bind_some]
  simp only
  rw [append_is lg last hg.small 5001 (by omega), Option.bind_some]
  by_cases ha : (app lg last).2 = 0
  · rw [if_pos ha]
    obtain ⟨hv, hfit, happ⟩ := appF_ok ha
    have happ : app lg last = (lg ++ frm (pay last), 0) := happ
    rw [happ]
    by_cases hz : by_ = 0
    · rw [hz]; exact corrupt_rest at_ _ _ _ _ 5000 (by omega)
    · rw [show (by_ == 0) = false from beq_eq_false_iff_ne.2 hz]
      obtain ⟨n, rfl⟩ := Int.eq_ofNat_of_zero_le hb0
      exact corrupt_main at_ lg vs hg last hv hfit n (by omega) (by omega) 5000 (by omega)
  · rw [if_neg ha]; exact corrupt_rest at_ _ _ _ _ 5000 (by omega)

end Go.Proofs.Ytflemfibjjognaa.Jr
