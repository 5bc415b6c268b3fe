/- What the printed functions of the journal compute: frames, and a sequence of frames read again. No condition. -/
import Derived.Test.YtflemfibjjognaaKm
import Derived.Lib.Strings
set_option linter.unusedVariables false
set_option linter.unusedSimpArgs false
namespace Go.Proofs.Ytflemfibjjognaa.Js
open Go.RowKit Go.Proofs.YtflemfibjjognaaW.PrintWords Go.Proofs.YtflemfibjjognaaW.PrintLast Go.Proofs.YtflemfibjjognaaW.PrintMore

abbrev L (s : ByteArray) : List UInt8 := s.data.toList
theorem L_append (a b : ByteArray) : L (a ++ b) = L a ++ L b := by simp [L]
theorem L_size (s : ByteArray) : (L s).length = s.size := by simp only [L, Array.length_toList]; rfl
theorem L_extract (s : ByteArray) (i j : Nat) : L (s.extract i j) = ((L s).drop i).take (j - i) := Lib.extract_data s i j
theorem L_inj {a b : ByteArray} (h : L a = L b) : a = b := by
  cases a; cases b; simp only [L] at h; exact congrArg ByteArray.mk (Array.toList_inj.1 h)
theorem toList_L (s : ByteArray) : s.toList = L s := Lib.toList_data s
theorem size_nums (xs : List Int) : (strOfNums xs).size = xs.length := by simp [strOfNums, ByteArray.size]
theorem L_nums (xs : List Int) : L (strOfNums xs) = xs.map fun n => UInt8.ofNat n.toNat := by simp [strOfNums, L]

def len2 (p : ByteArray) : ByteArray := strOfNums [((p.size : Int) / 256) % 256, ((p.size : Int)) % 256]
def sum4 (x : Int) : ByteArray := strOfNums [(x / 16777216) % 256, (x / 65536) % 256, (x / 256) % 256, (x) % 256]
def frm (p : ByteArray) : ByteArray := (len2 p ++ sum4 (cs (len2 p ++ p))) ++ p
theorem len2_size (p : ByteArray) : (len2 p).size = 2 := size_nums _
theorem sum4_size (x : Int) : (sum4 x).size = 4 := size_nums _
theorem frm_size (p : ByteArray) : (frm p).size = 6 + p.size := by unfold frm; rw [ByteArray.size_append, ByteArray.size_append, len2_size, sum4_size]

theorem frame_is (p : ByteArray) (hp : p.size ≤ 100000) (k : Nat) (hk : p.size + 2 < k) : journal_frame.f k p = some (frm p) := by
  unfold journal_frame.f
  simp only [Option.bind_some]
  show (if (len2 p).size + p.size ≤ 9223372036854775807 then (journal_Checksum.f k (len2 p ++ p)).bind _ else none) = _
  rw [if_pos (by rw [len2_size]; omega), checksum_is _ (by rw [ByteArray.size_append, len2_size]; omega) k (by rw [ByteArray.size_append, len2_size]; omega)]
  simp only [Option.bind_some]
  show (if (len2 p).size + (sum4 (cs (len2 p ++ p))).size ≤ 9223372036854775807 then if (len2 p ++ sum4 (cs (len2 p ++ p))).size + p.size ≤ 9223372036854775807 then some (frm p) else none else none) = _
  rw [if_pos (by rw [len2_size, sum4_size]; omega), if_pos (by rw [ByteArray.size_append, len2_size, sum4_size]; omega)]

/-! ### records -/
def flag (d : Bool) : ByteArray := if d = true then ⟨#[1]⟩ else ⟨#[0]⟩
def pay (r : S31) : ByteArray := ((flag r.f2 ++ strOfNums [((r.f0.size : Int)) % 256]) ++ r.f0) ++ r.f1
def vcode (r : S31) : Int := if L r.f0 = [] then 3 else if r.f2 = true ∧ L r.f1 ≠ [] then 3 else if (r.f0.size : Int) > 60 then 2 else if (r.f1.size : Int) > 3000 then 2 else 0
theorem flag_size (d : Bool) : (flag d).size = 1 := by cases d <;> rfl
theorem pay_size (r : S31) : (pay r).size = 2 + r.f0.size + r.f1.size := by
  unfold pay; simp only [ByteArray.size_append, flag_size, size_nums, List.length_cons, List.length_nil]

theorem validate_is (r : S31) (k : Nat) (hk : 0 < k) : journal_validate.f k r.f0 r.f1 r.f2 = some (vcode r) := by
  obtain ⟨k, rfl⟩ : ∃ m, k = m + 1 := ⟨k - 1, by omega⟩
  unfold journal_validate.f vcode
  rw [toList_L, toList_L]
  by_cases h1 : L r.f0 = [] <;> by_cases h2 : r.f2 = true <;> by_cases h3 : L r.f1 = [] <;> by_cases h4 : (r.f0.size : Int) > 60 <;> by_cases h5 : (r.f1.size : Int) > 3000 <;>
    simp only [journal_validate.j0, h1, h2, h3, h4, h5, if_true, if_false, ne_eq, not_true_eq_false, not_false_eq_true, and_true, and_false, true_and, false_and, bne_self_eq_false, Bool.false_eq_true, bne_iff_ne]

theorem vcode_ok {r : S31} (h : vcode r = 0) : L r.f0 ≠ [] ∧ ¬ (r.f2 = true ∧ L r.f1 ≠ []) ∧ r.f0.size ≤ 60 ∧ r.f1.size ≤ 3000 := by
  unfold vcode at h
  by_cases h1 : L r.f0 = []
  · rw [if_pos h1] at h; simp at h
  · rw [if_neg h1] at h
    by_cases h2 : r.f2 = true ∧ L r.f1 ≠ []
    · rw [if_pos h2] at h; simp at h
    · rw [if_neg h2] at h
      by_cases h3 : (r.f0.size : Int) > 60
      · rw [if_pos h3] at h; simp at h
      · rw [if_neg h3] at h
        by_cases h4 : (r.f1.size : Int) > 3000
        · rw [if_pos h4] at h; simp at h
        · exact ⟨h1, h2, by omega, by omega⟩

theorem payload_is (r : S31) (h0 : r.f0.size ≤ 60) (h1 : r.f1.size ≤ 3000) : journal_payload.f r.f0 r.f1 r.f2 = some (pay r) := by
  unfold journal_payload.f pay
  cases hd : r.f2 with
  | true =>
    rw [if_pos rfl]
    simp only [Option.bind_some, flag, if_true]
    have s1 : (⟨#[1]⟩ : ByteArray).size = 1 := rfl
    rw [if_pos (by simp only [size_nums, List.length_cons, List.length_nil]; omega), if_pos (by simp only [ByteArray.size_append, size_nums, List.length_cons, List.length_nil, s1]; omega), if_pos (by simp only [ByteArray.size_append, size_nums, List.length_cons, List.length_nil, s1]; omega)]
  | false =>
    rw [if_neg (by simp)]
    simp only [Option.bind_some, flag]
    rw [if_neg (show ¬ (false = true) by simp)]
    have s1 : (⟨#[0]⟩ : ByteArray).size = 1 := rfl
    rw [if_pos (by simp only [size_nums, List.length_cons, List.length_nil]; omega), if_pos (by simp only [ByteArray.size_append, size_nums, List.length_cons, List.length_nil, s1]; omega), if_pos (by simp only [ByteArray.size_append, size_nums, List.length_cons, List.length_nil, s1]; omega)]

def appF (lg F : ByteArray) (c : Int) : ByteArray × Int := if c = 0 then (if lg.size + F.size > 40000 then (⟨#[]⟩, 2) else (lg ++ F, 0)) else (⟨#[]⟩, c)
def app (lg : ByteArray) (r : S31) : ByteArray × Int := appF lg (frm (pay r)) (vcode r)
theorem appF_ok {lg F : ByteArray} {c : Int} (h : (appF lg F c).2 = 0) : c = 0 ∧ lg.size + F.size ≤ 40000 ∧ appF lg F c = (lg ++ F, 0) := by
  unfold appF at h ⊢
  by_cases h1 : c = 0
  · rw [if_pos h1] at h ⊢
    by_cases h2 : lg.size + F.size > 40000
    · rw [if_pos h2] at h; simp at h
    · rw [if_neg h2]; exact ⟨h1, by omega, rfl⟩
  · rw [if_neg h1] at h; exact absurd h h1
theorem appF_fits {lg F : ByteArray} {c : Int} (h1 : c = 0) (h2 : lg.size + F.size ≤ 40000) : appF lg F c = (lg ++ F, 0) := by
  unfold appF; rw [if_pos h1, if_neg (by omega)]

theorem append_is (lg : ByteArray) (r : S31) (hl : lg.size ≤ 40000) (k : Nat) (hk : 4000 ≤ k) : journal_Append.f k lg r.f0 r.f1 r.f2 = some (app lg r) := by
  have hv := validate_is r k (by omega)
  unfold app
  by_cases h : vcode r = 0
  · obtain ⟨_, _, h3, h4⟩ := vcode_ok h
    have hp := pay_size r
    have hf := frm_size (pay r)
    have h5 := payload_is r h3 h4
    have h6 := frame_is (pay r) (by omega) k (by omega)
    generalize frm (pay r) = F at *
    generalize pay r = p at *
    unfold journal_Append.f appF
    rw [hv, Option.bind_some, if_pos h, h5, Option.bind_some, h6, Option.bind_some, if_pos h, w64_id (by omega) (by omega)]
    by_cases hb : lg.size + F.size > 40000
    · rw [if_pos (by omega), if_pos hb]
    · rw [if_neg (by omega), if_neg hb, if_pos (by omega)]
  · unfold journal_Append.f appF
    rw [hv, Option.bind_some, if_neg h, if_neg h]

/-! ### a sequence of frames -/
def flat : List S31 → ByteArray
  | [] => ⟨#[]⟩
  | r :: rs => frm (pay r) ++ flat rs
theorem empty_append (s : ByteArray) : (⟨#[]⟩ : ByteArray) ++ s = s := ByteArray.empty_append
theorem append_empty (s : ByteArray) : s ++ (⟨#[]⟩ : ByteArray) = s := ByteArray.append_empty
theorem flat_snoc (rs : List S31) (r : S31) : flat (rs ++ [r]) = flat rs ++ frm (pay r) := by
  induction rs with
  | nil => simp only [List.nil_append, flat]; rw [empty_append, append_empty]
  | cons a rs ih => simp only [List.cons_append, flat, ih, ByteArray.append_assoc]
theorem flat_append (rs qs : List S31) : flat (rs ++ qs) = flat rs ++ flat qs := by
  induction rs with
  | nil => simp only [List.nil_append, flat]; rw [empty_append]
  | cons a rs ih => simp only [List.cons_append, flat, ih, ByteArray.append_assoc]

structure Good (lg : ByteArray) (vs : List S31) : Prop where
  eq : lg = flat vs
  ok : ∀ r ∈ vs, vcode r = 0
  small : lg.size ≤ 40000
  few : vs.length ≤ 12

theorem rd_get (xs : List S31) (i : Nat) (h : i < xs.length) : rd_T31 xs (i : Int) = xs[i] := by
  unfold rd_T31
  rw [show ((i : Int)).toNat = i from by omega, List.getD_eq_getElem?_getD, List.getElem?_eq_getElem h]
  rfl

theorem written_loop (xs : List S31) (hx : xs.length ≤ 12) : ∀ (d i : Nat) (lg : ByteArray) (vs : List S31) (k : Nat), i + d = xs.length → vs.length ≤ i → Good lg vs → 4000 + d < k →
    ∃ lg' vs', glossatorkeep3_written.l0 k lg vs xs (xs.length : Int) (i : Int) = some (lg', vs') ∧ Good lg' vs' := by
  intro d
  induction d with
  | zero =>
    intro i lg vs k hi hv hg hk
    obtain ⟨k, rfl⟩ : ∃ m, k = m + 1 := ⟨k - 1, by omega⟩
    refine ⟨lg, vs, ?_, hg⟩
    simp only [glossatorkeep3_written.l0]
    rw [if_neg (by omega)]
  | succ d ih =>
    intro i lg vs k hi hv hg hk
    obtain ⟨k, rfl⟩ : ∃ m, k = m + 1 := ⟨k - 1, by omega⟩
    simp only [glossatorkeep3_written.l0]
    rw [if_pos (by omega), if_pos (by omega), if_pos (by omega), append_is lg (rd_T31 xs i) hg.small k (by omega)]
    simp only [Option.bind_some]
    rw [w64_id (by omega) (by omega), show ((i : Int) + 1) = ((i + 1 : Nat) : Int) from by omega]
    by_cases h : (app lg (rd_T31 xs i)).2 = 0
    · rw [if_pos h, if_pos (by omega)]
      have hh : vcode (rd_T31 xs i) = 0 ∧ lg.size + (frm (pay (rd_T31 xs i))).size ≤ 40000 ∧ app lg (rd_T31 xs i) = (lg ++ frm (pay (rd_T31 xs i)), 0) := appF_ok h
      rw [hh.2.2]
      refine ih (i + 1) _ _ k (by omega) (by simp; omega) ⟨?_, ?_, ?_, ?_⟩ (by omega)
      · rw [hg.eq]; exact (flat_snoc _ _).symm
      · intro r hr
        rcases List.mem_append.1 hr with hr | hr
        · exact hg.ok r hr
        · rw [List.mem_singleton] at hr; rw [hr]; exact hh.1
      · rw [ByteArray.size_append]; omega
      · simp only [List.length_append, List.length_cons, List.length_nil]; omega
    · rw [if_neg h]
      exact ih (i + 1) lg vs k (by omega) (by omega) hg (by omega)

theorem written_is (l0 : List S31) (hl : l0.length ≤ 9223372036854775807) (k : Nat) (hk : 4100 ≤ k) : ∃ lg vs, glossatorkeep3_written.f k l0 = some (lg, vs) ∧ Good lg vs := by
  unfold glossatorkeep3_written.f
  have hm : 0 ≤ mn (l0.length : Int) 12 ∧ mn (l0.length : Int) 12 ≤ l0.length ∧ mn (l0.length : Int) 12 ≤ 12 := by unfold mn; split <;> omega
  rw [if_pos hm.1, if_pos hm.2.1]
  simp only [Option.bind_some]
  have h12 : (l0.take (mn (l0.length : Int) 12).toNat).length ≤ 12 := by rw [List.length_take]; omega
  exact written_loop _ h12 (l0.take (mn (l0.length : Int) 12).toNat).length 0 ⟨#[]⟩ [] k (by omega) (Nat.le_refl _) ⟨rfl, by simp, by decide, by simp⟩ (by omega)

end Go.Proofs.Ytflemfibjjognaa.Js
