/- A sequence of frames, whole, cut off or with a byte replaced, as the printed functions of the journal read it. No condition. -/
import Derived.Test.YtflemfibjjognaaKn
set_option linter.unusedVariables false
set_option linter.unusedSimpArgs false
namespace Go.Proofs.Ytflemfibjjognaa.Js
open Go.RowKit Go.Proofs.YtflemfibjjognaaW.PrintWords Go.Proofs.YtflemfibjjognaaW.PrintLast Go.Proofs.YtflemfibjjognaaW.PrintMore

theorem bt_L {s : ByteArray} {i : Nat} {b : UInt8} (h : (L s)[i]? = some b) : bt s (i : Int) = (b.toNat : Int) := by
  have hi : i < s.size := by rw [← L_size]; exact (List.getElem?_eq_some_iff.1 h).1
  obtain ⟨c, hc, e⟩ := bt_data s i hi
  rw [e]
  have : some c = some b := hc.symm.trans h
  rw [Option.some.inj this]

theorem L_len2 (p : ByteArray) (hp : p.size ≤ 65535) : L (len2 p) = [UInt8.ofNat (p.size / 256), UInt8.ofNat (p.size % 256)] := by
  unfold len2
  rw [L_nums]
  simp only [List.map_cons, List.map_nil]
  have e1 : (((p.size : Int) / 256) % 256).toNat = p.size / 256 := by omega
  have e2 : ((p.size : Int) % 256).toNat = p.size % 256 := by omega
  rw [e1, e2]

theorem L_frm (p : ByteArray) : L (frm p) = (L (len2 p) ++ L (sum4 (cs (len2 p ++ p)))) ++ L p := by
  unfold frm; rw [L_append, L_append]

/-- the two bytes of the length -/
structure Head (s : ByteArray) (n : Nat) : Prop where
  b0 : bt s 0 = ((n / 256 : Nat) : Int)
  b1 : bt s 1 = ((n % 256 : Nat) : Int)
theorem head_of {s p : ByteArray} (hp : p.size ≤ 65535) (h0 : (L s)[0]? = (L (len2 p))[0]?) (h1 : (L s)[1]? = (L (len2 p))[1]?) : Head s p.size := by
  rw [L_len2 p hp] at h0 h1
  have g0 := bt_L (i := 0) h0
  have g1 := bt_L (i := 1) h1
  refine ⟨?_, ?_⟩
  · rw [show (0 : Int) = ((0 : Nat) : Int) from rfl, g0, UInt8.toNat_ofNat']
    rw [Nat.mod_eq_of_lt (by omega)]
  · rw [show (1 : Int) = ((1 : Nat) : Int) from rfl, g1, UInt8.toNat_ofNat']
    rw [Nat.mod_eq_of_lt (by omega)]

theorem next_eq (k : Nat) (s : ByteArray) (n : Nat) (hn : n ≤ 60000) (h6 : 6 ≤ s.size) (hd : Head s n) :
    journal_next.f k s = if (s.size : Int) < 6 + n then some ((⟨#[]⟩ : ByteArray), (⟨#[]⟩ : ByteArray), false, 0, 0) else
      (journal_frame.f k (s.extract 6 (6 + n))).bind fun t => if t.toList = (s.extract 0 (6 + n)).toList then
        (journal_parse.f k (s.extract 6 (6 + n))).bind fun bt139 => (if bt139.2.2.2 = true then (some (bt139.1, bt139.2.1, bt139.2.2.1, (6 + n : Int), 0)) else (some ((⟨#[]⟩ : ByteArray), (⟨#[]⟩ : ByteArray), false, 0, 3)))
        else (some ((⟨#[]⟩ : ByteArray), (⟨#[]⟩ : ByteArray), false, 0, 13)) := by
  have e : wrap64 ((wrap64 (6 + (wrap64 ((wrap64 (bt s 0)) * 256)))) + (wrap64 (bt s 1))) = (6 + n : Int) := by
    rw [hd.b0, hd.b1]
    rw [w64_id (n := ((n / 256 : Nat) : Int)) (by omega) (by omega), w64_id (n := ((n % 256 : Nat) : Int)) (by omega) (by omega), w64_id (n := ((n / 256 : Nat) : Int) * 256) (by omega) (by omega), w64_id (n := 6 + ((n / 256 : Nat) : Int) * 256) (by omega) (by omega), w64_id (by omega) (by omega)]
    omega
  unfold journal_next.f
  rw [e, if_neg (by omega), if_pos (by omega), if_pos (by omega)]
  have e2 : (6 + (n : Int)).toNat = 6 + n := by omega
  by_cases h : (s.size : Int) < 6 + n
  · rw [if_pos h, if_pos h]
  · rw [if_neg h, if_neg h, if_pos (by omega), if_pos (by omega), e2]
    have h0 : (0 : Int) ≤ 6 + (n : Int) := by omega
    simp only [h0, if_true]

theorem next_short (k : Nat) (s : ByteArray) (h : s.size < 6) : journal_next.f k s = some ((⟨#[]⟩ : ByteArray), (⟨#[]⟩ : ByteArray), false, 0, 0) := by
  unfold journal_next.f; rw [if_pos (by omega)]

/-! ### a record's payload read again -/
theorem L_pay (r : S31) : L (pay r) = ((L (flag r.f2) ++ [UInt8.ofNat (r.f0.size % 256)]) ++ L r.f0) ++ L r.f1 := by
  unfold pay
  rw [L_append, L_append, L_append, L_nums]
  simp only [List.map_cons, List.map_nil]
  have e2 : ((r.f0.size : Int) % 256).toNat = r.f0.size % 256 := by omega
  rw [e2]
theorem L_flag (d : Bool) : L (flag d) = [if d = true then 1 else 0] := by cases d <;> rfl

theorem parse_is (k : Nat) (hk : 0 < k) (r : S31) (hv : vcode r = 0) : journal_parse.f k (pay r) = some (r.f0, r.f1, r.f2, true) := by
  obtain ⟨_, _, h3, h4⟩ := vcode_ok hv
  have hs := pay_size r
  have hL := L_pay r
  rw [L_flag] at hL
  have l0 : (L r.f0).length = r.f0.size := L_size _
  have l1 : (L r.f1).length = r.f1.size := L_size _
  have b0 : bt (pay r) 0 = if r.f2 = true then 1 else 0 := by
    rw [show (0 : Int) = ((0 : Nat) : Int) from rfl, bt_L (i := 0) (b := if r.f2 = true then 1 else 0) (by rw [hL]; rfl)]
    cases r.f2 <;> rfl
  have b1 : bt (pay r) 1 = (r.f0.size : Int) := by
    rw [show (1 : Int) = ((1 : Nat) : Int) from rfl, bt_L (i := 1) (b := UInt8.ofNat (r.f0.size % 256)) (by rw [hL]; rfl), UInt8.toNat_ofNat']
    omega
  have x0 : (pay r).extract 2 (2 + r.f0.size) = r.f0 := by
    apply L_inj
    rw [L_extract, hL]
    simp only [List.cons_append, List.nil_append, List.drop_succ_cons, List.drop_zero]
    rw [show 2 + r.f0.size - 2 = (L r.f0).length from by omega, List.take_left]
  have x1 : (pay r).extract (2 + r.f0.size) (pay r).size = r.f1 := by
    apply L_inj
    rw [L_extract, hL, hs, show 2 + r.f0.size = r.f0.size + 1 + 1 from by omega]
    simp only [List.cons_append, List.nil_append, List.drop_succ_cons]
    rw [← l0, List.drop_left, List.take_of_length_le (by omega)]
  have e : wrap64 (2 + (wrap64 (bt (pay r) 1))) = 2 + (r.f0.size : Int) := by
    rw [b1, w64_id (n := (r.f0.size : Int)) (by omega) (by omega), w64_id (by omega) (by omega)]
  have e2 : (2 + (r.f0.size : Int)).toNat = 2 + r.f0.size := by omega
  have hb : (bt (pay r) 0 == 1) = r.f2 := by rw [b0]; cases r.f2 <;> rfl
  unfold journal_parse.f
  rw [e, e2, x0, x1, hb, if_neg (by omega), if_pos (by omega), if_neg (by rw [b0]; split <;> omega), if_pos (by omega), if_neg (by omega), if_pos (by omega), if_pos (by omega), if_pos (by omega), validate_is r k hk, Option.bind_some, hv]
  rfl

theorem pay_small {r : S31} (hv : vcode r = 0) : (pay r).size ≤ 3062 := by
  obtain ⟨_, _, h3, h4⟩ := vcode_ok hv
  have := pay_size r
  omega

theorem frm_head (p t : ByteArray) (hp : p.size ≤ 65535) : Head (frm p ++ t) p.size := by
  have h : L (frm p ++ t) = L (len2 p) ++ (L (sum4 (cs (len2 p ++ p))) ++ L p ++ L t) := by rw [L_append, L_frm]; simp only [List.append_assoc]
  refine head_of hp ?_ ?_
  · rw [h, L_len2 p hp]; rfl
  · rw [h, L_len2 p hp]; rfl

theorem next_whole (k : Nat) (hk : 4000 ≤ k) (r : S31) (hv : vcode r = 0) (t : ByteArray) : journal_next.f k (frm (pay r) ++ t) = some (r.f0, r.f1, r.f2, ((frm (pay r)).size : Int), 0) := by
  have hp := pay_small hv
  have hf := frm_size (pay r)
  have hs : (frm (pay r) ++ t).size = (frm (pay r)).size + t.size := ByteArray.size_append
  rw [next_eq k _ (pay r).size (by omega) (by omega) (frm_head _ t (by omega)), if_neg (by omega)]
  have hLf := L_frm (pay r)
  have l2 : (L (len2 (pay r))).length = 2 := (L_size _).trans (len2_size _)
  have l4 : (L (sum4 (cs (len2 (pay r) ++ pay r)))).length = 4 := (L_size _).trans (sum4_size _)
  have lp : (L (pay r)).length = (pay r).size := L_size _
  have x6 : (frm (pay r) ++ t).extract 6 (6 + (pay r).size) = pay r := by
    apply L_inj
    rw [L_extract, L_append, hLf, List.append_assoc, show 6 = (L (len2 (pay r)) ++ L (sum4 (cs (len2 (pay r) ++ pay r)))).length from by rw [List.length_append]; omega, List.drop_left, Nat.add_sub_cancel_left, ← lp, List.take_left]
  have x0 : (frm (pay r) ++ t).extract 0 (6 + (pay r).size) = frm (pay r) := by
    rw [← hf]
    exact ByteArray.extract_append_eq_left rfl
  rw [x6, x0, frame_is _ (by omega) k (by omega), Option.bind_some, if_pos rfl, parse_is k (by omega) r hv, Option.bind_some, if_pos rfl, hf]
  rfl

/-- A frame that is cut off: nothing is read, and it is no error. -/
theorem next_torn (k : Nat) (hk : 4000 ≤ k) (p t t' : ByteArray) (hp : p.size ≤ 4000) (h : t ++ t' = frm p) (h' : 0 < t'.size) : journal_next.f k t = some ((⟨#[]⟩ : ByteArray), (⟨#[]⟩ : ByteArray), false, 0, 0) := by
  by_cases h6 : t.size < 6
  · exact next_short k t h6
  · have hs : t.size + t'.size = 6 + p.size := by rw [← frm_size p, ← h, ByteArray.size_append]
    have hL : L t ++ L t' = L (len2 p) ++ (L (sum4 (cs (len2 p ++ p))) ++ L p) := by rw [← L_append, h, L_frm]; simp only [List.append_assoc]
    have lt : 6 ≤ (L t).length := by rw [L_size]; omega
    have hd : Head t p.size := by
      refine head_of (by omega) ?_ ?_
      · have := congrArg (fun l => l[0]?) hL
        rw [List.getElem?_append_left (by omega)] at this
        rw [this, L_len2 p (by omega)]; rfl
      · have := congrArg (fun l => l[1]?) hL
        rw [List.getElem?_append_left (by omega)] at this
        rw [this, L_len2 p (by omega)]; rfl
    rw [next_eq k t p.size (by omega) (by omega) hd, if_pos (by omega)]

/-! ### reading from place to place -/
theorem ext_right (a b : ByteArray) : (a ++ b).extract a.size (a ++ b).size = b := ByteArray.extract_append_eq_right rfl ByteArray.size_append

theorem scan_loop (k0 : Nat) (t : ByteArray) (e : Int) (x0 x1 : ByteArray) (x2 : Bool) (ht : ∀ k, k0 ≤ k → journal_next.f k t = some (x0, x1, x2, 0, e)) (hk0 : 4000 ≤ k0) : ∀ (rs : List S31) (pre : ByteArray) (acc : List S31) (k : Nat),
    (∀ r ∈ rs, vcode r = 0) → (pre ++ (flat rs ++ t)).size ≤ 100000 → acc.length + rs.length ≤ 100 → k0 + rs.length < k →
    journal_scan.l0 k (pre ++ (flat rs ++ t)) acc (pre.size : Int) = some (acc ++ rs, ((pre ++ flat rs).size : Int), e) := by
  intro rs
  induction rs with
  | nil =>
    intro pre acc k hv hs ha hk
    obtain ⟨k, rfl⟩ : ∃ m, k = m + 1 := ⟨k - 1, by simp at hk; omega⟩
    have hsz : (pre ++ (flat [] ++ t)).size = pre.size + ((flat []).size + t.size) := by rw [ByteArray.size_append, ByteArray.size_append]
    simp only [journal_scan.l0]
    rw [if_pos (by omega), if_pos (by omega), show ((pre.size : Nat) : Int).toNat = pre.size from by omega, ext_right]
    simp only [flat, empty_append, append_empty, List.append_nil, List.length_nil] at hk ⊢
    rw [ht k (by omega), Option.bind_some, if_pos rfl]
  | cons r rs ih =>
    intro pre acc k hv hs ha hk
    obtain ⟨k, rfl⟩ : ∃ m, k = m + 1 := ⟨k - 1, by simp at hk; omega⟩
    have hr := hv r (List.mem_cons_self ..)
    have hf := frm_size (pay r)
    have hsz : (pre ++ (flat (r :: rs) ++ t)).size = pre.size + ((flat (r :: rs)).size + t.size) := by rw [ByteArray.size_append, ByteArray.size_append]
    simp only [List.length_cons] at ha hk
    simp only [journal_scan.l0]
    rw [if_pos (by omega), if_pos (by omega), show ((pre.size : Nat) : Int).toNat = pre.size from by omega, ext_right]
    have e1 : flat (r :: rs) ++ t = frm (pay r) ++ (flat rs ++ t) := by simp only [flat, ByteArray.append_assoc]
    rw [e1, next_whole k (by omega) r hr, Option.bind_some]
    have hsz2 : (flat (r :: rs)).size = (frm (pay r)).size + (flat rs).size := by simp only [flat, ByteArray.size_append]
    rw [if_neg (by simp only; omega), if_pos (by omega)]
    have e2 : wrap64 ((pre.size : Int) + ((frm (pay r)).size : Int)) = ((pre ++ frm (pay r)).size : Int) := by
      rw [w64_id (by omega) (by omega), ByteArray.size_append]; omega
    simp only
    rw [e2, show pre ++ (frm (pay r) ++ (flat rs ++ t)) = (pre ++ frm (pay r)) ++ (flat rs ++ t) from by rw [ByteArray.append_assoc]]
    have h := ih (pre ++ frm (pay r)) (acc ++ [⟨r.f0, r.f1, r.f2⟩]) k (fun x hx => hv x (List.mem_cons_of_mem _ hx)) (by rw [ByteArray.size_append, ByteArray.size_append, ByteArray.size_append]; omega) (by simp only [List.length_append, List.length_cons, List.length_nil]; omega) (by omega)
    rw [h]
    simp only [List.append_assoc, List.cons_append, List.nil_append, flat, ByteArray.append_assoc]

theorem scan_is (k0 : Nat) (t : ByteArray) (e : Int) (x0 x1 : ByteArray) (x2 : Bool) (ht : ∀ k, k0 ≤ k → journal_next.f k t = some (x0, x1, x2, 0, e)) (hk0 : 4000 ≤ k0) (rs : List S31) (hv : ∀ r ∈ rs, vcode r = 0) (hs : (flat rs ++ t).size ≤ 100000) (hr : rs.length ≤ 100) (k : Nat) (hk : k0 + 100 < k) :
    journal_scan.f k (flat rs ++ t) = some (rs, ((flat rs).size : Int), e) := by
  have h := scan_loop k0 t e x0 x1 x2 ht hk0 rs ⟨#[]⟩ [] k hv (by rw [empty_append]; exact hs) (by simpa using hr) (by omega)
  rw [empty_append, empty_append] at h
  exact h

/-- What is read of whole frames and a rest that says nothing. -/
structure Rest (t : ByteArray) (e : Int) : Prop where
  next : ∀ k, 4000 ≤ k → ∃ x0 x1 x2, journal_next.f k t = some (x0, x1, x2, 0, e)

theorem scan_rest {t : ByteArray} {e : Int} (ht : ∃ x0 x1 x2, ∀ k, 4000 ≤ k → journal_next.f k t = some (x0, x1, x2, 0, e)) (rs : List S31) (hv : ∀ r ∈ rs, vcode r = 0) (hs : (flat rs ++ t).size ≤ 100000) (hr : rs.length ≤ 100) (k : Nat) (hk : 4200 ≤ k) :
    journal_scan.f k (flat rs ++ t) = some (rs, ((flat rs).size : Int), e) := by
  obtain ⟨x0, x1, x2, ht⟩ := ht
  exact scan_is 4000 t e x0 x1 x2 ht (Nat.le_refl _) rs hv hs hr k (by omega)

theorem read_is {t : ByteArray} {e : Int} (ht : ∃ x0 x1 x2, ∀ k, 4000 ≤ k → journal_next.f k t = some (x0, x1, x2, 0, e)) (rs : List S31) (hv : ∀ r ∈ rs, vcode r = 0) (hs : (flat rs ++ t).size ≤ 40000) (hr : rs.length ≤ 100) (k : Nat) (hk : 4200 ≤ k) :
    journal_Read.f k (flat rs ++ t) = if e = 0 then some (rs, ((flat rs).size : Int), 0) else some ([], 0, e) := by
  unfold journal_Read.f
  rw [if_neg (by omega), scan_rest ht rs hv (by omega) hr k hk, Option.bind_some]

end Go.Proofs.Ytflemfibjjognaa.Js
