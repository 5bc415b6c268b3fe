/-
  FRAMES IN PLAIN WORDS: a frame, its two line ends, a proper beginning of a frame, a stream of frames cut at any byte. No program in sight.
-/
import Derived.Lib.Index
import Derived.Lib.IndexMore
import Derived.Lib.Atoi
import Derived.Lib.ItoaNum
import Derived.Lib.Fold
import Derived.Lib.SlTrimSet
namespace Go.Proofs.YtagmdkmgagfmhaaDoor
open Go.Lib

/-! ## Digits -/
theorem digits1 {n : Nat} (h : n < 10) : decDigits n = [UInt8.ofNat (48 + n)] := by rw [decDigits, dif_pos h]
theorem digits_step {n : Nat} (h : ¬ n < 10) : decDigits n = decDigits (n / 10) ++ [UInt8.ofNat (48 + n % 10)] := by rw [decDigits, dif_neg h]

theorem digit_nat {d : Nat} (h : d < 10) : (UInt8.ofNat (48 + d)).toNat = 48 + d := by
  rw [UInt8.toNat_ofNat']; omega

theorem digits_all (n : Nat) : ∀ x ∈ decDigits n, 48 ≤ x.toNat ∧ x.toNat ≤ 57 := by
  induction n using Nat.strongRecOn with
  | _ n ih =>
    by_cases h : n < 10
    · rw [digits1 h]
      intro x hx
      obtain rfl : x = UInt8.ofNat (48 + n) := by simpa using hx
      rw [digit_nat h]; omega
    · rw [digits_step h]
      intro x hx
      rcases List.mem_append.1 hx with hx | hx
      · exact ih (n / 10) (by omega) x hx
      · obtain rfl : x = UInt8.ofNat (48 + n % 10) := by simpa using hx
        rw [digit_nat (by omega)]; omega

theorem digits_ne (n : Nat) : decDigits n ≠ [] := by
  by_cases h : n < 10
  · rw [digits1 h]; simp
  · rw [digits_step h]; simp

theorem digits_pos (n : Nat) : 0 < (decDigits n).length := List.length_pos_iff.2 (digits_ne n)

theorem digits_len {n : Nat} : ∀ k, n < 10 ^ (k + 1) → (decDigits n).length ≤ k + 1 := by
  intro k
  induction k generalizing n with
  | zero => intro h; rw [digits1 (by omega)]; simp
  | succ k ih =>
    intro h
    by_cases h1 : n < 10
    · rw [digits1 h1]; simp
    · rw [digits_step h1, List.length_append]
      have := ih (n := n / 10) (by rw [Nat.pow_succ] at h; omega)
      simp only [List.length_cons, List.length_nil]
      omega

theorem decFrom_append : ∀ (l : List UInt8) (acc m : Nat) (t : List UInt8), decFrom acc l = some m → decFrom acc (l ++ t) = decFrom m t
  | [], acc, m, t, h => by simp only [decFrom, Option.some.injEq] at h; subst h; rfl
  | a :: l, acc, m, t, h => by
    simp only [decFrom, List.cons_append] at h ⊢
    cases ha : digitVal a with
    | none => simp [ha] at h
    | some e => simp only [ha] at h ⊢; exact decFrom_append l _ _ t h

theorem digit_val {d : Nat} (h : d < 10) : digitVal (UInt8.ofNat (48 + d)) = some d := by
  unfold digitVal
  rw [digit_nat h, if_pos (by omega)]
  congr 1; omega

theorem digits_value (n : Nat) : decFrom 0 (decDigits n) = some n := by
  induction n using Nat.strongRecOn with
  | _ n ih =>
    by_cases h : n < 10
    · rw [digits1 h]; simp only [decFrom, digit_val h]; congr 1; omega
    · rw [digits_step h, decFrom_append _ _ _ _ (ih (n / 10) (by omega))]
      simp only [decFrom, digit_val (show n % 10 < 10 by omega)]
      congr 1; omega

theorem atoi_digits (n : Nat) : atoi (decDigits n) = some (n : Int) := by
  have hv := digits_value n
  have ha := digits_all n
  cases hd : decDigits n with
  | nil => exact absurd hd (digits_ne n)
  | cons b r =>
    rw [hd] at hv ha
    have hb := ha b (List.mem_cons_self)
    have h1 : (b == 45) = false := by
      refine beq_eq_false_iff_ne.2 fun e => ?_
      subst e; simp at hb
    have h2 : (b == 43) = false := by
      refine beq_eq_false_iff_ne.2 fun e => ?_
      subst e; simp at hb
    simp only [atoi, h1, h2, Bool.false_eq_true, if_false, decNat, List.isEmpty_cons, hv, Option.map_some]

theorem itoa_nat (n : Nat) : itoa (n : Int) = decDigits n := by
  unfold itoa
  rw [if_neg (by omega)]
  rfl

/-! ## A line, a frame -/
def crlf : List UInt8 := [13, 10]
def hname : List UInt8 := [67, 111, 110, 116, 101, 110, 116, 45, 76, 101, 110, 103, 116, 104]
def hline (n : Nat) : List UInt8 := hname ++ (58 :: 32 :: decDigits n)
def frame (b : List UInt8) : List UInt8 := hline b.length ++ (crlf ++ (crlf ++ b))

theorem hline_len (n : Nat) : (hline n).length = 16 + (decDigits n).length := by
  simp only [hline, hname, List.length_append, List.length_cons, List.length_nil]; omega

theorem hline_lt {n : Nat} (h : n ≤ 4000) : (hline n).length ≤ 20 := by
  rw [hline_len]
  have := digits_len (n := n) 3 (by omega)
  omega

theorem hline_pos (n : Nat) : 16 < (hline n).length := by
  rw [hline_len]; have := digits_pos n; omega

theorem frame_len (b : List UInt8) : (frame b).length = (hline b.length).length + 4 + b.length := by
  simp only [frame, crlf, List.length_append, List.length_cons, List.length_nil]; omega

theorem hline_no13 (n : Nat) : ∀ x ∈ hline n, x ≠ 13 := by
  intro x hx
  unfold hline hname at hx
  rcases List.mem_append.1 hx with hx | hx
  · intro e; subst e; revert hx; decide
  · rcases List.mem_cons.1 hx with rfl | hx
    · decide
    · rcases List.mem_cons.1 hx with rfl | hx
      · decide
      · have := digits_all n x hx
        intro e; subst e; simp at this

/-! ## Where a row is found -/
theorem index_skip (c : UInt8) (sub : List UInt8) : ∀ (l t : List UInt8), (∀ x ∈ l, x ≠ c) →
    index (l ++ t) (c :: sub) = if index t (c :: sub) = -1 then -1 else index t (c :: sub) + l.length
  | [], t, _ => by simp
  | x :: l, t, h => by
    have hx : (c :: sub).isPrefixOf (x :: (l ++ t)) = false := by
      simp only [List.isPrefixOf, Bool.and_eq_false_imp]
      intro e
      exact absurd (beq_iff_eq.1 e).symm (h x List.mem_cons_self)
    have ih := index_skip c sub l t fun y hy => h y (List.mem_cons_of_mem _ hy)
    rw [List.cons_append, index, if_neg (by simp [hx]), ih]
    have := index_ge t (c :: sub)
    by_cases e : index t (c :: sub) = -1
    · simp [e]
    · rw [if_neg e, if_neg e, if_neg (by simp; omega), List.length_cons]
      omega

theorem index_nil (c : UInt8) (sub : List UInt8) : index [] (c :: sub) = -1 := by simp [index]
theorem index_none {c : UInt8} {sub l : List UInt8} (h : ∀ x ∈ l, x ≠ c) : index l (c :: sub) = -1 := by
  have := index_skip c sub l [] h
  rw [List.append_nil, index_nil] at this
  simpa using this
theorem index_here (sub t : List UInt8) (h : sub ≠ []) : index (sub ++ t) sub = 0 := by
  cases sub with
  | nil => exact absurd rfl h
  | cons a s =>
    rw [List.cons_append, index, if_pos]
    rw [show a :: (s ++ t) = (a :: s) ++ t from rfl, List.isPrefixOf_iff_prefix]
    exact List.prefix_append _ _
theorem index_crlf1 : index [13] crlf = -1 := by decide

/-- THE FIRST LINE END, where it is there. -/
theorem index_line {n : Nat} (t : List UInt8) : index (hline n ++ (crlf ++ t)) crlf = ((hline n).length : Int) := by
  have h := index_skip 13 [10] (hline n) (crlf ++ t) (hline_no13 n)
  have h0 : index (crlf ++ t) [13, 10] = 0 := index_here [13, 10] t (by simp)
  rw [h0] at h
  simpa [crlf] using h

/-- A PROPER BEGINNING OF A FRAME, by where it ends. -/
inductive Cut3 (b T : List UInt8) : Prop
  | first (h : index T crlf = -1) (hl : T.length ≤ 22)
  | second (t : List UInt8) (h : T = hline b.length ++ (crlf ++ t)) (ht : index t crlf = -1) (hl : t.length ≤ 1)
  | third (t : List UInt8) (h : T = hline b.length ++ (crlf ++ (crlf ++ t))) (hl : t.length < b.length)

theorem prefix_split {p a c : List UInt8} (h : p <+: a ++ c) : (p <+: a ∧ p.length < a.length) ∨ ∃ t, p = a ++ t ∧ t <+: c := by
  by_cases hl : p.length < a.length
  · exact .inl ⟨List.prefix_of_prefix_length_le h (List.prefix_append _ _) (by omega), hl⟩
  · obtain ⟨t, rfl⟩ := List.prefix_of_prefix_length_le (List.prefix_append a c) h (by omega)
    exact .inr ⟨t, rfl, (List.prefix_append_right_inj a).1 h⟩

theorem short_crlf {t : List UInt8} (h : t <+: crlf) (hl : t.length < 2) : index t crlf = -1 := by
  obtain ⟨u, hu⟩ := h
  match t, hl with
  | [], _ => decide
  | [x], _ =>
    have : x = 13 := by simp [crlf] at hu; exact hu.1
    subst this; decide

theorem cut_frame {b T : List UInt8} (hb : b.length ≤ 4000) (hp : T <+: frame b) (hl : T.length < (frame b).length) : Cut3 b T := by
  have hh := hline_lt hb
  rcases prefix_split hp with ⟨h1, h2⟩ | ⟨t, e1, ht1⟩
  · refine .first (index_none fun x hx => hline_no13 b.length x (h1.subset hx)) (by omega)
  · subst e1
    rcases prefix_split ht1 with ⟨h1, h2⟩ | ⟨t, e2, ht2⟩
    · refine .first ?_ ?_
      · have h2' : t.length < 2 := h2
        have e := index_skip 13 [10] (hline b.length) t (hline_no13 _)
        have e0 : index t [13, 10] = -1 := short_crlf h1 h2'
        rw [e0] at e
        simpa [crlf] using e
      · have h2' : t.length < 2 := h2
        rw [List.length_append]; omega
    · subst e2
      rcases prefix_split ht2 with ⟨h1, h2⟩ | ⟨t, e3, ht3⟩
      · have h2' : t.length < 2 := h2
        exact .second t rfl (short_crlf h1 h2') (by omega)
      · subst e3
        refine .third t rfl ?_
        rw [frame_len] at hl
        simp only [List.length_append, crlf, List.length_cons, List.length_nil] at hl
        omega

/-! ## What the header's line is taken apart into -/
theorem cut_line (n : Nat) : cut (hline n) [58] = (hname, 32 :: decDigits n, true) := by
  have h := index_skip 58 [] hname (58 :: 32 :: decDigits n) (by decide)
  have h0 : index (58 :: 32 :: decDigits n) [58] = 0 := index_here [58] _ (by simp)
  rw [h0] at h
  have hi : index (hline n) [58] = 14 := by simpa [hline, hname] using h
  unfold cut
  rw [hi, if_pos (by decide)]
  rfl

theorem fold_name : equalFold hname hname = true := by decide

theorem trim_value (n : Nat) : trimS (32 :: decDigits n) [32, 9] = decDigits n := by
  have ha := digits_all n
  have hno : ∀ x ∈ decDigits n, ([32, 9] : List UInt8).contains x = false := by
    intro x hx
    have := ha x hx
    refine Bool.eq_false_iff.2 fun h => ?_
    simp at h
    rcases h with rfl | rfl <;> simp at this
  unfold trimS trimRightS trimLeftS
  cases hr : (32 :: decDigits n).reverse with
  | nil => simp at hr
  | cons y r =>
    have hy : y ∈ decDigits n := by
      have h1 : (decDigits n).reverse ++ [32] = y :: r := by rw [← List.reverse_cons]; exact hr
      cases hd : (decDigits n).reverse with
      | nil => exact absurd (List.reverse_eq_nil_iff.1 hd) (digits_ne n)
      | cons z t =>
        rw [hd] at h1
        have : z = y := by simpa using (List.cons.inj h1).1
        subst this
        exact List.mem_reverse.1 (by rw [hd]; exact List.mem_cons_self)
    rw [List.dropWhile_cons_of_neg (by simpa using hno y hy), ← hr, List.reverse_reverse, List.dropWhile_cons_of_pos (by decide)]
    cases hd : decDigits n with
    | nil => rfl
    | cons z t => rw [List.dropWhile_cons_of_neg (by simpa using hno z (by rw [hd]; exact List.mem_cons_self))]

def tens : List UInt8 := [48, 49, 50, 51, 52, 53, 54, 55, 56, 57]
set_option maxRecDepth 20000 in
theorem tens_all (x : UInt8) (h : 48 ≤ x.toNat ∧ x.toNat ≤ 57) : tens.contains x = true := by
  have key : ∀ k : Fin 256, 48 ≤ k.val ∧ k.val ≤ 57 → tens.contains (UInt8.ofNat k.val) = true := by decide
  have h2 := key ⟨x.toNat, x.toNat_lt⟩ h
  rwa [show UInt8.ofNat x.toNat = x from by simp] at h2
theorem drop_tens : ∀ l : List UInt8, (∀ x ∈ l, tens.contains x = true) → l.dropWhile (tens.contains ·) = []
  | [], _ => rfl
  | x :: l, h => by
    rw [List.dropWhile_cons_of_pos (by simpa using h x List.mem_cons_self)]
    exact drop_tens l fun y hy => h y (List.mem_cons_of_mem _ hy)
theorem trim_digits (n : Nat) : trimS (decDigits n) tens = [] := by
  have ha := digits_all n
  unfold trimS trimRightS trimLeftS
  rw [drop_tens _ fun x hx => tens_all x (ha x (List.mem_reverse.1 hx))]
  rfl

/-! ## A stream of frames -/
def flat (bs : List (List UInt8)) : List UInt8 := (bs.map frame).flatten
theorem flat_nil : flat [] = [] := rfl
theorem flat_cons (b : List UInt8) (bs : List (List UInt8)) : flat (b :: bs) = frame b ++ flat bs := rfl
theorem flat_append (as bs : List (List UInt8)) : flat (as ++ bs) = flat as ++ flat bs := by simp [flat]
def Fits (bs : List (List UInt8)) : Prop := ∀ b ∈ bs, b.length ≤ 4000
/-- A proper beginning of some frame. -/
def Part (p : List UInt8) : Prop := ∃ b : List UInt8, b.length ≤ 4000 ∧ p <+: frame b ∧ p.length < (frame b).length

theorem frame_pos (b : List UInt8) : 0 < (frame b).length := by rw [frame_len]; omega
theorem part_nil : Part [] := ⟨[], by simp, List.nil_prefix, frame_pos _⟩

/-- A STREAM CUT AT ANY BYTE: whole frames, then a proper beginning of one. -/
theorem cut_stream : ∀ (bs : List (List UInt8)), Fits bs → ∀ q, q <+: flat bs → ∃ (as cs : List (List UInt8)) (p : List UInt8), bs = as ++ cs ∧ q = flat as ++ p ∧ Part p
  | [], _, q, h => ⟨[], [], [], rfl, by simpa [flat] using h, part_nil⟩
  | b :: bs, hf, q, h => by
    rw [flat_cons] at h
    rcases prefix_split h with ⟨h1, h2⟩ | ⟨t, rfl, ht⟩
    · exact ⟨[], b :: bs, q, rfl, rfl, b, hf b List.mem_cons_self, h1, h2⟩
    · obtain ⟨as, cs, p, rfl, rfl, hp⟩ := cut_stream bs (fun x hx => hf x (List.mem_cons_of_mem _ hx)) t ht
      exact ⟨b :: as, cs, p, rfl, by rw [flat_cons, List.append_assoc], hp⟩

theorem flat_len {bs : List (List UInt8)} (h : Fits bs) : (flat bs).length ≤ bs.length * 4024 := by
  induction bs with
  | nil => simp [flat]
  | cons b bs ih =>
    have h1 := h b List.mem_cons_self
    have h2 := hline_lt h1
    have h3 := ih fun x hx => h x (List.mem_cons_of_mem _ hx)
    rw [flat_cons, List.length_append, frame_len, List.length_cons]
    omega
end Go.Proofs.YtagmdkmgagfmhaaDoor
