/- What Solver.Remove deletes, as numbers of 20 bits. No condition. -/
import Derived.Test.YtgjcembdmohhkaaFsPc
set_option linter.unusedVariables false
set_option linter.unusedSimpArgs false
namespace Go.Proofs.Ytgjcembdmohhkaa.Fs
open Go.RowKit Go.Proofs.YtgjcembdmohhkaaW.PrintWords Go.Proofs.YtgjcembdmohhkaaW.PrintLast Go.Proofs.YtgjcembdmohhkaaW.PrintMore
open Go.Proofs.Ytgjcembdmohhkaa

/-- a without b, bit by bit -/
def andNotN (a b : Nat) : Nat := ((BitVec.ofNat 64 a) &&& ~~~(BitVec.ofNat 64 b)).toNat
theorem andNot_val {a b : Nat} (ha : a < 1048576) (hb : b < 1048576) : Go.bits .andNot .i64 (a : Int) (b : Int) = (andNotN a b : Int) ∧ andNotN a b < 1048576 ∧ ∀ e, (andNotN a b).testBit e = (a.testBit e && !b.testBit e) := by
  have ha' : a % 2 ^ 64 = a := Nat.mod_eq_of_lt (Nat.lt_of_lt_of_le ha (by decide))
  have hb' : b % 2 ^ 64 = b := Nat.mod_eq_of_lt (Nat.lt_of_lt_of_le hb (by decide))
  have e1 : Go.bits .andNot .i64 (a : Int) (b : Int) = IntKind.i64.wrap (((BitVec.ofNat 64 a) &&& ~~~(BitVec.ofNat 64 b)).toNat : Int) := by
    unfold Go.bits
    rw [BitVec.ofInt_natCast, BitVec.ofInt_natCast]
    rfl
  have hle : andNotN a b < 1048576 := by
    unfold andNotN
    rw [BitVec.toNat_and, BitVec.toNat_ofNat, ha', Nat.and_comm]
    exact and_lt ha
  refine ⟨by rw [e1]; exact i64_63 _ (Int.natCast_nonneg _) (by have h1 : ((2 : Int) ^ 63) = 9223372036854775808 := by decide
                                                                have h2 : ((andNotN a b : Nat) : Int) < 1048576 := by omega
                                                                unfold andNotN at h2
                                                                omega), hle, fun e => ?_⟩
  have h1 : (andNotN a b).testBit e = ((BitVec.ofNat 64 a) &&& ~~~(BitVec.ofNat 64 b)).getLsbD e := rfl
  rw [h1, BitVec.getLsbD_and, BitVec.getLsbD_not, BitVec.getLsbD_ofNat, BitVec.getLsbD_ofNat]
  rcases Nat.lt_or_ge e 64 with h | h
  · simp [h]
  · have : a < 2 ^ e := Nat.lt_of_lt_of_le ha (Nat.le_trans (by decide : 1048576 ≤ 2 ^ 64) (Nat.pow_le_pow_right (by decide) h))
    simp [Nat.testBit_lt_two_pow this]
/-- what a rule of set i derives that was deleted from set j, and not yet from i -/
def more (s d : List Int) (r : S31) (i j : Int) : Nat := andNotN (dv r s &&& g d j) (g d i)
theorem more_val {n : Nat} {s d : List Int} (hs : Good n s) (hd : Good n d) {r : S31} (hm : 0 ≤ r.f0 ∧ r.f0 ≤ 1048575) (i j : Int) :
    Go.bits .andNot .i64 (Go.bits .and .i64 ((dv r s : Nat) : Int) (rd d j)) (rd d i) = (more s d r i j : Int) := by
  rw [rd_g hd j, rd_g hd i, and_nat (dv_lt hs hm) (g_lt hd j)]
  exact (andNot_val (and_lt (g_lt hd j)) (g_lt hd i)).1
theorem more_lt {n : Nat} {s d : List Int} (hd : Good n d) (r : S31) (i j : Int) : more s d r i j < 1048576 := (andNot_val (and_lt (g_lt hd j)) (g_lt hd i)).2.1
theorem more_bit {n : Nat} {s d : List Int} (hd : Good n d) (r : S31) (i j : Int) (e : Nat) : (more s d r i j).testBit e = ((dv r s).testBit e && (g d j).testBit e && !(g d i).testBit e) := by
  rw [show more s d r i j = andNotN (dv r s &&& g d j) (g d i) from rfl, (andNot_val (and_lt (g_lt hd j)) (g_lt hd i)).2.2 e, Nat.testBit_and]
def C3 (s d : List Int) (r : S31) (i : Nat) (b : Nat) : Prop := ∀ q : Nat, q < b → more s d r i (rd r.f1 (q : Int)) = 0
def C2 (s d : List Int) (L : List S31) (i a : Nat) : Prop := ∀ p : Nat, p < a → C3 s d (rd_T31 L (p : Int)) i (rd_T31 L (p : Int)).f1.length
def C1 (s d : List Int) (R : List (List S31)) (i : Nat) : Prop := ∀ k : Nat, k < i → C2 s d (rd_L3 R (k : Int)) k (rd_L3 R (k : Int)).length
theorem C3_succ {s d : List Int} {r : S31} {i b : Nat} (h : C3 s d r i b) (h2 : more s d r i (rd r.f1 (b : Int)) = 0) : C3 s d r i (b + 1) := fun q hq => by
  rcases Nat.lt_or_ge q b with h3 | h3
  · exact h q h3
  · obtain rfl : q = b := by omega
    exact h2
theorem C2_succ {s d : List Int} {L : List S31} {i a : Nat} (h : C2 s d L i a) (h2 : C3 s d (rd_T31 L (a : Int)) i (rd_T31 L (a : Int)).f1.length) : C2 s d L i (a + 1) := fun q hq => by
  rcases Nat.lt_or_ge q a with h3 | h3
  · exact h q h3
  · obtain rfl : q = a := by omega
    exact h2
theorem C1_succ {s d : List Int} {R : List (List S31)} {i : Nat} (h : C1 s d R i) (h2 : C2 s d (rd_L3 R (i : Int)) i (rd_L3 R (i : Int)).length) : C1 s d R (i + 1) := fun q hq => by
  rcases Nat.lt_or_ge q i with h3 | h3
  · exact h q h3
  · obtain rfl : q = i := by omega
    exact h2
/-- more is deleted -/
def upd (s d : List Int) (r : S31) (i : Nat) (j : Int) : List Int := d.set i (Go.bits .or .i64 (rd d (i : Int)) ((more s d r i j : Nat) : Int))
theorem upd_ok {n : Nat} {s d : List Int} (hd : Good n d) (r : S31) {i : Nat} (hi : i < n) (j : Int) (h : more s d r i j ≠ 0) : Good n (upd s d r i j) ∧ (∀ k : Nat, ∀ e, has d k e → has (upd s d r i j) k e) ∧ tot d < tot (upd s d r i j) := by
  have hi' : i < d.length := by rw [hd.len]; exact hi
  have hml := more_lt (s := s) hd r i j
  have hv : Go.bits .or .i64 (rd d (i : Int)) ((more s d r i j : Nat) : Int) = ((g d i ||| more s d r i j : Nat) : Int) := by rw [rd_g hd (i : Int), or_nat (g_lt hd _) hml]
  have hol := or_lt (g_lt hd (i : Int)) hml
  have hlt : g d i < g d i ||| more s d r i j := by
    refine Nat.lt_of_le_of_ne Nat.left_le_or (fun e_ => h ?_)
    apply Nat.eq_of_testBit_eq
    intro e
    rw [Nat.zero_testBit]
    cases hb : (more s d r i j).testBit e with
    | false => rfl
    | true =>
      have h1 : (g d i).testBit e = false := by
        rw [more_bit hd] at hb
        simp only [Bool.and_eq_true, Bool.not_eq_true'] at hb
        exact hb.2
      have h2 := congrArg (fun x => Nat.testBit x e) e_
      simp only [Nat.testBit_or, h1, hb, Bool.false_or] at h2
      cases h2
  refine ⟨⟨by unfold upd; rw [List.length_set]; exact hd.len, fun x hx => ?_⟩, fun k e hk => ?_, ?_⟩
  · unfold upd at hx
    rcases List.mem_or_eq_of_mem_set hx with hx | rfl
    · exact hd.rng x hx
    · rw [hv]; omega
  · unfold has upd at *
    rw [hv, g_set hi' _ (Int.natCast_nonneg k)]
    split
    · rename_i hk2
      obtain rfl : k = i := by omega
      rw [Nat.testBit_or, hk, Bool.true_or]
    · exact hk
  · have h1 := tot_set d i (Go.bits .or .i64 (rd d (i : Int)) ((more s d r i j : Nat) : Int)) hi'
    have h2 : (d[i]).toNat = g d i := by unfold g; rw [rd_get d i hi']
    unfold upd
    rw [hv] at h1 ⊢
    omega
/-- the elements kept -/
def diffF (s d : List Int) (i : Nat) : List Int := s.mapIdx (fun k x => if k < i then Go.bits .andNot .i64 x (rd d (k : Int)) else x)
theorem diffF_len (s d : List Int) (i : Nat) : (diffF s d i).length = s.length := by unfold diffF; rw [List.length_mapIdx]
theorem diffF_zero (s d : List Int) : diffF s d 0 = s := by
  unfold diffF
  apply List.ext_getElem
  · rw [List.length_mapIdx]
  · intro k h1 h2
    rw [List.getElem_mapIdx, if_neg (by omega)]
theorem diffF_rd (s d : List Int) (i : Nat) (hi : i < s.length) : rd (diffF s d i) (i : Int) = rd s (i : Int) := by
  rw [rd_get _ _ (by rw [diffF_len]; exact hi), rd_get _ _ hi]
  unfold diffF
  rw [List.getElem_mapIdx, if_neg (by omega)]
theorem diffF_set (s d : List Int) (i : Nat) (hi : i < s.length) : (diffF s d i).set i (Go.bits .andNot .i64 (rd s (i : Int)) (rd d (i : Int))) = diffF s d (i + 1) := by
  rw [rd_get s i hi]
  unfold diffF
  apply List.ext_getElem
  · rw [List.length_set, List.length_mapIdx, List.length_mapIdx]
  · intro k h1 h2
    rw [List.getElem_set, List.getElem_mapIdx, List.getElem_mapIdx]
    by_cases hk : i = k
    · subst hk
      rw [if_pos rfl, if_pos (by omega)]
    · rw [if_neg hk]
      by_cases hk2 : k < i
      · rw [if_pos hk2, if_pos (by omega)]
      · rw [if_neg hk2, if_neg (by omega)]
/-- what is deleted: all that rule r0 of set s derives, and what depends on it -/
structure Rm (R : List (List S31)) (sets : List Int) (s : Nat) (r0 : S31) (d : List Int) : Prop where
  good : Good R.length d
  seed : ∀ e, (dv r0 sets).testBit e = true → has d (s : Int) e
theorem seed_set {n : Nat} {sets : List Int} {s : Nat} {r0 : S31} (hs : Good n sets) (hm : 0 ≤ r0.f0 ∧ r0.f0 ≤ 1048575) (hsn : s < n) : Good n ((List.replicate n 0).set s ((dv r0 sets : Nat) : Int)) ∧ ∀ e, (dv r0 sets).testBit e = true → has ((List.replicate n 0).set s ((dv r0 sets : Nat) : Int)) (s : Int) e := by
  have hl := dv_lt hs hm
  refine ⟨⟨by rw [List.length_set, List.length_replicate], fun x hx => ?_⟩, fun e he => ?_⟩
  · rcases List.mem_or_eq_of_mem_set hx with hx | rfl
    · obtain rfl := (List.mem_replicate.1 hx).2; omega
    · omega
  · unfold has
    rw [g_set (by rw [List.length_replicate]; exact hsn) _ (Int.natCast_nonneg _), if_pos rfl]
    exact he
end Go.Proofs.Ytgjcembdmohhkaa.Fs
