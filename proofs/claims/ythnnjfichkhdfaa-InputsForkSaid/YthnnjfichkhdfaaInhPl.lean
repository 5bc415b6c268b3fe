/- inputs: what a script of changes does; the fixed example. No condition. -/
import Derived.Test.YthnnjfichkhdfaaInx1
import Derived.Test.YthnnjfichkhdfaaMp
import Derived.Test.YthnnjfichkhdfaaRg
import Derived.Test.YthnnjfichkhdfaaInhSe
import Derived.Lib.SliceRun
import Derived.BigQuiet
import Derived.DeepKeys4
namespace Go.Proofs.Ythnnjfichkhdfaa.In
open Go.RowKit Go.Proofs.YthnnjfichkhdfaaW.PrintWords Go.Proofs.YthnnjfichkhdfaaW.PrintLast Go.Proofs.YthnnjfichkhdfaaW.PrintMore
open Go.Proofs.Ythnnjfichkhdfaa
set_option linter.unusedVariables false
set_option linter.unusedSimpArgs false
open Go.ChangeMaps (setBlock)
theorem toL0 : (⟨#[]⟩ : ByteArray).toList = [] := by rw [ByteArray.toList_eq]
theorem eq_is (xs : List Int) (t : ByteArray) (n : Int) : inputs_Equal.f 5 xs t [n] ⟨#[]⟩ = some (decide (t.toList = []) && decide (xs = [n])) := by
  unfold inputs_Equal.f
  by_cases ht : t.toList = []
  · rw [if_pos (by rw [ht, toL0]), decide_eq_true ht, Bool.true_and]
    unfold slices_Equal_int_int.f
    cases xs with
    | nil => rw [if_neg (by simp)]; rfl
    | cons x r =>
      cases r with
      | cons y r => rw [if_neg (by simp only [List.length_cons, List.length_nil]; omega)]; simp
      | nil =>
        rw [if_pos (by simp)]
        by_cases hx : x = n
        · subst hx
          simp [slices_Equal_int_int.l0, rd, rdOf, wrap64]
        · simp [slices_Equal_int_int.l0, rd, rdOf, wrap64, hx]
  · rw [if_neg (by rw [toL0]; exact ht), decide_eq_false ht, Bool.false_and]
def old (s : Sto) (a : Int) : Pc := (Mp.aget s.m (0, a, 0)).getD z0
/-- a change to a number -/
def same (s : Sto) (a n e : Int) : Bool := decide ((old s a).du = e) && (decide ((old s a).t.toList = []) && decide ((old s a).xs = [n]))
def stepS (s : Sto) (a n e : Int) : Sto := if same s a n e = true then s else bump s ((max (old s a).du e + 1).toNat) (Mp.aset s.m (0, a, 0) ⟨[n], ⟨#[]⟩, s.rev + 1, e⟩)
theorem key0 (a : Int) (h : (Lit.int .i64 a).wf = true) : ∃ lk, keyOf Try.prog 32 (enc3 (0, a, 0)) = some lk := key3 (0, a, 0) (show (Lit.int .i64 0).wf = true by decide) h (show (Lit.int .i64 0).wf = true by decide)
theorem set_num (X : Nat → Prop) (base gs gm : Nat) (s : Sto) (W : World) (h : St X base gs gm s W) (a : Int) (ha : (Lit.int .i64 a).wf = true) (A1 : Option Addr) (c1 : Nat) (n : Int) (hR1 : Kd.R (Kd.int .i64) 3 W 0 (fun k => k ≠ gs) (.slice A1 1 c1) [n]) (e : Int) (he0 : 0 ≤ e) (he1 : e ≤ 2)
    (hX : ∀ k, W.heap.size ≤ k → ¬ X k) (hs : -1 ≤ s.rev ∧ s.rev ≤ 1000000000) (hdr : 0 ≤ (old s a).du ∧ (old s a).du ≤ 2) :
    Calls Try.prog 7 #[.pointer (some ⟨gs, 0, none⟩), .agg #[.int .i64 0, .int .i64 a, .int .i64 0], .agg #[.slice A1 1 c1, .string ⟨#[]⟩], .int .i64 e] W fun E W' => E = .returned (.tuple #[.bool (!same s a n e), .int .i64 0]) ∧ St X base gs gm (stepS s a n e) W' ∧ Kp W W' (fun k => k = gs ∨ k = gm) := by
  have hk := key0 a ha
  have hq := eq_is (old s a).xs (old s a).t n
  unfold stepS
  cases hsm : same s a n e with
  | true =>
    unfold same at hsm
    simp only [Bool.and_eq_true, decide_eq_true_eq] at hsm
    rw [decide_eq_true hsm.2.1, decide_eq_true hsm.2.2] at hq
    refine (set_same X base gs gm s W h a 0 hk A1 c1 [n] ⟨#[]⟩ (Kd.R_reads' hR1).2.2 (Kd.R_reads' hR1).2.1 e he0 he1 5 hsm.1 hq).mono ?_
    rintro E W' ⟨rfl, hb⟩
    rw [if_pos rfl]
    exact ⟨rfl, h.below hb, Kp.of_below hb _⟩
  | false =>
    refine (set_new X base gs gm s W h a 0 hk A1 c1 [n] ⟨#[]⟩ hR1 e he0 he1 5 hX hs hdr (by simp) ?_).mono ?_
    · unfold same at hsm
      by_cases hd : (old s a).du = e
      · right
        rw [decide_eq_true hd, Bool.true_and] at hsm
        rw [hsm] at hq
        exact hq
      · exact .inl hd
    · rintro E W' ⟨rfl, hb, hk⟩
      rw [if_neg (by simp)]
      exact ⟨rfl, hb, hk⟩
/-! ### the fixed example -/
set_option maxHeartbeats 8000000 in
set_option maxRecDepth 100000 in
theorem ex_calls (W : World) : Calls Try.prog 5 #[] W fun E W' => E = .returned (.bool true) ∧ Below W.heap.size W W' := by
  have hu32 := Try.underlying32
  have hu37 := Try.underlying37
  have hu24 := Try.underlying24
  obtain ⟨s1, hs1⟩ : ∃ s1, s1 = bump s0 ((max ((Mp.aget s0.m (0, 3, 0)).getD z0).du 1 + 1).toNat) (Mp.aset s0.m (0, 3, 0) ⟨[], ⟨#[97]⟩, s0.rev + 1, 1⟩) := ⟨_, rfl⟩
  have e1 : s1.rev = 1 := by rw [hs1]; rfl
  have e2 : lc s1 1 = 1 := by rw [hs1]; rfl
  have e3 : lc s1 2 = 0 := by rw [hs1]; rfl
  have HS1 := Aside0.mk hs1
  clear hs1
  go_enter Try.func5, Try.ntmps5
  go_wp2_with (first | (go_at_call 6; refine (new_calls _).mono ?_; rintro e_ w2 ⟨gs, gm, rfl, hb, hst, h1, h2, h3, h4⟩; have HB := Aside0.mk hb; have HST := Aside0.mk (hst (fun k => k = gs ∨ k = gm) (.inl rfl) (.inr rfl)); have HLO := Aside0.mk (And.intro (And.intro h1 h2) (And.intro h3 h4)); clear hb hst h1 h2 h3 h4) | (go_at_call 7; refine (set_new (fun k => k = gs ∨ k = gm) W.heap.size gs gm s0 _ HST.out 3 0 (key3 (0, 3, 0) (by decide) (by decide) (by decide)) none 0 [] ⟨#[97]⟩ (Kd.R_nil _ _ _ _ _) 1 (by decide) (by decide) 5 (fun k hk e_ => by have h_ := HLO.out.2; omega) (by decide) (by decide) (by decide) (.inl (by decide))).mono ?_; rintro e_ w3 ⟨rfl, hst, hkp⟩; have HST3 := Aside0.mk (show St (fun k => k = gs ∨ k = gm) W.heap.size gs gm s1 w3 from by rw [HS1.out]; exact hst); have HB3 := Aside0.mk (hkp.below HB.out HB.out.size (fun k hk => by have h_ := HLO.out.1; omega)); clear hst hkp HB HST; have HB := HB3; have HST := HST3; clear HB3 HST3) | (go_at_call 11; refine (rev_calls (fun k => k = gs ∨ k = gm) W.heap.size gs gm s1 _ HST.out).mono ?_; rw [e1]; rintro e_ w4 ⟨rfl, hb⟩; have n1_ := Aside0.mk (below_step HB.out hb); have n2_ := Aside0.mk (HST.out.below hb); clear HB HST hb; have HB := n1_; have HST := n2_; clear n1_ n2_) | (go_at_call 12; refine (lc_calls (fun k => k = gs ∨ k = gm) W.heap.size gs gm s1 _ HST.out _ (by decide)).mono ?_; (first | rw [e2] | rw [e3]); rintro e_ w5 ⟨rfl, hb⟩; have n1_ := Aside0.mk (below_step HB.out hb); have n2_ := Aside0.mk (HST.out.below hb); clear HB HST hb; have HB := n1_; have HST := n2_; clear n1_ n2_))
  go_ret
  exact ⟨rfl, HB.out⟩
end Go.Proofs.Ythnnjfichkhdfaa.In
