/- insert: a key into a sorted row. No condition beyond being sorted. -/
import Derived.Test.YteekdkkfegcoeaaDghIn
import Derived.Test.YteekdkkfegcoeaaDghBs
namespace Go.Proofs.Yteekdkkfegcoeaa.Dg
open Go.RowKit Go.Sort Go.Lib Go.Proofs.YteekdkkfegcoeaaW.PrintWords Go.Proofs.YteekdkkfegcoeaaW.PrintLast Go.Proofs.YteekdkkfegcoeaaW.PrintMore
open Go.Proofs.Yteekdkkfegcoeaa
set_option linter.unusedVariables false
set_option linter.unusedSimpArgs false
attribute [local go_sem] Oper.semAt_some
theorem reps24 (w : World) (base : Nat) (ok : Nat → Prop) : ∀ xs : List S24, Reps (k24.M w base ok) 3 xs (flatK xs)
  | [] => Reps.none _ _
  | x :: r => by
    have h := reps24 w base ok r
    refine ⟨by rw [flatK_len], fun j p hj => ?_⟩
    cases j with
    | zero =>
      obtain rfl : x = p := by simpa using hj
      show k24.M w base ok x _
      exact k24_mkM w base ok x
    | succ j =>
      have h2 := h.2 j p (by simpa using hj)
      have e : (flatK (x :: r)).drop ((j + 1) * 3) = (flatK r).drop (j * 3) := by
        rw [flatK, Nat.add_mul, Nat.add_comm, List.drop_append, List.drop_eq_nil_of_le (by simp only [cells3, List.length_cons, List.length_nil]; omega)]
        simp only [cells3, List.length_cons, List.length_nil, List.nil_append]
        rw [show 1 * 3 + j * 3 - (0 + 1 + 1 + 1) = j * 3 by omega]
      rw [e]
      exact h2
theorem reps24_eq {w : World} {base : Nat} {ok : Nat → Prop} : ∀ {xs : List S24} {inner : List Value}, Reps (k24.M w base ok) 3 xs inner → inner = flatK xs
  | [], inner, h => List.eq_nil_of_length_eq_zero (by simpa using h.1)
  | x :: r, inner, h => by
    have h0 : inner.take 3 = cells3 x := by
      have := k24_openM (h.2 0 x rfl)
      rw [Nat.zero_mul, List.drop_zero] at this
      exact this
    have h1 : inner.drop 3 = flatK r := by
      refine reps24_eq (w := w) (base := base) (ok := ok) ⟨?_, fun j p hj => ?_⟩
      · rw [List.length_drop, h.1, List.length_cons]; omega
      · have := h.2 (j + 1) p (by simpa using hj)
        rw [List.drop_drop]
        rw [show 3 + j * 3 = (j + 1) * 3 by omega]
        exact this
    rw [flatK, ← h0, ← h1, List.take_append_drop]
theorem R_of24 {w : World} {base : Nat} {v : Value} {xs : List S24} {ok : Nat → Prop} (h : w.ownsRow base 24 3 v xs.length (flatK xs)) (hok : ∀ k, v.ownBlock = some k → ok k) : Kd.R k24 24 w base ok v xs :=
  ⟨hok, flatK xs, h, reps24 _ _ _ _⟩
theorem own24_of {w : World} {base : Nat} {v : Value} {xs : List S24} {ok : Nat → Prop} (h : Kd.R k24 24 w base ok v xs) : w.ownsRow base 24 3 v xs.length (flatK xs) := by
  obtain ⟨_, inner, ho, hr⟩ := h
  rw [← reps24_eq hr]
  exact ho
theorem own24_reads {w : World} {base : Nat} {v : Value} {xs : List S24} (h : w.ownsRow base 24 3 v xs.length (flatK xs)) : ∃ A c, v = .slice A xs.length c ∧ xs.length ≤ c ∧ Kd.C k24 w A xs.length xs :=
  Kd.R_reads (R_of24 (ok := fun _ => True) h (fun _ _ => trivial))
/-- a key into a sorted list -/
def ins (xs : List S24) (k : S24) : List S24 := if fnd xs k then xs else xs.take (pos xs k) ++ k :: xs.drop (pos xs k)
theorem pos_le (xs : List S24) (k : S24) : pos xs k ≤ xs.length := List.countP_le_length
theorem Gw.grown {w w' : World} (h : Gw w w') (r : Option Nat) : w.grownBy w' r := by
  have hb := h.below
  obtain ⟨h1, h2, h3, h4, h5⟩ := hb
  exact ⟨h1, h2, h3, h4, fun k hk _ => h5 k hk⟩
theorem grown_then {a b c : World} {r : Option Nat} (h : a.grownBy b r) (k : b.grownBy c r) : a.grownBy c r :=
  ⟨k.os.trans h.os, k.tape.trans h.tape, k.output.trans h.output, Nat.le_trans h.size k.size, fun i hi hn => (k.block i (Nat.lt_of_lt_of_le hi h.size) hn).trans (h.block i hi hn)⟩
theorem own24_gw {w w' : World} {base : Nat} {v : Value} {n : Nat} {fl : List Value} (h : w.ownsRow base 24 3 v n fl) (g : Gw w w') : w'.ownsRow base 24 3 v n fl :=
  own_move h (fun k hk => (g.grown none).block k (own_lt h k hk) (by simp))
/-- what insert gives -/
def Put1 (W : World) (base : Nat) (v : Value) (ys : List S24) (e : Ending) (w' : World) : Prop :=
  ∃ v', e = .returned v' ∧ w'.ownsRow base 24 3 v' ys.length (flatK ys) ∧ W.grownBy w' v.ownBlock ∧ (v'.ownBlock = v.ownBlock ∨ ∃ b, v'.ownBlock = some b ∧ W.heap.size ≤ b)
set_option maxHeartbeats 8000000 in
set_option maxRecDepth 100000 in
theorem insert_calls (base : Nat) (v : Value) (xs : List S24) (k : S24) (W : World) (hown : W.ownsRow base 24 3 v xs.length (flatK xs)) (hbase : base ≤ W.heap.size) (hl : xs.length < 1000000) (hmono : Mono xs k) :
    Calls Try.prog 26 #[v, encK k] W fun e w' => Put1 W base v (ins xs k) e w' := by
  have hu24 := Try.underlying24
  have hu26 := Try.underlying26
  obtain ⟨A, c, rfl, hc, hC⟩ := own24_reads hown
  have HO := Aside0.mk hown
  have HB := Aside0.mk hbase
  have HM := Aside0.mk hmono
  have GW := Aside0.mk ((Gw.refl W).alloc (.cells #[.int .i64 k.f0, .int .i64 k.f1, .int .i64 k.f2] 24 (0, 0)))
  have hb1 := blk_new W (.cells #[.int .i64 k.f0, .int .i64 k.f1, .int .i64 k.f2] 24 (0, 0))
  have HC := Aside0.mk (Kd.C_below (w1 := W.alloc (.cells #[.int .i64 k.f0, .int .i64 k.f1, .int .i64 k.f2] 24 (0, 0))) hC (below_alloc (Below.refl _ _) _))
  have HP := Aside0.mk (pos_le xs k)
  have HI := Aside0.mk (show ins xs k = if fnd xs k then xs else xs.take (pos xs k) ++ k :: xs.drop (pos xs k) from rfl)
  have HNL := Aside0.mk hl
  clear hown hbase hmono hC hl
  generalize ins xs k = ys at HI ⊢
  generalize hp : pos xs k = p at HI HP
  generalize hf : fnd xs k = f at HI
  have HPF := Aside0.mk (And.intro hp hf)
  clear hp hf
  unfold encK
  go_enter Try.func26, Try.ntmps26
  go_wp2_with fail
  have hbs := bs_calls A c xs k _ HC.out HNL.out HM.out
  rw [HPF.out.1, HPF.out.2] at hbs
  refine hbs.mono ?_
  clear hbs
  rintro e w2 ⟨rfl, hG⟩
  have hb2 := (hG.grown none).block _ (blk_lt hb1) (by simp)
  rw [hb1] at hb2
  have GW2 := Aside0.mk (GW.out.trans hG)
  have c0 := (blk_cell hb2 0).trans rfl
  have c1 := (blk_cell hb2 1).trans rfl
  have c2 := (blk_cell hb2 2).trans rfl
  generalize W.heap.size = gb at hb1 hb2 c0 c1 c2 ⊢
  clear hG GW HC hb1
  have HBB := Aside0.mk hb2
  clear hb2
  cases f with
  | true =>
    go_wp2
    go_ret
    obtain rfl : ys = xs := by simpa using HI.out
    refine ⟨.slice A ys.length c, rfl, ?_, GW2.out.grown _, .inl rfl⟩
    exact own24_gw HO.out GW2.out
  | false =>
    have hins := ins_calls base (.slice A xs.length c) p xs k w2 (own24_gw HO.out GW2.out) HP.out (Nat.le_trans HB.out (GW2.out.grown none).size) HNL.out
    unfold cells3 at hins
    go_wp2_with fail
    refine hins.mono ?_
    clear hins
    rintro e w3 ⟨v', rfl, h1, h2, h3⟩
    go_wp2
    go_ret
    refine ⟨v', rfl, ?_, grown_then (GW2.out.grown _) h2, h3.imp id (fun ⟨b, h4, h5⟩ => ⟨b, h4, Nat.le_trans (GW2.out.grown none).size h5⟩)⟩
    have e0 : ys = xs.take p ++ k :: xs.drop p := by simpa using HI.out
    rw [e0]
    have e1 : (xs.take p ++ k :: xs.drop p).length = xs.length + 1 := by
      have := HP.out
      simp only [List.length_append, List.length_cons, List.length_take, List.length_drop]
      omega
    rw [e1]
    exact h1
end Go.Proofs.Yteekdkkfegcoeaa.Dg
