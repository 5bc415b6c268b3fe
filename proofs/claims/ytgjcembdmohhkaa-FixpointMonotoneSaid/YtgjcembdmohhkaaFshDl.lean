/- slices.Delete of the last rule of a list. -/
import Derived.RangeFuncNested
import Derived.RangeFuncBound
import Derived.RangeFuncCalls
import Derived.RangeFuncLeaves
import Derived.RangeFuncBox
import Derived.Shelf.Abstract
import Derived.Shelf.RegionOpen
import Derived.WalkKit
import Derived.OwnWalkIn
import Derived.TacticsInMore
import Derived.LoopNIn
import Derived.LoopIn
import Derived.BigQuiet
import Derived.Test.YtgjcembdmohhkaaFshAd
import Derived.Test.YtgjcembdmohhkaaFshSc
import Derived.Lib.SliceRun
import Derived.Test.YtgjcembdmohhkaaFsx3
namespace Go.Proofs.Ytgjcembdmohhkaa.Fs
open Go.RowKit Go.Shelf Go.Proofs.YtgjcembdmohhkaaW.PrintWords Go.Proofs.YtgjcembdmohhkaaW.PrintLast Go.Proofs.YtgjcembdmohhkaaW.PrintMore
open Go.Proofs.Ytgjcembdmohhkaa
set_option linter.unusedVariables false
set_option linter.unusedSimpArgs false
attribute [local go_sem] Oper.semAt_some
theorem info31z : (Try.prog.info? 31).map (·.size) = some k31.sz := by kernel_rfl
theorem R_spare {w : World} {base g m cap : Nat} {ok : Nat → Prop} {xs : List S31} (h : Kd.R k31 31 w base ok (.slice (some ⟨g, 0, none⟩) m cap) xs) (p : Nat) (hp : m * 2 ≤ p) (u : Value) : Kd.R k31 31 (w.setCell ⟨g, p, none⟩ u) base ok (.slice (some ⟨g, 0, none⟩) m cap) xs := by
  obtain ⟨h0, inner, ⟨h1, h2⟩, hr⟩ := h
  refine ⟨h0, inner, ⟨h1, ?_⟩, hr.imp_ (fun _ _ hq => Kd.M_far (p := ⟨g, p, none⟩) hq (fun k hk e_ => hk.2 (by rw [e_]; simp [Value.ownBlock])) u)⟩
  rcases h2 with ⟨he, _⟩ | ⟨g', cap', cur, he, hb, hh, hnc, hcm, hcs, ht⟩
  · cases he
  injection he with ha hn_ hc_
  injection ha with ha
  injection ha with hg_
  subst hg_; subst hc_
  refine .inr ⟨g, cap, cur.setIfInBounds p u, by rw [hn_], hb, blk_set hh p u, hnc, hcm, by rw [Array.size_setIfInBounds]; exact hcs, ?_⟩
  rw [← ht, Array.toList_setIfInBounds, List.take_set]
  rw [List.set_eq_of_length_le]
  rw [List.length_take, ← hn_]
  have : m * k31.sz = m * 2 := rfl
  omega
theorem set_grown (w : World) (g p : Nat) (u : Value) : w.grownBy (w.setCell ⟨g, p, none⟩ u) (some g) :=
  ⟨rfl, rfl, rfl, by simp [World.setCell], fun k _ hk => Below.heap_setCell w ⟨g, p, none⟩ u k (fun e_ => hk (by rw [e_]))⟩
theorem _root_.Go.World.grownBy.then_ {a b c : World} {r : Option Nat} (h : a.grownBy b r) (k : b.grownBy c r) : a.grownBy c r :=
  ⟨k.os.trans h.os, k.tape.trans h.tape, k.output.trans h.output, Nat.le_trans h.size k.size, fun i hi hn => (k.block i (Nat.lt_of_lt_of_le hi h.size) hn).trans (h.block i hi hn)⟩
theorem zero31 (w : World) : (zeroValue 31).run Try.prog w = .ok (.agg #[.int .i64 0, .slice none 0 0]) w := by
  obtain ⟨i, hi, hz⟩ := Option.map_eq_some_iff.1 info31
  have hz1 : i.zero = some (.agg #[.int .i64 0, .slice none 0 0]) := by injection hz
  simp [zeroValue, typeInfo, hi, hz1, Result.andThen]
theorem clear_one {w : World} {base g m cap : Nat} {ok : Nat → Prop} {xs : List S31} (h : Kd.R k31 31 w base ok (.slice (some ⟨g, 0, none⟩) m cap) xs) (hm : m < cap) :
    (∀ ty, (Builtin.clear_ #[39] ty #[.slice (some ⟨g, m * 2, none⟩) 1 (cap - m)]).run Try.prog w = .ok (.tuple #[]) ((w.setCell ⟨g, m * 2, none⟩ (.int .i64 0)).setCell ⟨g, m * 2 + 1, none⟩ (.slice none 0 0))) ∧
    Kd.R k31 31 ((w.setCell ⟨g, m * 2, none⟩ (.int .i64 0)).setCell ⟨g, m * 2 + 1, none⟩ (.slice none 0 0)) base ok (.slice (some ⟨g, 0, none⟩) m cap) xs ∧ w.grownBy ((w.setCell ⟨g, m * 2, none⟩ (.int .i64 0)).setCell ⟨g, m * 2 + 1, none⟩ (.slice none 0 0)) (some g) := by
  refine ⟨fun ty => ?_, R_spare (R_spare h _ (Nat.le_refl _) _) _ (by omega) _, (set_grown w g _ _).then_ (set_grown _ g _ _)⟩
  obtain ⟨_, inner, ⟨h1, h2⟩, hr⟩ := h
  rcases h2 with ⟨he, _⟩ | ⟨g', cap', cur, he, hb, hh, hnc, hcm, hcs, ht⟩
  · cases he
  injection he with ha hn_ hc_
  injection ha with ha
  injection ha with hg_
  subst hg_; subst hc_
  have hcs2 : cur.size = cap * 2 := hcs
  have hst := run_storeCells_cells (P := Try.prog) g (m * 2) [.int .i64 0, .slice none 0 0] 0 w (fun j hj => by
    rw [blk_cell hh, Nat.add_zero, Array.getElem?_eq_getElem (by simp only [List.length_cons, List.length_nil] at hj; omega)]; rfl) (fun j _ => blk_frozen hh _) (by intro v hv; simp only [List.mem_cons, List.not_mem_nil, or_false] at hv; rcases hv with rfl | rfl <;> rfl)
  rw [Nat.add_zero] at hst
  have hzc : (Builtin.zeroCells #[.int .i64 0, .slice none 0 0] 1).toList = [.int .i64 0, .slice none 0 0] := by kernel_rfl
  simp [Builtin.clear_, run_underlying Try.underlying39, zero31, Value.cells, hzc, hst]
  rfl
set_option maxHeartbeats 8000000 in
set_option maxRecDepth 100000 in
theorem delete24 (base g m cap : Nat) (ok : Nat → Prop) (xs : List S31) (w0 w : World) (hr : Kd.R k31 31 w base ok (.slice (some ⟨g, 0, none⟩) (m + 1) cap) xs) (hm : m < 1000000) (hb : Below base w0 w) (hbs : base ≤ w.heap.size) :
    Calls Try.prog 24 #[.slice (some ⟨g, 0, none⟩) (m + 1) cap, .int .i64 (m : Int), .int .i64 ((m : Int) + 1)] w fun e w' => e = .returned (.slice (some ⟨g, 0, none⟩) m cap) ∧ Kd.R k31 31 w' base ok (.slice (some ⟨g, 0, none⟩) m cap) (xs.take m) ∧ Kept w w' (fun k => k = g) ∧ Below base w0 w' := by
  have HBS := Aside0.mk hbs
  clear hbs
  have hu31 := Try.underlying31
  have hu39 := Try.underlying39
  have hn := (Kd.R_reads' hr).1
  have hcm := (Kd.R_reads' hr).2.1
  have HR := Aside0.mk hr
  have HB := Aside0.mk hb
  have HCM := Aside0.mk (show m < cap by omega)
  have HER := Aside0.mk (show xs.eraseIdx m = xs.take m from by
    rw [List.eraseIdx_eq_take_drop_succ, List.drop_eq_nil_of_le (by omega), List.append_nil])
  have HA := Aside0.mk (show (if cap = m + 1 then some (⟨g, 0, none⟩ : Addr) else some ⟨g, (m + 1) * 2, none⟩) = if cap = m + 1 then some ⟨g, 0, none⟩ else (some (⟨g, 0, none⟩ : Addr)).map (·.add ((m + 1) * k31.sz)) from by
    split
    · rfl
    · rw [Option.map_some, Addr.add_lit, Nat.zero_add]; rfl)
  have p1 : (0 ≤ (m : Int)) = True := eq_true (by omega)
  have p2 : ((m : Int) ≤ (m : Int) + 1) = True := eq_true (by omega)
  have p3 : ((m : Int) + 1 ≤ (cap : Int)) = True := eq_true (by omega)
  have p4 : (m + 1 ≤ cap) = True := eq_true hcm
  have p5 : (m ≤ cap) = True := eq_true (by omega)
  have p6 : (cap = m) = False := eq_false (by omega)
  have p7 : ((m : Int) ≤ (cap : Int)) = True := eq_true (by omega)
  have p8 : (0 ≤ (m : Int) + 1) = True := eq_true (by omega)
  have e1 : ((m : Int) == (m : Int) + 1) = false := beq_eq_false_iff_ne.2 (by omega)
  have e2 : decide ((m : Int) = (m : Int) + 1) = false := decide_eq_false (by omega)
  clear hr hb hn hcm
  go_enter Try.func24, Try.ntmps24
  go_wp2
  refine start_ (n := 8) (S := fun _ => True) (ds := []) #[false, false, false, false, false, false, false, false] (by kernel_rfl) rfl rfl trivial (fun hHeld => ?_)
  have hb := below_drew1 (Below.refl w.heap.size w)
  have HR1 := Aside0.mk (Kd.R_drew HR.out)
  have HB1 := Aside0.mk (below_drew HB.out)
  clear HB hb

  refine pure_ (i := 0) (N := some 20) (v := ?_) (a' := ?_) #[true, false, false, false, false, false, false, false] rfl rfl (by kernel_rfl) (fun _ _ _ h => h) (Or.inl ⟨by rfl, ?_⟩) ?_ ?_
  rotate_left
  · intro w'
    go_simp
    with_reducible rfl
  rotate_left
  · simp only [Act.put, List.setIfInBounds_toArray, List.set_cons_zero, List.set_cons_succ, i64_w, i32_w]
    rfl
  refine pure_ (i := 1) (N := some 21) (v := ?_) (a' := ?_) #[true, true, false, false, false, false, false, false] rfl rfl (by kernel_rfl) (fun _ _ _ h => h) (Or.inl ⟨by rfl, ?_⟩) ?_ ?_
  rotate_left
  · intro w'
    go_simp
    with_reducible rfl
  rotate_left
  · simp only [Act.put, List.setIfInBounds_toArray, List.set_cons_zero, List.set_cons_succ, i64_w, i32_w]
    rfl
  refine pure_ (i := 2) (N := some 22) (v := ?_) (a' := ?_) #[true, true, true, false, false, false, false, false] rfl rfl (by kernel_rfl) (fun _ _ _ h => h) (Or.inl ⟨by rfl, ?_⟩) ?_ ?_
  rotate_left
  · intro w'
    go_simp
    with_reducible rfl
  rotate_left
  · simp only [Act.put, List.setIfInBounds_toArray, List.set_cons_zero, List.set_cons_succ, i64_w, i32_w]
    rfl
  refine pure_ (i := 3) (N := some 23) (v := ?_) (a' := ?_) #[true, true, true, true, false, false, false, false] rfl rfl (by kernel_rfl) (fun _ _ _ h => h) (Or.inl ⟨by rfl, ?_⟩) ?_ ?_
  rotate_left
  · intro w'
    go_simp
    with_reducible rfl
  rotate_left
  · simp only [Act.put, List.setIfInBounds_toArray, List.set_cons_zero, List.set_cons_succ, i64_w, i32_w]
    rfl
  refine pure_ (i := 4) (N := some 24) (v := ?_) (a' := ?_) #[true, true, true, true, true, false, false, false] rfl rfl (by kernel_rfl) (fun _ _ _ h => h) (Or.inl ⟨by rfl, ?_⟩) ?_ ?_
  rotate_left
  · intro w'
    go_simp
    with_reducible rfl
  rotate_left
  · simp only [Act.put, List.setIfInBounds_toArray, List.set_cons_zero, List.set_cons_succ, i64_w, i32_w]
    rfl
  refine pure_ (i := 5) (N := some 25) (v := ?_) (a' := ?_) #[true, true, true, true, true, true, false, false] rfl rfl (by kernel_rfl) (fun _ _ _ h => h) (Or.inl ⟨by rfl, ?_⟩) ?_ ?_
  rotate_left
  · intro w'
    go_simp
    with_reducible rfl
  rotate_left
  · simp only [Act.put, List.setIfInBounds_toArray, List.set_cons_zero, List.set_cons_succ, i64_w, i32_w]
    rfl
  refine one_ (i := 6) (N := some 26) #[true, true, true, true, true, true, true, false] rfl rfl (by kernel_rfl) (by decide) (fun K hK => ?_)
  refine Kd.R_delete_step k31 (w0 := w0) base (by rfl) (.tmp 22) (.tmp 25) 39 31 rfl Try.underlying39 info31z (g := g) (n := m + 1) (c := cap) (k := m) (m := 0) (c2 := cap - (m + 1)) (A := if cap = m + 1 then some ⟨g, 0, none⟩ else some ⟨g, (m + 1) * 2, none⟩) rfl rfl HA.out (by omega) HR1.out (by omega) HB1.out HBS.out ?_
  intro w1 ho hb hg
  have HR2 := Aside0.mk (show Kd.R k31 31 w1 base ok (.slice (some ⟨g, 0, none⟩) m cap) (xs.take m) from by have h_ := ho; rw [Nat.add_sub_cancel, HER.out] at h_; exact h_)
  have HG := Aside0.mk (show Kept w w1 (fun k => k = g) from ⟨hg.size, fun k hk hn => hg.block k hk (fun e_ => hn (by injection e_))⟩)
  have HBS2 := Aside0.mk (show base ≤ w1.heap.size from Nat.le_trans HBS.out hg.size)
  have HB2 := Aside0.mk hb
  clear ho hb hg HR1 HB1
  refine hK.out _ _ trivial (fun hHeld => ?_)
  clear hK K
  refine norm_ (a' := ?_) ?_ ?_
  rotate_left
  · show Act.put _ (some 26) _ = _
    simp only [Act.put, List.setIfInBounds_toArray, List.set_cons_zero, List.set_cons_succ, i64_w, i32_w]
    rfl
  refine pure_ (i := 7) (N := some 0) (v := ?_) (a' := ?_) #[true, true, true, true, true, true, true, true] rfl rfl (by kernel_rfl) (fun _ _ _ h => h) (Or.inl ⟨by rfl, ?_⟩) ?_ ?_
  rotate_left
  · intro w'
    go_simp
    with_reducible rfl
  rotate_left
  · simp only [Act.put, List.setIfInBounds_toArray, List.set_cons_zero, List.set_cons_succ, i64_w, i32_w]
    rfl
  refine done_ (by kernel_rfl) ?_
  clear hHeld
  have hcl := (clear_one HR2.out HCM.out).1
  go_wp2
  all_goals
    go_ret
    obtain ⟨_, q2, q3⟩ := clear_one HR2.out HCM.out
    have q4 := HG.out.then_ (S2 := fun k => k = g) ⟨q3.size, fun k hk hn => q3.block k hk (fun e_ => hn (by injection e_))⟩ (fun k hk => .inl hk)
    have q5 := HB2.out.grown q3 HBS2.out (fun k hk => by injection hk with hk; subst hk; exact Kd.R_base HR2.out _ (by simp [Value.ownBlock]))
    first | exact ⟨rfl, q2, q4, q5⟩ | (have hc_ : cap = m + 1 := by assumption
                                       rw [hc_] at q2; exact ⟨rfl, q2, q4, q5⟩)
end Go.Proofs.Ytgjcembdmohhkaa.Fs
