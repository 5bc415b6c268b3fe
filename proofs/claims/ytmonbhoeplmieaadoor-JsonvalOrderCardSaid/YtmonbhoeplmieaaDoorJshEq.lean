/- jsonval.Equal. -/
import Derived.Test.YtmonbhoeplmieaaDoorJshVa
import Derived.Test.YtmonbhoeplmieaaDoorJsx2
import Derived.Deep.QuietTactic
import Derived.BigQuiet
import Derived.Deep.LoopGhost
import Derived.Shelf.Abstract
namespace Go.Proofs.YtmonbhoeplmieaaDoor.Js
open Go.RowKit Go.Proofs.YtmonbhoeplmieaaDoorW.PrintWords Go.Proofs.YtmonbhoeplmieaaDoorW.PrintLast Go.Proofs.YtmonbhoeplmieaaDoorW.PrintMore
open Go.Proofs.YtmonbhoeplmieaaDoor
set_option linter.unusedVariables false
set_option linter.unusedSimpArgs false

def eqf (k : Nat) (a b : S25) : Option Bool := jsonval_equal.f k a.f0 a.f1 a.f2 a.f3 a.f4 b.f0 b.f1 b.f2 b.f3 b.f4
/-- Equal's answer -/
def Eqv (a b : S25) (r : Bool) : Prop := (valid a = 0 ∧ valid b = 0 ∧ ∃ k, eqf k a b = some r) ∨ (¬ (valid a = 0 ∧ valid b = 0) ∧ r = false)
set_option maxHeartbeats 2000000 in
set_option maxRecDepth 100000 in
theorem Equal_says (a b : S25) (r : Bool) (An : Option Addr) (cn : Nat) (Ae : Option Addr) (ce : Nat) (Bn : Option Addr) (dn : Nat) (Be : Option Addr) (de : Nat) (w : World)
    (ha : k25.K w a [.int .i64 a.f0, .int .i64 a.f1, .string a.f2, .slice An a.f3.length cn, .slice Ae a.f4.length ce]) (hb : k25.K w b [.int .i64 b.f0, .int .i64 b.f1, .string b.f2, .slice Bn b.f3.length dn, .slice Be b.f4.length de]) (sa : szd a) (sb : szd b) (hT : Ts w) (hr : Eqv a b r) :
    Calls Tryd.prog 9 #[.agg #[.int .i64 a.f0, .int .i64 a.f1, .string a.f2, .slice An a.f3.length cn, .slice Ae a.f4.length ce], .agg #[.int .i64 b.f0, .int .i64 b.f1, .string b.f2, .slice Bn b.f3.length dn, .slice Be b.f4.length de]] w fun e w' => e = .returned (.bool r) ∧ Below w.heap.size w w' := by
  have hu25 := Tryd.underlying25
  obtain ⟨va_, hva⟩ : ∃ v, valid a = v := ⟨_, rfl⟩
  obtain ⟨vb_, hvb⟩ : ∃ v, valid b = v := ⟨_, rfl⟩
  have V1 := Aside0.mk (show ∀ w', Below w.heap.size w w' → Calls Tryd.prog 8 #[.agg #[.int .i64 a.f0, .int .i64 a.f1, .string a.f2, .slice An a.f3.length cn, .slice Ae a.f4.length ce]] w' fun e w'' => e = .returned (.int .i64 (va_ : Int)) ∧ Below w'.heap.size w' w'' from fun w' h => by
    have h_ := Validate_says a w' An cn Ae ce w' (k25.K_below h ha) sa (hT.below h) (Below.refl _ _)
    rw [hva] at h_
    exact h_)
  have V2 := Aside0.mk (show ∀ w', Below w.heap.size w w' → Calls Tryd.prog 8 #[.agg #[.int .i64 b.f0, .int .i64 b.f1, .string b.f2, .slice Bn b.f3.length dn, .slice Be b.f4.length de]] w' fun e w'' => e = .returned (.int .i64 (vb_ : Int)) ∧ Below w'.heap.size w' w'' from fun w' h => by
    have h_ := Validate_says b w' Bn dn Be de w' (k25.K_below h hb) sb (hT.below h) (Below.refl _ _)
    rw [hvb] at h_
    exact h_)
  have VE := Aside0.mk (show va_ = 0 → vb_ = 0 → ∀ w', Below w.heap.size w w' → Calls Tryd.prog 17 #[.agg #[.int .i64 a.f0, .int .i64 a.f1, .string a.f2, .slice An a.f3.length cn, .slice Ae a.f4.length ce], .agg #[.int .i64 b.f0, .int .i64 b.f1, .string b.f2, .slice Bn b.f3.length dn, .slice Be b.f4.length de]] w' fun e w'' => e = .returned (.bool r) ∧ Below w'.heap.size w' w'' from fun h1 h2 w' h => by
    rcases hr with ⟨_, _, k, hk⟩ | ⟨hn, _⟩
    · obtain ⟨An', cn', Ae', ce', heq, l1, c1, l2, c2⟩ := k25_open ha
      simp only [List.cons.injEq, Value.slice.injEq, and_true, true_and] at heq
      obtain ⟨⟨rfl, rfl⟩, rfl, rfl⟩ := heq
      obtain ⟨Bn', dn', Be', de', heq, l3, c3, l4, c4⟩ := k25_open hb
      simp only [List.cons.injEq, Value.slice.injEq, and_true, true_and] at heq
      obtain ⟨⟨rfl, rfl⟩, rfl, rfl⟩ := heq
      exact jsonval_equal.calls k a.f0 a.f1 a.f2 An cn a.f3 Ae ce a.f4 b.f0 b.f1 b.f2 Bn dn b.f3 Be de b.f4 r w' (Kd.C_below c1 h) l1 (Kd.C_below c2 h) l2 (Kd.C_below c3 h) l3 (Kd.C_below c4 h) l4 hk
    · exact absurd ⟨hva.trans h1, hvb.trans h2⟩ hn)
  have HR := Aside0.mk (show ¬ (va_ = 0 ∧ vb_ = 0) → r = false from fun hn => by
    rcases hr with ⟨h1, h2, _⟩ | ⟨_, h⟩
    · exact absurd ⟨hva.symm.trans h1, hvb.symm.trans h2⟩ hn
    · exact h)
  have HB := Aside0.mk (below_alloc (below_alloc (Below.refl w.heap.size w) (.cells #[.int .i64 a.f0, .int .i64 a.f1, .string a.f2, .slice An a.f3.length cn, .slice Ae a.f4.length ce] 25 (0, 0))) (.cells #[.int .i64 b.f0, .int .i64 b.f1, .string b.f2, .slice Bn b.f3.length dn, .slice Be b.f4.length de] 25 (0, 0)))
  have NA : ((w.alloc (.cells #[.int .i64 a.f0, .int .i64 a.f1, .string a.f2, .slice An a.f3.length cn, .slice Ae a.f4.length ce] 25 (0, 0))).alloc (.cells #[.int .i64 b.f0, .int .i64 b.f1, .string b.f2, .slice Bn b.f3.length dn, .slice Be b.f4.length de] 25 (0, 0))).heap[w.heap.size]? = some (.cells #[.int .i64 a.f0, .int .i64 a.f1, .string a.f2, .slice An a.f3.length cn, .slice Ae a.f4.length ce] 25 (0, 0)) := blk_below (blk_new w (.cells #[.int .i64 a.f0, .int .i64 a.f1, .string a.f2, .slice An a.f3.length cn, .slice Ae a.f4.length ce] 25 (0, 0))) (below_alloc (Below.refl _ _) _)
  have hz : (w.alloc (.cells #[.int .i64 a.f0, .int .i64 a.f1, .string a.f2, .slice An a.f3.length cn, .slice Ae a.f4.length ce] 25 (0, 0))).heap.size = w.heap.size + 1 := World.size_alloc _ _
  have NB : ((w.alloc (.cells #[.int .i64 a.f0, .int .i64 a.f1, .string a.f2, .slice An a.f3.length cn, .slice Ae a.f4.length ce] 25 (0, 0))).alloc (.cells #[.int .i64 b.f0, .int .i64 b.f1, .string b.f2, .slice Bn b.f3.length dn, .slice Be b.f4.length de] 25 (0, 0))).heap[w.heap.size + 1]? = some (.cells #[.int .i64 b.f0, .int .i64 b.f1, .string b.f2, .slice Bn b.f3.length dn, .slice Be b.f4.length de] 25 (0, 0)) := by rw [← hz]; exact blk_new _ _
  have q0 : ((w.alloc (.cells #[.int .i64 a.f0, .int .i64 a.f1, .string a.f2, .slice An a.f3.length cn, .slice Ae a.f4.length ce] 25 (0, 0))).alloc (.cells #[.int .i64 b.f0, .int .i64 b.f1, .string b.f2, .slice Bn b.f3.length dn, .slice Be b.f4.length de] 25 (0, 0))).cell? ⟨w.heap.size, 0, none⟩ = some (.int .i64 a.f0) := (blk_cell NA 0).trans rfl
  have q1 : ((w.alloc (.cells #[.int .i64 a.f0, .int .i64 a.f1, .string a.f2, .slice An a.f3.length cn, .slice Ae a.f4.length ce] 25 (0, 0))).alloc (.cells #[.int .i64 b.f0, .int .i64 b.f1, .string b.f2, .slice Bn b.f3.length dn, .slice Be b.f4.length de] 25 (0, 0))).cell? ⟨w.heap.size, 1, none⟩ = some (.int .i64 a.f1) := (blk_cell NA 1).trans rfl
  have q2 : ((w.alloc (.cells #[.int .i64 a.f0, .int .i64 a.f1, .string a.f2, .slice An a.f3.length cn, .slice Ae a.f4.length ce] 25 (0, 0))).alloc (.cells #[.int .i64 b.f0, .int .i64 b.f1, .string b.f2, .slice Bn b.f3.length dn, .slice Be b.f4.length de] 25 (0, 0))).cell? ⟨w.heap.size, 2, none⟩ = some (.string a.f2) := (blk_cell NA 2).trans rfl
  have q3 : ((w.alloc (.cells #[.int .i64 a.f0, .int .i64 a.f1, .string a.f2, .slice An a.f3.length cn, .slice Ae a.f4.length ce] 25 (0, 0))).alloc (.cells #[.int .i64 b.f0, .int .i64 b.f1, .string b.f2, .slice Bn b.f3.length dn, .slice Be b.f4.length de] 25 (0, 0))).cell? ⟨w.heap.size, 3, none⟩ = some (.slice An a.f3.length cn) := (blk_cell NA 3).trans rfl
  have q4 : ((w.alloc (.cells #[.int .i64 a.f0, .int .i64 a.f1, .string a.f2, .slice An a.f3.length cn, .slice Ae a.f4.length ce] 25 (0, 0))).alloc (.cells #[.int .i64 b.f0, .int .i64 b.f1, .string b.f2, .slice Bn b.f3.length dn, .slice Be b.f4.length de] 25 (0, 0))).cell? ⟨w.heap.size, 4, none⟩ = some (.slice Ae a.f4.length ce) := (blk_cell NA 4).trans rfl
  have p0 : ((w.alloc (.cells #[.int .i64 a.f0, .int .i64 a.f1, .string a.f2, .slice An a.f3.length cn, .slice Ae a.f4.length ce] 25 (0, 0))).alloc (.cells #[.int .i64 b.f0, .int .i64 b.f1, .string b.f2, .slice Bn b.f3.length dn, .slice Be b.f4.length de] 25 (0, 0))).cell? ⟨w.heap.size + 1, 0, none⟩ = some (.int .i64 b.f0) := (blk_cell NB 0).trans rfl
  have p1 : ((w.alloc (.cells #[.int .i64 a.f0, .int .i64 a.f1, .string a.f2, .slice An a.f3.length cn, .slice Ae a.f4.length ce] 25 (0, 0))).alloc (.cells #[.int .i64 b.f0, .int .i64 b.f1, .string b.f2, .slice Bn b.f3.length dn, .slice Be b.f4.length de] 25 (0, 0))).cell? ⟨w.heap.size + 1, 1, none⟩ = some (.int .i64 b.f1) := (blk_cell NB 1).trans rfl
  have p2 : ((w.alloc (.cells #[.int .i64 a.f0, .int .i64 a.f1, .string a.f2, .slice An a.f3.length cn, .slice Ae a.f4.length ce] 25 (0, 0))).alloc (.cells #[.int .i64 b.f0, .int .i64 b.f1, .string b.f2, .slice Bn b.f3.length dn, .slice Be b.f4.length de] 25 (0, 0))).cell? ⟨w.heap.size + 1, 2, none⟩ = some (.string b.f2) := (blk_cell NB 2).trans rfl
  have p3 : ((w.alloc (.cells #[.int .i64 a.f0, .int .i64 a.f1, .string a.f2, .slice An a.f3.length cn, .slice Ae a.f4.length ce] 25 (0, 0))).alloc (.cells #[.int .i64 b.f0, .int .i64 b.f1, .string b.f2, .slice Bn b.f3.length dn, .slice Be b.f4.length de] 25 (0, 0))).cell? ⟨w.heap.size + 1, 3, none⟩ = some (.slice Bn b.f3.length dn) := (blk_cell NB 3).trans rfl
  have p4 : ((w.alloc (.cells #[.int .i64 a.f0, .int .i64 a.f1, .string a.f2, .slice An a.f3.length cn, .slice Ae a.f4.length ce] 25 (0, 0))).alloc (.cells #[.int .i64 b.f0, .int .i64 b.f1, .string b.f2, .slice Bn b.f3.length dn, .slice Be b.f4.length de] 25 (0, 0))).cell? ⟨w.heap.size + 1, 4, none⟩ = some (.slice Be b.f4.length de) := (blk_cell NB 4).trans rfl
  clear ha hb sa sb hT hr hva hvb NA NB hz
  by_cases h1 : va_ = 0
  · subst h1
    by_cases h2 : vb_ = 0
    · subst h2
      replace VE := Aside0.mk (VE.out rfl rfl)
      clear HR
      go_enter Tryd.func9, Tryd.ntmps9
      go_wp2_with (first
        | (go_at_call 8; with_reducible refine (V1.out _ HB.out).mono ?_; rintro e_ w6 ⟨rfl, hb⟩; have n1_ := Aside0.mk (below_step HB.out hb); clear HB; have HB := n1_; clear n1_; have r0 := (hb.cell (World.block_lt_of_cell? _ _ q0)).trans q0; have s0 := (hb.cell (World.block_lt_of_cell? _ _ p0)).trans p0; have r1 := (hb.cell (World.block_lt_of_cell? _ _ q1)).trans q1; have s1 := (hb.cell (World.block_lt_of_cell? _ _ p1)).trans p1; have r2 := (hb.cell (World.block_lt_of_cell? _ _ q2)).trans q2; have s2 := (hb.cell (World.block_lt_of_cell? _ _ p2)).trans p2; have r3 := (hb.cell (World.block_lt_of_cell? _ _ q3)).trans q3; have s3 := (hb.cell (World.block_lt_of_cell? _ _ p3)).trans p3; have r4 := (hb.cell (World.block_lt_of_cell? _ _ q4)).trans q4; have s4 := (hb.cell (World.block_lt_of_cell? _ _ p4)).trans p4; clear q0 q1 q2 q3 q4 p0 p1 p2 p3 p4; have q0 := r0; have p0 := s0; have q1 := r1; have p1 := s1; have q2 := r2; have p2 := s2; have q3 := r3; have p3 := s3; have q4 := r4; have p4 := s4; clear r0 r1 r2 r3 r4 s0 s1 s2 s3 s4; clear hb)
        | (go_at_call 8; with_reducible refine (V2.out _ HB.out).mono ?_; rintro e_ w7 ⟨rfl, hb⟩; have n1_ := Aside0.mk (below_step HB.out hb); clear HB; have HB := n1_; clear n1_; have r0 := (hb.cell (World.block_lt_of_cell? _ _ q0)).trans q0; have s0 := (hb.cell (World.block_lt_of_cell? _ _ p0)).trans p0; have r1 := (hb.cell (World.block_lt_of_cell? _ _ q1)).trans q1; have s1 := (hb.cell (World.block_lt_of_cell? _ _ p1)).trans p1; have r2 := (hb.cell (World.block_lt_of_cell? _ _ q2)).trans q2; have s2 := (hb.cell (World.block_lt_of_cell? _ _ p2)).trans p2; have r3 := (hb.cell (World.block_lt_of_cell? _ _ q3)).trans q3; have s3 := (hb.cell (World.block_lt_of_cell? _ _ p3)).trans p3; have r4 := (hb.cell (World.block_lt_of_cell? _ _ q4)).trans q4; have s4 := (hb.cell (World.block_lt_of_cell? _ _ p4)).trans p4; clear q0 q1 q2 q3 q4 p0 p1 p2 p3 p4; have q0 := r0; have p0 := s0; have q1 := r1; have p1 := s1; have q2 := r2; have p2 := s2; have q3 := r3; have p3 := s3; have q4 := r4; have p4 := s4; clear r0 r1 r2 r3 r4 s0 s1 s2 s3 s4; clear hb)
        | (go_at_call 17; with_reducible refine (VE.out _ HB.out).mono ?_; rintro e_ w8 ⟨rfl, hb⟩; have n1_ := Aside0.mk (below_step HB.out hb); clear HB; have HB := n1_; clear n1_; have r0 := (hb.cell (World.block_lt_of_cell? _ _ q0)).trans q0; have s0 := (hb.cell (World.block_lt_of_cell? _ _ p0)).trans p0; have r1 := (hb.cell (World.block_lt_of_cell? _ _ q1)).trans q1; have s1 := (hb.cell (World.block_lt_of_cell? _ _ p1)).trans p1; have r2 := (hb.cell (World.block_lt_of_cell? _ _ q2)).trans q2; have s2 := (hb.cell (World.block_lt_of_cell? _ _ p2)).trans p2; have r3 := (hb.cell (World.block_lt_of_cell? _ _ q3)).trans q3; have s3 := (hb.cell (World.block_lt_of_cell? _ _ p3)).trans p3; have r4 := (hb.cell (World.block_lt_of_cell? _ _ q4)).trans q4; have s4 := (hb.cell (World.block_lt_of_cell? _ _ p4)).trans p4; clear q0 q1 q2 q3 q4 p0 p1 p2 p3 p4; have q0 := r0; have p0 := s0; have q1 := r1; have p1 := s1; have q2 := r2; have p2 := s2; have q3 := r3; have p3 := s3; have q4 := r4; have p4 := s4; clear r0 r1 r2 r3 r4 s0 s1 s2 s3 s4; clear hb))
      go_ret
      exact ⟨rfl, HB.out⟩
    · have e1 : ¬ ((vb_ : Int) = 0) := by omega
      have e2 : decide ((vb_ : Int) = 0) = false := decide_eq_false e1
      have hr := HR.out (fun h => h2 h.2)
      subst hr
      clear VE HR h2
      go_enter Tryd.func9, Tryd.ntmps9
      go_wp2_with (first
        | (go_at_call 8; with_reducible refine (V1.out _ HB.out).mono ?_; rintro e_ w6 ⟨rfl, hb⟩; have n1_ := Aside0.mk (below_step HB.out hb); clear HB; have HB := n1_; clear n1_; have r0 := (hb.cell (World.block_lt_of_cell? _ _ q0)).trans q0; have s0 := (hb.cell (World.block_lt_of_cell? _ _ p0)).trans p0; have r1 := (hb.cell (World.block_lt_of_cell? _ _ q1)).trans q1; have s1 := (hb.cell (World.block_lt_of_cell? _ _ p1)).trans p1; have r2 := (hb.cell (World.block_lt_of_cell? _ _ q2)).trans q2; have s2 := (hb.cell (World.block_lt_of_cell? _ _ p2)).trans p2; have r3 := (hb.cell (World.block_lt_of_cell? _ _ q3)).trans q3; have s3 := (hb.cell (World.block_lt_of_cell? _ _ p3)).trans p3; have r4 := (hb.cell (World.block_lt_of_cell? _ _ q4)).trans q4; have s4 := (hb.cell (World.block_lt_of_cell? _ _ p4)).trans p4; clear q0 q1 q2 q3 q4 p0 p1 p2 p3 p4; have q0 := r0; have p0 := s0; have q1 := r1; have p1 := s1; have q2 := r2; have p2 := s2; have q3 := r3; have p3 := s3; have q4 := r4; have p4 := s4; clear r0 r1 r2 r3 r4 s0 s1 s2 s3 s4; clear hb)
        | (go_at_call 8; with_reducible refine (V2.out _ HB.out).mono ?_; rintro e_ w7 ⟨rfl, hb⟩; have n1_ := Aside0.mk (below_step HB.out hb); clear HB; have HB := n1_; clear n1_; have r0 := (hb.cell (World.block_lt_of_cell? _ _ q0)).trans q0; have s0 := (hb.cell (World.block_lt_of_cell? _ _ p0)).trans p0; have r1 := (hb.cell (World.block_lt_of_cell? _ _ q1)).trans q1; have s1 := (hb.cell (World.block_lt_of_cell? _ _ p1)).trans p1; have r2 := (hb.cell (World.block_lt_of_cell? _ _ q2)).trans q2; have s2 := (hb.cell (World.block_lt_of_cell? _ _ p2)).trans p2; have r3 := (hb.cell (World.block_lt_of_cell? _ _ q3)).trans q3; have s3 := (hb.cell (World.block_lt_of_cell? _ _ p3)).trans p3; have r4 := (hb.cell (World.block_lt_of_cell? _ _ q4)).trans q4; have s4 := (hb.cell (World.block_lt_of_cell? _ _ p4)).trans p4; clear q0 q1 q2 q3 q4 p0 p1 p2 p3 p4; have q0 := r0; have p0 := s0; have q1 := r1; have p1 := s1; have q2 := r2; have p2 := s2; have q3 := r3; have p3 := s3; have q4 := r4; have p4 := s4; clear r0 r1 r2 r3 r4 s0 s1 s2 s3 s4; clear hb))
      go_ret
      exact ⟨rfl, HB.out⟩
  · have e1 : ¬ ((va_ : Int) = 0) := by omega
    have e2 : decide ((va_ : Int) = 0) = false := decide_eq_false e1
    have hr := HR.out (fun h => h1 h.1)
    subst hr
    clear VE HR h1
    go_enter Tryd.func9, Tryd.ntmps9
    go_wp2_with (go_at_call 8; with_reducible refine (V1.out _ HB.out).mono ?_; rintro e_ w6 ⟨rfl, hb⟩; have n1_ := Aside0.mk (below_step HB.out hb); clear HB; have HB := n1_; clear n1_; have r0 := (hb.cell (World.block_lt_of_cell? _ _ q0)).trans q0; have s0 := (hb.cell (World.block_lt_of_cell? _ _ p0)).trans p0; have r1 := (hb.cell (World.block_lt_of_cell? _ _ q1)).trans q1; have s1 := (hb.cell (World.block_lt_of_cell? _ _ p1)).trans p1; have r2 := (hb.cell (World.block_lt_of_cell? _ _ q2)).trans q2; have s2 := (hb.cell (World.block_lt_of_cell? _ _ p2)).trans p2; have r3 := (hb.cell (World.block_lt_of_cell? _ _ q3)).trans q3; have s3 := (hb.cell (World.block_lt_of_cell? _ _ p3)).trans p3; have r4 := (hb.cell (World.block_lt_of_cell? _ _ q4)).trans q4; have s4 := (hb.cell (World.block_lt_of_cell? _ _ p4)).trans p4; clear q0 q1 q2 q3 q4 p0 p1 p2 p3 p4; have q0 := r0; have p0 := s0; have q1 := r1; have p1 := s1; have q2 := r2; have p2 := s2; have q3 := r3; have p3 := s3; have q4 := r4; have p4 := s4; clear r0 r1 r2 r3 r4 s0 s1 s2 s3 s4; clear hb)
    go_ret
    exact ⟨rfl, HB.out⟩
end Go.Proofs.YtmonbhoeplmieaaDoor.Js
