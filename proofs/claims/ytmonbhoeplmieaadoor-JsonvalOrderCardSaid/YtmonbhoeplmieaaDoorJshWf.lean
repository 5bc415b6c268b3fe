/- jsonval.wellFormed. -/
import Derived.Test.YtmonbhoeplmieaaDoorJsx0
import Derived.Test.YtmonbhoeplmieaaDoorJshHd
import Derived.Test.YtmonbhoeplmieaaDoorJshVd
import Derived.Deep.QuietTactic
import Derived.BigQuiet
import Derived.Deep.LoopGhost
import Derived.Shelf.Abstract
namespace Go.Proofs.YtmonbhoeplmieaaDoor.Js
open Go.RowKit Go.Proofs.YtmonbhoeplmieaaDoorW.PrintWords Go.Proofs.YtmonbhoeplmieaaDoorW.PrintLast Go.Proofs.YtmonbhoeplmieaaDoorW.PrintMore
open Go.Proofs.YtmonbhoeplmieaaDoor
set_option linter.unusedVariables false
set_option linter.unusedSimpArgs false

open Go.Proofs.YtmonbhoeplmieaaDoor
attribute [local instance 0] Classical.propDecidable
def lowJ (k : Int) : Int := if k = 2 then -9007199254740991 else 0
def highJ (k : Int) : Int := if k = 1 then 1 else if k = 2 then 9007199254740991 else 0
/-- wellFormed's answer, out of the kind, the number, the text, the names, their number and the number of elements -/
def wfp (k n : Int) (t : ByteArray) (ns : List ByteArray) (m l : Nat) : Bool :=
  if n < lowJ k ∨ highJ k < n then false
  else if ¬ t.toList = [] ∧ ¬ k = 3 then false
  else if 0 < l ∧ ¬ k = 4 ∧ ¬ k = 5 then false
  else if k = 5 ∧ (¬ m = l ∨ decide ns.Nodup = false) then false
  else if ¬ k = 5 ∧ 0 < m then false
  else if vtext t = false then false
  else ns.all vtext
def wf (j : S25) : Bool := wfp j.f0 j.f1 j.f2 j.f3 j.f3.length j.f4.length
set_option maxHeartbeats 4000000 in
set_option maxRecDepth 100000 in
theorem wf_0 (k : Int) (h1 : ¬ k = 1) (h2 : ¬ k = 2) (h3 : ¬ k = 3) (h4 : ¬ k = 4) (h5 : ¬ k = 5) (n : Int) (t : ByteArray) (An : Option Addr) (ns : List ByteArray) (cn : Nat) (Ae : Option Addr) (l ce : Nat) (w : World) (hT : Ts w) (hr : Kd.string.C w An ns.length ns) (ht : t.size ≤ maxLen) (hsz : ∀ x ∈ ns, x.size ≤ maxLen) :
    Calls Tryd.prog 29 #[.agg #[.int .i64 k, .int .i64 n, .string t, .slice An ns.length cn, .slice Ae l ce]] w fun e w' => e = .returned (.bool (wfp k n t ns ns.length l)) ∧ Below w.heap.size w w' := by
  have VT := Aside0.mk (fun w' (h : Below w.heap.size w w') => valid_text t (show t.size ≤ 9223372036854775807 from ht) w' (hT.below h))
  have VN := Aside0.mk (fun w' (h : Below w.heap.size w w') => invalid_names An cn ns w' (hT.below h) (Kd.C_below hr h) hsz)
  have DUP := Aside0.mk (fun w' (h : Below w.heap.size w w') => hasDup An cn ns w' (Kd.C_below hr h) hsz)
  obtain ⟨m, hm⟩ : ∃ m, ns.length = m := ⟨_, rfl⟩
  rw [hm] at VN DUP ⊢
  clear hT hr ht hsz hm
  have hu25 := Tryd.underlying25
  have HB := Aside0.mk (below_alloc (Below.refl w.heap.size w) (.cells #[.int .i64 k, .int .i64 n, .string t, .slice An m cn, .slice Ae l ce] 25 (0, 0)))
  have q0 : (w.alloc (.cells #[.int .i64 k, .int .i64 n, .string t, .slice An m cn, .slice Ae l ce] 25 (0, 0))).cell? ⟨w.heap.size, 0, none⟩ = some (.int .i64 k) := (blk_cell (blk_new w _) 0).trans rfl
  have q1 : (w.alloc (.cells #[.int .i64 k, .int .i64 n, .string t, .slice An m cn, .slice Ae l ce] 25 (0, 0))).cell? ⟨w.heap.size, 1, none⟩ = some (.int .i64 n) := (blk_cell (blk_new w _) 1).trans rfl
  have q2 : (w.alloc (.cells #[.int .i64 k, .int .i64 n, .string t, .slice An m cn, .slice Ae l ce] 25 (0, 0))).cell? ⟨w.heap.size, 2, none⟩ = some (.string t) := (blk_cell (blk_new w _) 2).trans rfl
  have q3 : (w.alloc (.cells #[.int .i64 k, .int .i64 n, .string t, .slice An m cn, .slice Ae l ce] 25 (0, 0))).cell? ⟨w.heap.size, 3, none⟩ = some (.slice An m cn) := (blk_cell (blk_new w _) 3).trans rfl
  have q4 : (w.alloc (.cells #[.int .i64 k, .int .i64 n, .string t, .slice An m cn, .slice Ae l ce] 25 (0, 0))).cell? ⟨w.heap.size, 4, none⟩ = some (.slice Ae l ce) := (blk_cell (blk_new w _) 4).trans rfl
  go_enter Tryd.func29, Tryd.ntmps29
  go_wp2_with (first
    | (go_at_call 43; refine (DUP.out _ HB.out).mono ?_; rintro e_ w9 ⟨rfl, hb⟩; have n1_ := Aside0.mk (below_step HB.out hb); clear HB; have HB := n1_; clear n1_; have r0 := (hb.cell (World.block_lt_of_cell? _ _ q0)).trans q0; have r1 := (hb.cell (World.block_lt_of_cell? _ _ q1)).trans q1; have r2 := (hb.cell (World.block_lt_of_cell? _ _ q2)).trans q2; have r3 := (hb.cell (World.block_lt_of_cell? _ _ q3)).trans q3; have r4 := (hb.cell (World.block_lt_of_cell? _ _ q4)).trans q4; clear q0 q1 q2 q3 q4; have q0 := r0; have q1 := r1; have q2 := r2; have q3 := r3; have q4 := r4; clear r0 r1 r2 r3 r4; clear hb; cases hd : decide ns.Nodup)
    | (go_at_call 44; refine (VT.out _ HB.out).mono ?_; rintro e_ w8 ⟨rfl, hb⟩; have n1_ := Aside0.mk (below_step HB.out hb); clear HB; have HB := n1_; clear n1_; have r0 := (hb.cell (World.block_lt_of_cell? _ _ q0)).trans q0; have r1 := (hb.cell (World.block_lt_of_cell? _ _ q1)).trans q1; have r2 := (hb.cell (World.block_lt_of_cell? _ _ q2)).trans q2; have r3 := (hb.cell (World.block_lt_of_cell? _ _ q3)).trans q3; have r4 := (hb.cell (World.block_lt_of_cell? _ _ q4)).trans q4; clear q0 q1 q2 q3 q4; have q0 := r0; have q1 := r1; have q2 := r2; have q3 := r3; have q4 := r4; clear r0 r1 r2 r3 r4; clear hb; cases hv : vtext t)
    | (go_at_call 45; refine (VN.out _ HB.out).mono ?_; rintro e_ w7 ⟨rfl, hb⟩; have n1_ := Aside0.mk (below_step HB.out hb); clear HB; have HB := n1_; clear n1_; clear hb; cases hn : ns.all vtext))
  all_goals go_ret
  all_goals (refine ⟨?_, HB.out⟩; clear VT VN DUP HB hu25; try clear q0 q1 q2 q3 q4; simp only [wfp, lowJ, highJ]; repeat' split)
  all_goals first | rfl | (exfalso; simp_all; done) | (exfalso; simp_all; omega) | (simp_all; done)
set_option maxHeartbeats 4000000 in
set_option maxRecDepth 100000 in
theorem wf_1 (n : Int) (t : ByteArray) (An : Option Addr) (ns : List ByteArray) (cn : Nat) (Ae : Option Addr) (l ce : Nat) (w : World) (hT : Ts w) (hr : Kd.string.C w An ns.length ns) (ht : t.size ≤ maxLen) (hsz : ∀ x ∈ ns, x.size ≤ maxLen) :
    Calls Tryd.prog 29 #[.agg #[.int .i64 (1 : Int), .int .i64 n, .string t, .slice An ns.length cn, .slice Ae l ce]] w fun e w' => e = .returned (.bool (wfp (1 : Int) n t ns ns.length l)) ∧ Below w.heap.size w w' := by
  have VT := Aside0.mk (fun w' (h : Below w.heap.size w w') => valid_text t (show t.size ≤ 9223372036854775807 from ht) w' (hT.below h))
  have VN := Aside0.mk (fun w' (h : Below w.heap.size w w') => invalid_names An cn ns w' (hT.below h) (Kd.C_below hr h) hsz)
  have DUP := Aside0.mk (fun w' (h : Below w.heap.size w w') => hasDup An cn ns w' (Kd.C_below hr h) hsz)
  obtain ⟨m, hm⟩ : ∃ m, ns.length = m := ⟨_, rfl⟩
  rw [hm] at VN DUP ⊢
  clear hT hr ht hsz hm
  have hu25 := Tryd.underlying25
  have HB := Aside0.mk (below_alloc (Below.refl w.heap.size w) (.cells #[.int .i64 (1 : Int), .int .i64 n, .string t, .slice An m cn, .slice Ae l ce] 25 (0, 0)))
  have q0 : (w.alloc (.cells #[.int .i64 (1 : Int), .int .i64 n, .string t, .slice An m cn, .slice Ae l ce] 25 (0, 0))).cell? ⟨w.heap.size, 0, none⟩ = some (.int .i64 (1 : Int)) := (blk_cell (blk_new w _) 0).trans rfl
  have q1 : (w.alloc (.cells #[.int .i64 (1 : Int), .int .i64 n, .string t, .slice An m cn, .slice Ae l ce] 25 (0, 0))).cell? ⟨w.heap.size, 1, none⟩ = some (.int .i64 n) := (blk_cell (blk_new w _) 1).trans rfl
  have q2 : (w.alloc (.cells #[.int .i64 (1 : Int), .int .i64 n, .string t, .slice An m cn, .slice Ae l ce] 25 (0, 0))).cell? ⟨w.heap.size, 2, none⟩ = some (.string t) := (blk_cell (blk_new w _) 2).trans rfl
  have q3 : (w.alloc (.cells #[.int .i64 (1 : Int), .int .i64 n, .string t, .slice An m cn, .slice Ae l ce] 25 (0, 0))).cell? ⟨w.heap.size, 3, none⟩ = some (.slice An m cn) := (blk_cell (blk_new w _) 3).trans rfl
  have q4 : (w.alloc (.cells #[.int .i64 (1 : Int), .int .i64 n, .string t, .slice An m cn, .slice Ae l ce] 25 (0, 0))).cell? ⟨w.heap.size, 4, none⟩ = some (.slice Ae l ce) := (blk_cell (blk_new w _) 4).trans rfl
  go_enter Tryd.func29, Tryd.ntmps29
  go_wp2_with (first
    | (go_at_call 43; refine (DUP.out _ HB.out).mono ?_; rintro e_ w9 ⟨rfl, hb⟩; have n1_ := Aside0.mk (below_step HB.out hb); clear HB; have HB := n1_; clear n1_; have r0 := (hb.cell (World.block_lt_of_cell? _ _ q0)).trans q0; have r1 := (hb.cell (World.block_lt_of_cell? _ _ q1)).trans q1; have r2 := (hb.cell (World.block_lt_of_cell? _ _ q2)).trans q2; have r3 := (hb.cell (World.block_lt_of_cell? _ _ q3)).trans q3; have r4 := (hb.cell (World.block_lt_of_cell? _ _ q4)).trans q4; clear q0 q1 q2 q3 q4; have q0 := r0; have q1 := r1; have q2 := r2; have q3 := r3; have q4 := r4; clear r0 r1 r2 r3 r4; clear hb; cases hd : decide ns.Nodup)
    | (go_at_call 44; refine (VT.out _ HB.out).mono ?_; rintro e_ w8 ⟨rfl, hb⟩; have n1_ := Aside0.mk (below_step HB.out hb); clear HB; have HB := n1_; clear n1_; have r0 := (hb.cell (World.block_lt_of_cell? _ _ q0)).trans q0; have r1 := (hb.cell (World.block_lt_of_cell? _ _ q1)).trans q1; have r2 := (hb.cell (World.block_lt_of_cell? _ _ q2)).trans q2; have r3 := (hb.cell (World.block_lt_of_cell? _ _ q3)).trans q3; have r4 := (hb.cell (World.block_lt_of_cell? _ _ q4)).trans q4; clear q0 q1 q2 q3 q4; have q0 := r0; have q1 := r1; have q2 := r2; have q3 := r3; have q4 := r4; clear r0 r1 r2 r3 r4; clear hb; cases hv : vtext t)
    | (go_at_call 45; refine (VN.out _ HB.out).mono ?_; rintro e_ w7 ⟨rfl, hb⟩; have n1_ := Aside0.mk (below_step HB.out hb); clear HB; have HB := n1_; clear n1_; clear hb; cases hn : ns.all vtext))
  all_goals go_ret
  all_goals (refine ⟨?_, HB.out⟩; clear VT VN DUP HB hu25; try clear q0 q1 q2 q3 q4; simp only [wfp, lowJ, highJ]; repeat' split)
  all_goals first | rfl | (exfalso; simp_all; done) | (exfalso; simp_all; omega) | (simp_all; done)
set_option maxHeartbeats 4000000 in
set_option maxRecDepth 100000 in
theorem wf_2 (n : Int) (t : ByteArray) (An : Option Addr) (ns : List ByteArray) (cn : Nat) (Ae : Option Addr) (l ce : Nat) (w : World) (hT : Ts w) (hr : Kd.string.C w An ns.length ns) (ht : t.size ≤ maxLen) (hsz : ∀ x ∈ ns, x.size ≤ maxLen) :
    Calls Tryd.prog 29 #[.agg #[.int .i64 (2 : Int), .int .i64 n, .string t, .slice An ns.length cn, .slice Ae l ce]] w fun e w' => e = .returned (.bool (wfp (2 : Int) n t ns ns.length l)) ∧ Below w.heap.size w w' := by
  have VT := Aside0.mk (fun w' (h : Below w.heap.size w w') => valid_text t (show t.size ≤ 9223372036854775807 from ht) w' (hT.below h))
  have VN := Aside0.mk (fun w' (h : Below w.heap.size w w') => invalid_names An cn ns w' (hT.below h) (Kd.C_below hr h) hsz)
  have DUP := Aside0.mk (fun w' (h : Below w.heap.size w w') => hasDup An cn ns w' (Kd.C_below hr h) hsz)
  obtain ⟨m, hm⟩ : ∃ m, ns.length = m := ⟨_, rfl⟩
  rw [hm] at VN DUP ⊢
  clear hT hr ht hsz hm
  have hu25 := Tryd.underlying25
  have HB := Aside0.mk (below_alloc (Below.refl w.heap.size w) (.cells #[.int .i64 (2 : Int), .int .i64 n, .string t, .slice An m cn, .slice Ae l ce] 25 (0, 0)))
  have q0 : (w.alloc (.cells #[.int .i64 (2 : Int), .int .i64 n, .string t, .slice An m cn, .slice Ae l ce] 25 (0, 0))).cell? ⟨w.heap.size, 0, none⟩ = some (.int .i64 (2 : Int)) := (blk_cell (blk_new w _) 0).trans rfl
  have q1 : (w.alloc (.cells #[.int .i64 (2 : Int), .int .i64 n, .string t, .slice An m cn, .slice Ae l ce] 25 (0, 0))).cell? ⟨w.heap.size, 1, none⟩ = some (.int .i64 n) := (blk_cell (blk_new w _) 1).trans rfl
  have q2 : (w.alloc (.cells #[.int .i64 (2 : Int), .int .i64 n, .string t, .slice An m cn, .slice Ae l ce] 25 (0, 0))).cell? ⟨w.heap.size, 2, none⟩ = some (.string t) := (blk_cell (blk_new w _) 2).trans rfl
  have q3 : (w.alloc (.cells #[.int .i64 (2 : Int), .int .i64 n, .string t, .slice An m cn, .slice Ae l ce] 25 (0, 0))).cell? ⟨w.heap.size, 3, none⟩ = some (.slice An m cn) := (blk_cell (blk_new w _) 3).trans rfl
  have q4 : (w.alloc (.cells #[.int .i64 (2 : Int), .int .i64 n, .string t, .slice An m cn, .slice Ae l ce] 25 (0, 0))).cell? ⟨w.heap.size, 4, none⟩ = some (.slice Ae l ce) := (blk_cell (blk_new w _) 4).trans rfl
  go_enter Tryd.func29, Tryd.ntmps29
  go_wp2_with (first
    | (go_at_call 43; refine (DUP.out _ HB.out).mono ?_; rintro e_ w9 ⟨rfl, hb⟩; have n1_ := Aside0.mk (below_step HB.out hb); clear HB; have HB := n1_; clear n1_; have r0 := (hb.cell (World.block_lt_of_cell? _ _ q0)).trans q0; have r1 := (hb.cell (World.block_lt_of_cell? _ _ q1)).trans q1; have r2 := (hb.cell (World.block_lt_of_cell? _ _ q2)).trans q2; have r3 := (hb.cell (World.block_lt_of_cell? _ _ q3)).trans q3; have r4 := (hb.cell (World.block_lt_of_cell? _ _ q4)).trans q4; clear q0 q1 q2 q3 q4; have q0 := r0; have q1 := r1; have q2 := r2; have q3 := r3; have q4 := r4; clear r0 r1 r2 r3 r4; clear hb; cases hd : decide ns.Nodup)
    | (go_at_call 44; refine (VT.out _ HB.out).mono ?_; rintro e_ w8 ⟨rfl, hb⟩; have n1_ := Aside0.mk (below_step HB.out hb); clear HB; have HB := n1_; clear n1_; have r0 := (hb.cell (World.block_lt_of_cell? _ _ q0)).trans q0; have r1 := (hb.cell (World.block_lt_of_cell? _ _ q1)).trans q1; have r2 := (hb.cell (World.block_lt_of_cell? _ _ q2)).trans q2; have r3 := (hb.cell (World.block_lt_of_cell? _ _ q3)).trans q3; have r4 := (hb.cell (World.block_lt_of_cell? _ _ q4)).trans q4; clear q0 q1 q2 q3 q4; have q0 := r0; have q1 := r1; have q2 := r2; have q3 := r3; have q4 := r4; clear r0 r1 r2 r3 r4; clear hb; cases hv : vtext t)
    | (go_at_call 45; refine (VN.out _ HB.out).mono ?_; rintro e_ w7 ⟨rfl, hb⟩; have n1_ := Aside0.mk (below_step HB.out hb); clear HB; have HB := n1_; clear n1_; clear hb; cases hn : ns.all vtext))
  all_goals go_ret
  all_goals (refine ⟨?_, HB.out⟩; clear VT VN DUP HB hu25; try clear q0 q1 q2 q3 q4; simp only [wfp, lowJ, highJ]; repeat' split)
  all_goals first | rfl | (exfalso; simp_all; done) | (exfalso; simp_all; omega) | (simp_all; done)
set_option maxHeartbeats 4000000 in
set_option maxRecDepth 100000 in
theorem wf_3 (n : Int) (t : ByteArray) (An : Option Addr) (ns : List ByteArray) (cn : Nat) (Ae : Option Addr) (l ce : Nat) (w : World) (hT : Ts w) (hr : Kd.string.C w An ns.length ns) (ht : t.size ≤ maxLen) (hsz : ∀ x ∈ ns, x.size ≤ maxLen) :
    Calls Tryd.prog 29 #[.agg #[.int .i64 (3 : Int), .int .i64 n, .string t, .slice An ns.length cn, .slice Ae l ce]] w fun e w' => e = .returned (.bool (wfp (3 : Int) n t ns ns.length l)) ∧ Below w.heap.size w w' := by
  have VT := Aside0.mk (fun w' (h : Below w.heap.size w w') => valid_text t (show t.size ≤ 9223372036854775807 from ht) w' (hT.below h))
  have VN := Aside0.mk (fun w' (h : Below w.heap.size w w') => invalid_names An cn ns w' (hT.below h) (Kd.C_below hr h) hsz)
  have DUP := Aside0.mk (fun w' (h : Below w.heap.size w w') => hasDup An cn ns w' (Kd.C_below hr h) hsz)
  obtain ⟨m, hm⟩ : ∃ m, ns.length = m := ⟨_, rfl⟩
  rw [hm] at VN DUP ⊢
  clear hT hr ht hsz hm
  have hu25 := Tryd.underlying25
  have HB := Aside0.mk (below_alloc (Below.refl w.heap.size w) (.cells #[.int .i64 (3 : Int), .int .i64 n, .string t, .slice An m cn, .slice Ae l ce] 25 (0, 0)))
  have q0 : (w.alloc (.cells #[.int .i64 (3 : Int), .int .i64 n, .string t, .slice An m cn, .slice Ae l ce] 25 (0, 0))).cell? ⟨w.heap.size, 0, none⟩ = some (.int .i64 (3 : Int)) := (blk_cell (blk_new w _) 0).trans rfl
  have q1 : (w.alloc (.cells #[.int .i64 (3 : Int), .int .i64 n, .string t, .slice An m cn, .slice Ae l ce] 25 (0, 0))).cell? ⟨w.heap.size, 1, none⟩ = some (.int .i64 n) := (blk_cell (blk_new w _) 1).trans rfl
  have q2 : (w.alloc (.cells #[.int .i64 (3 : Int), .int .i64 n, .string t, .slice An m cn, .slice Ae l ce] 25 (0, 0))).cell? ⟨w.heap.size, 2, none⟩ = some (.string t) := (blk_cell (blk_new w _) 2).trans rfl
  have q3 : (w.alloc (.cells #[.int .i64 (3 : Int), .int .i64 n, .string t, .slice An m cn, .slice Ae l ce] 25 (0, 0))).cell? ⟨w.heap.size, 3, none⟩ = some (.slice An m cn) := (blk_cell (blk_new w _) 3).trans rfl
  have q4 : (w.alloc (.cells #[.int .i64 (3 : Int), .int .i64 n, .string t, .slice An m cn, .slice Ae l ce] 25 (0, 0))).cell? ⟨w.heap.size, 4, none⟩ = some (.slice Ae l ce) := (blk_cell (blk_new w _) 4).trans rfl
  go_enter Tryd.func29, Tryd.ntmps29
  go_wp2_with (first
    | (go_at_call 43; refine (DUP.out _ HB.out).mono ?_; rintro e_ w9 ⟨rfl, hb⟩; have n1_ := Aside0.mk (below_step HB.out hb); clear HB; have HB := n1_; clear n1_; have r0 := (hb.cell (World.block_lt_of_cell? _ _ q0)).trans q0; have r1 := (hb.cell (World.block_lt_of_cell? _ _ q1)).trans q1; have r2 := (hb.cell (World.block_lt_of_cell? _ _ q2)).trans q2; have r3 := (hb.cell (World.block_lt_of_cell? _ _ q3)).trans q3; have r4 := (hb.cell (World.block_lt_of_cell? _ _ q4)).trans q4; clear q0 q1 q2 q3 q4; have q0 := r0; have q1 := r1; have q2 := r2; have q3 := r3; have q4 := r4; clear r0 r1 r2 r3 r4; clear hb; cases hd : decide ns.Nodup)
    | (go_at_call 44; refine (VT.out _ HB.out).mono ?_; rintro e_ w8 ⟨rfl, hb⟩; have n1_ := Aside0.mk (below_step HB.out hb); clear HB; have HB := n1_; clear n1_; have r0 := (hb.cell (World.block_lt_of_cell? _ _ q0)).trans q0; have r1 := (hb.cell (World.block_lt_of_cell? _ _ q1)).trans q1; have r2 := (hb.cell (World.block_lt_of_cell? _ _ q2)).trans q2; have r3 := (hb.cell (World.block_lt_of_cell? _ _ q3)).trans q3; have r4 := (hb.cell (World.block_lt_of_cell? _ _ q4)).trans q4; clear q0 q1 q2 q3 q4; have q0 := r0; have q1 := r1; have q2 := r2; have q3 := r3; have q4 := r4; clear r0 r1 r2 r3 r4; clear hb; cases hv : vtext t)
    | (go_at_call 45; refine (VN.out _ HB.out).mono ?_; rintro e_ w7 ⟨rfl, hb⟩; have n1_ := Aside0.mk (below_step HB.out hb); clear HB; have HB := n1_; clear n1_; clear hb; cases hn : ns.all vtext))
  all_goals go_ret
  all_goals (refine ⟨?_, HB.out⟩; clear VT VN DUP HB hu25; try clear q0 q1 q2 q3 q4; simp only [wfp, lowJ, highJ]; repeat' split)
  all_goals first | rfl | (exfalso; simp_all; done) | (exfalso; simp_all; omega) | (simp_all; done)
set_option maxHeartbeats 4000000 in
set_option maxRecDepth 100000 in
theorem wf_4 (n : Int) (t : ByteArray) (An : Option Addr) (ns : List ByteArray) (cn : Nat) (Ae : Option Addr) (l ce : Nat) (w : World) (hT : Ts w) (hr : Kd.string.C w An ns.length ns) (ht : t.size ≤ maxLen) (hsz : ∀ x ∈ ns, x.size ≤ maxLen) :
    Calls Tryd.prog 29 #[.agg #[.int .i64 (4 : Int), .int .i64 n, .string t, .slice An ns.length cn, .slice Ae l ce]] w fun e w' => e = .returned (.bool (wfp (4 : Int) n t ns ns.length l)) ∧ Below w.heap.size w w' := by
  have VT := Aside0.mk (fun w' (h : Below w.heap.size w w') => valid_text t (show t.size ≤ 9223372036854775807 from ht) w' (hT.below h))
  have VN := Aside0.mk (fun w' (h : Below w.heap.size w w') => invalid_names An cn ns w' (hT.below h) (Kd.C_below hr h) hsz)
  have DUP := Aside0.mk (fun w' (h : Below w.heap.size w w') => hasDup An cn ns w' (Kd.C_below hr h) hsz)
  obtain ⟨m, hm⟩ : ∃ m, ns.length = m := ⟨_, rfl⟩
  rw [hm] at VN DUP ⊢
  clear hT hr ht hsz hm
  have hu25 := Tryd.underlying25
  have HB := Aside0.mk (below_alloc (Below.refl w.heap.size w) (.cells #[.int .i64 (4 : Int), .int .i64 n, .string t, .slice An m cn, .slice Ae l ce] 25 (0, 0)))
  have q0 : (w.alloc (.cells #[.int .i64 (4 : Int), .int .i64 n, .string t, .slice An m cn, .slice Ae l ce] 25 (0, 0))).cell? ⟨w.heap.size, 0, none⟩ = some (.int .i64 (4 : Int)) := (blk_cell (blk_new w _) 0).trans rfl
  have q1 : (w.alloc (.cells #[.int .i64 (4 : Int), .int .i64 n, .string t, .slice An m cn, .slice Ae l ce] 25 (0, 0))).cell? ⟨w.heap.size, 1, none⟩ = some (.int .i64 n) := (blk_cell (blk_new w _) 1).trans rfl
  have q2 : (w.alloc (.cells #[.int .i64 (4 : Int), .int .i64 n, .string t, .slice An m cn, .slice Ae l ce] 25 (0, 0))).cell? ⟨w.heap.size, 2, none⟩ = some (.string t) := (blk_cell (blk_new w _) 2).trans rfl
  have q3 : (w.alloc (.cells #[.int .i64 (4 : Int), .int .i64 n, .string t, .slice An m cn, .slice Ae l ce] 25 (0, 0))).cell? ⟨w.heap.size, 3, none⟩ = some (.slice An m cn) := (blk_cell (blk_new w _) 3).trans rfl
  have q4 : (w.alloc (.cells #[.int .i64 (4 : Int), .int .i64 n, .string t, .slice An m cn, .slice Ae l ce] 25 (0, 0))).cell? ⟨w.heap.size, 4, none⟩ = some (.slice Ae l ce) := (blk_cell (blk_new w _) 4).trans rfl
  go_enter Tryd.func29, Tryd.ntmps29
  go_wp2_with (first
    | (go_at_call 43; refine (DUP.out _ HB.out).mono ?_; rintro e_ w9 ⟨rfl, hb⟩; have n1_ := Aside0.mk (below_step HB.out hb); clear HB; have HB := n1_; clear n1_; have r0 := (hb.cell (World.block_lt_of_cell? _ _ q0)).trans q0; have r1 := (hb.cell (World.block_lt_of_cell? _ _ q1)).trans q1; have r2 := (hb.cell (World.block_lt_of_cell? _ _ q2)).trans q2; have r3 := (hb.cell (World.block_lt_of_cell? _ _ q3)).trans q3; have r4 := (hb.cell (World.block_lt_of_cell? _ _ q4)).trans q4; clear q0 q1 q2 q3 q4; have q0 := r0; have q1 := r1; have q2 := r2; have q3 := r3; have q4 := r4; clear r0 r1 r2 r3 r4; clear hb; cases hd : decide ns.Nodup)
    | (go_at_call 44; refine (VT.out _ HB.out).mono ?_; rintro e_ w8 ⟨rfl, hb⟩; have n1_ := Aside0.mk (below_step HB.out hb); clear HB; have HB := n1_; clear n1_; have r0 := (hb.cell (World.block_lt_of_cell? _ _ q0)).trans q0; have r1 := (hb.cell (World.block_lt_of_cell? _ _ q1)).trans q1; have r2 := (hb.cell (World.block_lt_of_cell? _ _ q2)).trans q2; have r3 := (hb.cell (World.block_lt_of_cell? _ _ q3)).trans q3; have r4 := (hb.cell (World.block_lt_of_cell? _ _ q4)).trans q4; clear q0 q1 q2 q3 q4; have q0 := r0; have q1 := r1; have q2 := r2; have q3 := r3; have q4 := r4; clear r0 r1 r2 r3 r4; clear hb; cases hv : vtext t)
    | (go_at_call 45; refine (VN.out _ HB.out).mono ?_; rintro e_ w7 ⟨rfl, hb⟩; have n1_ := Aside0.mk (below_step HB.out hb); clear HB; have HB := n1_; clear n1_; clear hb; cases hn : ns.all vtext))
  all_goals go_ret
  all_goals (refine ⟨?_, HB.out⟩; clear VT VN DUP HB hu25; try clear q0 q1 q2 q3 q4; simp only [wfp, lowJ, highJ]; repeat' split)
  all_goals first | rfl | (exfalso; simp_all; done) | (exfalso; simp_all; omega) | (simp_all; done)
set_option maxHeartbeats 4000000 in
set_option maxRecDepth 100000 in
theorem wf_5 (n : Int) (t : ByteArray) (An : Option Addr) (ns : List ByteArray) (cn : Nat) (Ae : Option Addr) (l ce : Nat) (w : World) (hT : Ts w) (hr : Kd.string.C w An ns.length ns) (ht : t.size ≤ maxLen) (hsz : ∀ x ∈ ns, x.size ≤ maxLen) :
    Calls Tryd.prog 29 #[.agg #[.int .i64 (5 : Int), .int .i64 n, .string t, .slice An ns.length cn, .slice Ae l ce]] w fun e w' => e = .returned (.bool (wfp (5 : Int) n t ns ns.length l)) ∧ Below w.heap.size w w' := by
  have VT := Aside0.mk (fun w' (h : Below w.heap.size w w') => valid_text t (show t.size ≤ 9223372036854775807 from ht) w' (hT.below h))
  have VN := Aside0.mk (fun w' (h : Below w.heap.size w w') => invalid_names An cn ns w' (hT.below h) (Kd.C_below hr h) hsz)
  have DUP := Aside0.mk (fun w' (h : Below w.heap.size w w') => hasDup An cn ns w' (Kd.C_below hr h) hsz)
  obtain ⟨m, hm⟩ : ∃ m, ns.length = m := ⟨_, rfl⟩
  rw [hm] at VN DUP ⊢
  clear hT hr ht hsz hm
  have hu25 := Tryd.underlying25
  have HB := Aside0.mk (below_alloc (Below.refl w.heap.size w) (.cells #[.int .i64 (5 : Int), .int .i64 n, .string t, .slice An m cn, .slice Ae l ce] 25 (0, 0)))
  have q0 : (w.alloc (.cells #[.int .i64 (5 : Int), .int .i64 n, .string t, .slice An m cn, .slice Ae l ce] 25 (0, 0))).cell? ⟨w.heap.size, 0, none⟩ = some (.int .i64 (5 : Int)) := (blk_cell (blk_new w _) 0).trans rfl
  have q1 : (w.alloc (.cells #[.int .i64 (5 : Int), .int .i64 n, .string t, .slice An m cn, .slice Ae l ce] 25 (0, 0))).cell? ⟨w.heap.size, 1, none⟩ = some (.int .i64 n) := (blk_cell (blk_new w _) 1).trans rfl
  have q2 : (w.alloc (.cells #[.int .i64 (5 : Int), .int .i64 n, .string t, .slice An m cn, .slice Ae l ce] 25 (0, 0))).cell? ⟨w.heap.size, 2, none⟩ = some (.string t) := (blk_cell (blk_new w _) 2).trans rfl
  have q3 : (w.alloc (.cells #[.int .i64 (5 : Int), .int .i64 n, .string t, .slice An m cn, .slice Ae l ce] 25 (0, 0))).cell? ⟨w.heap.size, 3, none⟩ = some (.slice An m cn) := (blk_cell (blk_new w _) 3).trans rfl
  have q4 : (w.alloc (.cells #[.int .i64 (5 : Int), .int .i64 n, .string t, .slice An m cn, .slice Ae l ce] 25 (0, 0))).cell? ⟨w.heap.size, 4, none⟩ = some (.slice Ae l ce) := (blk_cell (blk_new w _) 4).trans rfl
  go_enter Tryd.func29, Tryd.ntmps29
  go_wp2_with (first
    | (go_at_call 43; refine (DUP.out _ HB.out).mono ?_; rintro e_ w9 ⟨rfl, hb⟩; have n1_ := Aside0.mk (below_step HB.out hb); clear HB; have HB := n1_; clear n1_; have r0 := (hb.cell (World.block_lt_of_cell? _ _ q0)).trans q0; have r1 := (hb.cell (World.block_lt_of_cell? _ _ q1)).trans q1; have r2 := (hb.cell (World.block_lt_of_cell? _ _ q2)).trans q2; have r3 := (hb.cell (World.block_lt_of_cell? _ _ q3)).trans q3; have r4 := (hb.cell (World.block_lt_of_cell? _ _ q4)).trans q4; clear q0 q1 q2 q3 q4; have q0 := r0; have q1 := r1; have q2 := r2; have q3 := r3; have q4 := r4; clear r0 r1 r2 r3 r4; clear hb; cases hd : decide ns.Nodup)
    | (go_at_call 44; refine (VT.out _ HB.out).mono ?_; rintro e_ w8 ⟨rfl, hb⟩; have n1_ := Aside0.mk (below_step HB.out hb); clear HB; have HB := n1_; clear n1_; have r0 := (hb.cell (World.block_lt_of_cell? _ _ q0)).trans q0; have r1 := (hb.cell (World.block_lt_of_cell? _ _ q1)).trans q1; have r2 := (hb.cell (World.block_lt_of_cell? _ _ q2)).trans q2; have r3 := (hb.cell (World.block_lt_of_cell? _ _ q3)).trans q3; have r4 := (hb.cell (World.block_lt_of_cell? _ _ q4)).trans q4; clear q0 q1 q2 q3 q4; have q0 := r0; have q1 := r1; have q2 := r2; have q3 := r3; have q4 := r4; clear r0 r1 r2 r3 r4; clear hb; cases hv : vtext t)
    | (go_at_call 45; refine (VN.out _ HB.out).mono ?_; rintro e_ w7 ⟨rfl, hb⟩; have n1_ := Aside0.mk (below_step HB.out hb); clear HB; have HB := n1_; clear n1_; clear hb; cases hn : ns.all vtext))
  all_goals go_ret
  all_goals (refine ⟨?_, HB.out⟩; clear VT VN DUP HB hu25; try clear q0 q1 q2 q3 q4; simp only [wfp, lowJ, highJ]; repeat' split)
  all_goals first | rfl | (exfalso; simp_all; done) | (exfalso; simp_all; omega) | (simp_all; done)
theorem wellFormed_says (k n : Int) (t : ByteArray) (An : Option Addr) (ns : List ByteArray) (cn : Nat) (Ae : Option Addr) (l ce : Nat) (w : World)
    (hT : Ts w) (hr : Kd.string.C w An ns.length ns) (ht : t.size ≤ maxLen) (hsz : ∀ x ∈ ns, x.size ≤ maxLen) :
    Calls Tryd.prog 29 #[.agg #[.int .i64 k, .int .i64 n, .string t, .slice An ns.length cn, .slice Ae l ce]] w fun e w' => e = .returned (.bool (wfp k n t ns ns.length l)) ∧ Below w.heap.size w w' := by
  by_cases h1 : k = 1
  · subst h1; exact wf_1 n t An ns cn Ae l ce w hT hr ht hsz
  by_cases h2 : k = 2
  · subst h2; exact wf_2 n t An ns cn Ae l ce w hT hr ht hsz
  by_cases h3 : k = 3
  · subst h3; exact wf_3 n t An ns cn Ae l ce w hT hr ht hsz
  by_cases h4 : k = 4
  · subst h4; exact wf_4 n t An ns cn Ae l ce w hT hr ht hsz
  by_cases h5 : k = 5
  · subst h5; exact wf_5 n t An ns cn Ae l ce w hT hr ht hsz
  exact wf_0 k h1 h2 h3 h4 h5 n t An ns cn Ae l ce w hT hr ht hsz
end Go.Proofs.YtmonbhoeplmieaaDoor.Js
