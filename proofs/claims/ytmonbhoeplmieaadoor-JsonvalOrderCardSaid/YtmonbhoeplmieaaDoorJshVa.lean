/- jsonval.validate, jsonval.Validate. -/
import Derived.Test.YtmonbhoeplmieaaDoorJshWl
import Derived.Test.YtmonbhoeplmieaaDoorJshWf
import Derived.Deep.QuietTactic
import Derived.BigQuiet
import Derived.Deep.LoopGhost
import Derived.Shelf.Abstract
namespace Go.Proofs.YtmonbhoeplmieaaDoor.Js
open Go.RowKit Go.Proofs.YtmonbhoeplmieaaDoorW.PrintWords Go.Proofs.YtmonbhoeplmieaaDoorW.PrintLast Go.Proofs.YtmonbhoeplmieaaDoorW.PrintMore
open Go.Proofs.YtmonbhoeplmieaaDoor
set_option linter.unusedVariables false
set_option linter.unusedSimpArgs false

attribute [local instance 0] Classical.propDecidable
mutual
/-- every text within has a length that Go can hold -/
def szd : S25 → Prop
  | .mk _ _ t ns es => t.size ≤ maxLen ∧ (∀ x ∈ ns, x.size ≤ maxLen) ∧ szds es
def szds : List S25 → Prop
  | [] => True
  | e :: es => szd e ∧ szds es
end
theorem szd_eq (j : S25) : szd j ↔ (j.f2.size ≤ maxLen ∧ (∀ x ∈ j.f3, x.size ≤ maxLen) ∧ szds j.f4) := by cases j; first | (rw [szd]; done) | (rw [szd]; rfl)
theorem szds_mem : ∀ {es : List S25} {x : S25}, szds es → x ∈ es → szd x
  | [], _, _, h => by cases h
  | e :: es, x, hs, h => by
    rw [szds] at hs
    rcases List.mem_cons.1 h with rfl | h
    · exact hs.1
    · exact szds_mem hs.2 h
theorem szds_of : ∀ {es : List S25}, (∀ x ∈ es, szd x) → szds es
  | [], _ => by rw [szds]; trivial
  | e :: es, h => by rw [szds]; exact ⟨h e (by simp), szds_of fun x hx => h x (by simp [hx])⟩
mutual
/-- validate's number of an error -/
def va : S25 → Nat
  | .mk k n t ns es => if k < 0 ∨ 6 ≤ k then 7 else if wfp k n t ns ns.length es.length = false then 3 else vas es
def vas : List S25 → Nat
  | [] => 0
  | e :: es => if va e = 0 then vas es else va e
end
theorem va_eq (j : S25) : va j = if j.f0 < 0 ∨ 6 ≤ j.f0 then 7 else if wf j = false then 3 else vas j.f4 := by cases j; first | (rw [va]; done) | (rw [va]; rfl)
theorem vas_nil : vas [] = 0 := by rw [vas]
theorem vas_cons (e : S25) (es : List S25) : vas (e :: es) = if va e = 0 then vas es else va e := by rw [vas]
def VaSays (n : Nat) : Prop := ∀ (j : S25) (W0 : World) (An : Option Addr) (cn : Nat) (Ae : Option Addr) (ce : Nat) (w : World), SizeOf.sizeOf j < n →
    k25.K W0 j [.int .i64 j.f0, .int .i64 j.f1, .string j.f2, .slice An j.f3.length cn, .slice Ae j.f4.length ce] → szd j → Ts W0 → Below W0.heap.size W0 w →
    Calls Tryd.prog 16 #[.agg #[.int .i64 j.f0, .int .i64 j.f1, .string j.f2, .slice An j.f3.length cn, .slice Ae j.f4.length ce]] w fun e w' => e = .returned (.int .i64 (va j : Int)) ∧ Below W0.heap.size W0 w'
set_option maxHeartbeats 2000000 in
set_option maxRecDepth 100000 in
theorem validate_step (n : Nat) (ih : VaSays n) : VaSays (n + 1) := by
  intro j W0 An cn Ae ce w hsz hK hsd hT hW
  have hu25 := Tryd.underlying25
  have HB := Aside0.mk hW
  obtain ⟨k, hk⟩ : ∃ k, j.f4.length = k := ⟨_, rfl⟩
  have HK := Aside0.mk hK
  have HS := Aside0.mk hsz
  have HE := Aside0.mk hk
  have HSD := Aside0.mk hsd
  have HT := Aside0.mk hT
  have WFS := Aside0.mk (show ∀ w' : World, Below W0.heap.size W0 w' → Calls Tryd.prog 29 #[.agg #[.int .i64 j.f0, .int .i64 j.f1, .string j.f2, .slice An j.f3.length cn, .slice Ae k ce]] w' fun e w'' => e = .returned (.bool (wf j)) ∧ Below w'.heap.size w' w'' from fun w' h => by
    obtain ⟨An', cn', Ae', ce', heq, _, hN, _, _⟩ := k25_open hK
    simp only [List.cons.injEq, Value.slice.injEq, and_true, true_and] at heq
    obtain ⟨⟨rfl, rfl⟩, rfl, rfl⟩ := heq
    have h1 := (szd_eq j).1 hsd
    have h2 := wellFormed_says j.f0 j.f1 j.f2 An j.f3 cn Ae j.f4.length ce w' (hT.below h) (Kd.C_below hN h) h1.1 h1.2.1
    rw [← hk]
    exact h2)
  clear hsz hK hW hsd hT
  rw [hk]
  have n1_ := Aside0.mk (below_step HB.out (below_alloc (Below.refl w.heap.size w) (.cells #[.int .i64 j.f0, .int .i64 j.f1, .string j.f2, .slice An j.f3.length cn, .slice Ae k ce] 25 (0, 0))))
  clear HB
  have HB := n1_
  clear n1_
  have q0 : (w.alloc (.cells #[.int .i64 j.f0, .int .i64 j.f1, .string j.f2, .slice An j.f3.length cn, .slice Ae k ce] 25 (0, 0))).cell? ⟨w.heap.size, 0, none⟩ = some (.int .i64 j.f0) := (blk_cell (blk_new w _) 0).trans rfl
  have q1 : (w.alloc (.cells #[.int .i64 j.f0, .int .i64 j.f1, .string j.f2, .slice An j.f3.length cn, .slice Ae k ce] 25 (0, 0))).cell? ⟨w.heap.size, 1, none⟩ = some (.int .i64 j.f1) := (blk_cell (blk_new w _) 1).trans rfl
  have q2 : (w.alloc (.cells #[.int .i64 j.f0, .int .i64 j.f1, .string j.f2, .slice An j.f3.length cn, .slice Ae k ce] 25 (0, 0))).cell? ⟨w.heap.size, 2, none⟩ = some (.string j.f2) := (blk_cell (blk_new w _) 2).trans rfl
  have q3 : (w.alloc (.cells #[.int .i64 j.f0, .int .i64 j.f1, .string j.f2, .slice An j.f3.length cn, .slice Ae k ce] 25 (0, 0))).cell? ⟨w.heap.size, 3, none⟩ = some (.slice An j.f3.length cn) := (blk_cell (blk_new w _) 3).trans rfl
  have q4 : (w.alloc (.cells #[.int .i64 j.f0, .int .i64 j.f1, .string j.f2, .slice An j.f3.length cn, .slice Ae k ce] 25 (0, 0))).cell? ⟨w.heap.size, 4, none⟩ = some (.slice Ae k ce) := (blk_cell (blk_new w _) 4).trans rfl
  by_cases h1 : j.f0 < 0 ∨ 6 ≤ j.f0
  · have HW := Aside0.mk (show va j = 7 from by rw [va_eq, if_pos h1])
    clear hk WFS
    rcases h1 with h1 | h1
    · have e1 : decide (j.f0 < 0) = true := decide_eq_true h1
      clear h1
      go_enter Tryd.func16, Tryd.ntmps16
      go_wp2_with fail
      go_ret
      rw [HW.out]
      exact ⟨rfl, HB.out⟩
    · have e1 : decide (j.f0 < 0) = false := decide_eq_false (by omega)
      have e2 : decide (j.f0 ≥ 6) = true := decide_eq_true h1
      have e3 : decide (6 ≤ j.f0) = true := decide_eq_true h1
      clear h1
      go_enter Tryd.func16, Tryd.ntmps16
      go_wp2_with fail
      go_ret
      rw [HW.out]
      exact ⟨rfl, HB.out⟩
  · have e1 : decide (j.f0 < 0) = false := decide_eq_false (by omega)
    have e2 : decide (j.f0 ≥ 6) = false := decide_eq_false (by omega)
    have e3 : decide (6 ≤ j.f0) = false := decide_eq_false (by omega)
    cases h2 : wf j with
    | false =>
      have HW := Aside0.mk (show va j = 3 from by rw [va_eq, if_neg h1, if_pos h2])
      have HF := Aside0.mk h2
      clear hk h1 h2
      go_enter Tryd.func16, Tryd.ntmps16
      go_wp2_with (go_at_call 29; refine (WFS.out _ HB.out).mono ?_; rw [HF.out]; rintro e_ w9 ⟨rfl, hb⟩; have n1_ := Aside0.mk (below_step HB.out hb); clear HB; have HB := n1_; clear n1_; have r0 := (hb.cell (World.block_lt_of_cell? _ _ q0)).trans q0; have r1 := (hb.cell (World.block_lt_of_cell? _ _ q1)).trans q1; have r2 := (hb.cell (World.block_lt_of_cell? _ _ q2)).trans q2; have r3 := (hb.cell (World.block_lt_of_cell? _ _ q3)).trans q3; have r4 := (hb.cell (World.block_lt_of_cell? _ _ q4)).trans q4; clear q0 q1 q2 q3 q4; have q0 := r0; have q1 := r1; have q2 := r2; have q3 := r3; have q4 := r4; clear r0 r1 r2 r3 r4; clear hb)
      go_ret
      rw [HW.out]
      exact ⟨rfl, HB.out⟩
    | true =>
      have HW := Aside0.mk (show va j = vas j.f4 from by rw [va_eq, if_neg h1, if_neg (by rw [h2]; decide)])
      have HF := Aside0.mk h2
      clear hk h1 h2
      go_enter Tryd.func16, Tryd.ntmps16
      go_wp2_with (go_at_call 29; refine (WFS.out _ HB.out).mono ?_; rw [HF.out]; rintro e_ w9 ⟨rfl, hb⟩; have n1_ := Aside0.mk (below_step HB.out hb); clear HB; have HB := n1_; clear n1_; have r0 := (hb.cell (World.block_lt_of_cell? _ _ q0)).trans q0; have r1 := (hb.cell (World.block_lt_of_cell? _ _ q1)).trans q1; have r2 := (hb.cell (World.block_lt_of_cell? _ _ q2)).trans q2; have r3 := (hb.cell (World.block_lt_of_cell? _ _ q3)).trans q3; have r4 := (hb.cell (World.block_lt_of_cell? _ _ q4)).trans q4; clear q0 q1 q2 q3 q4; have q0 := r0; have q1 := r1; have q2 := r2; have q3 := r3; have q4 := r4; clear r0 r1 r2 r3 r4; clear hb)
      clear q0 q1 q2 q3 q4 WFS HF e1 e2 e3
      go_loopg [22] k (fun gq s22 wx => ∃ (dn td : List S25), j.f4 = dn ++ td ∧ gq = td.length ∧ s22 = .int .i64 (dn.length : Int) ∧ vas j.f4 = vas td ∧ Below W0.heap.size W0 wx)
      case atStart => exact ⟨[], j.f4, rfl, HE.out.symm, rfl, rfl, HB.out⟩
      case round =>
        obtain ⟨dn, td, hdt, rfl, rfl, hw, hbx⟩ := hrel
        clear HB
        have HB := Aside0.mk hbx
        have HDT := Aside0.mk hdt
        have HWW := Aside0.mk hw
        have hlen : k = dn.length + td.length := by rw [← HE.out, hdt, List.length_append]
        obtain ⟨i, hi⟩ : ∃ i, i = dn.length := ⟨_, rfl⟩
        have HI := Aside0.mk hi
        rw [← hi]
        cases td with
        | nil =>
          have b1 : k ≤ i := by simp at hlen; omega
          have e5 : decide ((i : Int) < (k : Int)) = false := decide_eq_false (by omega)
          clear hbx hdt hw hlen hi
          go_wp2_with fail
          go_ret
          rw [HW.out, HWW.out, vas_nil]
          exact ⟨rfl, HB.out⟩
        | cons e t =>
          have b1 : i < k := by simp at hlen; omega
          have e5 : decide ((i : Int) < (k : Int)) = true := decide_eq_true (by omega)
          obtain ⟨An', cn', Ae', ce', heq, _, _, _, hCe⟩ := k25_open HK.out
          simp only [List.cons.injEq, Value.slice.injEq, and_true, true_and] at heq
          obtain ⟨⟨rfl, rfl⟩, rfl, rfl⟩ := heq
          obtain ⟨ad, x, An2, cn2, Ae2, ce2, ea, hxe, q0, q1, q2, q3, q4, hKx⟩ := at_J hCe i (by rw [HE.out]; exact b1)
          obtain rfl : x = e := by
            rw [hdt, hi, List.getElem?_append_right (Nat.le_refl _), Nat.sub_self] at hxe
            exact (Option.some.inj hxe).symm
          have p0 := (HB.out.cell (World.block_lt_of_cell? _ _ q0)).trans q0
          have p1 := (HB.out.cell (World.block_lt_of_cell? _ _ q1)).trans q1
          have p2 := (HB.out.cell (World.block_lt_of_cell? _ _ q2)).trans q2
          have p3 := (HB.out.cell (World.block_lt_of_cell? _ _ q3)).trans q3
          have p4 := (HB.out.cell (World.block_lt_of_cell? _ _ q4)).trans q4
          have hxm : x ∈ j.f4 := by rw [hdt]; simp
          have hlt : SizeOf.sizeOf x < n := by
            have h_ := elem_lt hxm
            have h2_ := HS.out
            omega
          have HKB := Aside0.mk (show i + 1 ≤ 9223372036854775807 from by have h_ := hCe.2.1; rw [HE.out] at h_; omega)
          obtain ⟨r, hr⟩ : ∃ r, va x = r := ⟨_, rfl⟩
          have HR := Aside0.mk hr
          have IH := Aside0.mk (show ∀ w' : World, Below W0.heap.size W0 w' → Calls Tryd.prog 16 #[.agg #[.int .i64 x.f0, .int .i64 x.f1, .string x.f2, .slice An2 x.f3.length cn2, .slice Ae2 x.f4.length ce2]] w' fun e w'' => e = .returned (.int .i64 (r : Int)) ∧ Below W0.heap.size W0 w'' from fun w' h1 => by
            rw [← hr]
            exact ih x W0 An2 cn2 Ae2 ce2 w' hlt hKx (szds_mem ((szd_eq j).1 HSD.out).2.2 hxm) HT.out h1)
          have hkce : k ≤ ce := by
            obtain ⟨_, _, _, _, heq, _, _, hce, _⟩ := k25_open HK.out
            simp only [List.cons.injEq, Value.slice.injEq, and_true, true_and] at heq
            have h_ := HE.out
            omega
          subst ea
          by_cases hr0 : r = 0
          · subst hr0
            clear hbx hdt hw hlen hi q0 q1 q2 q3 q4 hKx hxe hCe hlt hr hxm
            go_wp2_with (first
              | ((with_reducible refine gate_dst (N := 4) rfl ?_); refine box_event ?hg (N := 4) ?hd (cs := #[.int .i64 0, .int .i64 0, .string ByteArray.empty, .slice none 0 0, .slice none 0 0]) (t := 25) ?hr ?_; (case hd => rfl); (case hg => rfl); (case hr => first | (go_simp; done) | (go_simp; rfl)); intro g4 hg w4 hbox hb; have BK4 := Aside0.mk hbox; have GE4 := Aside0.mk (show W0.heap.size ≤ g4 from by rw [hg]; exact Nat.le_trans HB.out.size (Nat.le_refl _)); have hc4_0 : w4.cell? ⟨g4, 0, none⟩ = some (.int .i64 0) := (blk_cell BK4.out 0).trans rfl; have hf4_0 := blk_frozen BK4.out 0; have hc4_1 : w4.cell? ⟨g4, 1, none⟩ = some (.int .i64 0) := (blk_cell BK4.out 1).trans rfl; have hf4_1 := blk_frozen BK4.out 1; have hc4_2 : w4.cell? ⟨g4, 2, none⟩ = some (.string ByteArray.empty) := (blk_cell BK4.out 2).trans rfl; have hf4_2 := blk_frozen BK4.out 2; have hc4_3 : w4.cell? ⟨g4, 3, none⟩ = some (.slice none 0 0) := (blk_cell BK4.out 3).trans rfl; have hf4_3 := blk_frozen BK4.out 3; have hc4_4 : w4.cell? ⟨g4, 4, none⟩ = some (.slice none 0 0) := (blk_cell BK4.out 4).trans rfl; have hf4_4 := blk_frozen BK4.out 4; have n1_ := Aside0.mk (below_step HB.out hb); clear HB; have HB := n1_; clear n1_; clear hbox hb hg)
              | (go_at_call 16; refine (IH.out _ (below_put (below_put (below_put (below_put (below_put HB.out GE4.out) GE4.out) GE4.out) GE4.out) GE4.out)).mono ?_; rintro e_ w15 ⟨rfl, hb⟩; clear HB; have HB := Aside0.mk hb; clear hb))
            go_roundg t.length
            case measure => exact Nat.lt_succ_self _
            case rel => exact ⟨dn ++ [x], t, by rw [HDT.out]; simp, rfl, congrArg (Value.int .i64) (by have h_ := HKB.out; have h2_ := HI.out; rw [List.length_append]; simp only [List.length_cons, List.length_nil]; unfold wrap64; omega), by rw [HWW.out, vas_cons, if_pos HR.out], HB.out⟩
          · have e6 : decide ((r : Int) = 0) = false := decide_eq_false (by omega)
            have e7 : ¬ ((r : Int) = 0) := by omega
            have HN := Aside0.mk hr0
            clear hbx hdt hw hlen hi q0 q1 q2 q3 q4 hKx hxe hCe hlt hr hxm hr0
            go_wp2_with (first
              | ((with_reducible refine gate_dst (N := 4) rfl ?_); refine box_event ?hg (N := 4) ?hd (cs := #[.int .i64 0, .int .i64 0, .string ByteArray.empty, .slice none 0 0, .slice none 0 0]) (t := 25) ?hr ?_; (case hd => rfl); (case hg => rfl); (case hr => first | (go_simp; done) | (go_simp; rfl)); intro g4 hg w4 hbox hb; have BK4 := Aside0.mk hbox; have GE4 := Aside0.mk (show W0.heap.size ≤ g4 from by rw [hg]; exact Nat.le_trans HB.out.size (Nat.le_refl _)); have hc4_0 : w4.cell? ⟨g4, 0, none⟩ = some (.int .i64 0) := (blk_cell BK4.out 0).trans rfl; have hf4_0 := blk_frozen BK4.out 0; have hc4_1 : w4.cell? ⟨g4, 1, none⟩ = some (.int .i64 0) := (blk_cell BK4.out 1).trans rfl; have hf4_1 := blk_frozen BK4.out 1; have hc4_2 : w4.cell? ⟨g4, 2, none⟩ = some (.string ByteArray.empty) := (blk_cell BK4.out 2).trans rfl; have hf4_2 := blk_frozen BK4.out 2; have hc4_3 : w4.cell? ⟨g4, 3, none⟩ = some (.slice none 0 0) := (blk_cell BK4.out 3).trans rfl; have hf4_3 := blk_frozen BK4.out 3; have hc4_4 : w4.cell? ⟨g4, 4, none⟩ = some (.slice none 0 0) := (blk_cell BK4.out 4).trans rfl; have hf4_4 := blk_frozen BK4.out 4; have n1_ := Aside0.mk (below_step HB.out hb); clear HB; have HB := n1_; clear n1_; clear hbox hb hg)
              | (go_at_call 16; refine (IH.out _ (below_put (below_put (below_put (below_put (below_put HB.out GE4.out) GE4.out) GE4.out) GE4.out) GE4.out)).mono ?_; rintro e_ w15 ⟨rfl, hb⟩; clear HB; have HB := Aside0.mk hb; clear hb))
            go_ret
            rw [HW.out, HWW.out, vas_cons, if_neg (by rw [HR.out]; exact HN.out), HR.out]
            exact ⟨rfl, HB.out⟩
theorem validate_says : ∀ n, VaSays n
  | 0 => fun _ _ _ _ _ _ _ h => absurd h (Nat.not_lt_zero _)
  | n + 1 => validate_step n (validate_says n)
/-- Validate's answer -/
def valid (j : S25) : Nat := if (wl 1 0 j).1 = false then 2 else va j
set_option maxHeartbeats 2000000 in
set_option maxRecDepth 100000 in
theorem Validate_says (j : S25) (W0 : World) (An : Option Addr) (cn : Nat) (Ae : Option Addr) (ce : Nat) (w : World) (hK : k25.K W0 j [.int .i64 j.f0, .int .i64 j.f1, .string j.f2, .slice An j.f3.length cn, .slice Ae j.f4.length ce]) (hsd : szd j) (hT : Ts W0) (hW : Below W0.heap.size W0 w) :
    Calls Tryd.prog 8 #[.agg #[.int .i64 j.f0, .int .i64 j.f1, .string j.f2, .slice An j.f3.length cn, .slice Ae j.f4.length ce]] w fun e w' => e = .returned (.int .i64 (valid j : Int)) ∧ Below W0.heap.size W0 w' := by
  have hu25 := Tryd.underlying25
  have HB := Aside0.mk hW
  obtain ⟨k, hk⟩ : ∃ k, j.f4.length = k := ⟨_, rfl⟩
  have VA := Aside0.mk (fun w' h => validate_says _ j W0 An cn Ae ce w' (Nat.lt_succ_self _) hK hsd hT h)
  have LM := Aside0.mk (show ∀ (gc : Nat) (w' : World), Below W0.heap.size W0 w' → W0.heap.size ≤ gc → w'.heap[gc]? = some (.cells #[.int .i64 0] 3 (0, 0)) → Calls Tryd.prog 15 #[.agg #[.int .i64 j.f0, .int .i64 j.f1, .string j.f2, .slice An j.f3.length cn, .slice Ae j.f4.length ce], .int .i64 1, .pointer (some ⟨gc, 0, none⟩)] w' fun e w'' => e = .returned (.bool (wl 1 0 j).1) ∧ w''.heap[gc]? = some (.cells #[.int .i64 ((wl 1 0 j).2 : Int)] 3 (0, 0)) ∧ Below W0.heap.size W0 w'' ∧ Kp gc w' w'' from fun gc w' h1 h2 h3 => withinLimits_says _ j W0 An cn Ae ce 1 0 gc w' (Nat.lt_succ_self _) hK h1 h2 h3 (by decide) (by decide))
  rw [hk] at VA LM ⊢
  clear hsd hT hW hk hK
  have n1_ := Aside0.mk (below_step HB.out (below_alloc (Below.refl w.heap.size w) (.cells #[.int .i64 j.f0, .int .i64 j.f1, .string j.f2, .slice An j.f3.length cn, .slice Ae k ce] 25 (0, 0))))
  clear HB
  have HB := n1_
  clear n1_
  have q0 : (w.alloc (.cells #[.int .i64 j.f0, .int .i64 j.f1, .string j.f2, .slice An j.f3.length cn, .slice Ae k ce] 25 (0, 0))).cell? ⟨w.heap.size, 0, none⟩ = some (.int .i64 j.f0) := (blk_cell (blk_new w _) 0).trans rfl
  have q1 : (w.alloc (.cells #[.int .i64 j.f0, .int .i64 j.f1, .string j.f2, .slice An j.f3.length cn, .slice Ae k ce] 25 (0, 0))).cell? ⟨w.heap.size, 1, none⟩ = some (.int .i64 j.f1) := (blk_cell (blk_new w _) 1).trans rfl
  have q2 : (w.alloc (.cells #[.int .i64 j.f0, .int .i64 j.f1, .string j.f2, .slice An j.f3.length cn, .slice Ae k ce] 25 (0, 0))).cell? ⟨w.heap.size, 2, none⟩ = some (.string j.f2) := (blk_cell (blk_new w _) 2).trans rfl
  have q3 : (w.alloc (.cells #[.int .i64 j.f0, .int .i64 j.f1, .string j.f2, .slice An j.f3.length cn, .slice Ae k ce] 25 (0, 0))).cell? ⟨w.heap.size, 3, none⟩ = some (.slice An j.f3.length cn) := (blk_cell (blk_new w _) 3).trans rfl
  have q4 : (w.alloc (.cells #[.int .i64 j.f0, .int .i64 j.f1, .string j.f2, .slice An j.f3.length cn, .slice Ae k ce] 25 (0, 0))).cell? ⟨w.heap.size, 4, none⟩ = some (.slice Ae k ce) := (blk_cell (blk_new w _) 4).trans rfl
  cases hwl : (wl 1 0 j).1 with
  | false =>
    have HV := Aside0.mk (show valid j = 2 from by unfold valid; rw [if_pos hwl])
    rw [hwl] at LM
    clear hwl
    go_enter Tryd.func8, Tryd.ntmps8
    go_wp2_with (first
      | ((with_reducible refine gate_dst (N := 3) rfl ?_); refine box_event ?hg (N := 3) ?hd (cs := #[.int .i64 0]) (t := 3) ?hr ?_; (case hd => rfl); (case hg => rfl); (case hr => first | (go_simp; done) | (go_simp; rfl)); intro g3 hg w3 hbox hb; have BK3 := Aside0.mk hbox; have GE3 := Aside0.mk (show W0.heap.size ≤ g3 from by rw [hg]; exact Nat.le_trans HB.out.size (Nat.le_refl _)); have NE3 := Aside0.mk (show w.heap.size ≠ g3 from by rw [hg]; exact Nat.ne_of_lt (World.block_lt_of_cell? _ _ q0)); have q0_ := (hb.cell (World.block_lt_of_cell? _ _ q0)).trans q0; have q1_ := (hb.cell (World.block_lt_of_cell? _ _ q1)).trans q1; have q2_ := (hb.cell (World.block_lt_of_cell? _ _ q2)).trans q2; have q3_ := (hb.cell (World.block_lt_of_cell? _ _ q3)).trans q3; have q4_ := (hb.cell (World.block_lt_of_cell? _ _ q4)).trans q4; clear q0 q1 q2 q3 q4; have q0 := q0_; have q1 := q1_; have q2 := q2_; have q3 := q3_; have q4 := q4_; clear q0_ q1_ q2_ q3_ q4_; have c3 : w3.cell? ⟨g3, 0, none⟩ = some (.int .i64 0) := (blk_cell BK3.out 0).trans rfl; have f3 := blk_frozen BK3.out 0; have s0 := (World.cell?_of_block (a := ⟨w.heap.size, 0, none⟩) (Below.heap_setCell w3 ⟨g3, 0, none⟩ (Value.int .i64 0) w.heap.size NE3.out)).trans q0; have s1 := (World.cell?_of_block (a := ⟨w.heap.size, 1, none⟩) (Below.heap_setCell w3 ⟨g3, 0, none⟩ (Value.int .i64 0) w.heap.size NE3.out)).trans q1; have s2 := (World.cell?_of_block (a := ⟨w.heap.size, 2, none⟩) (Below.heap_setCell w3 ⟨g3, 0, none⟩ (Value.int .i64 0) w.heap.size NE3.out)).trans q2; have s3 := (World.cell?_of_block (a := ⟨w.heap.size, 3, none⟩) (Below.heap_setCell w3 ⟨g3, 0, none⟩ (Value.int .i64 0) w.heap.size NE3.out)).trans q3; have s4 := (World.cell?_of_block (a := ⟨w.heap.size, 4, none⟩) (Below.heap_setCell w3 ⟨g3, 0, none⟩ (Value.int .i64 0) w.heap.size NE3.out)).trans q4; clear q0 q1 q2 q3 q4; have n1_ := Aside0.mk (below_step HB.out hb); clear HB; have HB := n1_; clear n1_; clear hbox hb hg)
      | (go_at_call 15; refine (LM.out g3 _ (below_put HB.out GE3.out) GE3.out (blk_put BK3.out 0 _ rfl)).mono ?_; rintro e_ w7 ⟨rfl, _, hb, hp⟩; clear HB; have HB := Aside0.mk hb; have u0 := (World.cell?_of_block (a := ⟨w.heap.size, 0, none⟩) (hp.2 w.heap.size (World.block_lt_of_cell? _ _ s0) NE3.out)).trans s0; have u1 := (World.cell?_of_block (a := ⟨w.heap.size, 1, none⟩) (hp.2 w.heap.size (World.block_lt_of_cell? _ _ s1) NE3.out)).trans s1; have u2 := (World.cell?_of_block (a := ⟨w.heap.size, 2, none⟩) (hp.2 w.heap.size (World.block_lt_of_cell? _ _ s2) NE3.out)).trans s2; have u3 := (World.cell?_of_block (a := ⟨w.heap.size, 3, none⟩) (hp.2 w.heap.size (World.block_lt_of_cell? _ _ s3) NE3.out)).trans s3; have u4 := (World.cell?_of_block (a := ⟨w.heap.size, 4, none⟩) (hp.2 w.heap.size (World.block_lt_of_cell? _ _ s4) NE3.out)).trans s4; clear s0 s1 s2 s3 s4 NE3; clear hb hp))
    go_ret
    rw [HV.out]
    exact ⟨rfl, HB.out⟩
  | true =>
    have HV := Aside0.mk (show valid j = va j from by unfold valid; rw [if_neg (by rw [hwl]; decide)])
    rw [hwl] at LM
    clear hwl
    go_enter Tryd.func8, Tryd.ntmps8
    go_wp2_with (first
      | ((with_reducible refine gate_dst (N := 3) rfl ?_); refine box_event ?hg (N := 3) ?hd (cs := #[.int .i64 0]) (t := 3) ?hr ?_; (case hd => rfl); (case hg => rfl); (case hr => first | (go_simp; done) | (go_simp; rfl)); intro g3 hg w3 hbox hb; have BK3 := Aside0.mk hbox; have GE3 := Aside0.mk (show W0.heap.size ≤ g3 from by rw [hg]; exact Nat.le_trans HB.out.size (Nat.le_refl _)); have NE3 := Aside0.mk (show w.heap.size ≠ g3 from by rw [hg]; exact Nat.ne_of_lt (World.block_lt_of_cell? _ _ q0)); have q0_ := (hb.cell (World.block_lt_of_cell? _ _ q0)).trans q0; have q1_ := (hb.cell (World.block_lt_of_cell? _ _ q1)).trans q1; have q2_ := (hb.cell (World.block_lt_of_cell? _ _ q2)).trans q2; have q3_ := (hb.cell (World.block_lt_of_cell? _ _ q3)).trans q3; have q4_ := (hb.cell (World.block_lt_of_cell? _ _ q4)).trans q4; clear q0 q1 q2 q3 q4; have q0 := q0_; have q1 := q1_; have q2 := q2_; have q3 := q3_; have q4 := q4_; clear q0_ q1_ q2_ q3_ q4_; have c3 : w3.cell? ⟨g3, 0, none⟩ = some (.int .i64 0) := (blk_cell BK3.out 0).trans rfl; have f3 := blk_frozen BK3.out 0; have s0 := (World.cell?_of_block (a := ⟨w.heap.size, 0, none⟩) (Below.heap_setCell w3 ⟨g3, 0, none⟩ (Value.int .i64 0) w.heap.size NE3.out)).trans q0; have s1 := (World.cell?_of_block (a := ⟨w.heap.size, 1, none⟩) (Below.heap_setCell w3 ⟨g3, 0, none⟩ (Value.int .i64 0) w.heap.size NE3.out)).trans q1; have s2 := (World.cell?_of_block (a := ⟨w.heap.size, 2, none⟩) (Below.heap_setCell w3 ⟨g3, 0, none⟩ (Value.int .i64 0) w.heap.size NE3.out)).trans q2; have s3 := (World.cell?_of_block (a := ⟨w.heap.size, 3, none⟩) (Below.heap_setCell w3 ⟨g3, 0, none⟩ (Value.int .i64 0) w.heap.size NE3.out)).trans q3; have s4 := (World.cell?_of_block (a := ⟨w.heap.size, 4, none⟩) (Below.heap_setCell w3 ⟨g3, 0, none⟩ (Value.int .i64 0) w.heap.size NE3.out)).trans q4; clear q0 q1 q2 q3 q4; have n1_ := Aside0.mk (below_step HB.out hb); clear HB; have HB := n1_; clear n1_; clear hbox hb hg)
      | (go_at_call 15; refine (LM.out g3 _ (below_put HB.out GE3.out) GE3.out (blk_put BK3.out 0 _ rfl)).mono ?_; rintro e_ w7 ⟨rfl, _, hb, hp⟩; clear HB; have HB := Aside0.mk hb; have u0 := (World.cell?_of_block (a := ⟨w.heap.size, 0, none⟩) (hp.2 w.heap.size (World.block_lt_of_cell? _ _ s0) NE3.out)).trans s0; have u1 := (World.cell?_of_block (a := ⟨w.heap.size, 1, none⟩) (hp.2 w.heap.size (World.block_lt_of_cell? _ _ s1) NE3.out)).trans s1; have u2 := (World.cell?_of_block (a := ⟨w.heap.size, 2, none⟩) (hp.2 w.heap.size (World.block_lt_of_cell? _ _ s2) NE3.out)).trans s2; have u3 := (World.cell?_of_block (a := ⟨w.heap.size, 3, none⟩) (hp.2 w.heap.size (World.block_lt_of_cell? _ _ s3) NE3.out)).trans s3; have u4 := (World.cell?_of_block (a := ⟨w.heap.size, 4, none⟩) (hp.2 w.heap.size (World.block_lt_of_cell? _ _ s4) NE3.out)).trans s4; clear s0 s1 s2 s3 s4 NE3; clear hb hp)
      | (go_at_call 16; refine (VA.out _ HB.out).mono ?_; rintro e_ w8 ⟨rfl, hb⟩; clear HB; have HB := Aside0.mk hb; clear hb))
    go_ret
    rw [HV.out]
    exact ⟨rfl, HB.out⟩
end Go.Proofs.YtmonbhoeplmieaaDoor.Js
