/- docsync.Room: Join, find, forClient, opened. Condition: the client is new, or has joined, or has opened the document; the document's name is asked. -/
import Derived.Test.YtficalhfbopjbaaDsx0
import Derived.Test.YtficalhfbopjbaaDshRm
import Derived.Deep.QuietTactic
import Derived.RangeFuncNested
import Derived.RangeFuncBound
import Derived.RangeFuncCalls
import Derived.RangeFuncLeaves
import Derived.RangeFuncBox
import Derived.Shelf.Abstract
import Derived.Shelf.RegionOpen
import Derived.WalkKit
import Derived.BigQuiet
namespace Go.Proofs.Ytficalhfbopjbaa.Ds
open Go.RowKit Go.Shelf Go.Proofs.YtficalhfbopjbaaW.PrintWords Go.Proofs.YtficalhfbopjbaaW.PrintLast Go.Proofs.YtficalhfbopjbaaW.PrintMore
open Go.Proofs.Ytficalhfbopjbaa
set_option linter.unusedVariables false
set_option linter.unusedSimpArgs false
attribute [local go_sem] Oper.semAt_some
theorem w64_ {n : Int} (h : -9223372036854775808 ≤ n) (h' : n ≤ 9223372036854775807) : wrap64 n = n := by unfold wrap64; omega
/-- blocks of other types than a room's are as they were -/
def KeepT (w w' : World) : Prop := ∀ (k : Nat) (cs : Array Value) (t : TypeId), t ≠ 61 → t ≠ 64 → t ≠ 3 → t ≠ 42 → t ≠ 56 → w.heap[k]? = some (.cells cs t (0, 0)) → w'.heap[k]? = some (.cells cs t (0, 0))
theorem KeepT.refl (w : World) : KeepT w w := fun _ _ _ _ _ _ _ _ h => h
theorem KeepT.trans {a b c : World} (h : KeepT a b) (k : KeepT b c) : KeepT a c := fun i cs t h1 h2 h3 h4 h5 hb => k i cs t h1 h2 h3 h4 h5 (h i cs t h1 h2 h3 h4 h5 hb)
theorem KeepT.below {w w' : World} (h : Below w.heap.size w w') : KeepT w w' := fun i cs t _ _ _ _ _ hb => blk_below hb h
theorem KeepT.grown {w w' : World} {v : Value} {e : TypeId} (hg : w.grownBy w' v.ownBlock) (hty : ∀ k, v.ownBlock = some k → ∃ cells, w.heap[k]? = some (.cells cells e (0, 0))) (he : e = 61 ∨ e = 64 ∨ e = 3 ∨ e = 42 ∨ e = 56) : KeepT w w' := fun i cs t h1 h2 h3 h4 h5 hb => by
  refine blk_grown hb hg (fun e_ => ?_)
  obtain ⟨cells, hc⟩ := hty i e_.symm
  rw [hc] at hb
  injection hb with hb
  injection hb with _ hb
  subst hb
  rcases he with h | h | h | h | h <;> contradiction
theorem KeepT.set {w : World} {g : Nat} {cs0 : Array Value} {e : TypeId} (hb : w.heap[g]? = some (.cells cs0 e (0, 0))) (he : e = 61 ∨ e = 64 ∨ e = 3 ∨ e = 42 ∨ e = 56) (j : Nat) (u : Value) : KeepT w (w.setCell ⟨g, j, none⟩ u) := fun i cs t h1 h2 h3 h4 h5 h => by
  refine (Below.heap_setCell w ⟨g, j, none⟩ u i (fun e_ => ?_)).trans h
  have e2 : i = g := e_
  subst e2
  rw [hb] at h
  injection h with h
  injection h with _ h
  subst h
  rcases he with h | h | h | h | h <;> contradiction
theorem R_keepT {α : Type} {d : Kd α} {e : TypeId} {w w' : World} {base : Nat} {ok : Nat → Prop} {v : Value} {xs : List α} (h : Kd.R d e w base ok v xs) (hq : ∀ q, q ∈ e :: d.E → q ≠ 61 ∧ q ≠ 64 ∧ q ≠ 3 ∧ q ≠ 42 ∧ q ≠ 56) (hk : KeepT w w') : Kd.R d e w' base ok v xs :=
  Kd.R_mono (Kd.R_move (Kd.R_bound h) (fun k ⟨_, _, _, q, hq', cells, hc⟩ => by
    obtain ⟨h1, h2, h3, h4, h5⟩ := hq q hq'
    rw [hk k cells q h1 h2 h3 h4 h5 hc, hc])) (fun _ hk => hk.1)
theorem idx_loop (l : List Int) (a : Int) (hl : l.length ≤ 1000) : ∀ (d i k : Nat), i + d = l.length → d < k → ∃ v, slices_Index_int_int.l0 k l a (l.length : Int) (i : Int) = some v ∧ (v ≥ 0 ↔ a ∈ l.drop i) := by
  intro d
  induction d with
  | zero =>
    intro i k hi hk
    obtain ⟨k, rfl⟩ : ∃ m, k = m + 1 := ⟨k - 1, by omega⟩
    simp only [slices_Index_int_int.l0]
    rw [if_neg (by omega), List.drop_eq_nil_of_le (by omega)]
    exact ⟨_, rfl, by simp⟩
  | succ d ih =>
    intro i k hi hk
    obtain ⟨k, rfl⟩ : ∃ m, k = m + 1 := ⟨k - 1, by omega⟩
    have hi' : i < l.length := by omega
    have hw : wrap64 ((i : Int) + 1) = ((i + 1 : Nat) : Int) := by rw [w64_ (by omega) (by omega)]; omega
    obtain ⟨v, h1, h2⟩ := ih (i + 1) k (by omega) (by omega)
    simp only [slices_Index_int_int.l0]
    have hr : rd l (i : Int) = l[i] := by simp [rd, hi']
    rw [if_pos (by omega), if_pos (Int.natCast_nonneg _), if_pos (by omega), hr, hw, List.drop_eq_getElem_cons hi']
    by_cases h : a = l[i]
    · rw [if_pos h]
      exact ⟨_, rfl, ⟨fun _ => by rw [h]; exact List.mem_cons_self, fun _ => Int.natCast_nonneg _⟩⟩
    · rw [if_neg h]
      exact ⟨v, h1, by rw [h2, List.mem_cons]; simp [h]⟩
theorem cont_is (l : List Int) (a : Int) (hl : l.length ≤ 1000) : slices_Contains_int_int.f 1001 l a = some (decide (a ∈ l)) := by
  unfold slices_Contains_int_int.f slices_Index_int_int.f
  obtain ⟨v, h1, h2⟩ := idx_loop l a hl l.length 0 1001 (by omega) (by omega)
  rw [show ((0 : Nat) : Int) = 0 from rfl] at h1
  rw [h1, Option.bind_some]
  congr 1
  rw [List.drop_zero] at h2
  exact decide_eq_decide.2 h2
section
variable {base gr gD gd cD : Nat} {vC vH vR : Value} {nm : ByteArray} {v : Int} {t : ByteArray} {hist : List (List S56)} {rd cl : List Int} {W : World}
theorem Rm.c0 (h : Rm base gr gD gd cD vC vH vR nm v t hist rd cl W) : W.cell? ⟨gr, 0, none⟩ = some (.slice (some ⟨gD, 0, none⟩) 1 cD) := (blk_cell h.rbox 0).trans rfl
theorem Rm.c1 (h : Rm base gr gD gd cD vC vH vR nm v t hist rd cl W) : W.cell? ⟨gr, 1, none⟩ = some vC := (blk_cell h.rbox 1).trans rfl
theorem Rm.cd (h : Rm base gr gD gd cD vC vH vR nm v t hist rd cl W) : W.cell? ⟨gD, 0, none⟩ = some (.pointer (some ⟨gd, 0, none⟩)) := by
  obtain ⟨cs, h1, h2⟩ := h.dcell
  exact (blk_cell h1 0).trans h2
theorem Rm.d0 (h : Rm base gr gD gd cD vC vH vR nm v t hist rd cl W) : W.cell? ⟨gd, 0, none⟩ = some (.string nm) := (blk_cell h.dbox 0).trans rfl
theorem Rm.d1 (h : Rm base gr gD gd cD vC vH vR nm v t hist rd cl W) : W.cell? ⟨gd, 1, none⟩ = some (.int .i64 v) := (blk_cell h.dbox 1).trans rfl
theorem Rm.d2 (h : Rm base gr gD gd cD vC vH vR nm v t hist rd cl W) : W.cell? ⟨gd, 2, none⟩ = some (.string t) := (blk_cell h.dbox 2).trans rfl
theorem Rm.d3 (h : Rm base gr gD gd cD vC vH vR nm v t hist rd cl W) : W.cell? ⟨gd, 3, none⟩ = some vH := (blk_cell h.dbox 3).trans rfl
theorem Rm.d4 (h : Rm base gr gD gd cD vC vH vR nm v t hist rd cl W) : W.cell? ⟨gd, 4, none⟩ = some vR := (blk_cell h.dbox 4).trans rfl
end
set_option maxHeartbeats 4000000 in
set_option maxRecDepth 100000 in
theorem pred37 (nm : ByteArray) (gd g : Nat) (w : World) (h0 : w.cell? ⟨gd, 0, none⟩ = some (.string nm)) (h1 : w.cell? ⟨g, 0, none⟩ = some (.string nm)) :
    Calls Try.prog 37 #[.pointer (some ⟨gd, 0, none⟩), .pointer (some ⟨g, 0, none⟩)] w fun e w' => e = .returned (.bool true) ∧ Below w.heap.size w w' := by
  have hu64 := Try.underlying64
  have hu30 := Try.underlying30
  go_enter Try.func37, Try.ntmps37
  go_wp2
  go_quiet (fail)
  go_wp2
  go_ret
  exact ⟨by first | rfl | simp, by first | exact Below.refl _ _ | exact pw_below_drewN (Below.refl _ _) _ | exact below_drew1 (Below.refl _ _)⟩
set_option maxHeartbeats 4000000 in
set_option maxRecDepth 100000 in
theorem index36 (nm : ByteArray) (gD gd g cD : Nat) (w : World) (hd : w.cell? ⟨gD, 0, none⟩ = some (.pointer (some ⟨gd, 0, none⟩))) (h0 : w.cell? ⟨gd, 0, none⟩ = some (.string nm)) (h1 : w.cell? ⟨g, 0, none⟩ = some (.string nm)) :
    Calls Try.prog 36 #[.slice (some ⟨gD, 0, none⟩) 1 cD, .func (.func 37) #[] #[.pointer (some ⟨g, 0, none⟩)]] w fun e w' => e = .returned (.int .i64 0) ∧ Below w.heap.size w w' := by
  have hu58 := Try.underlying58
  have HD := Aside0.mk hd
  have H0 := Aside0.mk h0
  have H1 := Aside0.mk h1
  have HB := Aside0.mk (Below.refl w.heap.size w)
  clear hd h0 h1
  go_enter Try.func36, Try.ntmps36
  go_wp2
  go_loopg [8] 1 (fun kq v8 w' => v8 = .int .i64 0 ∧ Aside0 (Below w.heap.size w w'))
  case atStart => exact ⟨rfl, HB⟩
  case round =>
    clear HB
    obtain ⟨rfl, HB⟩ := hrel
    have hc := (HB.out.cell (World.block_lt_of_cell? w _ HD.out)).trans HD.out
    have H0' := Aside0.mk ((HB.out.cell (World.block_lt_of_cell? w _ H0.out)).trans H0.out)
    have H1' := Aside0.mk ((HB.out.cell (World.block_lt_of_cell? w _ H1.out)).trans H1.out)
    go_wp2_with (go_at_call 37; refine (pred37 nm gd g _ H0'.out H1'.out).mono ?_; rintro e_ w7 ⟨rfl, hb⟩; have n1_ := Aside0.mk (below_step HB.out hb); clear HB hb; have HB := n1_; clear n1_)
    go_ret
    exact ⟨rfl, HB.out⟩
section
variable {base gr gD gd cD : Nat} {vC vH vR : Value} {nm : ByteArray} {v : Int} {t : ByteArray} {hist : List (List S56)} {rd cl : List Int} {W : World}
set_option maxHeartbeats 4000000 in
set_option maxRecDepth 100000 in
theorem find25 (hR : Rm base gr gD gd cD vC vH vR nm v t hist rd cl W) :
    Calls Try.prog 25 #[.pointer (some ⟨gr, 0, none⟩), .string nm] W fun e w' => e = .returned (.pointer (some ⟨gd, 0, none⟩)) ∧ Below W.heap.size W w' := by
  have hu61 := Try.underlying61
  have hu58 := Try.underlying58
  have HR := Aside0.mk hR
  have HB := Aside0.mk (below_alloc (Below.refl W.heap.size W) (.cells #[.string nm] 9 (0, 0)))
  have hbx : (W.alloc (.cells #[.string nm] 9 (0, 0))).cell? ⟨W.heap.size, 0, none⟩ = some (.string nm) := (blk_cell (blk_new W _) 0).trans rfl
  have HX := Aside0.mk hbx
  have hcA := (hR.below HB.out).c0
  clear hR hbx
  go_enter Try.func25, Try.ntmps25
  go_wp2_with (go_at_call 36; refine (index36 nm gD gd W.heap.size cD _ (HR.out.below HB.out).cd (HR.out.below HB.out).d0 HX.out).mono ?_; rintro e_ w1 ⟨rfl, hb⟩; have n1_ := Aside0.mk (below_step HB.out hb); clear HB hb hcA HX; have HB := n1_; clear n1_; have q0 := (HR.out.below HB.out).c0; have q1 := (HR.out.below HB.out).cd)
  go_ret
  exact ⟨rfl, HB.out⟩
set_option maxHeartbeats 4000000 in
set_option maxRecDepth 100000 in
theorem forClient19 (client : Int) (hcl : client ∈ cl) (hl : cl.length ≤ 1000) (hR : Rm base gr gD gd cD vC vH vR nm v t hist rd cl W) :
    Calls Try.prog 19 #[.pointer (some ⟨gr, 0, none⟩), .int .i64 client, .string nm] W fun e w' => e = .returned (.tuple #[.pointer (some ⟨gd, 0, none⟩), .int .i64 0]) ∧ Below W.heap.size W w' := by
  have hu61 := Try.underlying61
  have hu62 := Try.underlying62
  obtain ⟨Ac, cc, rfl⟩ := Kd.R_slice hR.cls
  have HR := Aside0.mk hR
  have HF := Aside0.mk (show slices_Contains_int_int.f 1001 cl client = some true from by rw [cont_is cl client hl, decide_eq_true hcl])
  have HB := Aside0.mk (Below.refl W.heap.size W)
  clear hR hcl hl
  go_enter Try.func19, Try.ntmps19
  go_wp2_with (first | (go_at_call 25; refine (find25 (HR.out.below HB.out)).mono ?_; rintro e_ w1 ⟨rfl, hb⟩; have n1_ := Aside0.mk (below_step HB.out hb); clear HB hb; have HB := n1_; clear n1_; have q0 := (HR.out.below HB.out).c1) | (go_at_call 18; refine (slices_Contains_int_int.calls 1001 _ _ cl client true _ (Kd.R_reads' (HR.out.below HB.out).cls).2.2 (Kd.R_reads' (HR.out.below HB.out).cls).2.1 HF.out).mono ?_; rintro e_ w2 ⟨rfl, hd_⟩; have n1_ := Aside0.mk (below_step HB.out hd_.below); clear HB hd_ q0; have HB := n1_; clear n1_))
  go_ret2
  exact ⟨rfl, HB.out⟩
set_option maxHeartbeats 4000000 in
set_option maxRecDepth 100000 in
theorem opened22 (client : Int) (hcl : client ∈ cl) (hl : cl.length ≤ 1000) (hrd : client ∈ rd) (hl2 : rd.length ≤ 1000) (hR : Rm base gr gD gd cD vC vH vR nm v t hist rd cl W) :
    Calls Try.prog 22 #[.pointer (some ⟨gr, 0, none⟩), .int .i64 client, .string nm] W fun e w' => e = .returned (.tuple #[.pointer (some ⟨gd, 0, none⟩), .int .i64 0]) ∧ Below W.heap.size W w' := by
  have hu64 := Try.underlying64
  obtain ⟨Ar, cr, rfl⟩ := Kd.R_slice hR.rds
  have HR := Aside0.mk hR
  have HF := Aside0.mk (show slices_Contains_int_int.f 1001 rd client = some true from by rw [cont_is rd client hl2, decide_eq_true hrd])
  have HC := Aside0.mk (And.intro hcl hl)
  have HB := Aside0.mk (Below.refl W.heap.size W)
  clear hR hcl hl hrd hl2
  go_enter Try.func22, Try.ntmps22
  go_wp2_with (first | (go_at_call 19; refine (forClient19 client HC.out.1 HC.out.2 (HR.out.below HB.out)).mono ?_; rintro e_ w1 ⟨rfl, hb⟩; have n1_ := Aside0.mk (below_step HB.out hb); clear HB hb; have HB := n1_; clear n1_; have q0 := (HR.out.below HB.out).d4) | (go_at_call 18; refine (slices_Contains_int_int.calls 1001 _ _ rd client true _ (Kd.R_reads' (HR.out.below HB.out).rds).2.2 (Kd.R_reads' (HR.out.below HB.out).rds).2.1 HF.out).mono ?_; rintro e_ w2 ⟨rfl, hd_⟩; have n1_ := Aside0.mk (below_step HB.out hd_.below); clear HB hd_ q0; have HB := n1_; clear n1_))
  go_ret2
  exact ⟨rfl, HB.out⟩
end
end Go.Proofs.Ytficalhfbopjbaa.Ds
