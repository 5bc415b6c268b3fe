/- docsync: Room.Document, NewReplica, Replica.Apply. Condition: the document's name is asked; the update is the next one. -/
import Derived.Test.YtficalhfbopjbaaDsx0
import Derived.Test.YtficalhfbopjbaaDshOp
import Derived.Deep.QuietTactic
import Derived.RangeFuncNested
import Derived.RangeFuncBound
import Derived.RangeFuncCalls
import Derived.RangeFuncLeaves
import Derived.RangeFuncBox
import Derived.Shelf.Abstract
import Derived.Shelf.RegionOpen
import Derived.WalkKit
import Derived.BigQuiet
namespace Go.Proofs.Ytficalhfbopjbaa.Ds
open Go.RowKit Go.Shelf Go.Proofs.YtficalhfbopjbaaW.PrintWords Go.Proofs.YtficalhfbopjbaaW.PrintLast Go.Proofs.YtficalhfbopjbaaW.PrintMore
open Go.Proofs.Ytficalhfbopjbaa
set_option linter.unusedVariables false
set_option linter.unusedSimpArgs false
attribute [local go_sem] Oper.semAt_some
section
variable {base gr gD gd cD : Nat} {vC vH vR : Value} {nm : ByteArray} {v : Int} {t : ByteArray} {hist : List (List S56)} {rd cl : List Int} {W : World}
set_option maxHeartbeats 8000000 in
set_option maxRecDepth 100000 in
theorem document15 (hR : Rm base gr gD gd cD vC vH vR nm v t hist rd cl W) :
    Calls Try.prog 15 #[.pointer (some ⟨gr, 0, none⟩), .string nm] W fun e w' => e = .returned (.tuple #[.agg #[.string nm, .int .i64 v, .string t], .int .i64 0]) ∧ Below W.heap.size W w' := by
  have hu64 := Try.underlying64
  have hu30 := Try.underlying30
  have HR := Aside0.mk hR
  have HB := Aside0.mk (Below.refl W.heap.size W)
  clear hR
  go_enter Try.func15, Try.ntmps15
  go_wp2_with (first
    | ((with_reducible refine gate_dst (N := 4) rfl ?_); refine box_event ?hg (N := 4) ?hd (cs := #[.string ByteArray.empty, .int .i64 0, .string ByteArray.empty]) (t := 30) ?hr ?_; (case hd => rfl); (case hg => rfl); (case hr => first | (go_simp; done) | (go_simp; rfl)); intro g4 hg w4 hbox hb; have BK4 := Aside0.mk hbox; have GE4 := Aside0.mk (show W.heap.size ≤ g4 from by rw [hg]; exact HB.out.size); have n1_ := Aside0.mk (below_step HB.out hb); clear HB; have HB := n1_; clear n1_; clear hbox hb hg)
    | (go_at_call 25; refine (find25 (HR.out.below HB.out)).mono ?_; rintro e_ w1 ⟨rfl, hb⟩; have n1_ := Aside0.mk (below_step HB.out hb); have n2_ := Aside0.mk (blk_below BK4.out hb); clear HB hb BK4; have HB := n1_; have BK4 := n2_; clear n1_ n2_; have q0 := (HR.out.below HB.out).d0; have q1 := (HR.out.below HB.out).d1; have q2 := (HR.out.below HB.out).d2; have hc4_0 := (blk_cell BK4.out 0).trans rfl; have hf4_0 := blk_frozen BK4.out 0; have hc4_1 := (blk_cell BK4.out 1).trans rfl; have hf4_1 := blk_frozen BK4.out 1; have hc4_2 := (blk_cell BK4.out 2).trans rfl; have hf4_2 := blk_frozen BK4.out 2))
  clear hc4_0 hf4_0 hc4_1 hf4_1 hc4_2 hf4_2 q0 q1 q2
  have m0_ : (w1.setCell ⟨g4, 0, none⟩ (.string nm)).heap[g4]? = some (.cells #[.string nm, .int .i64 0, .string ByteArray.empty] 30 (0, 0)) := blk_put BK4.out 0 _ rfl
  have m1_ : ((w1.setCell ⟨g4, 0, none⟩ (.string nm)).setCell ⟨g4, 1, none⟩ (.int .i64 v)).heap[g4]? = some (.cells #[.string nm, .int .i64 v, .string ByteArray.empty] 30 (0, 0)) := blk_put m0_ 1 _ rfl
  have m2_ : (((w1.setCell ⟨g4, 0, none⟩ (.string nm)).setCell ⟨g4, 1, none⟩ (.int .i64 v)).setCell ⟨g4, 2, none⟩ (.string t)).heap[g4]? = some (.cells #[.string nm, .int .i64 v, .string t] 30 (0, 0)) := blk_put m1_ 2 _ rfl
  have HB2 : Below W.heap.size W (((w1.setCell ⟨g4, 0, none⟩ (.string nm)).setCell ⟨g4, 1, none⟩ (.int .i64 v)).setCell ⟨g4, 2, none⟩ (.string t)) := below_set (below_set (below_set HB.out GE4.out) GE4.out) GE4.out
  generalize (((w1.setCell ⟨g4, 0, none⟩ (.string nm)).setCell ⟨g4, 1, none⟩ (.int .i64 v)).setCell ⟨g4, 2, none⟩ (.string t)) = wE at m2_ HB2 ⊢
  have e0 : wE.cell? ⟨g4, 0, none⟩ = some (.string nm) := (blk_cell m2_ 0).trans rfl
  have e1 : wE.cell? ⟨g4, 1, none⟩ = some (.int .i64 v) := (blk_cell m2_ 1).trans rfl
  have e2 : wE.cell? ⟨g4, 2, none⟩ = some (.string t) := (blk_cell m2_ 2).trans rfl
  exact bodyPost_ret (v := .tuple #[.agg #[.string nm, .int .i64 v, .string t], .int .i64 0]) (by simp [results, Try.results15, go_sem, hu30, e0, e1, e2]) rfl ⟨rfl, HB2⟩
end
set_option maxHeartbeats 4000000 in
set_option maxRecDepth 100000 in
theorem newReplica9 (nm : ByteArray) (v : Int) (t : ByteArray) (w : World) :
    Calls Try.prog 9 #[.agg #[.string nm, .int .i64 v, .string t]] w fun e w' => ∃ g, e = .returned (.pointer (some ⟨g, 0, none⟩)) ∧ IsS72 w w' g nm v t ∧ Below w.heap.size w w' := by
  have hu72 := Try.underlying72
  have hu30 := Try.underlying30
  have hz72 := Try.zeroValue72
  have HB := Aside0.mk (below_alloc (Below.refl w.heap.size w) (.cells #[.string nm, .int .i64 v, .string t] 30 (0, 0)))
  have q0 : (w.alloc (.cells #[.string nm, .int .i64 v, .string t] 30 (0, 0))).cell? ⟨w.heap.size, 0, none⟩ = some (.string nm) := (blk_cell (blk_new w _) 0).trans rfl
  have q1 : (w.alloc (.cells #[.string nm, .int .i64 v, .string t] 30 (0, 0))).cell? ⟨w.heap.size, 1, none⟩ = some (.int .i64 v) := (blk_cell (blk_new w _) 1).trans rfl
  have q2 : (w.alloc (.cells #[.string nm, .int .i64 v, .string t] 30 (0, 0))).cell? ⟨w.heap.size, 2, none⟩ = some (.string t) := (blk_cell (blk_new w _) 2).trans rfl
  go_enter Try.func9, Try.ntmps9
  go_wp2_with ((with_reducible refine gate_dst (N := 5) rfl ?_); refine box_event ?hg (N := 5) ?hd (cs := #[.string nm, .int .i64 v, .string t]) (t := 72) ?hr ?_; (case hd => rfl); (case hg => rfl); (case hr => first | (go_simp; done) | (go_simp; rfl)); intro g5 hg w5 hbox hb; have BK5 := Aside0.mk hbox; have GE5 := Aside0.mk (show w.heap.size ≤ g5 from by rw [hg]; exact HB.out.size); have n1_ := Aside0.mk (below_step HB.out hb); clear HB; have HB := n1_; clear n1_; clear hbox hb hg)
  go_ret
  exact ⟨_, rfl, ⟨BK5.out, GE5.out⟩, HB.out⟩
theorem one_C (W_ : World) (n : Nat) (A : Option Addr) (c : Nat) (l : List S56) (h0 : W_.cell? ⟨n, 0, none⟩ = some (.slice A l.length c)) (hc : l.length ≤ c) (hl : Kd.C k56 W_ A l.length l) : Kd.C (Kd.slice 56 k56) W_ (some ⟨n, 0, none⟩) 1 [l] :=
  ⟨rfl, by simp, fun _ => ⟨_, rfl, fun j p hj => by
    cases j with
    | zero =>
      injection hj with hj
      subst hj
      exact ⟨[.slice A l.length c], rfl, ⟨A, c, rfl, hc, hl⟩, fun i u hu => by
        cases i with
        | zero => injection hu with hu; subst hu; exact h0
        | succ i => cases hu⟩
    | succ j => cases hj⟩⟩
set_option maxHeartbeats 8000000 in
set_option maxRecDepth 100000 in
theorem applyRep14 (w0 W : World) (g : Nat) (nm : ByteArray) (v : Int) (t : ByteArray) (to_ from_ : Int) (A : Option Addr) (c : Nat) (l : List S56) (k : Nat) (r1 : Int) (r2 : ByteArray) (r3 : Int) (r4 : ByteArray) (hI : IsS72 w0 W g nm v t) (hB : Below w0.heap.size w0 W) (hv0 : -1000 ≤ v) (hv1 : v ≤ 2147483647)
    (hr : ∀ W_, KeepBut W W_ g none → Kd.C k56 W_ A l.length l) (hc : l.length ≤ c) (h : docsync_Replica_CatchUp.f k nm v t [l] = some (r1, r2, r3, r4)) :
    Calls Try.prog 14 #[.pointer (some ⟨g, 0, none⟩), .agg #[.int .i64 to_, .int .i64 from_, .string nm, .int .i64 (v + 1), .slice A l.length c]] W fun e w' => e = .returned (.int .i64 r1) ∧ IsS72 w0 w' g r2 r3 r4 ∧ Below w0.heap.size w0 w' ∧ KeepBut W w' g none := by
  have hu72 := Try.underlying72
  have hu30 := Try.underlying30
  have hu48 := Try.underlying48
  have hu42 := Try.underlying42
  have hba := below_alloc (Below.refl W.heap.size W) (.cells #[.int .i64 to_, .int .i64 from_, .string nm, .int .i64 (v + 1), .slice A l.length c] 48 (0, 0))
  have hnew := blk_new W (.cells #[.int .i64 to_, .int .i64 from_, .string nm, .int .i64 (v + 1), .slice A l.length c] 48 (0, 0))
  have HBA := Aside0.mk hba
  have q0 := (blk_cell hnew 0).trans rfl
  have q2 : (W.alloc (.cells #[.int .i64 to_, .int .i64 from_, .string nm, .int .i64 (v + 1), .slice A l.length c] 48 (0, 0))).cell? ⟨W.heap.size, 2, none⟩ = some (.string nm) := (blk_cell hnew 2).trans rfl
  have q3 : (W.alloc (.cells #[.int .i64 to_, .int .i64 from_, .string nm, .int .i64 (v + 1), .slice A l.length c] 48 (0, 0))).cell? ⟨W.heap.size, 3, none⟩ = some (.int .i64 (v + 1)) := (blk_cell hnew 3).trans rfl
  have q4 : (W.alloc (.cells #[.int .i64 to_, .int .i64 from_, .string nm, .int .i64 (v + 1), .slice A l.length c] 48 (0, 0))).cell? ⟨W.heap.size, 4, none⟩ = some (.slice A l.length c) := (blk_cell hnew 4).trans rfl
  have hb2 := blk_below hI.1 hba
  have s0 : (W.alloc (.cells #[.int .i64 to_, .int .i64 from_, .string nm, .int .i64 (v + 1), .slice A l.length c] 48 (0, 0))).cell? ⟨g, 0, none⟩ = some (.string nm) := (blk_cell hb2 0).trans rfl
  have s1 : (W.alloc (.cells #[.int .i64 to_, .int .i64 from_, .string nm, .int .i64 (v + 1), .slice A l.length c] 48 (0, 0))).cell? ⟨g, 1, none⟩ = some (.int .i64 v) := (blk_cell hb2 1).trans rfl
  have HI := Aside0.mk hI
  have HB := Aside0.mk hB
  have HR := Aside0.mk hr
  have HC := Aside0.mk hc
  have HH := Aside0.mk h
  have e1 : (v + 1 == -9223372036854775808) = false := beq_eq_false_iff_ne.2 (by omega)
  have e2 : v + 1 - 1 = v := by omega
  have b0 : -1000 ≤ v := hv0
  have b1 : v ≤ 2147483647 := hv1
  clear hI hB hr hc h hba hnew q0 hb2 hv0 hv1
  go_enter Try.func14, Try.ntmps14
  go_wp2
  generalize (W.alloc (.cells #[.int .i64 to_, .int .i64 from_, .string nm, .int .i64 (v + 1), .slice A l.length c] 48 (0, 0))) = w3 at HBA q2 q3 q4 s0 s1 ⊢
  go_quiet (fail)
  have HBD := Aside0.mk (pw_below_drewN HBA.out nq)
  have u2 : (w3.drewN nq).cell? ⟨W.heap.size, 2, none⟩ = some (.string nm) := q2
  have u3 : (w3.drewN nq).cell? ⟨W.heap.size, 3, none⟩ = some (.int .i64 (v + 1)) := q3
  have u4 : (w3.drewN nq).cell? ⟨W.heap.size, 4, none⟩ = some (.slice A l.length c) := q4
  have u0 : (w3.drewN nq).cell? ⟨g, 0, none⟩ = some (.string nm) := s0
  have u1 : (w3.drewN nq).cell? ⟨g, 1, none⟩ = some (.int .i64 v) := s1
  clear q2 q3 q4 s0 s1 HBA
  generalize w3.drewN nq = w4 at HBD u0 u1 u2 u3 u4 ⊢
  go_wp2
  go_quiet (fail)
  have HBE := Aside0.mk (pw_below_drewN HBD.out nq)
  have x4 : (w4.drewN nq).cell? ⟨W.heap.size, 4, none⟩ = some (.slice A l.length c) := u4
  clear u0 u1 u2 u3 u4 HBD
  generalize w4.drewN nq = w5 at HBE x4 ⊢
  go_wp2_with (go_at_call 13; have hb6 := below_alloc (Below.refl w5.heap.size w5) (.cells #[.slice A l.length c] 42 (0, 0)); have HB6 := Aside0.mk (below_step HBE.out hb6); have hn6 := blk_new w5 (.cells #[.slice A l.length c] 42 (0, 0)); have HN6 := Aside0.mk (And.intro hn6 (show g ≠ w5.heap.size from fun e => by have h_ := blk_lt HI.out.1; have h2_ := HBE.out.size; omega)); refine (docsync_Replica_CatchUp.calls k g nm v t (some ⟨w5.heap.size, 0, none⟩) 1 [l] r1 r2 r3 r4 w0 _ ⟨blk_below HI.out.1 HB6.out, HI.out.2⟩ (below_step HB.out HB6.out) (fun W_ hk => one_C W_ w5.heap.size A c l ((blk_cell (hk.blk HN6.out.1 (fun e => HN6.out.2 e.symm) (by simp)) 0).trans rfl) HC.out (HR.out W_ ((KeepBut.of_below HB6.out g none).trans hk (.inl rfl)))) (Nat.le_refl _) HH.out).mono ?_; rintro e_ w7 ⟨rfl, h1, h2, h3⟩; have P1 := Aside0.mk h1; have P2 := Aside0.mk h2; have P3 := Aside0.mk ((KeepBut.of_below HB6.out g none).trans h3 (.inl rfl)); clear h1 h2 h3 hb6 hn6)
  go_ret
  exact ⟨rfl, P1.out, P2.out, P3.out⟩
end Go.Proofs.Ytficalhfbopjbaa.Ds
