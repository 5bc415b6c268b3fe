/- docsync.Room.Edit. Condition: the client has opened the document, whose name is asked; fewer than 50 edits are remembered. -/
import Derived.Test.YtficalhfbopjbaaDsx0
import Derived.Test.YtficalhfbopjbaaDshRp
import Derived.Test.YtficalhfbopjbaaDshCl
import Derived.Deep.QuietTactic
import Derived.RangeFuncNested
import Derived.RangeFuncBound
import Derived.RangeFuncCalls
import Derived.RangeFuncLeaves
import Derived.RangeFuncBox
import Derived.Shelf.Abstract
import Derived.Shelf.RegionOpen
import Derived.WalkKit
import Derived.BigQuiet
namespace Go.Proofs.Ytficalhfbopjbaa.Ds
open Go.RowKit Go.Shelf Go.Proofs.YtficalhfbopjbaaW.PrintWords Go.Proofs.YtficalhfbopjbaaW.PrintLast Go.Proofs.YtficalhfbopjbaaW.PrintMore
open Go.Proofs.Ytficalhfbopjbaa
set_option linter.unusedVariables false
set_option linter.unusedSimpArgs false
attribute [local go_sem] Oper.semAt_some
attribute [local go_sem] max2_int min2_int max_two min_two
section
variable {base gr gD gd cD : Nat} {vC vH vR : Value} {nm : ByteArray} {v : Int} {t : ByteArray} {hist : List (List S56)} {rd cl : List Int} {W : World}
set_option maxHeartbeats 8000000 in
set_option maxRecDepth 100000 in
theorem edit_stale (client : Int) (hcl : client ∈ cl) (hl : cl.length ≤ 1000) (hrd : client ∈ rd) (hl2 : rd.length ≤ 1000) (A : Option Addr) (c : Nat) (l : List S56) (ver : Int) (hver : ver ≠ v) (hR : Rm base gr gD gd cD vC vH vR nm v t hist rd cl W) :
    Calls Try.prog 12 #[.pointer (some ⟨gr, 0, none⟩), .int .i64 client, .string nm, .int .i64 ver, .slice A l.length c] W fun e w' => e = .returned (.tuple #[.slice none 0 0, .int .i64 11]) ∧ Below W.heap.size W w' := by
  have hu64 := Try.underlying64
  have hu30 := Try.underlying30
  have hu59 := Try.underlying59
  have hu23 := Try.underlying23
  have HR := Aside0.mk hR
  have HC := Aside0.mk (And.intro hcl (And.intro hl (And.intro hrd hl2)))
  have HB := Aside0.mk (Below.refl W.heap.size W)
  have e1 : (ver != v) = true := bne_iff_ne.2 hver
  have e2 : (ver == v) = false := beq_eq_false_iff_ne.2 hver
  clear hR hcl hl hrd hl2 hver
  go_enter Try.func12, Try.ntmps12
  go_wp2_with ((go_at_call 22; refine (opened22 client HC.out.1 HC.out.2.1 HC.out.2.2.1 HC.out.2.2.2 (HR.out.below HB.out)).mono ?_; rintro e_ w1 ⟨rfl, hb⟩; have n1_ := Aside0.mk (below_step HB.out hb); clear HB hb; have HB := n1_; clear n1_; have q0 := (HR.out.below HB.out).d0; have q1 := (HR.out.below HB.out).d1; have q2 := (HR.out.below HB.out).d2))
  go_ret2
  exact ⟨rfl, HB.out⟩
set_option maxHeartbeats 8000000 in
set_option maxRecDepth 100000 in
theorem edit_no (client : Int) (hcl : client ∈ cl) (hl : cl.length ≤ 1000) (hrd : client ∈ rd) (hl2 : rd.length ≤ 1000) (A : Option Addr) (c : Nat) (l : List S56) (r1 : ByteArray) (r2 : Int) (r3 : ByteArray) (r4 : Int) (hR : Rm base gr gD gd cD vC vH vR nm v t hist rd cl W) (he : ∀ W_, KeepBut W W_ gd vH.ownBlock → Kd.C k56 W_ A l.length l) (hec : l.length ≤ c) (ha : docsync_apply.f nm v t l = some (r1, r2, r3, r4)) (h4 : r4 ≠ 0) :
    Calls Try.prog 12 #[.pointer (some ⟨gr, 0, none⟩), .int .i64 client, .string nm, .int .i64 v, .slice A l.length c] W fun e w' => e = .returned (.tuple #[.slice none 0 0, .int .i64 r4]) ∧ Below W.heap.size W w' := by
  have hu64 := Try.underlying64
  have hu30 := Try.underlying30
  have hu59 := Try.underlying59
  have hu23 := Try.underlying23
  have HR := Aside0.mk hR
  have HC := Aside0.mk (And.intro hcl (And.intro hl (And.intro hrd hl2)))
  have HB := Aside0.mk (Below.refl W.heap.size W)
  have HE := Aside0.mk he
  have HEC := Aside0.mk hec
  have HA := Aside0.mk ha
  have e1 : (r4 != 0) = true := bne_iff_ne.2 h4
  have e2 : (r4 == 0) = false := beq_eq_false_iff_ne.2 h4
  clear hR hcl hl hrd hl2 he hec ha h4
  go_enter Try.func12, Try.ntmps12
  go_wp2_with (first
    | (go_at_call 22; refine (opened22 client HC.out.1 HC.out.2.1 HC.out.2.2.1 HC.out.2.2.2 (HR.out.below HB.out)).mono ?_; rintro e_ w1 ⟨rfl, hb⟩; have n1_ := Aside0.mk (below_step HB.out hb); clear HB hb; have HB := n1_; clear n1_; have q0 := (HR.out.below HB.out).d0; have q1 := (HR.out.below HB.out).d1; have q2 := (HR.out.below HB.out).d2)
    | (go_at_call 23; refine (docsync_apply.calls nm v t A c l r1 r2 r3 r4 _ (HE.out _ (KeepBut.of_below HB.out gd _)) HEC.out HA.out).mono ?_; rintro e_ w2 ⟨rfl, hb⟩; have n1_ := Aside0.mk (below_step HB.out hb); clear HB hb q0 q1 q2; have HB := n1_; clear n1_)
    | ((with_reducible refine gate_dst (N := 14) rfl ?_); refine box_event ?hg (N := 14) ?hd (cs := #[.string ByteArray.empty, .int .i64 0, .string ByteArray.empty]) (t := 30) ?hr ?_; (case hd => rfl); (case hg => rfl); (case hr => first | (go_simp; done) | (go_simp; rfl)); intro g14 hg w14 hbox hb; have BK14 := Aside0.mk hbox; have GE14 := Aside0.mk (show W.heap.size ≤ g14 from by rw [hg]; exact HB.out.size); have hc14_0 : w14.cell? ⟨g14, 0, none⟩ = some (.string ByteArray.empty) := (blk_cell BK14.out 0).trans rfl; have hf14_0 := blk_frozen BK14.out 0; have hc14_1 : w14.cell? ⟨g14, 1, none⟩ = some (.int .i64 0) := (blk_cell BK14.out 1).trans rfl; have hf14_1 := blk_frozen BK14.out 1; have hc14_2 : w14.cell? ⟨g14, 2, none⟩ = some (.string ByteArray.empty) := (blk_cell BK14.out 2).trans rfl; have hf14_2 := blk_frozen BK14.out 2; have n1_ := Aside0.mk (below_step HB.out hb); clear HB; have HB := n1_; clear n1_; clear hbox hb hg))
  go_ret2
  exact ⟨rfl, below_set (below_set (below_set HB.out GE14.out) GE14.out) GE14.out⟩
end
end Go.Proofs.Ytficalhfbopjbaa.Ds
