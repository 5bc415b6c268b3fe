/- framing: NewDecoder, Buffered, Write. -/
import Derived.Test.YtagmdkmgagfmhaaDoorFrhSt
import Derived.Deep.QuietTactic
import Derived.BigQuiet
import Derived.Deep.LoopGhost
namespace Go.Proofs.YtagmdkmgagfmhaaDoor.Fr
open Go.RowKit Go.Sort Go.Shelf Go.Lib Go.Proofs.YtagmdkmgagfmhaaDoorW.PrintWords Go.Proofs.YtagmdkmgagfmhaaDoorW.PrintLast Go.Proofs.YtagmdkmgagfmhaaDoorW.PrintMore
open Go.Proofs.YtagmdkmgagfmhaaDoor
set_option linter.unusedVariables false
set_option linter.unusedSimpArgs false

theorem grown_set {w w1 : World} {g : Nat} (hb : Below w.heap.size w w1) (j : Nat) (u : Value) : w.grownBy (w1.setCell ⟨g, j, none⟩ u) (some g) :=
  ⟨hb.os, hb.tape, hb.output, by simpa [World.setCell] using hb.size, fun i hi hne => (Below.heap_setCell _ _ _ _ (fun e => hne (congrArg some e))).trans (hb.block i hi)⟩
set_option maxHeartbeats 1000000 in
set_option maxRecDepth 100000 in
theorem newDecoder12 (w : World) :
    Calls Tryd.prog 12 #[] w fun e w' => ∃ g, e = .returned (.pointer (some ⟨g, 0, none⟩)) ∧ w.heap.size ≤ g ∧ w'.heap[g]? = some (.cells #[.string ByteArray.empty, .bool false] 50 (0, 0)) ∧ Below w.heap.size w w' := by
  have hu50 := Tryd.underlying50
  have hz50 := Tryd.zeroValue50
  have HB := Aside0.mk (Below.refl w.heap.size w)
  go_enter Tryd.func12, Tryd.ntmps12
  go_wp2_with ((with_reducible refine gate_dst (N := 2) rfl ?_); refine box_event ?hg (N := 2) ?hd (cs := #[.string ByteArray.empty, .bool false]) (t := 50) ?hr ?_; (case hd => rfl); (case hg => rfl); (case hr => first | (go_simp; done) | (go_simp; rfl)); intro g10 hg w10 hbox hb; have BK := Aside0.mk hbox; have GE := Aside0.mk (show w.heap.size ≤ g10 from by rw [hg]; exact HB.out.size); have n1_ := Aside0.mk (below_step HB.out hb); clear HB; have HB := n1_; clear n1_; clear hbox hb hg)
  go_ret
  exact ⟨_, rfl, GE.out, BK.out, HB.out⟩
set_option maxHeartbeats 1000000 in
set_option maxRecDepth 100000 in
theorem buffered14 (g : Nat) (q : ByteArray) (w : World) (hB : w.heap[g]? = some (.cells #[.string q, .bool false] 50 (0, 0))) :
    Calls Tryd.prog 14 #[.pointer (some ⟨g, 0, none⟩)] w fun e w' => e = .returned (.string q) ∧ Below w.heap.size w w' := by
  have hu50 := Tryd.underlying50
  have c0 : w.cell? ⟨g, 0, none⟩ = some (.string q) := (blk_cell hB 0).trans rfl
  clear hB
  go_enter Tryd.func14, Tryd.ntmps14
  go_wp2
  go_ret
  exact ⟨rfl, Below.refl _ _⟩
set_option maxHeartbeats 2000000 in
set_option maxRecDepth 100000 in
theorem write13 (g : Nat) (q s : ByteArray) (bs : List (List UInt8)) (p : List UInt8) (hf : Fits bs) (hp : Part p) (hs : bl q ++ bl s = flat bs ++ p) (hsz : q.size + s.size ≤ 1000000) (hbs : bs.length ≤ 100) (w : World) (hV : Vs w) (hB : w.heap[g]? = some (.cells #[.string q, .bool false] 50 (0, 0))) :
    Calls Tryd.prog 13 #[.pointer (some ⟨g, 0, none⟩), .string s] w fun e w' => ∃ v, e = .returned (.tuple #[v, .int .i64 0]) ∧ Kd.R Kd.string 9 w' w.heap.size (fun k => k ≠ g) v (bs.map ofL) ∧ w'.heap[g]? = some (.cells #[.string (ofL p), .bool false] 50 (0, 0)) ∧ w.grownBy w' (some g) := by
  have hu50 := Tryd.underlying50
  have hgl := blk_lt hB
  have c0 : w.cell? ⟨g, 0, none⟩ = some (.string q) := (blk_cell hB 0).trans rfl
  have c1 : w.cell? ⟨g, 1, none⟩ = some (.bool false) := (blk_cell hB 1).trans rfl
  have hsum : q.size + s.size ≤ 9223372036854775807 := by omega
  have hzs : (q ++ s).size = q.size + s.size := by simp
  have hzb : bl (q ++ s) = flat bs ++ p := by rw [bl_append]; exact hs
  obtain ⟨Z, hZ⟩ : ∃ Z, q ++ s = Z := ⟨_, rfl⟩
  rw [hZ] at hzs hzb
  obtain ⟨k, hk⟩ : ∃ k, (flat bs).length = k := ⟨_, rfl⟩
  have hkz : k ≤ Z.size := by rw [size_bl, hzb, List.length_append]; omega
  have hrest : Z.extract k Z.size = ofL p := by
    refine bl_inj ?_
    rw [drop_ext, hzb, bl_ofL, ← hk, List.drop_left]
  have SP := Aside0.mk (show ∀ w' : World, Vs w' → Calls Tryd.prog 7 #[.string Z] w' fun e w'' => ∃ v, e = .returned (.tuple #[v, .int .i64 (k : Int), .int .i64 0]) ∧ Kd.R Kd.string 9 w'' w'.heap.size (fun _ => True) v (bs.map ofL) ∧ Below w'.heap.size w' w'' from fun w' hv => by
    rw [← hk]
    exact split7 Z bs p hf hp hzb (by omega) hbs w' hv)
  have HB := Aside0.mk (Below.refl w.heap.size w)
  have BK := Aside0.mk hB
  have HV := Aside0.mk hV
  have BK0 := Aside0.mk hB
  clear hf hp hs hsz hbs hV hB hzs hzb hk hgl
  go_enter Tryd.func13, Tryd.ntmps13
  go_wp2_with (go_at_call 7; refine (SP.out _ (HV.out.below HB.out)).mono ?_; rintro e_ w7 ⟨v7, rfl, ho, hb⟩; have HO := Aside0.mk ho; have n1_ := Aside0.mk (below_step HB.out hb); have n2_ := Aside0.mk (blk_below BK.out hb); clear HB BK hb ho c0 c1; have HB := n1_; have BK := n2_; clear n1_ n2_; have c0 : w7.cell? ⟨g, 0, none⟩ = some (.string q) := (blk_cell BK.out 0).trans rfl; have f0 := blk_frozen BK.out 0)
  go_ret2
  refine ⟨_, rfl, ?_, blk_put BK.out 0 _ rfl, grown_set HB.out 0 _⟩
  exact Kd.R_grown (Kd.R_mono (Kd.R_newB HO.out BK0.out) (fun k h => h.2)) (grown_set (Below.refl _ _) 0 _) (fun k hk e => hk (Option.some.inj e))
end Go.Proofs.YtagmdkmgagfmhaaDoor.Fr
