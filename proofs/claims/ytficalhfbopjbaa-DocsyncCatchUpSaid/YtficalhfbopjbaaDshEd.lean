/- docsync.Room.Edit, the edit done: the document, its history, the updates for the other readers. Condition: as for the refusals. -/
import Derived.Test.YtficalhfbopjbaaDsx0
import Derived.Test.YtficalhfbopjbaaDshRp
import Derived.Test.YtficalhfbopjbaaDshEn
import Derived.Deep.QuietTactic
import Derived.RangeFuncNested
import Derived.RangeFuncBound
import Derived.RangeFuncCalls
import Derived.RangeFuncLeaves
import Derived.RangeFuncBox
import Derived.Shelf.Abstract
import Derived.Shelf.RegionOpen
import Derived.WalkKit
import Derived.BigQuiet
namespace Go.Proofs.Ytficalhfbopjbaa.Ds
open Go.RowKit Go.Shelf Go.Proofs.YtficalhfbopjbaaW.PrintWords Go.Proofs.YtficalhfbopjbaaW.PrintLast Go.Proofs.YtficalhfbopjbaaW.PrintMore
open Go.Proofs.Ytficalhfbopjbaa
set_option linter.unusedVariables false
set_option linter.unusedSimpArgs false
attribute [local go_sem] Oper.semAt_some
attribute [local go_sem] max2_int min2_int max_two min_two
theorem info42 : (Try.prog.info? 42).map (fun i => (i.zero, i.size, i.bytes)) = some (some (.slice none 0 0), 1, 24) := by kernel_rfl
/-! #### struct type 48 -/
structure S48 where
  f0 : Int
  f1 : Int
  f2 : ByteArray
  f3 : Int
  f4 : List S56
def z48 : S48 := ⟨0, 0, (⟨#[]⟩ : ByteArray), 0, []⟩
def k48 : Kd S48 := Kd.iso (Kd.pair (Kd.int .i64) (Kd.pair (Kd.int .i64) (Kd.pair Kd.string (Kd.pair (Kd.int .i64) (Kd.slice 56 k56))))) (fun x : S48 => (x.f0, x.f1, x.f2, x.f3, x.f4))
theorem k48_open {w : World} {x : S48} {cs : List Value} (h : k48.K w x cs) : ∃ A c, cs = [.int .i64 x.f0, .int .i64 x.f1, .string x.f2, .int .i64 x.f3, .slice A x.f4.length c] ∧ x.f4.length ≤ c ∧ Kd.C k56 w A x.f4.length x.f4 := by
  obtain ⟨_, _, rfl, rfl, ⟨_, _, rfl, rfl, ⟨_, _, rfl, rfl, ⟨_, _, rfl, rfl, ⟨A, c, rfl, l2, g2⟩⟩⟩⟩⟩ := h
  exact ⟨A, c, rfl, l2, g2⟩
theorem k48_openM {w : World} {base : Nat} {ok : Nat → Prop} {x : S48} {cs : List Value} (h : k48.M w base ok x cs) : ∃ v4, cs = [.int .i64 x.f0, .int .i64 x.f1, .string x.f2, .int .i64 x.f3, v4] ∧ Kd.R k56 56 w base ok v4 x.f4 := by
  obtain ⟨_, _, rfl, rfl, ⟨_, _, rfl, rfl, ⟨_, _, rfl, rfl, ⟨_, _, rfl, rfl, ⟨v4, rfl, g⟩⟩⟩⟩⟩ := h
  exact ⟨v4, rfl, g⟩
theorem k48_mkM (w : World) (base : Nat) (ok : Nat → Prop) (x : S48) {v4 : Value} (g : Kd.R k56 56 w base ok v4 x.f4) : k48.M w base ok x [.int .i64 x.f0, .int .i64 x.f1, .string x.f2, .int .i64 x.f3, v4] :=
  ⟨[.int .i64 x.f0], [.int .i64 x.f1, .string x.f2, .int .i64 x.f3, v4], rfl, rfl, ⟨[.int .i64 x.f1], [.string x.f2, .int .i64 x.f3, v4], rfl, rfl, ⟨[.string x.f2], [.int .i64 x.f3, v4], rfl, rfl, ⟨[.int .i64 x.f3], [v4], rfl, rfl, ⟨v4, rfl, g⟩⟩⟩⟩⟩
theorem info48 : (Try.prog.info? 48).map (fun i => (i.zero, i.size, i.bytes)) = some (some (.agg #[.int .i64 0, .int .i64 0, .string ByteArray.empty, .int .i64 0, .slice none 0 0]), 5, 64) := by kernel_rfl
/-- the updates for the other readers -/
def upd (client : Int) (nm : ByteArray) (v2 : Int) (l : List S56) (rs : List Int) : List S48 := (rs.filter (fun r => r != client)).map fun r => ⟨r, client, nm, v2, l⟩
theorem upd_len (client : Int) (nm : ByteArray) (v2 : Int) (l : List S56) (rs : List Int) : (upd client nm v2 l rs).length ≤ rs.length := by
  unfold upd
  rw [List.length_map]
  exact List.length_filter_le _ _
theorem upd_yes (client : Int) (nm : ByteArray) (v2 : Int) (l : List S56) (rs : List Int) (i : Nat) (hi : i < rs.length) (h : rs[i] ≠ client) : upd client nm v2 l (rs.take (i + 1)) = upd client nm v2 l (rs.take i) ++ [⟨rs[i], client, nm, v2, l⟩] := by
  unfold upd
  rw [List.take_succ_eq_append_getElem hi, List.filter_append, List.map_append, List.filter_cons_of_pos (by simpa using h)]
  rfl
theorem upd_no (client : Int) (nm : ByteArray) (v2 : Int) (l : List S56) (rs : List Int) (i : Nat) (hi : i < rs.length) (h : rs[i] = client) : upd client nm v2 l (rs.take (i + 1)) = upd client nm v2 l (rs.take i) := by
  unfold upd
  rw [List.take_succ_eq_append_getElem hi, List.filter_append, List.map_append, List.filter_cons_of_neg (by simp [h])]
  simp
theorem kb_grown {W w w' : World} {g : Nat} {row o : Option Nat} (h : KeepBut W w g row) (hg : w.grownBy w' o) (ho : ∀ k, o = some k → W.heap.size ≤ k) : KeepBut W w' g row :=
  ⟨Nat.le_trans h.1 hg.size, fun i hi h1 h2 => (hg.block i (Nat.lt_of_lt_of_le hi h.1) (fun e => by have := ho i e.symm; omega)).trans (h.2 i hi h1 h2)⟩
theorem S_ok {α : Type} {d : Kd α} {e : TypeId} {w : World} {base : Nat} {ok : Nat → Prop} {v : Value} {xs : List α} (h : Kd.S d e w base ok v xs) : ∀ k, v.ownBlock = some k → ok k := (Kd.S_R h).1
section
variable {base gr gD gd cD : Nat} {vC vH vR : Value} {nm : ByteArray} {v : Int} {t : ByteArray} {hist : List (List S56)} {rd cl : List Int} {W : World}
theorem q42 : ∀ q, q ∈ 42 :: (Kd.slice 56 k56).E → q ≠ 64 := by decide
theorem Rm.grown48 {w1 : World} {u : Value} (h : Rm base gr gD gd cD vC vH vR nm v t hist rd cl W) (hg : W.grownBy w1 u.ownBlock) (hty : ∀ k, u.ownBlock = some k → ∃ cells, W.heap[k]? = some (.cells cells 48 (0, 0))) :
    Rm base gr gD gd cD vC vH vR nm v t hist rd cl w1 := by
  have ne : ∀ {g : Nat} {cs : Array Value} {ty : Nat}, W.heap[g]? = some (.cells cs ty (0, 0)) → ty ≠ 48 → some g ≠ u.ownBlock := fun hb ht e => by
    obtain ⟨cells, hc⟩ := hty _ e.symm
    exact ne_types hb hc ht rfl
  obtain ⟨csD, hD, hD0⟩ := h.dcell
  exact ⟨blk_grown h.rbox hg (ne h.rbox (by decide)), h.rge, ⟨csD, blk_grown hD hg (ne hD (by decide)), hD0⟩, h.dge, blk_grown h.dbox hg (ne h.dbox (by decide)), h.oge, Kd.S_mono (Kd.S_over' h.his hty (by decide) hg) (fun _ h => h), Kd.R_over' h.rds hty (by decide) hg, Kd.R_over' h.cls hty (by decide) hg⟩
theorem Rm.updated (h : Rm base gr gD gd cD vC vH vR nm v t hist rd cl W) (n2 : ByteArray) (v2 : Int) (t2 : ByteArray) : Rm base gr gD gd cD vC vH vR n2 v2 t2 hist rd cl (((W.setCell ⟨gd, 0, none⟩ (.string n2)).setCell ⟨gd, 1, none⟩ (.int .i64 v2)).setCell ⟨gd, 2, none⟩ (.string t2)) := by
  have m0 : (W.setCell ⟨gd, 0, none⟩ (.string n2)).heap[gd]? = some (.cells #[.string n2, .int .i64 v, .string t, vH, vR] 64 (0, 0)) := blk_put h.dbox 0 _ rfl
  have m1 : ((W.setCell ⟨gd, 0, none⟩ (.string n2)).setCell ⟨gd, 1, none⟩ (.int .i64 v2)).heap[gd]? = some (.cells #[.string n2, .int .i64 v2, .string t, vH, vR] 64 (0, 0)) := blk_put m0 1 _ rfl
  have m2 : (((W.setCell ⟨gd, 0, none⟩ (.string n2)).setCell ⟨gd, 1, none⟩ (.int .i64 v2)).setCell ⟨gd, 2, none⟩ (.string t2)).heap[gd]? = some (.cells #[.string n2, .int .i64 v2, .string t2, vH, vR] 64 (0, 0)) := blk_put m1 2 _ rfl
  obtain ⟨csD, hD, hD0⟩ := h.dcell
  have k : ∀ (x : Nat), x ≠ gd → (((W.setCell ⟨gd, 0, none⟩ (.string n2)).setCell ⟨gd, 1, none⟩ (.int .i64 v2)).setCell ⟨gd, 2, none⟩ (.string t2)).heap[x]? = W.heap[x]? := fun x hx => (Below.heap_setCell _ ⟨gd, 2, none⟩ _ x hx).trans ((Below.heap_setCell _ ⟨gd, 1, none⟩ _ x hx).trans (Below.heap_setCell _ ⟨gd, 0, none⟩ _ x hx))
  exact ⟨(k gr (fun e => ne_types h.rbox h.dbox (by decide) e)).trans h.rbox, h.rge, ⟨csD, (k gD (fun e => ne_types hD h.dbox (by decide) e)).trans hD, hD0⟩, h.dge, m2, h.oge, Kd.S_set (Kd.S_set (Kd.S_set h.his h.dbox q42 0 _) m0 q42 1 _) m1 q42 2 _, Kd.R_set (Kd.R_set (Kd.R_set h.rds h.dbox (by decide) 0 _) m0 (by decide) 1 _) m1 (by decide) 2 _, Kd.R_set (Kd.R_set (Kd.R_set h.cls h.dbox (by decide) 0 _) m0 (by decide) 1 _) m1 (by decide) 2 _⟩
theorem Rm.appended {w1 : World} {v1 : Value} {hist' : List (List S56)} (h : Rm base gr gD gd cD vC vH vR nm v t hist rd cl W) (hg : W.grownBy w1 vH.ownBlock) (ho : Kd.S (Kd.slice 56 k56) 42 w1 base (fun _ => True) v1 hist') :
    Rm base gr gD gd cD vC v1 vR nm v t hist' rd cl (w1.setCell ⟨gd, 3, none⟩ v1) := by
  have b1 : w1.heap[gd]? = some (.cells #[.string nm, .int .i64 v, .string t, vH, vR] 64 (0, 0)) := blk_grown h.dbox hg (Kd.S_ne h.his h.dbox (by decide))
  obtain ⟨csD, hD, hD0⟩ := h.dcell
  have b2 := blk_grown hD hg (Kd.S_ne h.his hD (by decide))
  have b3 := blk_grown h.rbox hg (Kd.S_ne h.his h.rbox (by decide))
  have r1 := Kd.R_over' h.rds (Kd.S_typed h.his) (by decide) hg
  have r2 := Kd.R_over' h.cls (Kd.S_typed h.his) (by decide) hg
  exact ⟨(Below.heap_setCell w1 ⟨gd, 3, none⟩ _ gr (fun e => ne_types b3 b1 (by decide) e)).trans b3, h.rge, ⟨csD, (Below.heap_setCell w1 ⟨gd, 3, none⟩ _ gD (fun e => ne_types b2 b1 (by decide) e)).trans b2, hD0⟩, h.dge, blk_put b1 3 _ rfl, h.oge, Kd.S_set ho b1 q42 3 _, Kd.R_set r1 b1 (by decide) 3 _, Kd.R_set r2 b1 (by decide) 3 _⟩
theorem Rm.stored (h : Rm base gr gD gd cD vC vH vR nm v t hist rd cl W) : Rm base gr gD gd cD vC vH vR nm v t hist rd cl (W.setCell ⟨gd, 3, none⟩ vH) := by
  obtain ⟨csD, hD, hD0⟩ := h.dcell
  exact ⟨(Below.heap_setCell W ⟨gd, 3, none⟩ _ gr (fun e => ne_types h.rbox h.dbox (by decide) e)).trans h.rbox, h.rge, ⟨csD, (Below.heap_setCell W ⟨gd, 3, none⟩ _ gD (fun e => ne_types hD h.dbox (by decide) e)).trans hD, hD0⟩, h.dge, blk_put h.dbox 3 _ rfl, h.oge, Kd.S_set h.his h.dbox q42 3 _, Kd.R_set h.rds h.dbox (by decide) 3 _, Kd.R_set h.cls h.dbox (by decide) 3 _⟩
set_option maxHeartbeats 8000000 in
set_option maxRecDepth 100000 in
theorem edit_ok (w0 : World) (client : Int) (hcl : client ∈ cl) (hl : cl.length ≤ 1000) (hrd : client ∈ rd) (hl2 : rd.length ≤ 1000) (A : Option Addr) (c : Nat) (l : List S56) (r1 : ByteArray) (r2 : Int) (r3 : ByteArray) (hR : Rm w0.heap.size gr gD gd cD vC vH vR nm v t hist rd cl W) (hb0 : Below w0.heap.size w0 W) (he : ∀ W_, KeepBut W W_ gd vH.ownBlock → Kd.C k56 W_ A l.length l) (hec : l.length ≤ c) (hl5 : l.length < 1000000) (hlh : hist.length < 50) (ha : docsync_apply.f nm v t l = some (r1, r2, r3, 0)) :
    Calls Try.prog 12 #[.pointer (some ⟨gr, 0, none⟩), .int .i64 client, .string nm, .int .i64 v, .slice A l.length c] W fun e w' => ∃ vU vH', e = .returned (.tuple #[vU, .int .i64 0]) ∧ Rm w0.heap.size gr gD gd cD vC vH' vR r1 r2 r3 (hist ++ [l]) rd cl w' ∧ Kd.S k48 48 w' w0.heap.size (fun k => W.heap.size ≤ k) vU (upd client nm r2 l rd) ∧ Below w0.heap.size w0 w' ∧ KeepBut W w' gd vH.ownBlock := by
  obtain ⟨AH, cH, rfl⟩ := Kd.S_slice hR.his
  obtain ⟨Ar, cR, rfl⟩ := Kd.R_slice hR.rds
  have HLH := Aside0.mk hlh
  have HL5 := Aside0.mk hl5
  generalize hnH : hist.length = nH at hR he ⊢
  have hu64 := Try.underlying64
  have hu30 := Try.underlying30
  have hu59 := Try.underlying59
  have hu23 := Try.underlying23
  have HR := Aside0.mk hR
  have HC := Aside0.mk (And.intro hcl (And.intro hl (And.intro hrd hl2)))
  have HB := Aside0.mk (Below.refl W.heap.size W)
  have HE := Aside0.mk he
  have HEC := Aside0.mk hec
  have HA := Aside0.mk ha
  have HB0 := Aside0.mk hb0
  clear hR hcl hl hrd hl2 he hec ha hb0 hl5 hlh hnH
  go_enter Try.func12, Try.ntmps12
  go_upto_region 7 with (first
    | (go_at_call 22; refine (opened22 client HC.out.1 HC.out.2.1 HC.out.2.2.1 HC.out.2.2.2 (HR.out.below HB.out)).mono ?_; rintro e_ w1 ⟨rfl, hb⟩; have n1_ := Aside0.mk (below_step HB.out hb); clear HB hb; have HB := n1_; clear n1_; have q0 := (HR.out.below HB.out).d0; have q1 := (HR.out.below HB.out).d1; have q2 := (HR.out.below HB.out).d2)
    | (go_at_call 23; refine (docsync_apply.calls nm v t A c l r1 r2 r3 0 _ (HE.out _ (KeepBut.of_below HB.out gd _)) HEC.out HA.out).mono ?_; rintro e_ w2 ⟨rfl, hb⟩; have n1_ := Aside0.mk (below_step HB.out hb); clear HB hb q0 q1 q2; have HB := n1_; clear n1_)
    | ((with_reducible refine gate_dst (N := 14) rfl ?_); refine box_event ?hg (N := 14) ?hd (cs := #[.string ByteArray.empty, .int .i64 0, .string ByteArray.empty]) (t := 30) ?hr ?_; (case hd => rfl); (case hg => rfl); (case hr => first | (go_simp; done) | (go_simp; rfl)); intro g14 hg w14 hbox hb; have BK14 := Aside0.mk hbox; have GE14 := Aside0.mk (show W.heap.size ≤ g14 from by rw [hg]; exact HB.out.size); have hc14_0 : w14.cell? ⟨g14, 0, none⟩ = some (.string ByteArray.empty) := (blk_cell BK14.out 0).trans rfl; have hf14_0 := blk_frozen BK14.out 0; have hc14_1 : w14.cell? ⟨g14, 1, none⟩ = some (.int .i64 0) := (blk_cell BK14.out 1).trans rfl; have hf14_1 := blk_frozen BK14.out 1; have hc14_2 : w14.cell? ⟨g14, 2, none⟩ = some (.string ByteArray.empty) := (blk_cell BK14.out 2).trans rfl; have hf14_2 := blk_frozen BK14.out 2; have n1_ := Aside0.mk (below_step HB.out hb); clear HB; have HB := n1_; clear n1_; clear hbox hb hg))
  have m0_ : (w14.setCell ⟨g14, 0, none⟩ (.string r1)).heap[g14]? = some (.cells #[.string r1, .int .i64 0, .string ByteArray.empty] 30 (0, 0)) := blk_put BK14.out 0 _ rfl
  have m1_ : ((w14.setCell ⟨g14, 0, none⟩ (.string r1)).setCell ⟨g14, 1, none⟩ (.int .i64 r2)).heap[g14]? = some (.cells #[.string r1, .int .i64 r2, .string ByteArray.empty] 30 (0, 0)) := blk_put m0_ 1 _ rfl
  have m2_ : (((w14.setCell ⟨g14, 0, none⟩ (.string r1)).setCell ⟨g14, 1, none⟩ (.int .i64 r2)).setCell ⟨g14, 2, none⟩ (.string r3)).heap[g14]? = some (.cells #[.string r1, .int .i64 r2, .string r3] 30 (0, 0)) := blk_put m1_ 2 _ rfl
  have HB2 : Below W.heap.size W (((w14.setCell ⟨g14, 0, none⟩ (.string r1)).setCell ⟨g14, 1, none⟩ (.int .i64 r2)).setCell ⟨g14, 2, none⟩ (.string r3)) := below_set (below_set (below_set HB.out GE14.out) GE14.out) GE14.out
  have n0_ := Aside0.mk m2_
  have n1_ := Aside0.mk (HR.out.below HB2)
  have n2_ := Aside0.mk (below_step HB0.out HB2)
  have n3_ := Aside0.mk (KeepBut.of_below HB2 gd (Value.slice AH nH cH).ownBlock)
  clear m0_ m1_ m2_ HB2 HB HB0 HR BK14 hc14_0 hf14_0 hc14_1 hf14_1 hc14_2 hf14_2
  generalize (((w14.setCell ⟨g14, 0, none⟩ (.string r1)).setCell ⟨g14, 1, none⟩ (.int .i64 r2)).setCell ⟨g14, 2, none⟩ (.string r3)) = w15 at n0_ n1_ n2_ n3_ ⊢
  have BK14 := n0_
  have HR := n1_
  have HB0 := n2_
  have HKB := n3_
  clear n0_ n1_ n2_ n3_
  have k0 : w15.cell? ⟨g14, 0, none⟩ = some (.string r1) := (blk_cell BK14.out 0).trans rfl
  have k1 : w15.cell? ⟨g14, 1, none⟩ = some (.int .i64 r2) := (blk_cell BK14.out 1).trans rfl
  have k2 : w15.cell? ⟨g14, 2, none⟩ = some (.string r3) := (blk_cell BK14.out 2).trans rfl
  have q0 := HR.out.d0
  have q1 := HR.out.d1
  have q2 := HR.out.d2
  have f0 := blk_frozen HR.out.dbox 0
  have f1 := blk_frozen HR.out.dbox 1
  have f2 := blk_frozen HR.out.dbox 2
  go_upto_region 10 with (fail)
  have n1_ := Aside0.mk (HR.out.updated r1 r2 r3)
  have n2_ : Aside0 (Below w0.heap.size w0 (((w15.setCell ⟨gd, 0, none⟩ (.string r1)).setCell ⟨gd, 1, none⟩ (.int .i64 r2)).setCell ⟨gd, 2, none⟩ (.string r3))) := Aside0.mk (below_set (below_set (below_set HB0.out HR.out.oge) HR.out.oge) HR.out.oge)
  have n3_ : Aside0 (KeepBut W (((w15.setCell ⟨gd, 0, none⟩ (.string r1)).setCell ⟨gd, 1, none⟩ (.int .i64 r2)).setCell ⟨gd, 2, none⟩ (.string r3)) gd (Value.slice AH nH cH).ownBlock) := Aside0.mk (((HKB.out.set_ 0 _).set_ 1 _).set_ 2 _)
  clear HR HB0 HKB BK14 k0 k1 k2 q0 q1 q2 f0 f1 f2
  generalize (((w15.setCell ⟨gd, 0, none⟩ (.string r1)).setCell ⟨gd, 1, none⟩ (.int .i64 r2)).setCell ⟨gd, 2, none⟩ (.string r3)) = wq at n1_ n2_ n3_ ⊢
  have HR := n1_
  have HB0 := n2_
  have HKB := n3_
  clear n1_ n2_ n3_
  refine start_ (n := 12) (S := fun w' => w'.cell? ⟨gd, 3, none⟩ = some (.slice AH nH cH)) (ds := [11]) #[false, false, false, false, false, false, false, false, false, false, false, false] (by kernel_rfl) rfl rfl ((HR.out.below (below_drew1 (Below.refl wq.heap.size wq))).d3) (fun hHeld => ?_)
  have hb := below_drew1 (Below.refl wq.heap.size wq)
  have n0_ := Aside0.mk (HR.out.below hb)
  have n1_ := Aside0.mk (below_step HB0.out hb)
  have n2_ := Aside0.mk (HKB.out.trans (KeepBut.of_below hb gd (Value.slice AH nH cH).ownBlock) (.inl rfl))
  clear HR HB0 HKB hb
  have HR := n0_
  have HB0 := n1_
  have HKB := n2_
  clear n0_ n1_ n2_
  generalize wq.drew = w3 at HR HB0 HKB hHeld ⊢
  obtain ⟨NN, hNN⟩ : ∃ NN, NN = w3.heap.size := ⟨_, rfl⟩
  have HN := Aside0.mk hNN
  clear hNN
  refine pure_ (i := 0) (N := some 51) (v := ?_) (a' := ?_) #[true, false, false, false, false, false, false, false, false, false, false, false] rfl rfl (by kernel_rfl) (fun _ _ _ h => h) (Or.inl ⟨by rfl, ?_⟩) ?_ ?_
  rotate_left
  · intro w'
    go_simp
    with_reducible rfl
  rotate_left
  · simp only [Act.put, List.setIfInBounds_toArray, List.set_cons_zero, List.set_cons_succ, i64_w, i32_w]
    rfl
  refine pure_ (i := 1) (N := some 52) (v := ?_) (a' := ?_) #[true, true, false, false, false, false, false, false, false, false, false, false] rfl rfl (by kernel_rfl) (fun _ _ _ h => h) (Or.inl ⟨by rfl, ?_⟩) ?_ ?_
  rotate_left
  · intro w'
    go_simp
    with_reducible rfl
  rotate_left
  · simp only [Act.put, List.setIfInBounds_toArray, List.set_cons_zero, List.set_cons_succ, i64_w, i32_w]
    rfl
  refine pure_ (i := 2) (N := some 53) (v := ?_) (a' := ?_) #[true, true, true, false, false, false, false, false, false, false, false, false] rfl rfl (by kernel_rfl) (fun _ _ _ h => h) (Or.inl ⟨by rfl, ?_⟩) ?_ ?_
  rotate_left
  · intro w'
    go_simp
    with_reducible rfl
  rotate_left
  · simp only [Act.put, List.setIfInBounds_toArray, List.set_cons_zero, List.set_cons_succ, i64_w, i32_w]
    rfl
  refine pure_ (i := 3) (N := some 54) (v := ?_) (a' := ?_) #[true, true, true, true, false, false, false, false, false, false, false, false] rfl rfl (by kernel_rfl) (fun _ _ _ h => h) (Or.inl ⟨by rfl, ?_⟩) ?_ ?_
  rotate_left
  · intro w'
    go_simp
    with_reducible rfl
  rotate_left
  · simp only [Act.put, List.setIfInBounds_toArray, List.set_cons_zero, List.set_cons_succ, i64_w, i32_w]
    rfl
  refine take_ (i := 4) (N := some 55) (v := ?_) (a' := ?_) #[true, true, true, true, true, false, false, false, false, false, false, false] rfl rfl (by kernel_rfl) (fun _ _ _ h => h) (Or.inl ⟨by rfl, ?_⟩) hHeld ?_ ?_
  rotate_left
  · rintro w' s0
    go_simp
    with_reducible rfl
  rotate_left
  · simp only [Act.put, List.setIfInBounds_toArray, List.set_cons_zero, List.set_cons_succ, i64_w, i32_w]
    rfl
  refine pure_ (i := 5) (N := some 56) (v := ?_) (a' := ?_) #[true, true, true, true, true, true, false, false, false, false, false, false] rfl rfl (by kernel_rfl) (fun _ _ _ h => h) (Or.inl ⟨by rfl, ?_⟩) ?_ ?_
  rotate_left
  · intro w'
    go_simp
    with_reducible rfl
  rotate_left
  · simp only [Act.put, List.setIfInBounds_toArray, List.set_cons_zero, List.set_cons_succ, i64_w, i32_w]
    rfl
  refine one_ (i := 6) (N := some 57) #[true, true, true, true, true, true, true, false, false, false, false, false] rfl rfl (by kernel_rfl) (by decide) (fun K hK => ?_)
  refine goes_ Try.func24 (by kernel_rfl) rfl #[.slice A l.length c] (by rfl) rfl rfl (by (try simp only [List.map_toArray, List.map_cons, List.map_nil]); first | done | rfl) ?_
  refine (clone24 A c l _ (HE.out _ HKB.out) HEC.out HL5.out).mono ?_
  rintro e_ wc ⟨vc, rfl, hvc, hb⟩
  refine ⟨_, rfl, ?_⟩
  obtain ⟨Ac, nc, cc, rfl⟩ : ∃ A n c, vc = .slice A n c := by obtain ⟨A, c, e⟩ := Kd.R_slice hvc; exact ⟨A, _, c, e⟩
  have HVC := Aside0.mk (show Kd.R k56 56 wc w0.heap.size (fun k => NN ≤ k) (.slice Ac nc cc) l from Kd.R_lower (Kd.R_mono (Kd.R_bound hvc) (fun k hk => by rw [HN.out]; exact hk.2.1)) HB0.out.size)
  have HSO := Aside0.mk (show Kd.S (Kd.slice 56 k56) 42 wc w0.heap.size (fun k => True ∧ ¬ NN ≤ k) (.slice AH nH cH) hist from Kd.S_mono (Kd.S_old HR.out.his hb) (fun k hk => ⟨trivial, by have h_ := hk.2; rw [HN.out]; omega⟩))
  have HVL := Aside0.mk (show ∀ k, (Value.slice AH nH cH).ownBlock = some k → k < NN from fun k hk => by rw [HN.out]; exact Kd.S_lt HR.out.his k hk)
  have n0_ := Aside0.mk (HR.out.below hb)
  have n1_ := Aside0.mk (below_step HB0.out hb)
  have n2_ := Aside0.mk (HKB.out.trans (KeepBut.of_below hb gd (Value.slice AH nH cH).ownBlock) (.inl rfl))
  have NW := Aside0.mk (show NN ≤ wc.heap.size from by rw [HN.out]; exact hb.size)
  clear HR HB0 HKB hb hvc
  have HR := n0_
  have HB0 := n1_
  have HKB := n2_
  clear n0_ n1_ n2_
  refine hK.out _ _ (HR.out.d3) (fun hHeld => ?_)
  clear hK K
  refine norm_ (a' := ?_) ?_ ?_
  rotate_left
  · show Act.put _ (some 57) _ = _
    simp only [Act.put, List.setIfInBounds_toArray, List.set_cons_zero, List.set_cons_succ, i64_w, i32_w]
    rfl
  refine one_ (i := 7) (N := some 58) #[true, true, true, true, true, true, true, true, false, false, false, false] rfl rfl (by kernel_rfl) (by decide) (fun K hK => ?_)
  refine value_ (w1 := wc.alloc (.cells #[.slice Ac nc cc] 42 (0, 0))) (v := .slice (some ⟨wc.heap.size, 0, none⟩) 1 1) (by rfl) rfl ?_ ?_
  · go_simp
    try rfl
  refine hK.out _ _ ((HR.out.below (below_alloc (Below.refl wc.heap.size wc) _)).d3) (fun hHeld => ?_)
  clear hK K
  refine norm_ (a' := ?_) ?_ ?_
  rotate_left
  · show Act.put _ (some 58) _ = _
    simp only [Act.put, List.setIfInBounds_toArray, List.set_cons_zero, List.set_cons_succ, i64_w, i32_w]
    rfl
  refine one_ (i := 8) (N := some 59) #[true, true, true, true, true, true, true, true, true, false, false, false] rfl rfl (by kernel_rfl) (by decide) (fun K hK => ?_)
  refine Kd.S_append_step (Kd.slice 56 k56) (w0 := w0) (W := wc) w0.heap.size (by rfl) (.tmp 55) (.tmp 58) 23 42 (.slice none 0 0) 24 rfl Try.underlying23 info42 rfl (show 0 < 1 by decide) (by omega) (.slice AH nH cH) hist l [.slice Ac nc cc] (fun _ => True) (fun k => NN ≤ k) rfl rfl ⟨_, rfl, HVC.out⟩ (fun k hk => ⟨trivial, fun e_ => by have h_ := HVL.out k e_.symm; omega⟩) (fun _ _ => trivial) HSO.out HB0.out HB0.out.size (by have h_ := HLH.out; omega) ?_
  intro v1 w8 ho hb hg hat
  obtain ⟨gH, c1, hv1, _, _, _⟩ := Kd.S_form ho (by simp)
  obtain ⟨n1, hn1⟩ : ∃ n1, n1 = (hist ++ [l]).length := ⟨_, rfl⟩
  rw [← hn1] at hv1
  subst hv1
  have HN1 := Aside0.mk hn1
  have hj := HR.out.appended hg ho
  have HJ := Aside0.mk hj
  have n1_ := Aside0.mk (below_set (j := 3) (v := .slice (some ⟨gH, 0, none⟩) n1 c1) hb HR.out.oge)
  have n2_ := Aside0.mk ((HKB.out.trans (KeepBut.of_grown hg gd) (.inl rfl)).set_ 3 (.slice (some ⟨gH, 0, none⟩) n1 c1))
  have b1 := blk_grown HR.out.dbox hg (Kd.S_ne HR.out.his HR.out.dbox (by decide))
  have hce : w8.cell? ⟨gd, 3, none⟩ = some (.slice AH nH cH) := (blk_cell b1 3).trans rfl
  have hfe : w8.frozen? ⟨gd, 3, none⟩ = false := blk_frozen b1 3
  clear HR HB0 HKB HSO HVC HVL hb hg hat ho hj hn1 b1
  have HB0 := n1_
  have HKB := n2_
  clear n1_ n2_
  refine hK.out _ _ hce (fun hHeld => ?_)
  clear hK K
  refine norm_ (a' := ?_) ?_ ?_
  rotate_left
  · show Act.put _ (some 59) _ = _
    simp only [Act.put, List.setIfInBounds_toArray, List.set_cons_zero, List.set_cons_succ, i64_w, i32_w]
    rfl
  refine pure_ (i := 9) (N := some 60) (v := ?_) (a' := ?_) #[true, true, true, true, true, true, true, true, true, true, false, false] rfl rfl (by kernel_rfl) (fun _ _ _ h => h) (Or.inl ⟨by rfl, ?_⟩) ?_ ?_
  rotate_left
  · intro w'
    go_simp
    with_reducible rfl
  rotate_left
  · simp only [Act.put, List.setIfInBounds_toArray, List.set_cons_zero, List.set_cons_succ, i64_w, i32_w]
    rfl
  refine pure_ (i := 10) (N := some 61) (v := ?_) (a' := ?_) #[true, true, true, true, true, true, true, true, true, true, true, false] rfl rfl (by kernel_rfl) (fun _ _ _ h => h) (Or.inl ⟨by rfl, ?_⟩) ?_ ?_
  rotate_left
  · intro w'
    go_simp
    with_reducible rfl
  rotate_left
  · simp only [Act.put, List.setIfInBounds_toArray, List.set_cons_zero, List.set_cons_succ, i64_w, i32_w]
    rfl
  refine last_ (i := 11) (N := none) #[true, true, true, true, true, true, true, true, true, true, true, true] rfl rfl (by kernel_rfl) (by decide) (fun K hK => ?_)
  refine skip_ (w1 := w8.setCell ⟨gd, 3, none⟩ (.slice (some ⟨gH, 0, none⟩) n1 c1)) (by rfl) rfl ?_ ?_
  · go_simp
    try rfl
  have HR := HJ
  clear HJ hce hfe HN NW
  generalize (w8.setCell ⟨gd, 3, none⟩ (.slice (some ⟨gH, 0, none⟩) n1 c1)) = w9 at HR HB0 HKB ⊢
  refine hK.out _ _ ?_
  clear hK K
  refine done_ (by kernel_rfl) ?_
  try clear hHeld
  go_wp2_with fail
  refine start_ (n := 16) (S := fun w' => w'.cell? ⟨gd, 3, none⟩ = some (.slice (some ⟨gH, 0, none⟩) n1 c1)) (ds := [15]) #[false, false, false, false, false, false, false, false, false, false, false, false, false, false, false, false] (by kernel_rfl) rfl rfl ((HR.out.below (below_drew1 (Below.refl w9.heap.size w9))).d3) (fun hHeld => ?_)
  have hb := below_drew1 (Below.refl w9.heap.size w9)
  have n0_ := Aside0.mk (HR.out.below hb)
  have n1_ := Aside0.mk (below_step HB0.out hb)
  have n2_ := Aside0.mk (HKB.out.trans (KeepBut.of_below hb gd (Value.slice AH nH cH).ownBlock) (.inl rfl))
  clear HR HB0 HKB hb
  have HR := n0_
  have HB0 := n1_
  have HKB := n2_
  clear n0_ n1_ n2_
  generalize w9.drew = w10 at HR HB0 HKB hHeld ⊢
  have b50 : (n1 : Int) ≤ 50 := by have h1_ := HN1.out; rw [List.length_append, List.length_singleton] at h1_; have h2_ := HLH.out; omega
  have b51 : 0 ≤ (n1 : Int) := Int.natCast_nonneg _
  have b52 : ((0 : Int) < wrap64 ((n1 : Int) - 50)) = False := eq_false (by rw [w64_ (by omega) (by omega)]; omega)
  have b53 : (c1 = 0) = False := eq_false (fun e => by have h_ := (Kd.S_reads' HR.out.his).2.1; have h1_ := HN1.out; rw [List.length_append, List.length_singleton] at h1_; omega)
  refine pure_ (i := 0) (N := some 62) (v := ?_) (a' := ?_) #[true, false, false, false, false, false, false, false, false, false, false, false, false, false, false, false] rfl rfl (by kernel_rfl) (fun _ _ _ h => h) (Or.inl ⟨by rfl, ?_⟩) ?_ ?_
  rotate_left
  · intro w'
    go_simp
    with_reducible rfl
  rotate_left
  · simp only [Act.put, List.setIfInBounds_toArray, List.set_cons_zero, List.set_cons_succ, i64_w, i32_w]
    rfl
  refine pure_ (i := 1) (N := some 63) (v := ?_) (a' := ?_) #[true, true, false, false, false, false, false, false, false, false, false, false, false, false, false, false] rfl rfl (by kernel_rfl) (fun _ _ _ h => h) (Or.inl ⟨by rfl, ?_⟩) ?_ ?_
  rotate_left
  · intro w'
    go_simp
    with_reducible rfl
  rotate_left
  · simp only [Act.put, List.setIfInBounds_toArray, List.set_cons_zero, List.set_cons_succ, i64_w, i32_w]
    rfl
  refine pure_ (i := 2) (N := some 64) (v := ?_) (a' := ?_) #[true, true, true, false, false, false, false, false, false, false, false, false, false, false, false, false] rfl rfl (by kernel_rfl) (fun _ _ _ h => h) (Or.inl ⟨by rfl, ?_⟩) ?_ ?_
  rotate_left
  · intro w'
    go_simp
    with_reducible rfl
  rotate_left
  · simp only [Act.put, List.setIfInBounds_toArray, List.set_cons_zero, List.set_cons_succ, i64_w, i32_w]
    rfl
  refine pure_ (i := 3) (N := some 65) (v := ?_) (a' := ?_) #[true, true, true, true, false, false, false, false, false, false, false, false, false, false, false, false] rfl rfl (by kernel_rfl) (fun _ _ _ h => h) (Or.inl ⟨by rfl, ?_⟩) ?_ ?_
  rotate_left
  · intro w'
    go_simp
    with_reducible rfl
  rotate_left
  · simp only [Act.put, List.setIfInBounds_toArray, List.set_cons_zero, List.set_cons_succ, i64_w, i32_w]
    rfl
  refine take_ (i := 4) (N := some 66) (v := ?_) (a' := ?_) #[true, true, true, true, true, false, false, false, false, false, false, false, false, false, false, false] rfl rfl (by kernel_rfl) (fun _ _ _ h => h) (Or.inl ⟨by rfl, ?_⟩) hHeld ?_ ?_
  rotate_left
  · rintro w' s0
    go_simp
    with_reducible rfl
  rotate_left
  · simp only [Act.put, List.setIfInBounds_toArray, List.set_cons_zero, List.set_cons_succ, i64_w, i32_w]
    rfl
  refine pure_ (i := 5) (N := some 67) (v := ?_) (a' := ?_) #[true, true, true, true, true, true, false, false, false, false, false, false, false, false, false, false] rfl rfl (by kernel_rfl) (fun _ _ _ h => h) (Or.inl ⟨by rfl, ?_⟩) ?_ ?_
  rotate_left
  · intro w'
    go_simp
    with_reducible rfl
  rotate_left
  · simp only [Act.put, List.setIfInBounds_toArray, List.set_cons_zero, List.set_cons_succ, i64_w, i32_w]
    rfl
  refine pure_ (i := 6) (N := some 68) (v := ?_) (a' := ?_) #[true, true, true, true, true, true, true, false, false, false, false, false, false, false, false, false] rfl rfl (by kernel_rfl) (fun _ _ _ h => h) (Or.inl ⟨by rfl, ?_⟩) ?_ ?_
  rotate_left
  · intro w'
    go_simp
    with_reducible rfl
  rotate_left
  · simp only [Act.put, List.setIfInBounds_toArray, List.set_cons_zero, List.set_cons_succ, i64_w, i32_w]
    rfl
  refine pure_ (i := 7) (N := some 69) (v := ?_) (a' := ?_) #[true, true, true, true, true, true, true, true, false, false, false, false, false, false, false, false] rfl rfl (by kernel_rfl) (fun _ _ _ h => h) (Or.inl ⟨by rfl, ?_⟩) ?_ ?_
  rotate_left
  · intro w'
    go_simp
    with_reducible rfl
  rotate_left
  · simp only [Act.put, List.setIfInBounds_toArray, List.set_cons_zero, List.set_cons_succ, i64_w, i32_w]
    rfl
  refine take_ (i := 8) (N := some 70) (v := ?_) (a' := ?_) #[true, true, true, true, true, true, true, true, true, false, false, false, false, false, false, false] rfl rfl (by kernel_rfl) (fun _ _ _ h => h) (Or.inl ⟨by rfl, ?_⟩) hHeld ?_ ?_
  rotate_left
  · rintro w' s0
    go_simp
    with_reducible rfl
  rotate_left
  · simp only [Act.put, List.setIfInBounds_toArray, List.set_cons_zero, List.set_cons_succ, i64_w, i32_w]
    rfl
  refine pure_ (i := 9) (N := some 71) (v := ?_) (a' := ?_) #[true, true, true, true, true, true, true, true, true, true, false, false, false, false, false, false] rfl rfl (by kernel_rfl) (fun _ _ _ h => h) (Or.inl ⟨by rfl, ?_⟩) ?_ ?_
  rotate_left
  · intro w'
    go_simp
    with_reducible rfl
  rotate_left
  · simp only [Act.put, List.setIfInBounds_toArray, List.set_cons_zero, List.set_cons_succ, i64_w, i32_w]
    rfl
  refine pure_ (i := 10) (N := some 72) (v := ?_) (a' := ?_) #[true, true, true, true, true, true, true, true, true, true, true, false, false, false, false, false] rfl rfl (by kernel_rfl) (fun _ _ _ h => h) (Or.inl ⟨by rfl, ?_⟩) ?_ ?_
  rotate_left
  · intro w'
    go_simp
    with_reducible rfl
  rotate_left
  · simp only [Act.put, List.setIfInBounds_toArray, List.set_cons_zero, List.set_cons_succ, i64_w, i32_w]
    rfl
  refine pure_ (i := 11) (N := some 73) (v := ?_) (a' := ?_) #[true, true, true, true, true, true, true, true, true, true, true, true, false, false, false, false] rfl rfl (by kernel_rfl) (fun _ _ _ h => h) (Or.inl ⟨by rfl, ?_⟩) ?_ ?_
  rotate_left
  · intro w'
    go_simp
    with_reducible rfl
  rotate_left
  · simp only [Act.put, List.setIfInBounds_toArray, List.set_cons_zero, List.set_cons_succ, i64_w, i32_w]
    rfl
  refine pure_ (i := 12) (N := some 74) (v := ?_) (a' := ?_) #[true, true, true, true, true, true, true, true, true, true, true, true, true, false, false, false] rfl rfl (by kernel_rfl) (fun _ _ _ h => h) (Or.inl ⟨by rfl, ?_⟩) ?_ ?_
  rotate_left
  · intro w'
    go_simp
    with_reducible rfl
  rotate_left
  · simp only [Act.put, List.setIfInBounds_toArray, List.set_cons_zero, List.set_cons_succ, i64_w, i32_w]
    rfl
  refine pure_ (i := 13) (N := some 75) (v := ?_) (a' := ?_) #[true, true, true, true, true, true, true, true, true, true, true, true, true, true, false, false] rfl rfl (by kernel_rfl) (fun _ _ _ h => h) (Or.inl ⟨by rfl, ?_⟩) ?_ ?_
  rotate_left
  · intro w'
    go_simp
    with_reducible rfl
  rotate_left
  · simp only [Act.put, List.setIfInBounds_toArray, List.set_cons_zero, List.set_cons_succ, i64_w, i32_w]
    rfl
  refine pure_ (i := 14) (N := some 76) (v := ?_) (a' := ?_) #[true, true, true, true, true, true, true, true, true, true, true, true, true, true, true, false] rfl rfl (by kernel_rfl) (fun _ _ _ h => h) (Or.inl ⟨by rfl, ?_⟩) ?_ ?_
  rotate_left
  · intro w'
    go_simp
    with_reducible rfl
  rotate_left
  · simp only [Act.put, List.setIfInBounds_toArray, List.set_cons_zero, List.set_cons_succ, i64_w, i32_w]
    rfl
  refine last_ (i := 15) (N := none) #[true, true, true, true, true, true, true, true, true, true, true, true, true, true, true, true] rfl rfl (by kernel_rfl) (by decide) (fun K hK => ?_)
  have hce : w10.cell? ⟨gd, 3, none⟩ = some (.slice (some ⟨gH, 0, none⟩) n1 c1) := HR.out.d3
  have hfe : w10.frozen? ⟨gd, 3, none⟩ = false := blk_frozen HR.out.dbox 3
  refine skip_ (w1 := w10.setCell ⟨gd, 3, none⟩ (.slice (some ⟨gH, 0, none⟩) n1 c1)) (by rfl) rfl ?_ ?_
  · go_simp
    try rfl
  have n0_ := Aside0.mk HR.out.stored
  have n1_ := Aside0.mk (below_set (j := 3) (v := .slice (some ⟨gH, 0, none⟩) n1 c1) HB0.out HR.out.oge)
  have n2_ := Aside0.mk (HKB.out.set_ 3 (.slice (some ⟨gH, 0, none⟩) n1 c1))
  clear HR HB0 HKB hce hfe b50 b51 b52 b53
  have HR := n0_
  have HB0 := n1_
  have HKB := n2_
  clear n0_ n1_ n2_
  generalize (w10.setCell ⟨gd, 3, none⟩ (.slice (some ⟨gH, 0, none⟩) n1 c1)) = w11 at HR HB0 HKB ⊢
  refine hK.out _ _ ?_
  clear hK K
  refine done_ (by kernel_rfl) ?_
  try clear hHeld

  have q4 := HR.out.d4
  have HRL := Aside0.mk HC.out.2.2.2
  go_wp2
  go_loopg [15, 82] rd.length (fun kq v15 v82 w' => ∃ x : Int, v82 = .int .i64 x ∧ Aside0 (∃ i : Nat, x = i ∧ i + kq = rd.length ∧ Kd.S k48 48 w' w0.heap.size (fun k => W.heap.size ≤ k) v15 (upd client nm r2 l (rd.take i))) ∧ Aside0 (Rm w0.heap.size gr gD gd cD vC (Value.slice (some { block := gH, off := 0 }) n1 c1) (.slice Ar rd.length cR) r1 r2 r3 (hist ++ [l]) rd cl w') ∧ Aside0 (Below w0.heap.size w0 w') ∧ Aside0 (KeepBut W w' gd (Value.slice AH nH cH).ownBlock))
  case atStart => exact ⟨0, rfl, ⟨⟨0, rfl, by omega, Kd.S_nil _ _ _ _ _⟩⟩, HR, HB0, HKB⟩
  case round =>
    clear HR HB0 HKB q4
    obtain ⟨x, rfl, HX, HR, HB0, HKB⟩ := hrel
    obtain ⟨i, e1, e2, hU⟩ := HX.out
    clear HX
    obtain ⟨A5, n5, c5, rfl⟩ : ∃ A n c, u15 = .slice A n c := by obtain ⟨A, c, e⟩ := Kd.S_slice hU; exact ⟨A, _, c, e⟩
    have HU := Aside0.mk hU
    clear hU
    by_cases c : x < (rd.length : Int)
    · have c1 : decide (x < (rd.length : Int)) = true := decide_eq_true c
      have hil : i < rd.length := by omega
      obtain ⟨k1, rfl⟩ : ∃ k1, gk = k1 + 1 := ⟨gk - 1, by omega⟩
      have E1 := Aside0.mk (And.intro e1 e2)
      have p1 : 0 ≤ (x : Int) := by omega
      obtain ⟨ad, ea, hx0⟩ := Kd.at_int (Kd.R_reads' HR.out.rds).2.2 x p1 c
      cases ea
      obtain ⟨y, hy⟩ : ∃ y, y = Go.Proofs.YtficalhfbopjbaaW.PrintWords.rd rd x := ⟨_, rfl⟩
      rw [← hy] at hx0
      have hyi : y = rd[i] := by rw [hy, e1]; simp [Go.Proofs.YtficalhfbopjbaaW.PrintWords.rd, hil]
      have HUL := Aside0.mk (show (upd client nm r2 l (rd.take i)).length ≤ 1000 from Nat.le_trans (upd_len _ _ _ _ _) (by rw [List.length_take]; have h_ := HRL.out; omega))
      replace p1 := eq_true p1
      have q1 := eq_true c
      clear e1 e2 c hy
      by_cases hyc : y = client
      · have f1 : (y != client) = false := bne_eq_false_iff_eq.2 hyc
        have UN := Aside0.mk (upd_no client nm r2 l rd i hil (hyi ▸ hyc))
        clear hyc hyi
        go_wp2
        go_roundg k1
        case measure => have := E1.out; omega
        case rel => exact ⟨wrap64 (x + 1), rfl, ⟨⟨i + 1, by have := E1.out; rw [w64_ (by omega) (by have := HRL.out; omega)]; omega, by have := E1.out; omega, by rw [UN.out]; exact HU.out⟩⟩, HR, HB0, HKB⟩
      · have f1 : (y != client) = true := bne_iff_ne.2 hyc
        have UY := Aside0.mk (show upd client nm r2 l (rd.take (i + 1)) = upd client nm r2 l (rd.take i) ++ [⟨y, client, nm, r2, l⟩] from by rw [hyi]; exact upd_yes client nm r2 l rd i hil (hyi ▸ hyc))
        clear hyc hyi
        go_wp2_with fail
        refine start_ (n := 15) (S := fun w' => w'.cell? ⟨gd, 1, none⟩ = some (.int .i64 r2)) (ds := []) #[false, false, false, false, false, false, false, false, false, false, false, false, false, false, false] (by kernel_rfl) rfl rfl ((HR.out.below (below_drew1 (Below.refl wr.heap.size wr))).d1) (fun hHeld => ?_)
        have hb := below_drew1 (Below.refl wr.heap.size wr)
        have n0_ := Aside0.mk (HR.out.below hb)
        have n1_ := Aside0.mk (below_step HB0.out hb)
        have n2_ := Aside0.mk (HKB.out.trans (KeepBut.of_below hb gd (Value.slice AH nH cH).ownBlock) (.inl rfl))
        have n3_ := Aside0.mk (Kd.S_below HU.out hb)
        clear HR HB0 HKB HU hb
        have HR := n0_
        have HB0 := n1_
        have HKB := n2_
        have HU := n3_
        clear n0_ n1_ n2_ n3_
        generalize wr.drew = w3' at HR HB0 HKB HU hHeld ⊢
        obtain ⟨NN, hNN⟩ : ∃ NN, NN = w3'.heap.size := ⟨_, rfl⟩
        have HN := Aside0.mk hNN
        clear hNN
        refine pure_ (i := 0) (N := some 89) (v := ?_) (a' := ?_) #[true, false, false, false, false, false, false, false, false, false, false, false, false, false, false] rfl rfl (by kernel_rfl) (fun _ _ _ h => h) (Or.inl ⟨by rfl, ?_⟩) ?_ ?_
        rotate_left
        · intro w'
          go_simp
          with_reducible rfl
        rotate_left
        · simp only [Act.put, List.setIfInBounds_toArray, List.set_cons_zero, List.set_cons_succ, i64_w, i32_w]
          rfl
        refine pure_ (i := 1) (N := some 90) (v := ?_) (a' := ?_) #[true, true, false, false, false, false, false, false, false, false, false, false, false, false, false] rfl rfl (by kernel_rfl) (fun _ _ _ h => h) (Or.inl ⟨by rfl, ?_⟩) ?_ ?_
        rotate_left
        · intro w'
          go_simp
          with_reducible rfl
        rotate_left
        · simp only [Act.put, List.setIfInBounds_toArray, List.set_cons_zero, List.set_cons_succ, i64_w, i32_w]
          rfl
        refine pure_ (i := 2) (N := some 91) (v := ?_) (a' := ?_) #[true, true, true, false, false, false, false, false, false, false, false, false, false, false, false] rfl rfl (by kernel_rfl) (fun _ _ _ h => h) (Or.inl ⟨by rfl, ?_⟩) ?_ ?_
        rotate_left
        · intro w'
          go_simp
          with_reducible rfl
        rotate_left
        · simp only [Act.put, List.setIfInBounds_toArray, List.set_cons_zero, List.set_cons_succ, i64_w, i32_w]
          rfl
        refine pure_ (i := 3) (N := some 92) (v := ?_) (a' := ?_) #[true, true, true, true, false, false, false, false, false, false, false, false, false, false, false] rfl rfl (by kernel_rfl) (fun _ _ _ h => h) (Or.inl ⟨by rfl, ?_⟩) ?_ ?_
        rotate_left
        · intro w'
          go_simp
          with_reducible rfl
        rotate_left
        · simp only [Act.put, List.setIfInBounds_toArray, List.set_cons_zero, List.set_cons_succ, i64_w, i32_w]
          rfl
        refine pure_ (i := 4) (N := some 93) (v := ?_) (a' := ?_) #[true, true, true, true, true, false, false, false, false, false, false, false, false, false, false] rfl rfl (by kernel_rfl) (fun _ _ _ h => h) (Or.inl ⟨by rfl, ?_⟩) ?_ ?_
        rotate_left
        · intro w'
          go_simp
          with_reducible rfl
        rotate_left
        · simp only [Act.put, List.setIfInBounds_toArray, List.set_cons_zero, List.set_cons_succ, i64_w, i32_w]
          rfl
        refine pure_ (i := 5) (N := some 94) (v := ?_) (a' := ?_) #[true, true, true, true, true, true, false, false, false, false, false, false, false, false, false] rfl rfl (by kernel_rfl) (fun _ _ _ h => h) (Or.inl ⟨by rfl, ?_⟩) ?_ ?_
        rotate_left
        · intro w'
          go_simp
          with_reducible rfl
        rotate_left
        · simp only [Act.put, List.setIfInBounds_toArray, List.set_cons_zero, List.set_cons_succ, i64_w, i32_w]
          rfl
        refine pure_ (i := 6) (N := some 95) (v := ?_) (a' := ?_) #[true, true, true, true, true, true, true, false, false, false, false, false, false, false, false] rfl rfl (by kernel_rfl) (fun _ _ _ h => h) (Or.inl ⟨by rfl, ?_⟩) ?_ ?_
        rotate_left
        · intro w'
          go_simp
          with_reducible rfl
        rotate_left
        · simp only [Act.put, List.setIfInBounds_toArray, List.set_cons_zero, List.set_cons_succ, i64_w, i32_w]
          rfl
        refine pure_ (i := 7) (N := some 96) (v := ?_) (a' := ?_) #[true, true, true, true, true, true, true, true, false, false, false, false, false, false, false] rfl rfl (by kernel_rfl) (fun _ _ _ h => h) (Or.inl ⟨by rfl, ?_⟩) ?_ ?_
        rotate_left
        · intro w'
          go_simp
          with_reducible rfl
        rotate_left
        · simp only [Act.put, List.setIfInBounds_toArray, List.set_cons_zero, List.set_cons_succ, i64_w, i32_w]
          rfl
        refine take_ (i := 8) (N := some 97) (v := ?_) (a' := ?_) #[true, true, true, true, true, true, true, true, true, false, false, false, false, false, false] rfl rfl (by kernel_rfl) (fun _ _ _ h => h) (Or.inl ⟨by rfl, ?_⟩) hHeld ?_ ?_
        rotate_left
        · rintro w' s0
          go_simp
          with_reducible rfl
        rotate_left
        · simp only [Act.put, List.setIfInBounds_toArray, List.set_cons_zero, List.set_cons_succ, i64_w, i32_w]
          rfl
        refine pure_ (i := 9) (N := some 98) (v := ?_) (a' := ?_) #[true, true, true, true, true, true, true, true, true, true, false, false, false, false, false] rfl rfl (by kernel_rfl) (fun _ _ _ h => h) (Or.inl ⟨by rfl, ?_⟩) ?_ ?_
        rotate_left
        · intro w'
          go_simp
          with_reducible rfl
        rotate_left
        · simp only [Act.put, List.setIfInBounds_toArray, List.set_cons_zero, List.set_cons_succ, i64_w, i32_w]
          rfl
        refine one_ (i := 10) (N := some 99) #[true, true, true, true, true, true, true, true, true, true, true, false, false, false, false] rfl rfl (by kernel_rfl) (by decide) (fun K hK => ?_)
        refine goes_ Try.func24 (by kernel_rfl) rfl #[.slice A l.length c] (by rfl) rfl rfl (by (try simp only [List.map_toArray, List.map_cons, List.map_nil]); first | done | rfl) ?_
        refine (clone24 A c l _ (HE.out _ HKB.out) HEC.out HL5.out).mono ?_
        rintro e_ wc' ⟨vc, rfl, hvc, hb⟩
        refine ⟨_, rfl, ?_⟩
        obtain ⟨Ac, nc, cc, rfl⟩ : ∃ A n c, vc = .slice A n c := by obtain ⟨A, c, e⟩ := Kd.R_slice hvc; exact ⟨A, _, c, e⟩
        have HVC := Aside0.mk (show Kd.R k56 56 wc' w0.heap.size (fun k => NN ≤ k) (.slice Ac nc cc) l from Kd.R_lower (Kd.R_mono (Kd.R_bound hvc) (fun k hk => by rw [HN.out]; exact hk.2.1)) HB0.out.size)
        have HVL := Aside0.mk (show ∀ k, (Value.slice A5 n5 c5).ownBlock = some k → k < NN from fun k hk => by rw [HN.out]; exact Kd.S_lt HU.out k hk)
        have WN := Aside0.mk (show W.heap.size ≤ NN from by rw [HN.out]; exact HKB.out.1)
        have n3_ := Aside0.mk (show Kd.S k48 48 wc' w0.heap.size (fun k => W.heap.size ≤ k ∧ ¬ NN ≤ k) (.slice A5 n5 c5) (upd client nm r2 l (rd.take i)) from Kd.S_mono (Kd.S_old HU.out hb) (fun k hk => ⟨hk.1, by have h_ := hk.2; rw [HN.out]; omega⟩))
        have n0_ := Aside0.mk (HR.out.below hb)
        have n1_ := Aside0.mk (below_step HB0.out hb)
        have n2_ := Aside0.mk (HKB.out.trans (KeepBut.of_below hb gd (Value.slice AH nH cH).ownBlock) (.inl rfl))
        have NW := Aside0.mk (show NN ≤ wc'.heap.size from by rw [HN.out]; exact hb.size)
        clear HR HB0 HKB HU hb hvc
        have HR := n0_
        have HB0 := n1_
        have HKB := n2_
        have HU := n3_
        clear n0_ n1_ n2_ n3_
        refine hK.out _ _ (HR.out.d1) (fun hHeld => ?_)
        clear hK K
        refine norm_ (a' := ?_) ?_ ?_
        rotate_left
        · show Act.put _ (some 99) _ = _
          simp only [Act.put, List.setIfInBounds_toArray, List.set_cons_zero, List.set_cons_succ, i64_w, i32_w]
          rfl
        refine pure_ (i := 11) (N := some 100) (v := ?_) (a' := ?_) #[true, true, true, true, true, true, true, true, true, true, true, true, false, false, false] rfl rfl (by kernel_rfl) (fun _ _ _ h => h) (Or.inl ⟨by rfl, ?_⟩) ?_ ?_
        rotate_left
        · intro w'
          go_simp
          with_reducible rfl
        rotate_left
        · simp only [Act.put, List.setIfInBounds_toArray, List.set_cons_zero, List.set_cons_succ, i64_w, i32_w]
          rfl
        refine one_ (i := 12) (N := some 101) #[true, true, true, true, true, true, true, true, true, true, true, true, true, false, false] rfl rfl (by kernel_rfl) (by decide) (fun K hK => ?_)
        refine value_ (w1 := wc'.alloc (.cells #[.int .i64 y, .int .i64 client, .string nm, .int .i64 r2, .slice Ac nc cc] 48 (0, 0))) (v := .slice (some ⟨wc'.heap.size, 0, none⟩) 1 1) (by rfl) rfl ?_ ?_
        · go_simp
          try rfl
        refine hK.out _ _ ((HR.out.below (below_alloc (Below.refl wc'.heap.size wc') _)).d1) (fun hHeld => ?_)
        clear hK K
        refine norm_ (a' := ?_) ?_ ?_
        rotate_left
        · show Act.put _ (some 101) _ = _
          simp only [Act.put, List.setIfInBounds_toArray, List.set_cons_zero, List.set_cons_succ, i64_w, i32_w]
          rfl
        refine one_ (i := 13) (N := some 102) #[true, true, true, true, true, true, true, true, true, true, true, true, true, true, false] rfl rfl (by kernel_rfl) (by decide) (fun K hK => ?_)
        refine Kd.S_append_step k48 (w0 := w0) (W := wc') w0.heap.size (by rfl) (.tmp 89) (.tmp 101) 43 48 (.agg #[.int .i64 0, .int .i64 0, .string ByteArray.empty, .int .i64 0, .slice none 0 0]) 64 rfl Try.underlying43 info48 rfl (show 0 < 5 by decide) (by omega) (.slice A5 n5 c5) (upd client nm r2 l (rd.take i)) (⟨y, client, nm, r2, l⟩ : S48) [.int .i64 y, .int .i64 client, .string nm, .int .i64 r2, .slice Ac nc cc] (fun k => W.heap.size ≤ k) (fun k => NN ≤ k) rfl rfl (k48_mkM _ _ _ (⟨y, client, nm, r2, l⟩ : S48) HVC.out) (fun k hk => ⟨Nat.le_trans WN.out hk, fun e_ => by have h_ := HVL.out k e_.symm; omega⟩) (fun k hk => Nat.le_trans WN.out (Nat.le_trans NW.out hk)) HU.out HB0.out HB0.out.size (by have h_ := HUL.out; omega) ?_
        intro v1 w8' ho hb hg hat
        obtain ⟨A6, n6, c6, rfl⟩ : ∃ A n c, v1 = .slice A n c := by obtain ⟨A, c, e⟩ := Kd.S_slice ho; exact ⟨A, _, c, e⟩
        have n0_ := Aside0.mk (HR.out.grown48 hg (Kd.S_typed HU.out))
        have n1_ := Aside0.mk hb
        have n2_ := Aside0.mk (kb_grown HKB.out hg (fun k hk => (Kd.S_mono HU.out (fun _ h => h.1) |> fun h => S_ok h k hk)))
        have n3_ := Aside0.mk ho
        clear HR HB0 HKB HU HVC HVL hb hg hat ho
        have HR := n0_
        have HB0 := n1_
        have HKB := n2_
        have HU := n3_
        clear n0_ n1_ n2_ n3_
        refine hK.out _ _ (HR.out.d1) (fun hHeld => ?_)
        clear hK K
        refine norm_ (a' := ?_) ?_ ?_
        rotate_left
        · show Act.put _ (some 102) _ = _
          simp only [Act.put, List.setIfInBounds_toArray, List.set_cons_zero, List.set_cons_succ, i64_w, i32_w]
          rfl
        refine pure_ (i := 14) (N := some 15) (v := ?_) (a' := ?_) #[true, true, true, true, true, true, true, true, true, true, true, true, true, true, true] rfl rfl (by kernel_rfl) (fun _ _ _ h => h) (Or.inl ⟨by rfl, ?_⟩) ?_ ?_
        rotate_left
        · intro w'
          go_simp
          with_reducible rfl
        rotate_left
        · simp only [Act.put, List.setIfInBounds_toArray, List.set_cons_zero, List.set_cons_succ, i64_w, i32_w]
          rfl
        refine done_ (by kernel_rfl) ?_
        try clear hHeld
        go_wp2
        go_roundg k1
        case measure => have := E1.out; omega
        case rel => exact ⟨wrap64 (x + 1), rfl, ⟨⟨i + 1, by have := E1.out; rw [w64_ (by omega) (by have := HRL.out; omega)]; omega, by have := E1.out; omega, by rw [UY.out]; exact HU.out⟩⟩, HR, HB0, HKB⟩
    · have c1 : decide (x < (rd.length : Int)) = false := decide_eq_false c
      have TK := Aside0.mk (show rd.take i = rd from List.take_of_length_le (by omega))
      clear c e1 e2
      go_wp2
      go_ret2
      exact ⟨_, _, rfl, HR.out, by have h_ := HU.out; rw [TK.out] at h_; exact h_, HB0.out, HKB.out⟩
end
end Go.Proofs.Ytficalhfbopjbaa.Ds
