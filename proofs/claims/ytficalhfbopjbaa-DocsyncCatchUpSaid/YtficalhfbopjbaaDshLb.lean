/- docsync: the replicas in memory; Replica.Document as a call that lays a box. No condition. -/
import Derived.Test.YtficalhfbopjbaaDsx0
import Derived.Test.YtficalhfbopjbaaDshRp
import Derived.Test.YtficalhfbopjbaaDshEx
import Derived.Shelf.SlSortCmp.QuietGrown
import Derived.Deep.QuietTactic
import Derived.RangeFuncNested
import Derived.RangeFuncBound
import Derived.RangeFuncCalls
import Derived.RangeFuncLeaves
import Derived.RangeFuncBox
import Derived.Shelf.Abstract
import Derived.Shelf.RegionOpen
import Derived.WalkKit
import Derived.BigQuiet
namespace Go.Proofs.Ytficalhfbopjbaa.Ds
open Go.RowKit Go.Shelf Go.Proofs.YtficalhfbopjbaaW.PrintWords Go.Proofs.YtficalhfbopjbaaW.PrintLast Go.Proofs.YtficalhfbopjbaaW.PrintMore
open Go.Proofs.Ytficalhfbopjbaa
set_option linter.unusedVariables false
set_option linter.unusedSimpArgs false
attribute [local go_sem] Oper.semAt_some
structure S39 where
  f0 : Int
  f1 : Int
  f2 : Int
def z39 : S39 := ⟨(0 : Int), (0 : Int), (0 : Int)⟩
def k39 : Kd S39 := Kd.iso (Kd.pair (Kd.int .i64) (Kd.pair (Kd.int .i64) (Kd.int .i64))) (fun x : S39 => (x.f0, x.f1, x.f2))
theorem k39_open {w : World} {x : S39} {cs : List Value} (h : k39.K w x cs) : cs = [.int .i64 x.f0, .int .i64 x.f1, .int .i64 x.f2] := by
  obtain ⟨_, _, rfl, rfl, ⟨_, _, rfl, rfl, rfl⟩⟩ := h
  exact rfl
theorem k39_openM {w : World} {base : Nat} {ok : Nat → Prop} {x : S39} {cs : List Value} (h : k39.M w base ok x cs) : cs = [.int .i64 x.f0, .int .i64 x.f1, .int .i64 x.f2] := by
  obtain ⟨_, _, rfl, rfl, ⟨_, _, rfl, rfl, rfl⟩⟩ := h
  exact rfl
theorem k39_mk (w : World) (x : S39)  : k39.K w x [.int .i64 x.f0, .int .i64 x.f1, .int .i64 x.f2] := ⟨[.int .i64 x.f0], [.int .i64 x.f1, .int .i64 x.f2], rfl, rfl, ⟨[.int .i64 x.f1], [.int .i64 x.f2], rfl, rfl, rfl⟩⟩
theorem k39_mkM (w : World) (base : Nat) (ok : Nat → Prop) (x : S39)  : k39.M w base ok x [.int .i64 x.f0, .int .i64 x.f1, .int .i64 x.f2] := ⟨[.int .i64 x.f0], [.int .i64 x.f1, .int .i64 x.f2], rfl, rfl, ⟨[.int .i64 x.f1], [.int .i64 x.f2], rfl, rfl, rfl⟩⟩
def rd_T39 (xs : List S39) (i : Int) : S39 := xs.getD i.toNat z39
theorem at_T39 {w : World} {A : Option Addr} {n : Nat} {xs : List S39} (h : Kd.C k39 w A n xs) (i : Int) (h0 : 0 ≤ i) (h1 : i < n) : ∃ ad , A = some ad ∧ w.cell? (ad.add (i.toNat * 3)) = some (.int .i64 (rd_T39 xs i).f0) ∧ w.cell? ⟨(ad.add (i.toNat * 3)).block, (ad.add (i.toNat * 3)).off + 1, none⟩ = some (.int .i64 (rd_T39 xs i).f1) ∧ w.cell? ⟨(ad.add (i.toNat * 3)).block, (ad.add (i.toNat * 3)).off + 2, none⟩ = some (.int .i64 (rd_T39 xs i).f2) := by
  obtain ⟨ad, c, e, _, hK, hc0⟩ := Kd.C_get h z39 i h0 h1
  have hc : ∀ j u, c[j]? = some u → w.cell? (ad.add (i.toNat * 3 + j)) = some u := hc0
  obtain rfl := k39_open hK
  exact ⟨ad, e, hc 0 _ rfl, by rw [← add_field _ _ 1 (by omega)]; exact hc 1 _ rfl, by rw [← add_field _ _ 2 (by omega)]; exact hc 2 _ rfl⟩
open Go.Sort
set_option maxHeartbeats 4000000 in
set_option maxRecDepth 100000 in
theorem doc11 (g : Nat) (nm : ByteArray) (v : Int) (t : ByteArray) (W : World) (hb : W.heap[g]? = some (.cells #[.string nm, .int .i64 v, .string t] 72 (0, 0))) :
    Calls Try.prog 11 #[.pointer (some ⟨g, 0, none⟩)] W fun e w' => e = .returned (.agg #[.string nm, .int .i64 v, .string t]) ∧ ∃ q os', w' = grow (W.drewN q) os' := by
  have hu72 := Try.underlying72
  have hu30 := Try.underlying30
  have HBK := Aside0.mk hb
  have HB := Aside0.mk (below_alloc (Below.refl W.heap.size W) (.cells #[.string ⟨#[]⟩, .int .i64 0, .string ⟨#[]⟩] 30 (0, 0)))
  have hn := blk_new W (.cells #[.string ⟨#[]⟩, .int .i64 0, .string ⟨#[]⟩] 30 (0, 0))
  have hb2 := blk_below hb HB.out
  have q0 := (blk_cell hb2 0).trans (show _ = some (Value.string nm) from rfl)
  have q1 := (blk_cell hb2 1).trans (show _ = some (Value.int .i64 v) from rfl)
  have q2 := (blk_cell hb2 2).trans (show _ = some (Value.string t) from rfl)
  have c0 := (blk_cell hn 0).trans (show _ = some (Value.string ⟨#[]⟩) from rfl)
  have c1 := (blk_cell hn 1).trans (show _ = some (Value.int .i64 0) from rfl)
  have c2 := (blk_cell hn 2).trans (show _ = some (Value.string ⟨#[]⟩) from rfl)
  have f0 := blk_frozen hn 0
  have f1 := blk_frozen hn 1
  have f2 := blk_frozen hn 2
  clear hb hn hb2
  go_enter Try.func11, Try.ntmps11
  go_wp2
  have hn := blk_new W (.cells #[.string nm, .int .i64 v, .string t] 30 (0, 0))
  have e0 : (W.alloc (.cells #[.string nm, .int .i64 v, .string t] 30 (0, 0))).cell? ⟨W.heap.size, 0, none⟩ = some (.string nm) := (blk_cell hn 0).trans rfl
  have e1 : (W.alloc (.cells #[.string nm, .int .i64 v, .string t] 30 (0, 0))).cell? ⟨W.heap.size, 1, none⟩ = some (.int .i64 v) := (blk_cell hn 1).trans rfl
  have e2 : (W.alloc (.cells #[.string nm, .int .i64 v, .string t] 30 (0, 0))).cell? ⟨W.heap.size, 2, none⟩ = some (.string t) := (blk_cell hn 2).trans rfl
  refine bodyPost_ret (v := .agg #[.string nm, .int .i64 v, .string t]) ?_ rfl ⟨rfl, 0, #[.cells #[.string nm, .int .i64 v, .string t] 30 (0, 0)], ?_⟩
  · simp [results, Try.results11, go_sem, hu30, e0, e1, e2]
  · show W.alloc (.cells #[.string nm, .int .i64 v, .string t] 30 (0, 0)) = _
    rw [alloc_eq_grow]
    rfl
theorem R_keepG {α : Type} {d : Kd α} {e : TypeId} {W W' : World} {base : Nat} {ok : Nat → Prop} {v : Value} {xs : List α} {g t : Nat} {cs : Array Value} (h : Kd.R d e W base ok v xs) (hb : W.heap[g]? = some (.cells cs t (0, 0))) (ht : ∀ q, q ∈ e :: d.E → q ≠ t) (hk : KeepBut W W' g none) : Kd.R d e W' base ok v xs :=
  Kd.R_mono (Kd.R_keep (Kd.R_types h hb ht) hk (fun _ h => h.2)) (fun _ h => h.1)
theorem S_keepG {α : Type} {d : Kd α} {e : TypeId} {W W' : World} {base : Nat} {ok : Nat → Prop} {v : Value} {xs : List α} {g t : Nat} {cs : Array Value} (h : Kd.S d e W base ok v xs) (hb : W.heap[g]? = some (.cells cs t (0, 0))) (ht : ∀ q, q ∈ e :: d.E → q ≠ t) (hk : KeepBut W W' g none) : Kd.S d e W' base ok v xs :=
  Kd.S_mono (Kd.S_keep (Kd.S_types h hb ht) hk (fun _ h => h.2)) (fun _ h => h.1)
theorem Rm.keepBut {base gr gD gd cD : Nat} {vC vH vR : Value} {nm : ByteArray} {v : Int} {t : ByteArray} {hist : List (List S56)} {rd cl : List Int} {W W' : World} {g : Nat} {cs : Array Value} (h : Rm base gr gD gd cD vC vH vR nm v t hist rd cl W) (hb : W.heap[g]? = some (.cells cs 72 (0, 0))) (hk : KeepBut W W' g none) : Rm base gr gD gd cD vC vH vR nm v t hist rd cl W' := by
  obtain ⟨csD, hD, hD0⟩ := h.dcell
  exact ⟨hk.blk h.rbox (ne_types h.rbox hb (by decide)) (by simp), h.rge, ⟨csD, hk.blk hD (ne_types hD hb (by decide)) (by simp), hD0⟩, h.dge, hk.blk h.dbox (ne_types h.dbox hb (by decide)) (by simp), h.oge, S_keepG h.his hb (by decide) hk, R_keepG h.rds hb (by decide) hk, R_keepG h.cls hb (by decide) hk⟩
theorem Rm.lower {base base' gr gD gd cD : Nat} {vC vH vR : Value} {nm : ByteArray} {v : Int} {t : ByteArray} {hist : List (List S56)} {rd cl : List Int} {W : World} (h : Rm base gr gD gd cD vC vH vR nm v t hist rd cl W) (hb : base' ≤ base) : Rm base' gr gD gd cD vC vH vR nm v t hist rd cl W :=
  ⟨h.rbox, Nat.le_trans hb h.rge, h.dcell, Nat.le_trans hb h.dge, h.dbox, Nat.le_trans hb h.oge, Kd.S_lower h.his hb, Kd.R_lower h.rds hb, Kd.R_lower h.cls hb⟩
theorem Rm.keepT {base gr gD gd cD : Nat} {vC vH vR : Value} {nm : ByteArray} {v : Int} {t : ByteArray} {hist : List (List S56)} {rd cl : List Int} {W W' : World} (h : Rm base gr gD gd cD vC vH vR nm v t hist rd cl W) (hk : KeepBut W W' gd vH.ownBlock) : KeepT W W' := fun k cs t h1 h2 h3 h4 h5 hb => by
  refine (hk.2 k (blk_lt hb) (ne_types hb h.dbox h2) (fun e => ?_)).trans hb
  obtain ⟨cells, hc⟩ := Kd.S_typed h.his k e.symm
  exact ne_types hb hc h4 rfl
/-- the replicas: their row, and each one's document -/
structure Rp (w : World) (v9 : Value) (gs : List Nat) (D : Nat → S30) (W : World) : Prop where
  row : Kd.R (Kd.raw 1) 36 W w.heap.size (fun _ => True) v9 (gs.map fun g => [.pointer (some ⟨g, 0, none⟩)])
  st : ∀ i (h : i < gs.length), IsS72 w W gs[i] (D i).f0 (D i).f1 (D i).f2
  nd : gs.Nodup
theorem Rp.keepT {w : World} {v9 : Value} {gs : List Nat} {D : Nat → S30} {W W' : World} (h : Rp w v9 gs D W) (hk : KeepT W W') : Rp w v9 gs D W' :=
  ⟨R_keepT h.row (by decide) hk, fun i hi => ⟨hk _ _ 72 (by decide) (by decide) (by decide) (by decide) (by decide) (h.st i hi).1, (h.st i hi).2⟩, h.nd⟩
theorem Rp.below {w : World} {v9 : Value} {gs : List Nat} {D : Nat → S30} {W W' : World} (h : Rp w v9 gs D W) (hb : Below W.heap.size W W') : Rp w v9 gs D W' := h.keepT (KeepT.below hb)
theorem Rp.upd {w : World} {v9 : Value} {gs : List Nat} {D : Nat → S30} {W W' : World} (h : Rp w v9 gs D W) (i : Nat) (hi : i < gs.length) (d' : S30) (hI : IsS72 w W' gs[i] d'.f0 d'.f1 d'.f2) (hk : KeepBut W W' gs[i] none) : Rp w v9 gs (fun j => if j = i then d' else D j) W' :=
  ⟨R_keepG h.row (h.st i hi).1 (by decide) hk, fun j hj => by
    by_cases e : j = i
    · subst e
      simp only [if_pos]
      exact hI
    · simp only [if_neg e]
      refine ⟨hk.blk (h.st j hj).1 (fun e2 => e ?_) (by simp), (h.st j hj).2⟩
      rcases Nat.lt_trichotomy j i with h1 | h1 | h1
      · exact absurd e2 (List.pairwise_iff_getElem.1 h.nd j i hj hi h1)
      · exact h1
      · exact absurd e2.symm (List.pairwise_iff_getElem.1 h.nd i j hi hj h1), h.nd⟩
/-- where a replica's pointer lies -/
theorem Rp.at {w : World} {A : Option Addr} {n c : Nat} {gs : List Nat} {D : Nat → S30} {W : World} (h : Rp w (.slice A n c) gs D W) (i : Nat) (hi : i < gs.length) : n = gs.length ∧ ∃ ad, A = some ad ∧ W.cell? (ad.add i) = some (.pointer (some ⟨gs[i], 0, none⟩)) := by
  obtain ⟨hn, hc, hC⟩ := Kd.R_reads' h.row
  rw [List.length_map] at hn hC
  refine ⟨hn, ?_⟩
  obtain ⟨ad, e, hx⟩ := hC.2.2 (by omega)
  obtain ⟨cs, hl, hk, hcc⟩ := hx i [.pointer (some ⟨gs[i], 0, none⟩)] (by rw [List.getElem?_map, List.getElem?_eq_getElem hi]; rfl)
  obtain ⟨rfl, _, _⟩ := hk
  have := hcc 0 _ rfl
  rw [show i * (Kd.raw 1).sz + 0 = i from Nat.mul_one i] at this
  exact ⟨ad, e, this⟩
theorem apply_total (nm : ByteArray) (v : Int) (t : ByteArray) (l : List S56) (h : okE l) (h0 : -1000 ≤ v) (h1 : v ≤ 1000000) : ∃ r1 r2 r3 r4, docsync_apply.f nm v t l = some (r1, r2, r3, r4) ∧ (r4 = 0 → r1 = nm ∧ r2 = v + 1 ∧ l.length ≤ 50) := by
  obtain ⟨⟨ra, rb⟩, hA⟩ := textedit_Apply.total t l h
  unfold docsync_apply.f
  rw [hA, Option.bind_some]
  by_cases hb : rb = 0
  · rw [if_pos hb]
    have hl : l.length ≤ 50 := by
      unfold textedit_Apply.f at hA
      rw [if_pos h] at hA
      obtain ⟨z, hz⟩ := val_total t l
      rw [hz, Option.bind_some] at hA
      split at hA
      · rename_i hz0
        subst hz0
        unfold textedit_Validate.f at hz
        split at hz
        · cases hz
        · split at hz
          · cases hz
          · omega
      · rename_i hz0
        cases hA
        exact absurd hb hz0
    split
    · exact ⟨_, _, _, _, rfl, fun h => by cases h⟩
    · rw [if_neg (by omega)]
      exact ⟨_, _, _, _, rfl, fun _ => ⟨rfl, w64_ (by omega) (by omega), hl⟩⟩
  · rw [if_neg hb]
    exact ⟨_, _, _, _, rfl, fun h => absurd h hb⟩
theorem catch_one {nm : ByteArray} {v : Int} {t : ByteArray} {l : List S56} {r1 : ByteArray} {r2 : Int} {r3 : ByteArray} (h : docsync_apply.f nm v t l = some (r1, r2, r3, 0)) : docsync_Replica_CatchUp.f 3 nm v t [l] = some (0, r1, r2, r3) := by
  unfold docsync_Replica_CatchUp.f
  simp only [docsync_Replica_CatchUp.l0]
  have e1 : rd_L3 [l] 0 = l := rfl
  rw [if_pos (by simp), if_pos (by omega), if_pos (by simp), e1, h, Option.bind_some, if_pos rfl, if_neg (by simp [wrap64])]
theorem mod_is (a : Int) (n : Nat) (hn : 0 < n) (hm : n ≤ 4611686018427387904) : ∃ q : Nat, glossatorref3_Mod.f a (n : Int) = some (q : Int) ∧ q < n := by
  have hb := Int.tmod_lt_of_pos a (show (0 : Int) < (n : Int) by omega)
  have hb2 := Int.lt_tmod_of_pos a (show (0 : Int) < (n : Int) by omega)
  unfold glossatorref3_Mod.f
  rw [if_neg (by omega)]
  by_cases hs : Int.tmod a (n : Int) < 0
  · rw [if_pos hs, w64_ (by omega) (by omega)]
    exact ⟨(Int.tmod a (n : Int) + (n : Int)).toNat, by rw [Int.toNat_of_nonneg (by omega)], by omega⟩
  · rw [if_neg hs]
    exact ⟨(Int.tmod a (n : Int)).toNat, by rw [Int.toNat_of_nonneg (by omega)], by omega⟩
end Go.Proofs.Ytficalhfbopjbaa.Ds
