/- The law DocsyncConverges, walked: it returns true. Condition: the inserted texts lie within the reach. -/
import Derived.Test.YtficalhfbopjbaaDsx0
import Derived.Test.YtficalhfbopjbaaDshRp
import Derived.Test.YtficalhfbopjbaaDshLb
import Derived.Shelf.SlSortCmp.QuietGrown
import Derived.Deep.QuietTactic
import Derived.RangeFuncNested
import Derived.RangeFuncBound
import Derived.RangeFuncCalls
import Derived.RangeFuncLeaves
import Derived.RangeFuncBox
import Derived.Shelf.Abstract
import Derived.Shelf.RegionOpen
import Derived.WalkKit
import Derived.BigQuiet
namespace Go.Proofs.Ytficalhfbopjbaa.Ds
open Go.RowKit Go.Shelf Go.Proofs.YtficalhfbopjbaaW.PrintWords Go.Proofs.YtficalhfbopjbaaW.PrintLast Go.Proofs.YtficalhfbopjbaaW.PrintMore
open Go.Proofs.Ytficalhfbopjbaa
set_option linter.unusedVariables false
set_option linter.unusedSimpArgs false
attribute [local go_sem] Oper.semAt_some
attribute [local go_sem] max2_int min2_int max_two min_two
theorem info36 : (Try.prog.info? 36).map (fun i => (i.zero, i.size, i.bytes)) = some (some (.pointer none), 1, 8) := by kernel_rfl
theorem lo_d (T : ByteArray) (h : T.size ≤ 200) : longF ⟨⟨#[100]⟩, 0, T⟩ = false := by
  unfold longF
  have h2 : decide (2000 < (T.size : Int)) = false := decide_eq_false (by omega)
  show (_ || decide (2000 < (T.size : Int))) = false
  rw [h2]
  rfl
def ints (i : Nat) : List Int := (List.range i).map fun (j : Nat) => (j : Int)
theorem ints_len (i : Nat) : (ints i).length = i := by unfold ints; rw [List.length_map, List.length_range]
theorem ints_no (i : Nat) : (i : Int) ∉ ints i := by
  unfold ints
  intro h
  obtain ⟨j, hj, e⟩ := List.mem_map.1 h
  rw [List.mem_range] at hj
  omega
theorem ints_succ (i : Nat) : ints i ++ [(i : Int)] = ints (i + 1) := by
  unfold ints
  rw [List.range_succ, List.map_append]
  rfl
theorem ints_bs0 : slices_BinarySearch_int_int.f 10 [] 0 = some (0, false) := by kernel_rfl
theorem ints_bs1 : slices_BinarySearch_int_int.f 10 [0] 1 = some (1, false) := by kernel_rfl
theorem ints_bs2 : slices_BinarySearch_int_int.f 10 [0, 1] 2 = some (2, false) := by kernel_rfl
theorem ints_bs (i : Nat) (h : i < 3) : slices_BinarySearch_int_int.f 10 (ints i) (i : Int) = some (((ints i).length : Int), false) := by
  have h2 : i = 0 ∨ i = 1 ∨ i = 2 := by omega
  rcases h2 with rfl | rfl | rfl
  · exact ints_bs0
  · exact ints_bs1
  · exact ints_bs2
theorem Rm.grownT {base gr gD gd cD : Nat} {vC vH vR : Value} {nm : ByteArray} {v : Int} {t : ByteArray} {hist : List (List S56)} {rd cl : List Int} {W w1 : World} {u : Value} {ty : Nat} (h : Rm base gr gD gd cD vC vH vR nm v t hist rd cl W) (hn : ty ≠ 61 ∧ ty ≠ 62 ∧ ty ≠ 64 ∧ (∀ q, q ∈ 42 :: (Kd.slice 56 k56).E → q ≠ ty) ∧ (∀ q, q ∈ 3 :: (Kd.int .i64).E → q ≠ ty)) (hg : W.grownBy w1 u.ownBlock) (hty : ∀ k, u.ownBlock = some k → ∃ cells, W.heap[k]? = some (.cells cells ty (0, 0))) :
    Rm base gr gD gd cD vC vH vR nm v t hist rd cl w1 := by
  have ne : ∀ {g : Nat} {cs : Array Value} {t' : Nat}, W.heap[g]? = some (.cells cs t' (0, 0)) → t' ≠ ty → some g ≠ u.ownBlock := fun hb ht e => by
    obtain ⟨cells, hc⟩ := hty _ e.symm
    exact ne_types hb hc ht rfl
  obtain ⟨csD, hD, hD0⟩ := h.dcell
  exact ⟨blk_grown h.rbox hg (ne h.rbox (fun e => hn.1 e.symm)), h.rge, ⟨csD, blk_grown hD hg (ne hD (fun e => hn.2.1 e.symm)), hD0⟩, h.dge, blk_grown h.dbox hg (ne h.dbox (fun e => hn.2.2.1 e.symm)), h.oge, Kd.S_mono (Kd.S_over' h.his hty hn.2.2.2.1 hg) (fun _ h => h), Kd.R_over' h.rds hty hn.2.2.2.2 hg, Kd.R_over' h.cls hty hn.2.2.2.2 hg⟩
theorem Rp.set30 {w : World} {v9 : Value} {gs : List Nat} {D : Nat → S30} {W : World} {g ty : Nat} {cs : Array Value} (h : Rp w v9 gs D W) (hb : W.heap[g]? = some (.cells cs ty (0, 0))) (ht : ty ≠ 36 ∧ ty ≠ 72) (j : Nat) (u : Value) : Rp w v9 gs D (W.setCell ⟨g, j, none⟩ u) :=
  ⟨Kd.R_set h.row hb (fun q hq e => by
    have h_ : q ∈ ([36] : List Nat) := hq
    rw [List.mem_singleton] at h_
    exact ht.1 (e ▸ h_)) j u, fun i hi => ⟨(Below.heap_setCell W ⟨g, j, none⟩ u _ (ne_types (h.st i hi).1 hb (fun e => ht.2 e.symm))).trans (h.st i hi).1, (h.st i hi).2⟩, h.nd⟩
theorem Rp.snoc {w : World} {v9 v1 : Value} {gs : List Nat} {d : S30} {W w1 : World} {gn : Nat} (h : Rp w v9 gs (fun _ => d) W) (hg : W.grownBy w1 v9.ownBlock) (ho : Kd.R (Kd.raw 1) 36 w1 w.heap.size (fun _ => True) v1 ((gs.map fun g => [.pointer (some ⟨g, 0, none⟩)]) ++ [[.pointer (some ⟨gn, 0, none⟩)]])) (hb : W.heap[gn]? = some (.cells #[.string d.f0, .int .i64 d.f1, .string d.f2] 72 (0, 0))) (hge : w.heap.size ≤ gn) (hni : gn ∉ gs) : Rp w v1 (gs ++ [gn]) (fun _ => d) w1 := by
  have gr : ∀ {g : Nat} {cs : Array Value}, W.heap[g]? = some (.cells cs 72 (0, 0)) → w1.heap[g]? = some (.cells cs 72 (0, 0)) := fun hb => blk_grown hb hg (Kd.R_ne h.row hb (by decide))
  refine ⟨by rw [List.map_append]; exact ho, fun i hi => ?_, ?_⟩
  · rw [List.getElem_append]
    split
    · rename_i hi2
      exact ⟨gr (h.st i hi2).1, (h.st i hi2).2⟩
    · rw [List.getElem_singleton]
      exact ⟨gr hb, hge⟩
  · exact List.nodup_append.2 ⟨h.nd, by simp, fun a ha b hb2 e => by
      rw [List.mem_singleton] at hb2
      subst e hb2
      exact hni ha⟩
open Go.Sort
theorem gw_below (W : World) (q : Nat) (os : Array Obj) : Below W.heap.size W (grow (W.drewN q) os) := by
  refine ⟨rfl, rfl, rfl, by simp [grow, World.drewN], fun k hk => ?_⟩
  show (W.heap ++ os)[k]? = _
  rw [Array.getElem?_append_left hk]
theorem Rp.at' {w : World} {ad : Addr} {n c : Nat} {gs : List Nat} {D : Nat → S30} {W : World} (h : Rp w (.slice (some ad) n c) gs D W) (i : Nat) (hi : i < gs.length) : W.cell? (ad.add i) = some (.pointer (some ⟨gs.getD i 0, 0, none⟩)) := by
  obtain ⟨_, ad', e, hc⟩ := h.at i hi
  injection e with e
  subst e
  rw [hc]
  simp [hi]
theorem Rp.st' {w : World} {v9 : Value} {gs : List Nat} {D : Nat → S30} {W : World} (h : Rp w v9 gs D W) (i : Nat) (hi : i < gs.length) : IsS72 w W (gs.getD i 0) (D i).f0 (D i).f1 (D i).f2 := by
  have := h.st i hi
  simpa [hi] using this
theorem C56_heap {w W' : World} {A : Option Addr} {n : Nat} {l : List S56} (h : Kd.C k56 w A n l) (hk : ∀ k, k < w.heap.size → W'.heap[k]? = w.heap[k]?) : Kd.C k56 W' A n l :=
  ⟨h.1, h.2.1, fun h0 => by
    obtain ⟨ad, e, hx⟩ := h.2.2 h0
    refine ⟨ad, e, fun j p hj => ?_⟩
    obtain ⟨c, hl, hK, hc⟩ := hx j p hj
    refine ⟨c, hl, ?_, fun i u hu => ?_⟩
    · obtain rfl := k56_open hK
      exact k56_mk W' p
    · have h2 := hc i u hu
      exact (World.cell?_of_block (hk _ (World.block_lt_of_cell? _ _ h2))).trans h2⟩
theorem old_keep {w W W_ : World} {g : Nat} {row : Option Nat} (hb : Below w.heap.size w W) (hk : KeepBut W W_ g row) (hg : w.heap.size ≤ g) (hr : ∀ b, row = some b → w.heap.size ≤ b) : ∀ k, k < w.heap.size → W_.heap[k]? = w.heap[k]? := fun k hlt =>
  (hk.2 k (Nat.lt_of_lt_of_le hlt hb.size) (by omega) (fun e => by have := hr k e.symm; omega)).trans (hb.block k hlt)
theorem edit_at {w : World} {A : Option Addr} {n : Nat} {xs : List (List S56)} (h : Kd.C (Kd.slice 56 k56) w A n xs) (p : Nat) (hp : p < n) : ∃ ad Al cl, A = some ad ∧ w.cell? (ad.add p) = some (.slice Al (xs.getD p []).length cl) ∧ (xs.getD p []).length ≤ cl ∧ Kd.C k56 w Al (xs.getD p []).length (xs.getD p []) := by
  obtain ⟨ad, c, e, _, hK, hc0⟩ := Kd.C_get h ([] : List S56) (p : Int) (by omega) (by omega)
  rw [Int.toNat_natCast] at hK hc0
  obtain ⟨Al, cl, rfl, hl, hC⟩ := hK
  have h2 := hc0 0 _ rfl
  rw [show p * (Kd.slice 56 k56).sz + 0 = p from Nat.mul_one p] at h2
  exact ⟨ad, Al, cl, e, h2, hl, hC⟩
theorem upd_at {W : World} {base : Nat} {ok : Nat → Prop} {ad : Addr} {n cap : Nat} {us : List S48} (h : Kd.S k48 48 W base ok (.slice (some ad) n cap) us) (j : Nat) (hj : j < n) : ∃ A4 c4, W.cell? (ad.add (j * 5)) = some (.int .i64 (us.getD j z48).f0) ∧ W.cell? ⟨(ad.add (j * 5)).block, (ad.add (j * 5)).off + 1, none⟩ = some (.int .i64 (us.getD j z48).f1) ∧ W.cell? ⟨(ad.add (j * 5)).block, (ad.add (j * 5)).off + 2, none⟩ = some (.string (us.getD j z48).f2) ∧ W.cell? ⟨(ad.add (j * 5)).block, (ad.add (j * 5)).off + 3, none⟩ = some (.int .i64 (us.getD j z48).f3) ∧ W.cell? ⟨(ad.add (j * 5)).block, (ad.add (j * 5)).off + 4, none⟩ = some (.slice A4 (us.getD j z48).f4.length c4) ∧ (us.getD j z48).f4.length ≤ c4 ∧ (∀ W_ g cs, W.heap[g]? = some (.cells cs 72 (0, 0)) → KeepBut W W_ g none → Kd.C k56 W_ A4 (us.getD j z48).f4.length (us.getD j z48).f4) := by
  obtain ⟨c, hl, hM, hc0⟩ := Kd.S_get h z48 (j : Int) (by omega) (by omega)
  rw [Int.toNat_natCast] at hM hc0
  have hc : ∀ i u, c[i]? = some u → W.cell? (ad.add (j * 5 + i)) = some u := hc0
  obtain ⟨v4, rfl, hR⟩ := k48_openM hM
  obtain ⟨A4, c4, rfl⟩ := Kd.R_slice hR
  exact ⟨A4, c4, hc 0 _ rfl, by rw [← add_field _ _ 1 (by omega)]; exact hc 1 _ rfl, by rw [← add_field _ _ 2 (by omega)]; exact hc 2 _ rfl, by rw [← add_field _ _ 3 (by omega)]; exact hc 3 _ rfl, by rw [← add_field _ _ 4 (by omega)]; exact hc 4 _ rfl, (Kd.R_reads' hR).2.1, fun W_ g cs hb hk => (Kd.R_reads' (R_keepG hR hb (by decide) hk)).2.2⟩
/-- the others -/
theorem others (q : Nat) (hq : q < 3) : ∃ o0 o1 : Nat, o0 < 3 ∧ o1 < 3 ∧ o0 ≠ q ∧ o1 ≠ q ∧ o0 ≠ o1 ∧ ∀ (nm : ByteArray) (v2 : Int) (l : List S56), upd (q : Int) nm v2 l (ints 3) = [⟨o0, q, nm, v2, l⟩, ⟨o1, q, nm, v2, l⟩] := by
  have h : q = 0 ∨ q = 1 ∨ q = 2 := by omega
  rcases h with rfl | rfl | rfl
  · exact ⟨1, 2, by omega, by omega, by omega, by omega, by omega, fun _ _ _ => rfl⟩
  · exact ⟨0, 2, by omega, by omega, by omega, by omega, by omega, fun _ _ _ => rfl⟩
  · exact ⟨0, 1, by omega, by omega, by omega, by omega, by omega, fun _ _ _ => rfl⟩
def Dn (q o0 o1 : Nat) (old new : S30) (j i : Nat) : S30 := if i = q ∨ (i = o0 ∧ 1 ≤ j) ∨ (i = o1 ∧ 2 ≤ j) then new else old
theorem Rp.congr {w : World} {v9 : Value} {gs : List Nat} {D D' : Nat → S30} {W : World} (h : Rp w v9 gs D W) (he : ∀ i, i < gs.length → D i = D' i) : Rp w v9 gs D' W :=
  ⟨h.row, fun i hi => by rw [← he i hi]; exact h.st i hi, h.nd⟩
theorem mod_grown (a : Int) (n q : Nat) (h : glossatorref3_Mod.f a (n : Int) = some (q : Int)) (W : World) : Calls Try.prog 10 #[.int .i64 a, .int .i64 (n : Int)] W fun e w' => e = .returned (.int .i64 (q : Int)) ∧ ∃ q' os', w' = grow (W.drewN q') os' :=
  (glossatorref3_Mod.calls a n q W h).mono fun e w' ⟨he, hd⟩ => by
    obtain ⟨k, hk⟩ := hd.out
    exact ⟨he, k, #[], by rw [hk, grow_empty]⟩
theorem Rp.upd' {w : World} {v9 : Value} {gs : List Nat} {D : Nat → S30} {W W' : World} (h : Rp w v9 gs D W) (i : Nat) (hi : i < gs.length) (d' : S30) (hI : IsS72 w W' (gs.getD i 0) d'.f0 d'.f1 d'.f2) (hk : KeepBut W W' (gs.getD i 0) none) : Rp w v9 gs (fun j => if j = i then d' else D j) W' := by
  have e : gs.getD i 0 = gs[i] := by simp [hi]
  rw [e] at hI hk
  exact h.upd i hi d' hI hk
/-- the state between two steps -/
def Cst (w : World) (gr gD gd cD : Nat) (v9 : Value) (gs : List Nat) (i : Nat) (W : World) : Prop := ∃ vC vH vR v T hist, Rm w.heap.size gr gD gd cD vC vH vR ⟨#[100]⟩ v T hist (ints 3) (ints 3) W ∧ Rp w v9 gs (fun _ => ⟨⟨#[100]⟩, v, T⟩) W ∧ 0 ≤ v ∧ v ≤ i ∧ hist.length ≤ i
set_option maxHeartbeats 16000000 in
set_option maxRecDepth 100000 in
theorem converges (text : ByteArray) (A1 : Option Addr) (c1 : Nat) (script : List S39) (A2 : Option Addr) (c2 : Nat) (edits : List (List S56)) (w : World) (hr1 : Kd.C k39 w A1 script.length script) (hc1 : script.length ≤ c1) (hr2 : Kd.C (Kd.slice 56 k56) w A2 edits.length edits) (hc2 : edits.length ≤ c2) (ho : ∀ l ∈ edits, okE l) (hle : edits.length ≤ 4611686018427387904) :
    Calls Try.prog 3 #[.string text, .slice A1 script.length c1, .slice A2 edits.length c2] w fun e w' => e = .returned (.bool true) ∧ Below w.heap.size w w' := by
  have hu31 := Try.underlying31
  have hu30 := Try.underlying30
  have hu22 := Try.underlying22
  have hu23 := Try.underlying23
  have hu32 := Try.underlying32
  have hu36 := Try.underlying36
  have hu39 := Try.underlying39
  have hu43 := Try.underlying43
  have hu48 := Try.underlying48
  have hz30 := Try.zeroValue30
  have mixed : Try.prog.follows .mixedOrders = true := by kernel_rfl
  have eg10 : ∀ args w, (callFunc 10 args).run Try.prog w = .ok (.enter 10 args) w := enters_of Try.func10 (by kernel_rfl) rfl
  have eg11 : ∀ args w, (callFunc 11 args).run Try.prog w = .ok (.enter 11 args) w := enters_of Try.func11 (by kernel_rfl) rfl
  obtain ⟨m, hm⟩ : ∃ m, m = min text.size 200 := ⟨_, rfl⟩
  have hm1 : (if (200 : Int) < (text.size : Int) then (200 : Int) else (text.size : Int)) = (m : Int) := by split <;> omega
  have hm2 : ((m : Int) ≤ (text.size : Int)) = True := eq_true (by omega)
  have hm3 : m ≤ text.size := by omega
  have hT : (text.extract 0 m).size ≤ 200 := by rw [ByteArray.size_extract]; omega
  obtain ⟨T, hTT⟩ : ∃ T, T = text.extract 0 m := ⟨_, rfl⟩
  have hTX : text.extract 0 m = T := hTT.symm
  rw [hTX] at hT
  have HT := Aside0.mk hT
  have HR1 := Aside0.mk hr1
  have HC1 := Aside0.mk hc1
  have HR2 := Aside0.mk hr2
  have HC2 := Aside0.mk hc2
  have HO := Aside0.mk ho
  have HLE := Aside0.mk hle
  have HB := Aside0.mk (Below.refl w.heap.size w)
  obtain ⟨m15, hm15⟩ : ∃ m15, m15 = min script.length 15 := ⟨_, rfl⟩
  obtain ⟨i39, hi39, _, _, _⟩ := info_parts (show (Try.prog.info? 39).map (fun i => (i.zero, i.size, i.bytes)) = some (some (.agg #[.int .i64 0, .int .i64 0, .int .i64 0]), 3, 24) from by kernel_rfl)
  have H15 := Aside0.mk (And.intro (show (if (15 : Int) < (script.length : Int) then (15 : Int) else (script.length : Int)) = (m15 : Int) from by split <;> omega) (cut_to (P := Try.prog) 22 39 .i64 Try.underlying22 hi39 A1 script.length c1 (m15 : Int) (by omega) (by omega) hc1))
  have HM15 := Aside0.mk (show m15 ≤ script.length ∧ m15 ≤ 15 from by omega)
  clear hr1 hc1 hr2 hc2 ho hle hT hTT hm hm15
  go_enter Try.func3, Try.ntmps3
  go_wp2_with (first
    | (go_at_call 5; refine (ex5 _).mono ?_; rintro e_ w5 ⟨rfl, hb⟩; have n1_ := Aside0.mk (below_step HB.out hb); clear HB hb; have HB := n1_; clear n1_)
    | ((with_reducible refine gate_dst (N := 33) rfl ?_); refine Kd.R_lit k30 (w0 := w) w.heap.size 30 ?hg (N := 33) ?hd (xs := [(⟨⟨#[100]⟩, 0, T⟩ : S30)]) (inner := [.string ⟨#[100]⟩, .int .i64 0, .string T]) (ok := fun _ => True) (okp := fun _ => True) ?hr ?hp (fun _ hk => hk) trivial HB.out HB.out.size (by simp) ?_; (case hd => rfl); (case hg => rfl); (case hr => first | (go_simp; done) | (go_simp; rfl)); (case hp => exact (Reps.c3 (show Kd.M k30 _ _ _ (⟨⟨#[100]⟩, 0, T⟩ : S30) [.string ⟨#[100]⟩, .int .i64 0, .string T] from (k30_mkM _ _ _ (⟨⟨#[100]⟩, 0, T⟩ : S30))) (Reps.none _ _))); intro u33 w33 ho hb0 hgr hnew; obtain ⟨A33, c33, rfl⟩ := Kd.R_slice ho; have HL33 := Aside0.mk ho; have n1_ := Aside0.mk hb0; clear HB; have HB := n1_; clear n1_; clear ho hb0 hgr hnew)
    | (go_at_call 6; refine (newRoom6 A33 c33 ⟨#[100]⟩ 0 T w33 (Kd.R_reads' HL33.out).2.2 (Kd.R_reads' HL33.out).2.1 (lo_d T HT.out) (em_d 0 (by omega) (by omega) _)).mono ?_; rintro e_ w6 ⟨gr, gD, gd, cD, rfl, h1, h2⟩; have HR := Aside0.mk (h1.lower HB.out.size); have n1_ := Aside0.mk (below_step HB.out h2); clear HB h1 h2; have HB := n1_; clear n1_))
  clear hm1 hm2 hm3 hTX
  go_loopg [9, 43] 3 (fun kq v9 v43 w' => ∃ i : Nat, v43 = .int .i64 (i : Int) ∧ Aside0 (i + kq = 3 ∧ ∃ gs vC vR, gs.length = i ∧ Rm w.heap.size gr gD gd cD vC (.slice none 0 0) vR ⟨#[100]⟩ 0 T [] (ints i) (ints i) w' ∧ Rp w v9 gs (fun _ => ⟨⟨#[100]⟩, 0, T⟩) w') ∧ Aside0 (Below w.heap.size w w'))
  case atStart => exact ⟨0, rfl, ⟨rfl, [], _, _, rfl, HR.out, ⟨Kd.R_nil _ _ _ _ _, fun i hi => by simp at hi, by simp⟩⟩, HB⟩
  case round =>
    clear HR HB
    obtain ⟨i, rfl, HX, HB⟩ := hrel
    obtain ⟨e1, gs, vC, vR, hgs, hR, hP⟩ := HX.out
    clear HX
    obtain ⟨A9, n9, c9, rfl⟩ : ∃ A n c, u9 = .slice A n c := by obtain ⟨A, c, e⟩ := Kd.R_slice hP.row; exact ⟨A, _, c, e⟩
    have HR := Aside0.mk hR
    have HP := Aside0.mk hP
    have HGL := Aside0.mk hgs
    clear hR hP hgs
    by_cases c : i < 3
    · have d1 : decide ((i : Int) < 3) = true := decide_eq_true (by omega)
      obtain ⟨k1, rfl⟩ : ∃ k1, gk = k1 + 1 := ⟨gk - 1, by omega⟩
      have E1 := Aside0.mk e1
      have HI := Aside0.mk c
      have i3 : (i : Int) < 3 := by omega
      have i0 : 0 ≤ (i : Int) := by omega
      clear e1 c
      go_upto_region 13 with (first
        | (go_at_call 7; refine (join7 w _ (by omega) (by omega) (ints_no i) (by rw [ints_len]; omega) HR.out HB.out).mono ?_; rintro e_ w7 ⟨rfl, vC', h1, h2, h3⟩; have n1_ := Aside0.mk h1; have n2_ := Aside0.mk h2; have n3_ := Aside0.mk (HP.out.keepT h3); clear HR HB HP h1 h2 h3; have HR := n1_; have HB := n2_; have HP := n3_; clear n1_ n2_ n3_)
        | (go_at_call 8; refine (open8 w _ 10 (by simp) (by rw [List.length_append, ints_len, List.length_singleton]; omega) (by rw [ints_len]; omega) (ints_bs i HI.out) HR.out HB.out).mono ?_; rintro e_ w8 ⟨rfl, vR', h1, h2, h3⟩; have n1_ := Aside0.mk h1; have n2_ := Aside0.mk h2; have n3_ := Aside0.mk (HP.out.keepT h3); clear HR HB HP h1 h2 h3; have HR := n1_; have HB := n2_; have HP := n3_; clear n1_ n2_ n3_)
        | ((with_reducible refine gate_dst (N := 11) rfl ?_); refine box_event ?hg (N := 11) ?hd (cs := #[.string ByteArray.empty, .int .i64 0, .string ByteArray.empty]) (t := 30) ?hr ?_; (case hd => rfl); (case hg => rfl); (case hr => first | (go_simp; done) | (go_simp; rfl)); intro g11 hg w11 hbox hb; have BK := Aside0.mk hbox; have GE := Aside0.mk (show w.heap.size ≤ g11 from by rw [hg]; exact HB.out.size); have n1_ := Aside0.mk (below_step HB.out hb); clear HB; have HB := n1_; clear n1_; have n1_ := Aside0.mk (Rm.below HR.out hb); clear HR; have HR := n1_; clear n1_; have n1_ := Aside0.mk (Rp.below HP.out hb); clear HP; have HP := n1_; clear n1_; have hc0 : w11.cell? ⟨g11, 0, none⟩ = some (.string ByteArray.empty) := (blk_cell BK.out 0).trans rfl; have hf0 := blk_frozen BK.out 0; have hc1 : w11.cell? ⟨g11, 1, none⟩ = some (.int .i64 0) := (blk_cell BK.out 1).trans rfl; have hf1 := blk_frozen BK.out 1; have hc2 : w11.cell? ⟨g11, 2, none⟩ = some (.string ByteArray.empty) := (blk_cell BK.out 2).trans rfl; have hf2 := blk_frozen BK.out 2; clear hbox hb hg))
      have m0_ : (w11.setCell ⟨g11, 0, none⟩ (.string ⟨#[100]⟩)).heap[g11]? = some (.cells #[.string ⟨#[100]⟩, .int .i64 0, .string ByteArray.empty] 30 (0, 0)) := blk_put BK.out 0 _ rfl
      have m1_ : ((w11.setCell ⟨g11, 0, none⟩ (.string ⟨#[100]⟩)).setCell ⟨g11, 1, none⟩ (.int .i64 0)).heap[g11]? = some (.cells #[.string ⟨#[100]⟩, .int .i64 0, .string ByteArray.empty] 30 (0, 0)) := blk_put m0_ 1 _ rfl
      have m2_ : (((w11.setCell ⟨g11, 0, none⟩ (.string ⟨#[100]⟩)).setCell ⟨g11, 1, none⟩ (.int .i64 0)).setCell ⟨g11, 2, none⟩ (.string T)).heap[g11]? = some (.cells #[.string ⟨#[100]⟩, .int .i64 0, .string T] 30 (0, 0)) := blk_put m1_ 2 _ rfl
      have n1_ := Aside0.mk (((HR.out.set BK.out (by decide) 0 (.string ⟨#[100]⟩)).set m0_ (by decide) 1 (.int .i64 0)).set m1_ (by decide) 2 (.string T))
      have n2_ := Aside0.mk (((HP.out.set30 BK.out (by decide) 0 (.string ⟨#[100]⟩)).set30 m0_ (by decide) 1 (.int .i64 0)).set30 m1_ (by decide) 2 (.string T))
      have n3_ : Aside0 (Below w.heap.size w (((w11.setCell ⟨g11, 0, none⟩ (.string ⟨#[100]⟩)).setCell ⟨g11, 1, none⟩ (.int .i64 0)).setCell ⟨g11, 2, none⟩ (.string T))) := Aside0.mk (below_set (below_set (below_set HB.out GE.out) GE.out) GE.out)
      have n4_ := Aside0.mk m2_
      clear HR HP HB BK m0_ hc0 hf0 m1_ hc1 hf1 m2_ hc2 hf2
      generalize (((w11.setCell ⟨g11, 0, none⟩ (.string ⟨#[100]⟩)).setCell ⟨g11, 1, none⟩ (.int .i64 0)).setCell ⟨g11, 2, none⟩ (.string T)) = wS at n1_ n2_ n3_ n4_ ⊢
      have HR := n1_
      have HP := n2_
      have HB := n3_
      have BK := n4_
      clear n1_ n2_ n3_ n4_
      have e0 : wS.cell? ⟨g11, 0, none⟩ = some (.string ⟨#[100]⟩) := (blk_cell BK.out 0).trans rfl
      have e1 : wS.cell? ⟨g11, 1, none⟩ = some (.int .i64 0) := (blk_cell BK.out 1).trans rfl
      have e2 : wS.cell? ⟨g11, 2, none⟩ = some (.string T) := (blk_cell BK.out 2).trans rfl
      go_wp2_with (first
        | (go_at_call 9; refine (newReplica9 ⟨#[100]⟩ 0 T wS).mono ?_; rintro e_ w9 ⟨gn, rfl, h1, h2⟩; have HG := Aside0.mk (And.intro h1 (Nat.le_trans HB.out.size h1.2)); have HNI := Aside0.mk (show gn ∉ gs from fun hm => by obtain ⟨j, hj, e⟩ := List.getElem_of_mem hm; have h_ := blk_lt (HP.out.st j hj).1; have h3_ := h1.2; omega); have n1_ := Aside0.mk (HR.out.below h2); have n2_ := Aside0.mk (HP.out.below h2); have n3_ := Aside0.mk (below_step HB.out h2); clear HR HP HB h1 h2; have HR := n1_; have HP := n2_; have HB := n3_; clear n1_ n2_ n3_)
        | (at_builtin; refine Kd.R_append (Kd.raw 1) (w0 := w) (W := w9) w.heap.size rfl (.tmp 58) (.tmp 61) 32 36 (.pointer none) 8 rfl Try.underlying32 info36 rfl (by decide) (by omega) (.slice A9 n9 c9) (gs.map fun g => [.pointer (some ⟨g, 0, none⟩)]) [.pointer (some ⟨gn, 0, none⟩)] [.pointer (some ⟨gn, 0, none⟩)] (fun _ => True) (fun _ => False) rfl rfl ⟨rfl, rfl, by intro u hu; simp only [List.mem_singleton] at hu; subst hu; rfl⟩ (fun _ h => h.elim) (fun _ _ => trivial) HP.out.row HB.out HB.out.size (by rw [List.length_map]; have h_ := HGL.out; omega) ?_; intro v1 w10 ho hb hg hat; obtain ⟨A10, n10, c10, rfl⟩ : ∃ A n c, v1 = .slice A n c := (by obtain ⟨A, c, e⟩ := Kd.R_slice ho; exact ⟨A, _, c, e⟩); have n1_ := Aside0.mk (HR.out.grownT (ty := 36) (by decide) hg (Kd.R_typed HP.out.row)); have n2_ := Aside0.mk (HP.out.snoc hg ho HG.out.1.1 HG.out.2 HNI.out); have n3_ := Aside0.mk hb; clear HR HP HB hb hg hat ho; have HR := n1_; have HP := n2_; have HB := n3_; clear n1_ n2_ n3_))
      clear e0 e1 e2
      go_roundg k1
      case measure => have := E1.out; omega
      case rel => exact ⟨i + 1, by rfl, ⟨by have := E1.out; omega, gs ++ [gn], _, _, by rw [List.length_append, List.length_singleton, HGL.out], by rw [← ints_succ]; exact HR.out, HP.out⟩, HB⟩
    · obtain rfl : i = 3 := by omega
      have HC := Aside0.mk (show Cst w gr gD gd cD (.slice A9 n9 c9) gs 0 wr from ⟨_, _, _, _, _, _, HR.out, HP.out, by omega, by omega, by simp⟩)
      obtain ⟨hn9, adR, eA, _⟩ := HP.out.at 0 (by rw [HGL.out]; omega)
      obtain rfl : n9 = 3 := hn9.trans HGL.out
      subst eA
      clear hn9 HR HP e1 c
      have d1 : decide (((3 : Nat) : Int) < 3) = false := rfl
      obtain ⟨hs15, hcut⟩ := H15.out
      go_wp2
      clear hs15 hcut d1
      go_loopg [70] m15 (fun kq v70 w' => ∃ i : Nat, v70 = .int .i64 (i : Int) ∧ Aside0 (i + kq = m15 ∧ Cst w gr gD gd cD (.slice (some adR) 3 c9) gs i w') ∧ Aside0 (Below w.heap.size w w'))
      case atStart => exact ⟨0, rfl, ⟨by omega, HC.out⟩, HB⟩
      case round =>
        clear HB HC
        obtain ⟨i, rfl, HX, HB⟩ := hrel
        obtain ⟨e1, hC⟩ := HX.out
        clear HX
        obtain ⟨vC, vH, vR, v, T', hist, hR, hP, hv0, hv1, hhl⟩ := hC
        have HR := Aside0.mk hR
        have HP := Aside0.mk hP
        clear hR hP
        by_cases c : i < m15
        · have d1 : decide ((i : Int) < (m15 : Int)) = true := decide_eq_true (by omega)
          obtain ⟨k1, rfl⟩ : ∃ k1, gk = k1 + 1 := ⟨gk - 1, by omega⟩
          have E1 := Aside0.mk e1
          have EV := Aside0.mk (show 0 ≤ v ∧ v ≤ i ∧ hist.length ≤ i ∧ i < 15 from ⟨hv0, hv1, hhl, by have h_ := HM15.out; omega⟩)
          obtain ⟨ad, ea, hx0, hx1, hx2⟩ := at_T39 HR1.out (i : Int) (by omega) (by have h_ := HM15.out; omega)
          cases ea
          rw [Int.toNat_natCast] at hx0 hx1 hx2
          obtain ⟨ye, hye⟩ : ∃ ye, ye = rd_T39 script (i : Int) := ⟨_, rfl⟩
          rw [← hye] at hx0 hx1 hx2
          replace hx0 := (HB.out.cell (World.block_lt_of_cell? w _ hx0)).trans hx0
          replace hx1 := (HB.out.cell (World.block_lt_of_cell? w _ hx1)).trans hx1
          replace hx2 := (HB.out.cell (World.block_lt_of_cell? w _ hx2)).trans hx2
          have p1 : (0 ≤ (i : Int)) = True := eq_true (by omega)
          have q1 : ((i : Int) < (m15 : Int)) = True := eq_true (by omega)
          clear e1 c hye hv0 hv1 hhl
          go_upto_region 20 with (((with_reducible refine gate_dst (N := 14) rfl ?_); refine box_event ?hg (N := 14) ?hd (cs := #[.int .i64 0, .int .i64 0, .int .i64 0]) (t := 39) ?hr ?_; (case hd => rfl); (case hg => rfl); (case hr => first | (go_simp; done) | (go_simp; rfl)); intro g14 hg w14 hbox hb; have BK := Aside0.mk hbox; have GE := Aside0.mk (show w.heap.size ≤ g14 from by rw [hg]; exact HB.out.size); have n1_ := Aside0.mk (below_step HB.out hb); clear HB; have HB := n1_; clear n1_; have n1_ := Aside0.mk (Rm.below HR.out hb); clear HR; have HR := n1_; clear n1_; have n1_ := Aside0.mk (Rp.below HP.out hb); clear HP; have HP := n1_; clear n1_; have hc0 : w14.cell? ⟨g14, 0, none⟩ = some (.int .i64 0) := (blk_cell BK.out 0).trans rfl; have hf0 := blk_frozen BK.out 0; have hc1 : w14.cell? ⟨g14, 1, none⟩ = some (.int .i64 0) := (blk_cell BK.out 1).trans rfl; have hf1 := blk_frozen BK.out 1; have hc2 : w14.cell? ⟨g14, 2, none⟩ = some (.int .i64 0) := (blk_cell BK.out 2).trans rfl; have hf2 := blk_frozen BK.out 2; replace hx0 := (hb.cell (World.block_lt_of_cell? _ _ hx0)).trans hx0; replace hx1 := (hb.cell (World.block_lt_of_cell? _ _ hx1)).trans hx1; replace hx2 := (hb.cell (World.block_lt_of_cell? _ _ hx2)).trans hx2; clear hbox hb hg))
          clear hx0 hx1 hx2
          have m0_ : (w14.setCell ⟨g14, 0, none⟩ (.int .i64 ye.f0)).heap[g14]? = some (.cells #[.int .i64 ye.f0, .int .i64 0, .int .i64 0] 39 (0, 0)) := blk_put BK.out 0 _ rfl
          have m1_ : ((w14.setCell ⟨g14, 0, none⟩ (.int .i64 ye.f0)).setCell ⟨g14, 1, none⟩ (.int .i64 ye.f1)).heap[g14]? = some (.cells #[.int .i64 ye.f0, .int .i64 ye.f1, .int .i64 0] 39 (0, 0)) := blk_put m0_ 1 _ rfl
          have m2_ : (((w14.setCell ⟨g14, 0, none⟩ (.int .i64 ye.f0)).setCell ⟨g14, 1, none⟩ (.int .i64 ye.f1)).setCell ⟨g14, 2, none⟩ (.int .i64 ye.f2)).heap[g14]? = some (.cells #[.int .i64 ye.f0, .int .i64 ye.f1, .int .i64 ye.f2] 39 (0, 0)) := blk_put m1_ 2 _ rfl
          have n1_ := Aside0.mk (((HR.out.set BK.out (by decide) 0 (.int .i64 ye.f0)).set m0_ (by decide) 1 (.int .i64 ye.f1)).set m1_ (by decide) 2 (.int .i64 ye.f2))
          have n2_ := Aside0.mk (((HP.out.set30 BK.out (by decide) 0 (.int .i64 ye.f0)).set30 m0_ (by decide) 1 (.int .i64 ye.f1)).set30 m1_ (by decide) 2 (.int .i64 ye.f2))
          have n3_ : Aside0 (Below w.heap.size w (((w14.setCell ⟨g14, 0, none⟩ (.int .i64 ye.f0)).setCell ⟨g14, 1, none⟩ (.int .i64 ye.f1)).setCell ⟨g14, 2, none⟩ (.int .i64 ye.f2))) := Aside0.mk (below_set (below_set (below_set HB.out GE.out) GE.out) GE.out)
          have n4_ := Aside0.mk m2_
          clear HR HP HB BK m0_ hc0 hf0 m1_ hc1 hf1 m2_ hc2 hf2
          generalize (((w14.setCell ⟨g14, 0, none⟩ (.int .i64 ye.f0)).setCell ⟨g14, 1, none⟩ (.int .i64 ye.f1)).setCell ⟨g14, 2, none⟩ (.int .i64 ye.f2)) = wS at n1_ n2_ n3_ n4_ ⊢
          have HR := n1_
          have HP := n2_
          have HB := n3_
          have BK := n4_
          clear n1_ n2_ n3_ n4_
          by_cases he : edits.length = 0
          · have d2 : ((edits.length : Int) == 0) = true := by rw [he]; rfl
            clear he
            go_upto_region 35 with (first
              | (go_at_call 15; refine (document15 HR.out).mono ?_; rintro e_ w15 ⟨rfl, hb⟩; have n1_ := Aside0.mk (HR.out.below hb); have n2_ := Aside0.mk (HP.out.below hb); have n3_ := Aside0.mk (below_step HB.out hb); clear HR HP HB hb; have HR := n1_; have HP := n2_; have HB := n3_; clear n1_ n2_ n3_)
              | ((with_reducible refine gate_dst (N := 21) rfl ?_); refine box_event ?hg (N := 21) ?hd (cs := #[.string ByteArray.empty, .int .i64 0, .string ByteArray.empty]) (t := 30) ?hr ?_; (case hd => rfl); (case hg => rfl); (case hr => first | (go_simp; done) | (go_simp; rfl)); intro g21 hg w21 hbox hb; have BK := Aside0.mk hbox; have GE := Aside0.mk (show w.heap.size ≤ g21 from by rw [hg]; exact HB.out.size); have n1_ := Aside0.mk (below_step HB.out hb); clear HB; have HB := n1_; clear n1_; have n1_ := Aside0.mk (Rm.below HR.out hb); clear HR; have HR := n1_; clear n1_; have n1_ := Aside0.mk (Rp.below HP.out hb); clear HP; have HP := n1_; clear n1_; have hc0 : w21.cell? ⟨g21, 0, none⟩ = some (.string ByteArray.empty) := (blk_cell BK.out 0).trans rfl; have hf0 := blk_frozen BK.out 0; have hc1 : w21.cell? ⟨g21, 1, none⟩ = some (.int .i64 0) := (blk_cell BK.out 1).trans rfl; have hf1 := blk_frozen BK.out 1; have hc2 : w21.cell? ⟨g21, 2, none⟩ = some (.string ByteArray.empty) := (blk_cell BK.out 2).trans rfl; have hf2 := blk_frozen BK.out 2; clear hbox hb hg))
            have m0_ : (w21.setCell ⟨g21, 0, none⟩ (.string ⟨#[100]⟩)).heap[g21]? = some (.cells #[.string ⟨#[100]⟩, .int .i64 0, .string ByteArray.empty] 30 (0, 0)) := blk_put BK.out 0 _ rfl
            have m1_ : ((w21.setCell ⟨g21, 0, none⟩ (.string ⟨#[100]⟩)).setCell ⟨g21, 1, none⟩ (.int .i64 v)).heap[g21]? = some (.cells #[.string ⟨#[100]⟩, .int .i64 v, .string ByteArray.empty] 30 (0, 0)) := blk_put m0_ 1 _ rfl
            have m2_ : (((w21.setCell ⟨g21, 0, none⟩ (.string ⟨#[100]⟩)).setCell ⟨g21, 1, none⟩ (.int .i64 v)).setCell ⟨g21, 2, none⟩ (.string T')).heap[g21]? = some (.cells #[.string ⟨#[100]⟩, .int .i64 v, .string T'] 30 (0, 0)) := blk_put m1_ 2 _ rfl
            have n1_ := Aside0.mk (((HR.out.set BK.out (by decide) 0 (.string ⟨#[100]⟩)).set m0_ (by decide) 1 (.int .i64 v)).set m1_ (by decide) 2 (.string T'))
            have n2_ := Aside0.mk (((HP.out.set30 BK.out (by decide) 0 (.string ⟨#[100]⟩)).set30 m0_ (by decide) 1 (.int .i64 v)).set30 m1_ (by decide) 2 (.string T'))
            have n3_ : Aside0 (Below w.heap.size w (((w21.setCell ⟨g21, 0, none⟩ (.string ⟨#[100]⟩)).setCell ⟨g21, 1, none⟩ (.int .i64 v)).setCell ⟨g21, 2, none⟩ (.string T'))) := Aside0.mk (below_set (below_set (below_set HB.out GE.out) GE.out) GE.out)
            have n4_ := Aside0.mk m2_
            clear HR HP HB BK m0_ hc0 hf0 m1_ hc1 hf1 m2_ hc2 hf2
            generalize (((w21.setCell ⟨g21, 0, none⟩ (.string ⟨#[100]⟩)).setCell ⟨g21, 1, none⟩ (.int .i64 v)).setCell ⟨g21, 2, none⟩ (.string T')) = wD at n1_ n2_ n3_ n4_ ⊢
            have HR := n1_
            have HP := n2_
            have HB := n3_
            have BK := n4_
            clear n1_ n2_ n3_ n4_
            go_wp2
            go_loopg [154] 3 (fun kq v154 w' => ∃ i : Nat, v154 = .int .i64 (i : Int) ∧ Aside0 (i + kq = 3 ∧ Rp w (.slice (some adR) 3 c9) gs (fun _ => ⟨⟨#[100]⟩, v, T'⟩) w' ∧ w'.heap[g21]? = some (.cells #[.string ⟨#[100]⟩, .int .i64 v, .string T'] 30 (0, 0))) ∧ Aside0 (Below w.heap.size w w'))
            case atStart => exact ⟨0, rfl, ⟨rfl, HP.out, BK.out⟩, HB⟩
            case round =>
              clear HB HP HR BK
              obtain ⟨i, rfl, HX, HB⟩ := hrel
              obtain ⟨e1, hP, hbk⟩ := HX.out
              clear HX
              by_cases c : i < 3
              · have d1 : decide ((i : Int) < 3) = true := decide_eq_true (by omega)
                obtain ⟨k1, rfl⟩ : ∃ k1, gk = k1 + 1 := ⟨gk - 1, by omega⟩
                have E1 := Aside0.mk e1
                have E2 := Aside0.mk (show (i : Int) < 3 from by omega)
                have hcl : ∀ nn os, Below wr.heap.size wr (grow (wr.drewN nn) os) := fun nn os => gw_below wr nn os
                have hi3 : i < gs.length := by rw [HGL.out]; exact c
                have cP : ∀ nn os, (grow (wr.drewN nn) os).cell? (adR.add i) = some (.pointer (some ⟨gs.getD i 0, 0, none⟩)) := fun nn os => (hP.below (hcl nn os)).at' i hi3
                have cd0 : ∀ nn os, (grow (wr.drewN nn) os).cell? ⟨g21, 0, none⟩ = some (.string ⟨#[100]⟩) := fun nn os => (blk_cell (blk_below hbk (hcl nn os)) 0).trans rfl
                have cd1 : ∀ nn os, (grow (wr.drewN nn) os).cell? ⟨g21, 1, none⟩ = some (.int .i64 v) := fun nn os => (blk_cell (blk_below hbk (hcl nn os)) 1).trans rfl
                have cd2 : ∀ nn os, (grow (wr.drewN nn) os).cell? ⟨g21, 2, none⟩ = some (.string T') := fun nn os => (blk_cell (blk_below hbk (hcl nn os)) 2).trans rfl
                have hdoc : ∀ nn os, Calls Try.prog 11 #[.pointer (some ⟨gs.getD i 0, 0, none⟩)] (grow (wr.drewN nn) os) fun e w' => e = .returned (.agg #[.string ⟨#[100]⟩, .int .i64 v, .string T']) ∧ ∃ q os', w' = grow ((grow (wr.drewN nn) os).drewN q) os' := fun nn os => doc11 _ _ _ _ _ ((hP.below (hcl nn os)).st' i hi3).1
                have HPB := Aside0.mk (And.intro hP hbk)
                have HCL := Aside0.mk hcl
                have i3 : (i : Int) < 3 := by omega
                have i0 : 0 ≤ (i : Int) := by omega
                clear e1 c hP hbk hcl hi3
                generalize gs.getD i 0 = gi at cP hdoc
                go_wp2_with fail
                go_quiet_grown (first | (go_at_fn 11; refine Calls.grown_of (hdoc _ _)))
                go_wp2
                go_roundg k1
                case measure => have := E1.out; omega
                case rel => exact ⟨i + 1, by rfl, ⟨by have := E1.out; omega, HPB.out.1.below (HCL.out nq osq), blk_below HPB.out.2 (HCL.out nq osq)⟩, ⟨below_step HB.out (HCL.out nq osq)⟩⟩
              · obtain rfl : i = 3 := by omega
                have d1 : decide (((3 : Nat) : Int) < 3) = false := rfl
                clear hP hbk e1 c
                go_wp2_with ((go_at_call 5; refine (ex5 _).mono ?_; rintro e_ w5 ⟨rfl, hb⟩; have n1_ := Aside0.mk (below_step HB.out hb); clear HB hb; have HB := n1_; clear n1_))
                go_ret
                exact ⟨rfl, HB.out⟩
          · have d2 : ((edits.length : Int) == 0) = false := beq_eq_false_iff_ne.2 (by omega)
            obtain ⟨q, hmq, hq3⟩ := mod_is ye.f1 3 (by omega) (by omega)
            obtain ⟨p, hmp, hpl⟩ := mod_is ye.f2 edits.length (by omega) HLE.out
            have HMP := Aside0.mk hmp
            have HQ := Aside0.mk hq3
            have HQL := Aside0.mk (show q < gs.length from by rw [HGL.out]; exact hq3)
            have HQI := Aside0.mk (show (q : Int) ∈ ints 3 from List.mem_map.2 ⟨q, List.mem_range.2 hq3, rfl⟩)
            obtain ⟨ad2, Al, cl, eA2, hce, hll, hlc⟩ := edit_at HR2.out p hpl
            cases eA2
            obtain ⟨l, hl⟩ : ∃ l, l = edits.getD p [] := ⟨_, rfl⟩
            rw [← hl] at hce hll hlc
            have HOE := Aside0.mk (show okE l from HO.out l (by rw [hl, List.getD_eq_getElem?_getD, List.getElem?_eq_getElem hpl]; exact List.getElem_mem _))
            have HCE := Aside0.mk hce
            have HLL := Aside0.mk hll
            have HLC := Aside0.mk hlc
            have k0 : (0 ≤ (q : Int)) = True := eq_true (by omega)
            have k1' : ((q : Int) < 3) = True := eq_true (by omega)
            have k3 : (0 ≤ (p : Int)) = True := eq_true (by omega)
            have k4 : (p < edits.length) = True := eq_true hpl
            have k5 : ((p : Int) < (edits.length : Int)) = True := eq_true (by omega)
            have k6 : (q < 3) = True := eq_true hq3
            have hcl : ∀ nn os, Below wS.heap.size wS (grow (wS.drewN nn) os) := fun nn os => gw_below wS nn os
            have cg : ∀ nn os, (grow (wS.drewN nn) os).cell? ⟨g14, 1, none⟩ = some (.int .i64 ye.f1) := fun nn os => (blk_cell (blk_below BK.out (hcl nn os)) 1).trans rfl
            have cP : ∀ nn os, (grow (wS.drewN nn) os).cell? (adR.add q) = some (.pointer (some ⟨gs.getD q 0, 0, none⟩)) := fun nn os => (HP.out.below (hcl nn os)).at' q HQL.out
            have hmod : ∀ nn os, Calls Try.prog 10 #[.int .i64 ye.f1, .int .i64 3] (grow (wS.drewN nn) os) fun e w' => e = .returned (.int .i64 (q : Int)) ∧ ∃ q' os', w' = grow ((grow (wS.drewN nn) os).drewN q') os' := fun nn os => mod_grown ye.f1 3 q hmq _
            have hdoc : ∀ nn os, Calls Try.prog 11 #[.pointer (some ⟨gs.getD q 0, 0, none⟩)] (grow (wS.drewN nn) os) fun e w' => e = .returned (.agg #[.string ⟨#[100]⟩, .int .i64 v, .string T']) ∧ ∃ q' os', w' = grow ((grow (wS.drewN nn) os).drewN q') os' := fun nn os => doc11 _ _ _ _ _ ((HP.out.below (hcl nn os)).st' q HQL.out).1
            have hfd : ∀ w : World, (Instr.field 30 (.agg #[.string ⟨#[100]⟩, .int .i64 v, .string T']) 1).run Try.prog w = .ok (.int .i64 v) w := fun _ => by kernel_rfl
            have HCL := Aside0.mk hcl
            clear he hmq hmp hq3 hpl hl hce hll hlc hcl
            go_wp2_with fail
            go_quiet_grown (first | (go_at_fn 10; refine Calls.grown_of (hmod _ _)) | (go_at_fn 11; refine Calls.grown_of (hdoc _ _)))
            have n1_ := Aside0.mk (HR.out.below (HCL.out nq osq))
            have n2_ := Aside0.mk (HP.out.below (HCL.out nq osq))
            have n3_ := Aside0.mk (below_step HB.out (HCL.out nq osq))
            have n4_ := Aside0.mk (blk_below BK.out (HCL.out nq osq))
            clear HR HP HB BK HCL cg cP hmod hdoc hfd
            generalize grow (wS.drewN nq) osq = wG at n1_ n2_ n3_ n4_ ⊢
            have HR := n1_
            have HP := n2_
            have HB := n3_
            have BK := n4_
            clear n1_ n2_ n3_ n4_
            have k2 : wG.cell? ⟨g14, 2, none⟩ = some (.int .i64 ye.f2) := (blk_cell BK.out 2).trans rfl
            go_upto_region 23 with ((go_at_call 10; refine (glossatorref3_Mod.calls ye.f2 (edits.length : Int) (p : Int) _ HMP.out).mono ?_; rintro e_ w22 ⟨rfl, hd_⟩; have hb := hd_.below; have n1_ := Aside0.mk (HR.out.below hb); have n2_ := Aside0.mk (HP.out.below hb); have n3_ := Aside0.mk (below_step HB.out hb); clear HR HP HB hb hd_ k2; have HR := n1_; have HP := n2_; have HB := n3_; clear n1_ n2_ n3_; have y2 := (HB.out.cell (World.block_lt_of_cell? w _ HCE.out)).trans HCE.out))
            clear y2
            obtain ⟨r1, r2, r3, r4, hA, hOK⟩ := apply_total ⟨#[100]⟩ v T' l HOE.out (by have h_ := EV.out; omega) (by have h_ := EV.out; omega)
            by_cases h4 : r4 = 0
            · subst h4
              obtain ⟨rfl, rfl, hl50⟩ := hOK rfl
              have HA := Aside0.mk hA
              have HL50 := Aside0.mk hl50
              obtain ⟨o0, o1, ho0, ho1, ho0q, ho1q, ho01, hup⟩ := others q HQ.out
              have HUP := Aside0.mk (hup ⟨#[100]⟩ (v + 1) l)
              have HOS := Aside0.mk (And.intro ho0 (And.intro ho1 (And.intro ho0q (And.intro ho1q ho01))))
              clear hA hl50 hOK ho0 ho1 ho0q ho1q ho01 hup
              go_wp2_with (first
                | (go_at_call 12; refine (edit_ok w (q : Int) ?a1 ?a2 ?a3 ?a4 Al cl l ⟨#[100]⟩ (v + 1) r3 HR.out HB.out (fun W_ hk => C56_heap HLC.out (old_keep HB.out hk HR.out.oge (fun b hb => Kd.S_base HR.out.his b hb))) HLL.out (by have h_ := HL50.out; omega) (by have h_ := EV.out; omega) HA.out).mono ?_; (case a1 => exact HQI.out); (case a2 => rw [ints_len]; omega); (case a3 => exact HQI.out); (case a4 => rw [ints_len]; omega); rintro e_ w12 ⟨vU, vH', rfl, h1, h2, h3, h4⟩; obtain ⟨AU, cU, rfl⟩ : ∃ A c, vU = .slice A 2 c := (by obtain ⟨A, c, e⟩ := Kd.S_slice h2; rw [HUP.out] at e; exact ⟨A, c, e⟩); have HU := Aside0.mk (HUP.out ▸ Kd.S_mono (ok' := fun _ => True) h2 (fun _ _ => trivial)); have n1_ := Aside0.mk h1; have n2_ := Aside0.mk (HP.out.keepT (HR.out.keepT h4)); have n3_ := Aside0.mk h3; clear HR HP HB h1 h2 h3 h4; have HR := n1_; have HP := n2_; have HB := n3_; clear n1_ n2_ n3_; have yq := HP.out.at' q HQL.out)
                | (go_at_call 13; have hb6 := below_alloc (Below.refl w12.heap.size w12) (.cells #[.slice Al l.length cl] 42 (0, 0)); have HB6 := Aside0.mk hb6; have hn6 := blk_new w12 (.cells #[.slice Al l.length cl] 42 (0, 0)); have HS6 := Aside0.mk (HP.out.st' q HQL.out); have HN6 := Aside0.mk (And.intro hn6 (show gs.getD q 0 ≠ w12.heap.size from fun e => by have h_ := blk_lt HS6.out.1; omega)); refine (docsync_Replica_CatchUp.calls 3 (gs.getD q 0) ⟨#[100]⟩ v T' (some ⟨w12.heap.size, 0, none⟩) 1 [l] 0 ⟨#[100]⟩ (v + 1) r3 w _ ⟨blk_below HS6.out.1 HB6.out, HS6.out.2⟩ (below_step HB.out HB6.out) (fun W_ hk => one_C W_ w12.heap.size Al cl l ((blk_cell (hk.blk HN6.out.1 (fun e => HN6.out.2 e.symm) (by simp)) 0).trans rfl) HLL.out (C56_heap HLC.out (old_keep (below_step HB.out HB6.out) hk HS6.out.2 (fun b hb => by cases hb)))) (Nat.le_refl _) (catch_one HA.out)).mono ?_; rintro e_ w13 ⟨rfl, h1, h2, h3⟩; have hk := (KeepBut.of_below HB6.out (gs.getD q 0) none).trans h3 (.inl rfl); have n1_ := Aside0.mk (HR.out.keepBut HS6.out.1 hk); have n2_ := Aside0.mk (HP.out.upd' q HQL.out ⟨⟨#[100]⟩, v + 1, r3⟩ h1 hk); have n3_ := Aside0.mk h2; have n4_ := Aside0.mk (S_keepG HU.out HS6.out.1 (by decide) hk); clear HR HP HB HU h1 h2 h3 hk hb6 hn6 yq; have HR := n1_; have HP := n2_; have HB := n3_; have HU := n4_; clear n1_ n2_ n3_ n4_))
              obtain ⟨adU, eU, _⟩ : ∃ ad, AU = some ad ∧ True := (by obtain ⟨ad, e, _⟩ := (Kd.S_reads' HU.out).2.2.2.2 (by simp); exact ⟨ad, e, trivial⟩)
              subst eU
              have n2_ := Aside0.mk (show Rp w (.slice (some adR) 3 c9) gs (Dn q o0 o1 (⟨⟨#[100]⟩, v, T'⟩ : S30) (⟨⟨#[100]⟩, v + 1, r3⟩ : S30) 0) w13 from HP.out.congr (fun i hi => by unfold Dn; by_cases e : i = q <;> simp [e]))
              clear HP
              have HP := n2_
              clear n2_
              go_loopg [121] 2 (fun kq v121 w' => ∃ j : Nat, v121 = .int .i64 (j : Int) ∧ Aside0 (j + kq = 2 ∧ Rm w.heap.size gr gD gd cD vC vH' vR ⟨#[100]⟩ (v + 1) r3 (hist ++ [l]) (ints 3) (ints 3) w' ∧ Rp w (.slice (some adR) 3 c9) gs (Dn q o0 o1 (⟨⟨#[100]⟩, v, T'⟩ : S30) (⟨⟨#[100]⟩, v + 1, r3⟩ : S30) j) w' ∧ Kd.S k48 48 w' w.heap.size (fun _ => True) (.slice (some adU) 2 cU) [⟨(o0 : Int), (q : Int), ⟨#[100]⟩, v + 1, l⟩, ⟨(o1 : Int), (q : Int), ⟨#[100]⟩, v + 1, l⟩]) ∧ Aside0 (Below w.heap.size w w'))
              case atStart => exact ⟨0, rfl, ⟨rfl, HR.out, HP.out, HU.out⟩, HB⟩
              case round =>
                clear HR HP HU HB
                obtain ⟨j, rfl, HX, HB⟩ := hrel
                obtain ⟨e1, hR, hP, hU⟩ := HX.out
                clear HX
                have HR := Aside0.mk hR
                have HP := Aside0.mk hP
                have HU := Aside0.mk hU
                clear hR hP hU
                by_cases c : j < 2
                · have d1 : decide ((j : Int) < 2) = true := decide_eq_true (by omega)
                  obtain ⟨k2, rfl⟩ : ∃ k2, gk = k2 + 1 := ⟨gk - 1, by omega⟩
                  have E2 := Aside0.mk e1
                  have HJ2 := Aside0.mk c
                  obtain ⟨oj, hoj⟩ : ∃ oj, oj = if j = 0 then o0 else o1 := ⟨_, rfl⟩
                  obtain ⟨u0, u1, u2, u3, u4⟩ := HOS.out
                  have hoj3 : oj < 3 := by rw [hoj]; split <;> assumption
                  have hojq : oj ≠ q := by rw [hoj]; split <;> assumption
                  have HOL := Aside0.mk (show oj < gs.length from by rw [HGL.out]; exact hoj3)
                  have HUJ := Aside0.mk (show ([⟨(o0 : Int), (q : Int), ⟨#[100]⟩, v + 1, l⟩, ⟨(o1 : Int), (q : Int), ⟨#[100]⟩, v + 1, l⟩] : List S48).getD j z48 = ⟨(oj : Int), (q : Int), ⟨#[100]⟩, v + 1, l⟩ from by
                    have hj : j = 0 ∨ j = 1 := by omega
                    rcases hj with rfl | rfl
                    · rw [hoj]; rfl
                    · rw [hoj]; rfl)
                  have HDO := Aside0.mk (show Dn q o0 o1 (⟨⟨#[100]⟩, v, T'⟩ : S30) (⟨⟨#[100]⟩, v + 1, r3⟩ : S30) j oj = (⟨⟨#[100]⟩, v, T'⟩ : S30) from by
                    have hj : j = 0 ∨ j = 1 := by omega
                    unfold Dn
                    rcases hj with rfl | rfl
                    · simp only [if_pos] at hoj
                      rw [if_neg (by omega)]
                    · simp only [show ¬ (1 : Nat) = 0 from by omega, if_false] at hoj
                      rw [if_neg (by omega)])
                  have HDS := Aside0.mk (show ∀ i, i < gs.length → (if i = oj then (⟨⟨#[100]⟩, v + 1, r3⟩ : S30) else Dn q o0 o1 (⟨⟨#[100]⟩, v, T'⟩ : S30) (⟨⟨#[100]⟩, v + 1, r3⟩ : S30) j i) = Dn q o0 o1 (⟨⟨#[100]⟩, v, T'⟩ : S30) (⟨⟨#[100]⟩, v + 1, r3⟩ : S30) (j + 1) i from fun i hi => by
                    have hj : j = 0 ∨ j = 1 := by omega
                    unfold Dn
                    rcases hj with rfl | rfl
                    · simp only [if_pos] at hoj
                      by_cases e : i = oj
                      · rw [if_pos e, if_pos (by omega)]
                      · rw [if_neg e]
                        by_cases e2 : i = q
                        · rw [if_pos (by omega), if_pos (by omega)]
                        · rw [if_neg (by omega), if_neg (by omega)]
                    · simp only [show ¬ (1 : Nat) = 0 from by omega, if_false] at hoj
                      by_cases e : i = oj
                      · rw [if_pos e, if_pos (by omega)]
                      · rw [if_neg e]
                        by_cases e2 : i = q ∨ i = o0
                        · rw [if_pos (by omega), if_pos (by omega)]
                        · rw [if_neg (by omega), if_neg (by omega)])
                  obtain ⟨A4, c4, x0, x1, x2, x3, x4, x5, xc⟩ := upd_at HU.out j (by omega)
                  rw [HUJ.out] at x0 x1 x2 x3 x4 x5 xc
                  have HX0 := Aside0.mk (show wr.cell? (adU.add (j * 5)) = some (.int .i64 (oj : Int)) ∧ wr.cell? ⟨(adU.add (j * 5)).block, (adU.add (j * 5)).off + 1, none⟩ = some (.int .i64 (q : Int)) ∧ wr.cell? ⟨(adU.add (j * 5)).block, (adU.add (j * 5)).off + 2, none⟩ = some (.string ⟨#[100]⟩) ∧ wr.cell? ⟨(adU.add (j * 5)).block, (adU.add (j * 5)).off + 3, none⟩ = some (.int .i64 (v + 1)) ∧ wr.cell? ⟨(adU.add (j * 5)).block, (adU.add (j * 5)).off + 4, none⟩ = some (.slice A4 l.length c4) ∧ wr.cell? (adR.add oj) = some (.pointer (some ⟨gs.getD oj 0, 0, none⟩)) from ⟨x0, x1, x2, x3, x4, HP.out.at' oj HOL.out⟩)
                  have HX5 := Aside0.mk x5
                  have HXC := Aside0.mk xc
                  have f1 : ((oj : Int) == (q : Int)) = false := beq_eq_false_iff_ne.2 (by omega)
                  have f2 : (oj = q) = False := eq_false hojq
                  have f3 : (0 ≤ (oj : Int)) = True := eq_true (by omega)
                  have f4 : ((oj : Int) < 3) = True := eq_true (by omega)
                  have f5 : (oj < 3) = True := eq_true hoj3
                  have f6 : (0 ≤ (j : Int)) = True := eq_true (by omega)
                  have f7 : ((j : Int) < 2) = True := eq_true (by omega)
                  have f8 : (j < 2) = True := eq_true c
                  clear e1 c hoj u0 u1 u2 u3 u4 hoj3 hojq x0 x1 x2 x3 x4 x5 xc
                  go_wp2_with fail
                  refine start_ (n := 23) (S := fun w' => w'.cell? (adU.add (j * 5)) = some (.int .i64 (oj : Int)) ∧ w'.cell? ⟨(adU.add (j * 5)).block, (adU.add (j * 5)).off + 1, none⟩ = some (.int .i64 (q : Int)) ∧ w'.cell? ⟨(adU.add (j * 5)).block, (adU.add (j * 5)).off + 2, none⟩ = some (.string ⟨#[100]⟩) ∧ w'.cell? ⟨(adU.add (j * 5)).block, (adU.add (j * 5)).off + 3, none⟩ = some (.int .i64 (v + 1)) ∧ w'.cell? ⟨(adU.add (j * 5)).block, (adU.add (j * 5)).off + 4, none⟩ = some (.slice A4 l.length c4) ∧ w'.cell? (adR.add oj) = some (.pointer (some ⟨gs.getD oj 0, 0, none⟩))) (ds := []) #[false, false, false, false, false, false, false, false, false, false, false, false, false, false, false, false, false, false, false, false, false, false, false] (by kernel_rfl) rfl rfl ⟨HX0.out.1, HX0.out.2.1, HX0.out.2.2.1, HX0.out.2.2.2.1, HX0.out.2.2.2.2.1, HX0.out.2.2.2.2.2⟩ (fun hHeld => ?_)
                  have hb := below_drew1 (Below.refl wr.heap.size wr)
                  have n0_ := Aside0.mk (HR.out.below hb)
                  have n1_ := Aside0.mk (below_step HB.out hb)
                  have n2_ := Aside0.mk (HP.out.below hb)
                  have n3_ := Aside0.mk (Kd.S_below HU.out hb)
                  have n4_ := Aside0.mk (show ∀ W_ g cs, wr.drew.heap[g]? = some (.cells cs 72 (0, 0)) → KeepBut wr.drew W_ g none → Kd.C k56 W_ A4 l.length l from HXC.out)
                  clear HR HB HP HU HXC HX0 hb
                  have HR := n0_
                  have HB := n1_
                  have HP := n2_
                  have HU := n3_
                  have HXC := n4_
                  clear n0_ n1_ n2_ n3_ n4_
                  generalize wr.drew = w3' at HR HB HP HU HXC hHeld ⊢
                  refine pure_ (i := 0) (N := some 124) (v := ?_) (a' := ?_) #[true, false, false, false, false, false, false, false, false, false, false, false, false, false, false, false, false, false, false, false, false, false, false] rfl rfl (by kernel_rfl) (fun _ _ _ h => h) (Or.inl ⟨by rfl, ?_⟩) ?_ ?_
                  rotate_left
                  · intro w'
                    go_simp
                    with_reducible rfl
                  rotate_left
                  · simp only [Act.put, List.setIfInBounds_toArray, List.set_cons_zero, List.set_cons_succ, i64_w, i32_w]
                    rfl
                  refine pure_ (i := 1) (N := some 125) (v := ?_) (a' := ?_) #[true, true, false, false, false, false, false, false, false, false, false, false, false, false, false, false, false, false, false, false, false, false, false] rfl rfl (by kernel_rfl) (fun _ _ _ h => h) (Or.inl ⟨by rfl, ?_⟩) ?_ ?_
                  rotate_left
                  · intro w'
                    go_simp
                    with_reducible rfl
                  rotate_left
                  · simp only [Act.put, List.setIfInBounds_toArray, List.set_cons_zero, List.set_cons_succ, i64_w, i32_w]
                    rfl
                  refine pure_ (i := 2) (N := some 126) (v := ?_) (a' := ?_) #[true, true, true, false, false, false, false, false, false, false, false, false, false, false, false, false, false, false, false, false, false, false, false] rfl rfl (by kernel_rfl) (fun _ _ _ h => h) (Or.inl ⟨by rfl, ?_⟩) ?_ ?_
                  rotate_left
                  · intro w'
                    go_simp
                    with_reducible rfl
                  rotate_left
                  · simp only [Act.put, List.setIfInBounds_toArray, List.set_cons_zero, List.set_cons_succ, i64_w, i32_w]
                    rfl
                  refine pure_ (i := 3) (N := some 127) (v := ?_) (a' := ?_) #[true, true, true, true, false, false, false, false, false, false, false, false, false, false, false, false, false, false, false, false, false, false, false] rfl rfl (by kernel_rfl) (fun _ _ _ h => h) (Or.inl ⟨by rfl, ?_⟩) ?_ ?_
                  rotate_left
                  · intro w'
                    go_simp
                    with_reducible rfl
                  rotate_left
                  · simp only [Act.put, List.setIfInBounds_toArray, List.set_cons_zero, List.set_cons_succ, i64_w, i32_w]
                    rfl
                  refine take_ (i := 4) (N := some 128) (v := ?_) (a' := ?_) #[true, true, true, true, true, false, false, false, false, false, false, false, false, false, false, false, false, false, false, false, false, false, false] rfl rfl (by kernel_rfl) (fun _ _ _ h => h) (Or.inl ⟨by rfl, ?_⟩) hHeld ?_ ?_
                  rotate_left
                  · rintro w' ⟨s0, s1, s2, s3, s4, sp⟩
                    go_simp
                    with_reducible rfl
                  rotate_left
                  · simp only [Act.put, List.setIfInBounds_toArray, List.set_cons_zero, List.set_cons_succ, i64_w, i32_w]
                    rfl
                  refine pure_ (i := 5) (N := some 129) (v := ?_) (a' := ?_) #[true, true, true, true, true, true, false, false, false, false, false, false, false, false, false, false, false, false, false, false, false, false, false] rfl rfl (by kernel_rfl) (fun _ _ _ h => h) (Or.inl ⟨by rfl, ?_⟩) ?_ ?_
                  rotate_left
                  · intro w'
                    go_simp
                    with_reducible rfl
                  rotate_left
                  · simp only [Act.put, List.setIfInBounds_toArray, List.set_cons_zero, List.set_cons_succ, i64_w, i32_w]
                    rfl
                  refine pure_ (i := 6) (N := some 130) (v := ?_) (a' := ?_) #[true, true, true, true, true, true, true, false, false, false, false, false, false, false, false, false, false, false, false, false, false, false, false] rfl rfl (by kernel_rfl) (fun _ _ _ h => h) (Or.inl ⟨by rfl, ?_⟩) ?_ ?_
                  rotate_left
                  · intro w'
                    go_simp
                    with_reducible rfl
                  rotate_left
                  · simp only [Act.put, List.setIfInBounds_toArray, List.set_cons_zero, List.set_cons_succ, i64_w, i32_w]
                    rfl
                  refine pure_ (i := 7) (N := some 131) (v := ?_) (a' := ?_) #[true, true, true, true, true, true, true, true, false, false, false, false, false, false, false, false, false, false, false, false, false, false, false] rfl rfl (by kernel_rfl) (fun _ _ _ h => h) (Or.inl ⟨by rfl, ?_⟩) ?_ ?_
                  rotate_left
                  · intro w'
                    go_simp
                    with_reducible rfl
                  rotate_left
                  · simp only [Act.put, List.setIfInBounds_toArray, List.set_cons_zero, List.set_cons_succ, i64_w, i32_w]
                    rfl
                  refine pure_ (i := 8) (N := some 132) (v := ?_) (a' := ?_) #[true, true, true, true, true, true, true, true, true, false, false, false, false, false, false, false, false, false, false, false, false, false, false] rfl rfl (by kernel_rfl) (fun _ _ _ h => h) (Or.inl ⟨by rfl, ?_⟩) ?_ ?_
                  rotate_left
                  · intro w'
                    go_simp
                    with_reducible rfl
                  rotate_left
                  · simp only [Act.put, List.setIfInBounds_toArray, List.set_cons_zero, List.set_cons_succ, i64_w, i32_w]
                    rfl
                  refine pure_ (i := 9) (N := some 133) (v := ?_) (a' := ?_) #[true, true, true, true, true, true, true, true, true, true, false, false, false, false, false, false, false, false, false, false, false, false, false] rfl rfl (by kernel_rfl) (fun _ _ _ h => h) (Or.inl ⟨by rfl, ?_⟩) ?_ ?_
                  rotate_left
                  · intro w'
                    go_simp
                    with_reducible rfl
                  rotate_left
                  · simp only [Act.put, List.setIfInBounds_toArray, List.set_cons_zero, List.set_cons_succ, i64_w, i32_w]
                    rfl
                  refine pure_ (i := 10) (N := some 134) (v := ?_) (a' := ?_) #[true, true, true, true, true, true, true, true, true, true, true, false, false, false, false, false, false, false, false, false, false, false, false] rfl rfl (by kernel_rfl) (fun _ _ _ h => h) (Or.inl ⟨by rfl, ?_⟩) ?_ ?_
                  rotate_left
                  · intro w'
                    go_simp
                    with_reducible rfl
                  rotate_left
                  · simp only [Act.put, List.setIfInBounds_toArray, List.set_cons_zero, List.set_cons_succ, i64_w, i32_w]
                    rfl
                  refine pure_ (i := 11) (N := some 135) (v := ?_) (a' := ?_) #[true, true, true, true, true, true, true, true, true, true, true, true, false, false, false, false, false, false, false, false, false, false, false] rfl rfl (by kernel_rfl) (fun _ _ _ h => h) (Or.inl ⟨by rfl, ?_⟩) ?_ ?_
                  rotate_left
                  · intro w'
                    go_simp
                    with_reducible rfl
                  rotate_left
                  · simp only [Act.put, List.setIfInBounds_toArray, List.set_cons_zero, List.set_cons_succ, i64_w, i32_w]
                    rfl
                  refine pure_ (i := 12) (N := some 136) (v := ?_) (a' := ?_) #[true, true, true, true, true, true, true, true, true, true, true, true, true, false, false, false, false, false, false, false, false, false, false] rfl rfl (by kernel_rfl) (fun _ _ _ h => h) (Or.inl ⟨by rfl, ?_⟩) ?_ ?_
                  rotate_left
                  · intro w'
                    go_simp
                    with_reducible rfl
                  rotate_left
                  · simp only [Act.put, List.setIfInBounds_toArray, List.set_cons_zero, List.set_cons_succ, i64_w, i32_w]
                    rfl
                  refine take_ (i := 13) (N := some 137) (v := ?_) (a' := ?_) #[true, true, true, true, true, true, true, true, true, true, true, true, true, true, false, false, false, false, false, false, false, false, false] rfl rfl (by kernel_rfl) (fun _ _ _ h => h) (Or.inl ⟨by rfl, ?_⟩) hHeld ?_ ?_
                  rotate_left
                  · rintro w' ⟨s0, s1, s2, s3, s4, sp⟩
                    go_simp
                    with_reducible rfl
                  rotate_left
                  · simp only [Act.put, List.setIfInBounds_toArray, List.set_cons_zero, List.set_cons_succ, i64_w, i32_w]
                    rfl
                  refine pure_ (i := 14) (N := some 138) (v := ?_) (a' := ?_) #[true, true, true, true, true, true, true, true, true, true, true, true, true, true, true, false, false, false, false, false, false, false, false] rfl rfl (by kernel_rfl) (fun _ _ _ h => h) (Or.inl ⟨by rfl, ?_⟩) ?_ ?_
                  rotate_left
                  · intro w'
                    go_simp
                    with_reducible rfl
                  rotate_left
                  · simp only [Act.put, List.setIfInBounds_toArray, List.set_cons_zero, List.set_cons_succ, i64_w, i32_w]
                    rfl
                  refine take_ (i := 15) (N := some 139) (v := ?_) (a' := ?_) #[true, true, true, true, true, true, true, true, true, true, true, true, true, true, true, true, false, false, false, false, false, false, false] rfl rfl (by kernel_rfl) (fun _ _ _ h => h) (Or.inl ⟨by rfl, ?_⟩) hHeld ?_ ?_
                  rotate_left
                  · rintro w' ⟨s0, s1, s2, s3, s4, sp⟩
                    go_simp
                    with_reducible rfl
                  rotate_left
                  · simp only [Act.put, List.setIfInBounds_toArray, List.set_cons_zero, List.set_cons_succ, i64_w, i32_w]
                    rfl
                  refine pure_ (i := 16) (N := some 140) (v := ?_) (a' := ?_) #[true, true, true, true, true, true, true, true, true, true, true, true, true, true, true, true, true, false, false, false, false, false, false] rfl rfl (by kernel_rfl) (fun _ _ _ h => h) (Or.inl ⟨by rfl, ?_⟩) ?_ ?_
                  rotate_left
                  · intro w'
                    go_simp
                    with_reducible rfl
                  rotate_left
                  · simp only [Act.put, List.setIfInBounds_toArray, List.set_cons_zero, List.set_cons_succ, i64_w, i32_w]
                    rfl
                  refine pure_ (i := 17) (N := some 141) (v := ?_) (a' := ?_) #[true, true, true, true, true, true, true, true, true, true, true, true, true, true, true, true, true, true, false, false, false, false, false] rfl rfl (by kernel_rfl) (fun _ _ _ h => h) (Or.inl ⟨by rfl, ?_⟩) ?_ ?_
                  rotate_left
                  · intro w'
                    go_simp
                    with_reducible rfl
                  rotate_left
                  · simp only [Act.put, List.setIfInBounds_toArray, List.set_cons_zero, List.set_cons_succ, i64_w, i32_w]
                    rfl
                  refine pure_ (i := 18) (N := some 142) (v := ?_) (a' := ?_) #[true, true, true, true, true, true, true, true, true, true, true, true, true, true, true, true, true, true, true, false, false, false, false] rfl rfl (by kernel_rfl) (fun _ _ _ h => h) (Or.inl ⟨by rfl, ?_⟩) ?_ ?_
                  rotate_left
                  · intro w'
                    go_simp
                    with_reducible rfl
                  rotate_left
                  · simp only [Act.put, List.setIfInBounds_toArray, List.set_cons_zero, List.set_cons_succ, i64_w, i32_w]
                    rfl
                  refine take_ (i := 19) (N := some 143) (v := ?_) (a' := ?_) #[true, true, true, true, true, true, true, true, true, true, true, true, true, true, true, true, true, true, true, true, false, false, false] rfl rfl (by kernel_rfl) (fun _ _ _ h => h) (Or.inl ⟨by rfl, ?_⟩) hHeld ?_ ?_
                  rotate_left
                  · rintro w' ⟨s0, s1, s2, s3, s4, sp⟩
                    go_simp
                    with_reducible rfl
                  rotate_left
                  · simp only [Act.put, List.setIfInBounds_toArray, List.set_cons_zero, List.set_cons_succ, i64_w, i32_w]
                    rfl
                  refine one_ (i := 20) (N := some 144) #[true, true, true, true, true, true, true, true, true, true, true, true, true, true, true, true, true, true, true, true, true, false, false] rfl rfl (by kernel_rfl) (by decide) (fun K hK => ?_)
                  refine goes_ Try.func14 (by kernel_rfl) rfl #[.pointer (some ⟨gs.getD oj 0, 0, none⟩), .agg #[.int .i64 (oj : Int), .int .i64 (q : Int), .string ⟨#[100]⟩, .int .i64 (v + 1), .slice A4 l.length c4]] (by rfl) rfl rfl (by (try simp only [List.map_toArray, List.map_cons, List.map_nil]); first | done | rfl) ?_
                  refine (applyRep14 w _ (gs.getD oj 0) ⟨#[100]⟩ v T' (oj : Int) (q : Int) A4 c4 l 3 0 ⟨#[100]⟩ (v + 1) r3 (by have h_ := HP.out.st' oj HOL.out; rw [HDO.out] at h_; exact h_) HB.out (by have h_ := EV.out; omega) (by have h_ := EV.out; omega) (fun W_ hk => HXC.out W_ _ _ (HP.out.st' oj HOL.out).1 hk) HX5.out (catch_one HA.out)).mono ?_
                  rintro e_ wc' ⟨rfl, h1, h2, h3⟩
                  refine ⟨_, rfl, ?_⟩
                  have n1_ := Aside0.mk (HR.out.keepBut (HP.out.st' oj HOL.out).1 h3)
                  have n2_ := Aside0.mk (HP.out.upd' oj HOL.out (⟨⟨#[100]⟩, v + 1, r3⟩ : S30) h1 h3)
                  have n3_ := Aside0.mk h2
                  have n4_ := Aside0.mk (S_keepG HU.out (HP.out.st' oj HOL.out).1 (by decide) h3)
                  have hU2 := n4_.out
                  obtain ⟨A4', c4', z0, z1, z2, z3, z4, _, _⟩ := upd_at hU2 j (by have h_ := HJ2.out; omega)
                  rw [HUJ.out] at z0 z1 z2 z3 z4
                  have z4' : wc'.cell? ⟨(adU.add (j * 5)).block, (adU.add (j * 5)).off + 4, none⟩ = some (.slice A4 l.length c4) := (World.cell?_of_block (h3.2 _ (World.block_lt_of_cell? _ _ hHeld.2.2.2.2.1) (fun e => by obtain ⟨cells, hcu⟩ := Kd.S_typed HU.out adU.block rfl; exact ne_types hcu (HP.out.st' oj HOL.out).1 (by decide) ((show adU.block = (adU.add (j * 5)).block from (by unfold Addr.add; split <;> rfl)).trans e)) (by simp))).trans hHeld.2.2.2.2.1
                  have z5 := n2_.out.at' oj HOL.out
                  clear HR HP HB HU HXC h1 h2 h3 hU2
                  have HR := n1_
                  have HP := n2_
                  have HB := n3_
                  have HU := n4_
                  clear n1_ n2_ n3_ n4_
                  refine hK.out _ _ ⟨z0, z1, z2, z3, z4', z5⟩ (fun hHeld => ?_)
                  clear hK K
                  refine norm_ (a' := ?_) ?_ ?_
                  rotate_left
                  · show Act.put _ (some 144) _ = _
                    simp only [Act.put, List.setIfInBounds_toArray, List.set_cons_zero, List.set_cons_succ, i64_w, i32_w]
                    rfl
                  refine pure_ (i := 21) (N := some 145) (v := ?_) (a' := ?_) #[true, true, true, true, true, true, true, true, true, true, true, true, true, true, true, true, true, true, true, true, true, true, false] rfl rfl (by kernel_rfl) (fun _ _ _ h => h) (Or.inl ⟨by rfl, ?_⟩) ?_ ?_
                  rotate_left
                  · intro w'
                    go_simp
                    with_reducible rfl
                  rotate_left
                  · simp only [Act.put, List.setIfInBounds_toArray, List.set_cons_zero, List.set_cons_succ, i64_w, i32_w]
                    rfl
                  refine pure_ (i := 22) (N := some 146) (v := ?_) (a' := ?_) #[true, true, true, true, true, true, true, true, true, true, true, true, true, true, true, true, true, true, true, true, true, true, true] rfl rfl (by kernel_rfl) (fun _ _ _ h => h) (Or.inl ⟨by rfl, ?_⟩) ?_ ?_
                  rotate_left
                  · intro w'
                    go_simp
                    with_reducible rfl
                  rotate_left
                  · simp only [Act.put, List.setIfInBounds_toArray, List.set_cons_zero, List.set_cons_succ, i64_w, i32_w]
                    rfl
                  refine done_ (by kernel_rfl) ?_
                  try clear hHeld
                  try clear z0 z1 z2 z3 z4 z4' z5
                  go_wp2
                  go_roundg k2
                  case measure => have := E2.out; omega
                  case rel => exact ⟨j + 1, by rw [w64_ (by have := E2.out; omega) (by have := E2.out; omega)]; rfl, ⟨by have := E2.out; omega, HR.out, HP.out.congr HDS.out, HU.out⟩, HB⟩
                · obtain rfl : j = 2 := by omega
                  have d1 : decide (((2 : Nat) : Int) < 2) = false := rfl
                  have n2_ := Aside0.mk (show Rp w (.slice (some adR) 3 c9) gs (fun _ => (⟨⟨#[100]⟩, v + 1, r3⟩ : S30)) wr from HP.out.congr (fun i hi => by
                    obtain ⟨u0, u1, u2, u3, u4⟩ := HOS.out
                    rw [HGL.out] at hi
                    have hq := HQ.out
                    unfold Dn
                    rw [if_pos (by omega)]))
                  clear HP HU e1 c
                  have HP := n2_
                  clear n2_
                  go_wp2
                  go_roundg k1
                  case measure => have := E1.out; omega
                  case rel => exact ⟨i + 1, by rw [w64_ (by have := EV.out; omega) (by have := EV.out; omega)]; rfl, ⟨by have := E1.out; omega, _, _, _, _, _, _, HR.out, HP.out, by have h_ := EV.out; omega, by have h_ := EV.out; omega, by rw [List.length_append, List.length_singleton]; have h_ := EV.out; omega⟩, HB⟩
            · have HA := Aside0.mk hA
              have HR4 := Aside0.mk h4
              have e1 : (r4 != 0) = true := bne_iff_ne.2 h4
              have e2 : (r4 == 0) = false := beq_eq_false_iff_ne.2 h4
              clear hA h4 hOK
              go_wp2_with ((go_at_call 12; refine (edit_no (q : Int) ?a1 ?a2 ?a3 ?a4 Al cl l r1 r2 r3 r4 HR.out (fun W_ hk => C56_heap HLC.out (old_keep HB.out hk HR.out.oge (fun b hb => Kd.S_base HR.out.his b hb))) HLL.out HA.out HR4.out).mono ?_; (case a1 => exact HQI.out); (case a2 => rw [ints_len]; omega); (case a3 => exact HQI.out); (case a4 => rw [ints_len]; omega); rintro e_ w12 ⟨rfl, hb⟩; have n1_ := Aside0.mk (HR.out.below hb); have n2_ := Aside0.mk (HP.out.below hb); have n3_ := Aside0.mk (below_step HB.out hb); clear HR HP HB hb; have HR := n1_; have HP := n2_; have HB := n3_; clear n1_ n2_ n3_))
              go_roundg k1
              case measure => have := E1.out; omega
              case rel => exact ⟨i + 1, by rw [w64_ (by have := EV.out; omega) (by have := EV.out; omega)]; rfl, ⟨by have := E1.out; omega, _, _, _, _, _, _, HR.out, HP.out, by have h_ := EV.out; omega, by have h_ := EV.out; omega, by have h_ := EV.out; omega⟩, HB⟩
        · have d1 : decide ((i : Int) < (m15 : Int)) = false := decide_eq_false (by omega)
          have d1b : decide (i < m15) = false := decide_eq_false c
          clear c e1 hv0 hv1 hhl
          go_upto_region 35 with (first
            | (go_at_call 15; refine (document15 HR.out).mono ?_; rintro e_ w15 ⟨rfl, hb⟩; have n1_ := Aside0.mk (HR.out.below hb); have n2_ := Aside0.mk (HP.out.below hb); have n3_ := Aside0.mk (below_step HB.out hb); clear HR HP HB hb; have HR := n1_; have HP := n2_; have HB := n3_; clear n1_ n2_ n3_)
            | ((with_reducible refine gate_dst (N := 21) rfl ?_); refine box_event ?hg (N := 21) ?hd (cs := #[.string ByteArray.empty, .int .i64 0, .string ByteArray.empty]) (t := 30) ?hr ?_; (case hd => rfl); (case hg => rfl); (case hr => first | (go_simp; done) | (go_simp; rfl)); intro g21 hg w21 hbox hb; have BK := Aside0.mk hbox; have GE := Aside0.mk (show w.heap.size ≤ g21 from by rw [hg]; exact HB.out.size); have n1_ := Aside0.mk (below_step HB.out hb); clear HB; have HB := n1_; clear n1_; have n1_ := Aside0.mk (Rm.below HR.out hb); clear HR; have HR := n1_; clear n1_; have n1_ := Aside0.mk (Rp.below HP.out hb); clear HP; have HP := n1_; clear n1_; have hc0 : w21.cell? ⟨g21, 0, none⟩ = some (.string ByteArray.empty) := (blk_cell BK.out 0).trans rfl; have hf0 := blk_frozen BK.out 0; have hc1 : w21.cell? ⟨g21, 1, none⟩ = some (.int .i64 0) := (blk_cell BK.out 1).trans rfl; have hf1 := blk_frozen BK.out 1; have hc2 : w21.cell? ⟨g21, 2, none⟩ = some (.string ByteArray.empty) := (blk_cell BK.out 2).trans rfl; have hf2 := blk_frozen BK.out 2; clear hbox hb hg))
          have m0_ : (w21.setCell ⟨g21, 0, none⟩ (.string ⟨#[100]⟩)).heap[g21]? = some (.cells #[.string ⟨#[100]⟩, .int .i64 0, .string ByteArray.empty] 30 (0, 0)) := blk_put BK.out 0 _ rfl
          have m1_ : ((w21.setCell ⟨g21, 0, none⟩ (.string ⟨#[100]⟩)).setCell ⟨g21, 1, none⟩ (.int .i64 v)).heap[g21]? = some (.cells #[.string ⟨#[100]⟩, .int .i64 v, .string ByteArray.empty] 30 (0, 0)) := blk_put m0_ 1 _ rfl
          have m2_ : (((w21.setCell ⟨g21, 0, none⟩ (.string ⟨#[100]⟩)).setCell ⟨g21, 1, none⟩ (.int .i64 v)).setCell ⟨g21, 2, none⟩ (.string T')).heap[g21]? = some (.cells #[.string ⟨#[100]⟩, .int .i64 v, .string T'] 30 (0, 0)) := blk_put m1_ 2 _ rfl
          have n1_ := Aside0.mk (((HR.out.set BK.out (by decide) 0 (.string ⟨#[100]⟩)).set m0_ (by decide) 1 (.int .i64 v)).set m1_ (by decide) 2 (.string T'))
          have n2_ := Aside0.mk (((HP.out.set30 BK.out (by decide) 0 (.string ⟨#[100]⟩)).set30 m0_ (by decide) 1 (.int .i64 v)).set30 m1_ (by decide) 2 (.string T'))
          have n3_ : Aside0 (Below w.heap.size w (((w21.setCell ⟨g21, 0, none⟩ (.string ⟨#[100]⟩)).setCell ⟨g21, 1, none⟩ (.int .i64 v)).setCell ⟨g21, 2, none⟩ (.string T'))) := Aside0.mk (below_set (below_set (below_set HB.out GE.out) GE.out) GE.out)
          have n4_ := Aside0.mk m2_
          clear HR HP HB BK m0_ hc0 hf0 m1_ hc1 hf1 m2_ hc2 hf2
          generalize (((w21.setCell ⟨g21, 0, none⟩ (.string ⟨#[100]⟩)).setCell ⟨g21, 1, none⟩ (.int .i64 v)).setCell ⟨g21, 2, none⟩ (.string T')) = wD at n1_ n2_ n3_ n4_ ⊢
          have HR := n1_
          have HP := n2_
          have HB := n3_
          have BK := n4_
          clear n1_ n2_ n3_ n4_
          go_wp2
          go_loopg [154] 3 (fun kq v154 w' => ∃ i : Nat, v154 = .int .i64 (i : Int) ∧ Aside0 (i + kq = 3 ∧ Rp w (.slice (some adR) 3 c9) gs (fun _ => ⟨⟨#[100]⟩, v, T'⟩) w' ∧ w'.heap[g21]? = some (.cells #[.string ⟨#[100]⟩, .int .i64 v, .string T'] 30 (0, 0))) ∧ Aside0 (Below w.heap.size w w'))
          case atStart => exact ⟨0, rfl, ⟨rfl, HP.out, BK.out⟩, HB⟩
          case round =>
            clear HB HP HR BK
            obtain ⟨i, rfl, HX, HB⟩ := hrel
            obtain ⟨e1, hP, hbk⟩ := HX.out
            clear HX
            by_cases c : i < 3
            · have d1 : decide ((i : Int) < 3) = true := decide_eq_true (by omega)
              obtain ⟨k1, rfl⟩ : ∃ k1, gk = k1 + 1 := ⟨gk - 1, by omega⟩
              have E1 := Aside0.mk e1
              have E2 := Aside0.mk (show (i : Int) < 3 from by omega)
              have hcl : ∀ nn os, Below wr.heap.size wr (grow (wr.drewN nn) os) := fun nn os => gw_below wr nn os
              have hi3 : i < gs.length := by rw [HGL.out]; exact c
              have cP : ∀ nn os, (grow (wr.drewN nn) os).cell? (adR.add i) = some (.pointer (some ⟨gs.getD i 0, 0, none⟩)) := fun nn os => (hP.below (hcl nn os)).at' i hi3
              have cd0 : ∀ nn os, (grow (wr.drewN nn) os).cell? ⟨g21, 0, none⟩ = some (.string ⟨#[100]⟩) := fun nn os => (blk_cell (blk_below hbk (hcl nn os)) 0).trans rfl
              have cd1 : ∀ nn os, (grow (wr.drewN nn) os).cell? ⟨g21, 1, none⟩ = some (.int .i64 v) := fun nn os => (blk_cell (blk_below hbk (hcl nn os)) 1).trans rfl
              have cd2 : ∀ nn os, (grow (wr.drewN nn) os).cell? ⟨g21, 2, none⟩ = some (.string T') := fun nn os => (blk_cell (blk_below hbk (hcl nn os)) 2).trans rfl
              have hdoc : ∀ nn os, Calls Try.prog 11 #[.pointer (some ⟨gs.getD i 0, 0, none⟩)] (grow (wr.drewN nn) os) fun e w' => e = .returned (.agg #[.string ⟨#[100]⟩, .int .i64 v, .string T']) ∧ ∃ q os', w' = grow ((grow (wr.drewN nn) os).drewN q) os' := fun nn os => doc11 _ _ _ _ _ ((hP.below (hcl nn os)).st' i hi3).1
              have HPB := Aside0.mk (And.intro hP hbk)
              have HCL := Aside0.mk hcl
              have i3 : (i : Int) < 3 := by omega
              have i0 : 0 ≤ (i : Int) := by omega
              clear e1 c hP hbk hcl hi3
              generalize gs.getD i 0 = gi at cP hdoc
              go_wp2_with fail
              go_quiet_grown (first | (go_at_fn 11; refine Calls.grown_of (hdoc _ _)))
              go_wp2
              go_roundg k1
              case measure => have := E1.out; omega
              case rel => exact ⟨i + 1, by rfl, ⟨by have := E1.out; omega, HPB.out.1.below (HCL.out nq osq), blk_below HPB.out.2 (HCL.out nq osq)⟩, ⟨below_step HB.out (HCL.out nq osq)⟩⟩
            · obtain rfl : i = 3 := by omega
              have d1 : decide (((3 : Nat) : Int) < 3) = false := rfl
              clear hP hbk e1 c
              go_wp2_with ((go_at_call 5; refine (ex5 _).mono ?_; rintro e_ w5 ⟨rfl, hb⟩; have n1_ := Aside0.mk (below_step HB.out hb); clear HB hb; have HB := n1_; clear n1_))
              go_ret
              exact ⟨rfl, HB.out⟩
end Go.Proofs.Ytficalhfbopjbaa.Ds
