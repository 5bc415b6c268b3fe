/- textedit.Apply: the text with the edits done. Condition: the edits' texts lie within the reach. -/
import Derived.Test.YtficalhfbopjbaaDsx0
import Derived.Test.YtficalhfbopjbaaDsx1
import Derived.Test.YtficalhfbopjbaaBl
import Derived.RangeFuncNested
import Derived.RangeFuncBound
import Derived.RangeFuncCalls
import Derived.RangeFuncLeaves
import Derived.RangeFuncBox
import Derived.Shelf.Abstract
import Derived.Shelf.RegionOpen
import Derived.WalkKit
import Derived.BigQuiet
namespace Go.Proofs.Ytficalhfbopjbaa.Ds
open Go.RowKit Go.Shelf Go.Proofs.YtficalhfbopjbaaW.PrintWords Go.Proofs.YtficalhfbopjbaaW.PrintLast Go.Proofs.YtficalhfbopjbaaW.PrintMore
open Go.Proofs.Ytficalhfbopjbaa
set_option linter.unusedVariables false
set_option linter.unusedSimpArgs false
attribute [local go_sem] Oper.semAt_some

def lb (s : ByteArray) : List UInt8 := s.data.toList
theorem lb_len (s : ByteArray) : (lb s).length = s.size := by unfold lb; rw [Array.length_toList]; rfl
theorem lb_extract (s : ByteArray) (a b : Nat) : lb (s.extract a b) = ((lb s).drop a).take (b - a) := by
  unfold lb
  rw [ByteArray.data_extract, Array.toList_extract]
theorem lb_app (a b : ByteArray) : lb (a ++ b) = lb a ++ lb b := by unfold lb; simp
/-- what is written from an offset on -/
def apW (src : List UInt8) : Int → List S56 → List UInt8
  | off, [] => src.drop off.toNat
  | off, e :: r => ((src.drop off.toNat).take (e.f0.toNat - off.toNat) ++ lb e.f2) ++ apW src e.f1 r
/-- the edits lie in order within a text -/
def vOK (sz : Int) : Int → List S56 → Prop
  | _, [] => True
  | p, e :: r => p < e.f0 ∧ e.f0 ≤ e.f1 ∧ e.f1 ≤ sz ∧ vOK sz e.f1 r
def tot (l : List S56) : Int := (l.map fun e => (e.f2.size : Int) - (e.f1 - e.f0)).sum
theorem tot_cons (e : S56) (r : List S56) : tot (e :: r) = ((e.f2.size : Int) - (e.f1 - e.f0)) + tot r := by unfold tot; rw [List.map_cons, List.sum_cons]
theorem apW_len (src : List UInt8) : ∀ (l : List S56) (p off : Int), vOK src.length p l → 0 ≤ off → off ≤ p + 1 → off ≤ src.length → ((apW src off l).length : Int) = src.length - off + tot l
  | [], p, off, _, h0, _, h2 => by
    simp only [apW, List.length_drop, tot, List.map_nil, List.sum_nil]
    omega
  | e :: r, p, off, ⟨h3, h4, h5, h6⟩, h0, h1, h2 => by
    have := apW_len src r e.f1 e.f1 h6 (by omega) (by omega) h5
    rw [tot_cons]
    simp only [apW, List.length_append, List.length_take, List.length_drop, lb_len, Int.natCast_add, this]
    omega
theorem w64_id' {n : Int} (h : -9223372036854775808 ≤ n) (h' : n ≤ 9223372036854775807) : wrap64 n = n := by unfold wrap64; omega
theorem rd56 (l : List S56) (i : Nat) (h : i < l.length) : rd_T56 l (i : Int) = l[i] := by simp [rd_T56, List.getD, h]
theorem val_ok (src : ByteArray) (l : List S56) (hs : src.size ≤ 2000) (hl : l.length ≤ 50) (hz : ∀ e ∈ l, e.f2.size ≤ 140737488351232) : ∀ (d i k : Nat) (p len : Int), i + d = l.length → -1 ≤ p → p ≤ src.size → -(3000 * (i + 1) : Int) ≤ len → len ≤ 140737488355328 * (i + 1) → textedit_Validate.l0 k src p len l (l.length : Int) (i : Int) = some 0 → vOK src.size p (l.drop i) ∧ len + tot (l.drop i) ≤ 2000 := by
  intro d
  induction d with
  | zero =>
    intro i k p len hi hp0 hp1 h1 h2 h
    rw [List.drop_eq_nil_of_le (by omega)]
    cases k with
    | zero => simp [textedit_Validate.l0] at h
    | succ k =>
      simp only [textedit_Validate.l0] at h
      rw [if_neg (by omega)] at h
      split at h
      · cases h
      · exact ⟨trivial, by simp only [tot, List.map_nil, List.sum_nil]; omega⟩
  | succ d ih =>
    intro i k p len hi hp0 hp1 h1 h2 h
    have hi' : i < l.length := by omega
    cases k with
    | zero => simp [textedit_Validate.l0] at h
    | succ k =>
      simp only [textedit_Validate.l0] at h
      rw [if_pos (by omega), if_pos (Int.natCast_nonneg _), if_pos (by omega), rd56 l i hi'] at h
      split at h
      · cases h
      · split at h
        · cases h
        · split at h
          · cases h
          · rename_i c1 c2 c3
            have hw : wrap64 ((i : Int) + 1) = ((i + 1 : Nat) : Int) := by rw [w64_id' (by omega) (by omega)]; omega
            have hzi := hz _ (List.getElem_mem hi')
            rw [List.drop_eq_getElem_cons hi', tot_cons]
            generalize l[i] = e at h c1 c2 c3 hzi ⊢
            have hz1 : wrap64 (e.f1 - e.f0) = e.f1 - e.f0 := w64_id' (by omega) (by omega)
            have hz2 : wrap64 ((e.f2.size : Int) - (e.f1 - e.f0)) = (e.f2.size : Int) - (e.f1 - e.f0) := w64_id' (by omega) (by omega)
            have hz3 : wrap64 (len + ((e.f2.size : Int) - (e.f1 - e.f0))) = len + ((e.f2.size : Int) - (e.f1 - e.f0)) := w64_id' (by omega) (by omega)
            rw [hz1, hz2, hz3, hw] at h
            obtain ⟨a, b⟩ := ih (i + 1) k e.f1 _ (by omega) (by omega) (by omega) (by omega) (by omega) h
            clear hz1 hz2 hz3 hw
            exact ⟨⟨by omega, by omega, by omega, a⟩, by omega⟩
def okE (l : List S56) : Prop := ∀ e ∈ l, e.f2.size ≤ 140737488351232
theorem own_move {w w' : World} {base : Nat} {e : TypeId} {v : Value} {n : Nat} {xs : List Value} (h : w.ownsRow base e 1 v n xs) (hm : ∀ k, v.ownBlock = some k → w'.heap[k]? = w.heap[k]?) : w'.ownsRow base e 1 v n xs :=
  ⟨h.1, h.2.imp id (fun ⟨g, cap, cur, he, hb, hg, r⟩ => ⟨g, cap, cur, he, hb, (hm g (by rw [he]; rfl)).trans hg, r⟩)⟩
theorem isB_same {w w' : World} {B b : Nat} {bs : List Value} (h : Lib.IsBuilder 93 5 B b bs w) (hm : ∀ k, k < w.heap.size → w'.heap[k]? = w.heap[k]?) : Lib.IsBuilder 93 5 B b bs w' := by
  have go : ∀ p, Lib.BuilderAt 93 5 B b p bs w → Lib.BuilderAt 93 5 B b p bs w' := fun p ⟨h0, v, h1, h2, h3⟩ => ⟨h0, v, (hm _ (blk_lt h1)).trans h1, own_move h2 (fun k hk => hm k (h2.lt k hk).2), h3⟩
  exact h.imp (go _) (go _)
theorem isB_set {w : World} {B b g : Nat} {bs : List Value} {cs : Array Value} (h : Lib.IsBuilder 93 5 B b bs w) (hb : w.heap[g]? = some (.cells cs 56 (0, 0))) (j : Nat) (u : Value) : Lib.IsBuilder 93 5 B b bs (w.setCell ⟨g, j, none⟩ u) := by
  have go : ∀ p, Lib.BuilderAt 93 5 B b p bs w → Lib.BuilderAt 93 5 B b p bs (w.setCell ⟨g, j, none⟩ u) := fun p ⟨h0, v, h1, h2, h3⟩ => by
    have hne : b ≠ g := by
      intro e
      subst e
      rw [h1] at hb
      injection hb with hb
      injection hb with _ hb
      cases hb
    refine ⟨h0, v, (Below.heap_setCell w ⟨g, j, none⟩ u b hne).trans h1, own_move h2 (fun k hk => Below.heap_setCell w ⟨g, j, none⟩ u k ?_), h3⟩
    intro e
    subst e
    exact Lib.ownBlock_ne h2 hb (by decide) hk
  exact h.imp (go _) (go _)
theorem isB_lt {w : World} {B b : Nat} {bs : List Value} (h : Lib.IsBuilder 93 5 B b bs w) : b < w.heap.size := h.elim (fun h => h.lt) (fun h => h.lt)
theorem apW_step (a0 : ByteArray) (off : Int) (e : S56) (r : List S56) : apW (lb a0) off (e :: r) = lb (a0.extract off.toNat e.f0.toNat ++ e.f2) ++ apW (lb a0) e.f1 r := by
  simp only [apW, lb_app, lb_extract]
theorem drop_extract (s : ByteArray) (n : Nat) : Lib.strCells (s.extract n s.size) = Lib.byteCells ((lb s).drop n) := by
  rw [Lib.strCells_eq]
  show Lib.byteCells (lb (s.extract n s.size)) = _
  rw [lb_extract, List.take_of_length_le (by rw [List.length_drop, lb_len]; exact Nat.le_refl _)]
theorem lb_app_len (a b : ByteArray) : (lb a ++ lb b).length = a.size + b.size := by rw [List.length_append, lb_len, lb_len]
set_option maxHeartbeats 8000000 in
set_option maxRecDepth 100000 in
theorem apply35 (k : Nat) (a0 : ByteArray) (A : Option Addr) (c : Nat) (l : List S56) (w : World) (hr : Kd.C k56 w A l.length l) (hc : l.length ≤ c) (hv : textedit_Validate.f k a0 l = some 0) (hz : okE l) :
    Calls Try.prog 35 #[.string a0, .slice A l.length c] w fun e w' => e = .returned (.tuple #[.string ⟨(apW (lb a0) 0 l).toArray⟩, .int .i64 0]) ∧ Below w.heap.size w w' := by
  have hu56 := Try.underlying56
  have hu93 := Try.underlying93
  have hu42 := Try.underlying42
  have hu9 := Try.underlying9
  have hsz : a0.size ≤ 2000 ∧ l.length ≤ 50 := by
    unfold textedit_Validate.f at hv
    split at hv
    · cases hv
    · split at hv
      · cases hv
      · omega
  have hval := val_ok a0 l hsz.1 hsz.2 hz l.length 0 k (-1) a0.size (by omega) (by omega) (by omega) (by omega) (by omega) (by
    unfold textedit_Validate.f at hv
    rw [if_neg (by omega), if_neg (by omega)] at hv
    exact hv)
  rw [List.drop_zero] at hval
  have htl := apW_len (lb a0) l (-1) 0 (by rw [lb_len]; exact hval.1) (by omega) (by omega) (by omega)
  rw [lb_len] at htl
  have HR := Aside0.mk hr
  have HC := Aside0.mk hc
  have HV := Aside0.mk hv
  have HOK := Aside0.mk hval.1
  have HT := Aside0.mk (show (apW (lb a0) 0 l).length ≤ 2000 from by omega)
  have HS := Aside0.mk hsz
  have HB := Aside0.mk (Below.refl w.heap.size w)
  clear hr hc hv hz hval htl hsz
  go_enter Try.func35, Try.ntmps35
  go_wp2_with (first | (go_at_call 41; refine (textedit_Validate.calls k a0 A c l 0 _ (Kd.C_below HR.out HB.out) HC.out HV.out).mono ?_; rintro e_ w1 ⟨rfl, hb⟩; have n0_ := Aside0.mk (below_step HB.out hb); clear HB hb; have HB := n0_; clear n0_) | ((with_reducible refine gate_dst (N := 7) rfl ?_); refine box_event ?hg (N := 7) ?hd (cs := #[.pointer none, .slice none 0 0]) (t := 93) ?hr ?_; (case hd => rfl); (case hg => rfl); (case hr => first | (go_simp; done) | (go_simp; rfl)); intro g7 hg w7 hbox hb; have HBL := Aside0.mk (show Lib.IsBuilder 93 5 w.heap.size g7 (Lib.byteCells []) w7 from .inl ⟨by rw [hg]; exact HB.out.size, _, hbox, World.ownsRow_nil _ _ _ _, by simp [Value.ownBlock]⟩); have n0_ := Aside0.mk (below_step HB.out hb); clear HB hb hbox hg; have HB := n0_; clear n0_))
  clear HV
  go_loopg [8, 19] l.length (fun kq v8 v19 w' => ∃ x off : Int, v8 = .int .i64 off ∧ v19 = .int .i64 x ∧ Aside0 (∃ (i : Nat) (p : Int) (pre : List UInt8), x = i ∧ i + kq = l.length ∧ 0 ≤ off ∧ off ≤ p + 1 ∧ off ≤ a0.size ∧ vOK a0.size p (l.drop i) ∧ pre ++ apW (lb a0) off (l.drop i) = apW (lb a0) 0 l ∧ Lib.IsBuilder 93 5 w.heap.size g7 (Lib.byteCells pre) w') ∧ Aside0 (Below w.heap.size w w'))
  case atStart => exact ⟨0, 0, rfl, rfl, ⟨⟨0, -1, [], rfl, by omega, by omega, by omega, by omega, by rw [List.drop_zero]; exact HOK.out, by rw [List.drop_zero, List.nil_append], HBL.out⟩⟩, HB⟩
  case round =>
    clear HB HBL HOK
    obtain ⟨x, off, rfl, rfl, HX, HB⟩ := hrel
    obtain ⟨i, p, pre, e1, e2, o0, o1, o2, hok, hpre, hbl⟩ := HX.out
    clear HX
    by_cases c : x < (l.length : Int)
    · have c1 : decide (x < (l.length : Int)) = true := decide_eq_true c
      have hil : i < l.length := by omega
      obtain ⟨k1, rfl⟩ : ∃ k1, gk = k1 + 1 := ⟨gk - 1, by omega⟩
      have E1 := Aside0.mk (And.intro e1 e2)
      have p1 : 0 ≤ (x : Int) := by omega
      obtain ⟨ad, ea, hx0, hx1, hx2⟩ := at_T56 HR.out x p1 c
      cases ea
      obtain ⟨ye, hye⟩ : ∃ ye, ye = rd_T56 l x := ⟨_, rfl⟩
      rw [← hye] at hx0 hx1 hx2
      have hyl : l.drop i = ye :: l.drop (i + 1) := by rw [List.drop_eq_getElem_cons hil, hye, e1, rd56 l i hil]
      rw [hyl] at hok hpre
      obtain ⟨h3, h4, h5, h6⟩ := hok
      rw [apW_step] at hpre
      have HLN := Aside0.mk (show pre.length + (a0.extract off.toNat ye.f0.toNat ++ ye.f2).size ≤ 2000 from by
        have h_ := HT.out
        rw [← hpre, List.length_append, List.length_append, lb_len] at h_
        omega)
      obtain ⟨mid, hmid⟩ : ∃ mid, mid = lb (a0.extract off.toNat ye.f0.toNat ++ ye.f2) := ⟨_, rfl⟩
      have HMID := Aside0.mk (show Lib.strCells (a0.extract off.toNat ye.f0.toNat ++ ye.f2) = Lib.byteCells mid from by rw [hmid]; rfl)
      rw [← hmid] at hpre
      have HPRE := Aside0.mk (show (pre ++ mid) ++ apW (lb a0) ye.f1 (l.drop (i + 1)) = apW (lb a0) 0 l from by rw [List.append_assoc]; exact hpre)
      have H6 := Aside0.mk h6
      have HBL := Aside0.mk hbl
      have HF := Aside0.mk (show 0 ≤ ye.f1 ∧ ye.f1 ≤ a0.size from ⟨by omega, h5⟩)
      replace hx0 := (HB.out.cell (World.block_lt_of_cell? w _ hx0)).trans hx0
      replace hx1 := (HB.out.cell (World.block_lt_of_cell? w _ hx1)).trans hx1
      replace hx2 := (HB.out.cell (World.block_lt_of_cell? w _ hx2)).trans hx2
      have s0 : 0 ≤ off := o0
      have s1 : off ≤ ye.f0 := by omega
      have s2 : ye.f0 ≤ (a0.size : Int) := by omega
      have s3 : 0 ≤ ye.f0 := by omega
      have s4 : off.toNat ≤ ye.f0.toNat := by omega
      have s5 : ye.f0.toNat ≤ a0.size := by omega
      have s6 : (9223372036854775807 < ye.f0.toNat - off.toNat + ye.f2.size) = False := eq_false (by
        have h_ := HLN.out
        rw [ByteArray.size_append, ByteArray.size_extract] at h_
        omega)
      replace p1 := eq_true p1
      have q1 := eq_true c
      clear e1 e2 c hye hyl hpre h3 h4 h5 h6 hbl hmid o0 o1 o2
      go_upto_region 9 with (first | ((with_reducible refine gate_dst (N := 10) rfl ?_); refine box_event ?hg (N := 10) ?hd (cs := #[.int .i64 0, .int .i64 0, .string ByteArray.empty]) (t := 56) ?hr ?_; (case hd => rfl); (case hg => rfl); (case hr => first | (go_simp; done) | (go_simp; rfl)); intro g10 hg w10 hbox hb; have BK10 := Aside0.mk hbox; have GE10 := Aside0.mk (show w.heap.size ≤ g10 from by rw [hg]; exact HB.out.size); have NE10 := Aside0.mk (show g10 ≠ g7 from fun e => by have h_ := isB_lt HBL.out; omega); have n0_ := Aside0.mk (below_step HB.out hb); have n1_ := Aside0.mk (isB_same HBL.out (fun k hk => hb.block k hk)); replace hx0 := (hb.cell (World.block_lt_of_cell? _ _ hx0)).trans hx0; replace hx1 := (hb.cell (World.block_lt_of_cell? _ _ hx1)).trans hx1; replace hx2 := (hb.cell (World.block_lt_of_cell? _ _ hx2)).trans hx2; clear HB HBL hb hbox hg; have HB := n0_; have HBL := n1_; clear n0_ n1_; have hc10_0 : w10.cell? ⟨g10, 0, none⟩ = some (.int .i64 0) := (blk_cell BK10.out 0).trans rfl; have hf10_0 := blk_frozen BK10.out 0; have hc10_1 : w10.cell? ⟨g10, 1, none⟩ = some (.int .i64 0) := (blk_cell BK10.out 1).trans rfl; have hf10_1 := blk_frozen BK10.out 1; have hc10_2 : w10.cell? ⟨g10, 2, none⟩ = some (.string ByteArray.empty) := (blk_cell BK10.out 2).trans rfl; have hf10_2 := blk_frozen BK10.out 2))
      have n0_ := Aside0.mk (show Below w.heap.size w (((w10.setCell ⟨g10, 0, none⟩ (.int .i64 ye.f0)).setCell ⟨g10, 1, none⟩ (.int .i64 ye.f1)).setCell ⟨g10, 2, none⟩ (.string ye.f2)) from below_set (below_set (below_set HB.out GE10.out) GE10.out) GE10.out)
      have m1_ : (w10.setCell ⟨g10, 0, none⟩ (.int .i64 ye.f0)).heap[g10]? = some (.cells #[.int .i64 ye.f0, .int .i64 0, .string ByteArray.empty] 56 (0, 0)) := blk_put BK10.out 0 _ rfl
      have m2_ : ((w10.setCell ⟨g10, 0, none⟩ (.int .i64 ye.f0)).setCell ⟨g10, 1, none⟩ (.int .i64 ye.f1)).heap[g10]? = some (.cells #[.int .i64 ye.f0, .int .i64 ye.f1, .string ByteArray.empty] 56 (0, 0)) := blk_put m1_ 1 _ rfl
      have m3_ : (((w10.setCell ⟨g10, 0, none⟩ (.int .i64 ye.f0)).setCell ⟨g10, 1, none⟩ (.int .i64 ye.f1)).setCell ⟨g10, 2, none⟩ (.string ye.f2)).heap[g10]? = some (.cells #[.int .i64 ye.f0, .int .i64 ye.f1, .string ye.f2] 56 (0, 0)) := blk_put m2_ 2 _ rfl
      have n1_ := Aside0.mk (isB_set (isB_set (isB_set HBL.out BK10.out 0 (.int .i64 ye.f0)) m1_ 1 (.int .i64 ye.f1)) m2_ 2 (.string ye.f2))
      have n2_ := Aside0.mk m3_
      clear HB HBL BK10 m1_ m2_ m3_ hx0 hx1 hx2 hc10_0 hf10_0 hc10_1 hf10_1 hc10_2 hf10_2
      generalize (((w10.setCell ⟨g10, 0, none⟩ (.int .i64 ye.f0)).setCell ⟨g10, 1, none⟩ (.int .i64 ye.f1)).setCell ⟨g10, 2, none⟩ (.string ye.f2)) = wq at n0_ n1_ n2_ ⊢
      have HB := n0_
      have HBL := n1_
      have BK10 := n2_
      clear n0_ n1_ n2_
      refine start_ (n := 9) (S := fun w' => w'.cell? ⟨g10, 0, none⟩ = some (.int .i64 ye.f0) ∧ w'.cell? ⟨g10, 2, none⟩ = some (.string ye.f2)) (ds := [8]) #[false, false, false, false, false, false, false, false, false] (by kernel_rfl) rfl rfl ⟨(blk_cell (blk_drew BK10.out) 0).trans rfl, (blk_cell (blk_drew BK10.out) 2).trans rfl⟩ (fun hHeld => ?_)
      have n0_ := Aside0.mk (below_drew HB.out)
      have n1_ := Aside0.mk (blk_drew BK10.out)
      have n2_ := Aside0.mk (isB_same (w' := wq.drew) HBL.out (fun _ _ => rfl))
      clear HB BK10 HBL
      have HB := n0_
      have BK10 := n1_
      have HBL := n2_
      clear n0_ n1_ n2_
      generalize wq.drew = w3 at HB BK10 HBL hHeld ⊢
      refine pure_ (i := 0) (N := some 23) (v := ?_) (a' := ?_) #[true, false, false, false, false, false, false, false, false] rfl rfl (by kernel_rfl) (fun _ _ _ h => h) (Or.inl ⟨by rfl, ?_⟩) ?_ ?_
      rotate_left
      · intro w'
        go_simp
        with_reducible rfl
      rotate_left
      · simp only [Act.put, List.setIfInBounds_toArray, List.set_cons_zero, List.set_cons_succ, i64_w, i32_w]
        rfl
      refine pure_ (i := 1) (N := some 24) (v := ?_) (a' := ?_) #[true, true, false, false, false, false, false, false, false] rfl rfl (by kernel_rfl) (fun _ _ _ h => h) (Or.inl ⟨by rfl, ?_⟩) ?_ ?_
      rotate_left
      · intro w'
        go_simp
        with_reducible rfl
      rotate_left
      · simp only [Act.put, List.setIfInBounds_toArray, List.set_cons_zero, List.set_cons_succ, i64_w, i32_w]
        rfl
      refine pure_ (i := 2) (N := some 25) (v := ?_) (a' := ?_) #[true, true, true, false, false, false, false, false, false] rfl rfl (by kernel_rfl) (fun _ _ _ h => h) (Or.inl ⟨by rfl, ?_⟩) ?_ ?_
      rotate_left
      · intro w'
        go_simp
        with_reducible rfl
      rotate_left
      · simp only [Act.put, List.setIfInBounds_toArray, List.set_cons_zero, List.set_cons_succ, i64_w, i32_w]
        rfl
      refine take_ (i := 3) (N := some 26) (v := ?_) (a' := ?_) #[true, true, true, true, false, false, false, false, false] rfl rfl (by kernel_rfl) (fun _ _ _ h => h) (Or.inl ⟨by rfl, ?_⟩) hHeld ?_ ?_
      rotate_left
      · rintro w' ⟨s0, s2⟩
        go_simp
        with_reducible rfl
      rotate_left
      · simp only [Act.put, List.setIfInBounds_toArray, List.set_cons_zero, List.set_cons_succ, i64_w, i32_w]
        rfl
      refine pure_ (i := 4) (N := some 27) (v := ?_) (a' := ?_) #[true, true, true, true, true, false, false, false, false] rfl rfl (by kernel_rfl) (fun _ _ _ h => h) (Or.inl ⟨by rfl, ?_⟩) ?_ ?_
      rotate_left
      · intro w'
        go_simp
        with_reducible rfl
      rotate_left
      · simp only [Act.put, List.setIfInBounds_toArray, List.set_cons_zero, List.set_cons_succ, i64_w, i32_w]
        rfl
      refine pure_ (i := 5) (N := some 28) (v := ?_) (a' := ?_) #[true, true, true, true, true, true, false, false, false] rfl rfl (by kernel_rfl) (fun _ _ _ h => h) (Or.inl ⟨by rfl, ?_⟩) ?_ ?_
      rotate_left
      · intro w'
        go_simp
        with_reducible rfl
      rotate_left
      · simp only [Act.put, List.setIfInBounds_toArray, List.set_cons_zero, List.set_cons_succ, i64_w, i32_w]
        rfl
      refine take_ (i := 6) (N := some 29) (v := ?_) (a' := ?_) #[true, true, true, true, true, true, true, false, false] rfl rfl (by kernel_rfl) (fun _ _ _ h => h) (Or.inl ⟨by rfl, ?_⟩) hHeld ?_ ?_
      rotate_left
      · rintro w' ⟨s0, s2⟩
        go_simp
        with_reducible rfl
      rotate_left
      · simp only [Act.put, List.setIfInBounds_toArray, List.set_cons_zero, List.set_cons_succ, i64_w, i32_w]
        rfl
      refine pure_ (i := 7) (N := some 30) (v := ?_) (a' := ?_) #[true, true, true, true, true, true, true, true, false] rfl rfl (by kernel_rfl) (fun _ _ _ h => h) (Or.inl ⟨by rfl, ?_⟩) ?_ ?_
      rotate_left
      · intro w'
        go_simp
        with_reducible rfl
      rotate_left
      · simp only [Act.put, List.setIfInBounds_toArray, List.set_cons_zero, List.set_cons_succ, i64_w, i32_w]
        rfl
      refine last_ (i := 8) (N := some 31) #[true, true, true, true, true, true, true, true, true] rfl rfl (by kernel_rfl) (by decide) (fun K hK => ?_)
      refine goes_ Try.func42 (by kernel_rfl) rfl #[.pointer (some ⟨g7, 0, none⟩), .string (a0.extract off.toNat ye.f0.toNat ++ ye.f2)] (by rfl) rfl rfl (by (try simp only [List.map_toArray, List.map_cons, List.map_nil]); first | done | rfl) ?_
      refine (Bl.writeString w.heap.size g7 (Lib.byteCells pre) (a0.extract off.toNat ye.f0.toNat ++ ye.f2) _ HBL.out (by have h_ := HLN.out; rw [Lib.byteCells_length]; omega) HB.out.size).mono ?_
      rintro e_ wc ⟨rfl, hbl, hb, hkp⟩
      refine ⟨_, rfl, ?_⟩
      have n0_ := Aside0.mk (HB.out.trans hb)
      have n1_ := Aside0.mk (show Lib.IsBuilder 93 5 w.heap.size g7 (Lib.byteCells (pre ++ mid)) wc from by rw [Lib.byteCells_append, ← HMID.out]; exact .inr hbl)
      have n2_ := Aside0.mk (hkp g10 _ 56 (by decide) (fun e => NE10.out e) BK10.out)
      clear HB HBL BK10 hbl hb hkp
      have HB := n0_
      have HBL := n1_
      have BK10 := n2_
      clear n0_ n1_ n2_
      refine hK.out _ _ ?_
      clear hK K
      refine norm_ (a' := ?_) ?_ ?_
      rotate_left
      · show Act.put _ (some 31) _ = _
        simp only [Act.put, List.setIfInBounds_toArray, List.set_cons_zero, List.set_cons_succ, i64_w, i32_w]
        rfl
      refine done_ (by kernel_rfl) ?_
      have hd10_0 : wc.cell? ⟨g10, 0, none⟩ = some (.int .i64 ye.f0) := (blk_cell BK10.out 0).trans rfl
      have hd10_1 : wc.cell? ⟨g10, 1, none⟩ = some (.int .i64 ye.f1) := (blk_cell BK10.out 1).trans rfl
      clear hHeld s6
      go_wp2
      go_roundg k1
      case measure => have := E1.out; omega
      case rel => exact ⟨wrap64 (x + 1), ye.f1, rfl, rfl, ⟨⟨i + 1, ye.f1, pre ++ mid, by have := E1.out; rw [w64_id' (by omega) (by have := HS.out; omega)]; omega, by have := E1.out; omega, HF.out.1, by omega, HF.out.2, H6.out, HPRE.out, HBL.out⟩⟩, HB⟩
    · have c1 : decide (x < (l.length : Int)) = false := decide_eq_false c
      have HDR := Aside0.mk (show pre ++ (lb a0).drop off.toNat = apW (lb a0) 0 l from by rw [List.drop_eq_nil_of_le (by omega)] at hpre; exact hpre)
      have HO := Aside0.mk (show 0 ≤ off ∧ off ≤ a0.size from ⟨o0, o2⟩)
      have HBL := Aside0.mk hbl
      have s0 : 0 ≤ off := o0
      have s1 : off ≤ (a0.size : Int) := o2
      clear e1 e2 c hok hpre hbl o0 o1 o2
      go_wp2_with (first | (go_at_call 42; refine (Bl.writeString w.heap.size g7 (Lib.byteCells pre) (a0.extract off.toNat a0.size) _ HBL.out (by have h1_ := HT.out; rw [← HDR.out, List.length_append, List.length_drop, lb_len] at h1_; rw [Lib.byteCells_length, ByteArray.size_extract]; have h2_ := HS.out; omega) HB.out.size).mono ?_; rintro e_ wc ⟨rfl, hbl, hb, _⟩; have n0_ := Aside0.mk (HB.out.trans hb); have n1_ := Aside0.mk (show Lib.IsBuilder 93 5 w.heap.size g7 (Lib.byteCells (apW (lb a0) 0 l)) wc from by rw [← HDR.out, Lib.byteCells_append, ← drop_extract]; exact .inr hbl); clear HB HBL hbl hb; have HB := n0_; have HBL := n1_; clear n0_ n1_) | (go_at_call 43; refine (Bl.string w.heap.size g7 (apW (lb a0) 0 l) _ HBL.out HB.out.size).mono ?_; rintro e_ wd ⟨rfl, hb⟩; have n0_ := Aside0.mk (HB.out.trans hb); clear HB hb; have HB := n0_; clear n0_))
      go_ret2
      exact ⟨rfl, HB.out⟩
set_option maxHeartbeats 2000000 in
set_option maxRecDepth 100000 in
theorem apply35_no (k : Nat) (a0 : ByteArray) (A : Option Addr) (c : Nat) (l : List S56) (v : Int) (w : World) (hr : Kd.C k56 w A l.length l) (hc : l.length ≤ c) (hv : textedit_Validate.f k a0 l = some v) (h0 : v ≠ 0) :
    Calls Try.prog 35 #[.string a0, .slice A l.length c] w fun e w' => e = .returned (.tuple #[.string ⟨#[]⟩, .int .i64 v]) ∧ Below w.heap.size w w' := by
  have HR := Aside0.mk hr
  have HC := Aside0.mk hc
  have HV := Aside0.mk hv
  have HB := Aside0.mk (Below.refl w.heap.size w)
  have e1 : (v == 0) = false := beq_eq_false_iff_ne.2 h0
  have e2 : (v != 0) = true := bne_iff_ne.2 h0
  clear hr hc hv h0
  go_enter Try.func35, Try.ntmps35
  go_wp2_with (go_at_call 41; refine (textedit_Validate.calls k a0 A c l v _ (Kd.C_below HR.out HB.out) HC.out HV.out).mono ?_; rintro e_ w1 ⟨rfl, hb⟩; have n0_ := Aside0.mk (below_step HB.out hb); clear HB hb; have HB := n0_; clear n0_)
  go_ret2
  exact ⟨rfl, HB.out⟩
theorem val_loop (src : ByteArray) (l : List S56) (hl : l.length ≤ 50) : ∀ (d i k : Nat) (p len : Int), i + d = l.length → d < k → ∃ v, textedit_Validate.l0 k src p len l (l.length : Int) (i : Int) = some v := by
  intro d
  induction d with
  | zero =>
    intro i k p len hi hk
    obtain ⟨k, rfl⟩ : ∃ m, k = m + 1 := ⟨k - 1, by omega⟩
    simp only [textedit_Validate.l0]
    rw [if_neg (by omega)]
    split <;> exact ⟨_, rfl⟩
  | succ d ih =>
    intro i k p len hi hk
    obtain ⟨k, rfl⟩ : ∃ m, k = m + 1 := ⟨k - 1, by omega⟩
    have hw : wrap64 ((i : Int) + 1) = ((i + 1 : Nat) : Int) := by rw [w64_id' (by omega) (by omega)]; omega
    simp only [textedit_Validate.l0]
    rw [if_pos (by omega), if_pos (Int.natCast_nonneg _), if_pos (by omega), hw]
    repeat' split
    all_goals first | exact ⟨_, rfl⟩ | exact ih (i + 1) k _ _ (by omega) (by omega)
theorem val_total (src : ByteArray) (l : List S56) : ∃ v, textedit_Validate.f (l.length + 2) src l = some v := by
  unfold textedit_Validate.f
  split
  · exact ⟨_, rfl⟩
  · split
    · exact ⟨_, rfl⟩
    · exact val_loop src l (by omega) l.length 0 _ _ _ (by omega) (by omega)
open Classical in
noncomputable def textedit_Apply.f (a0 : ByteArray) (l1 : List (S56)) : Option (ByteArray × Int) := if okE l1 then (textedit_Validate.f (l1.length + 2) a0 l1).bind fun v => if v = 0 then some (⟨(apW (lb a0) 0 l1).toArray⟩, 0) else some (⟨#[]⟩, v) else none
theorem textedit_Apply.total (a0 : ByteArray) (l1 : List S56) (h : okE l1) : ∃ r, textedit_Apply.f a0 l1 = some r := by
  obtain ⟨v, hv⟩ := val_total a0 l1
  unfold textedit_Apply.f
  rw [if_pos h, hv, Option.bind_some]
  split <;> exact ⟨_, rfl⟩
theorem textedit_Apply.calls (a0 : ByteArray) (A1 : Option Addr) (c1 : Nat) (l1 : List (S56)) (r1 : ByteArray) (r2 : Int) (w : World) (hr1 : Kd.C k56 w A1 l1.length l1) (hc1 : l1.length ≤ c1) (h : textedit_Apply.f a0 l1 = some (r1, r2)) :
    Calls Try.prog 35 #[.string a0, .slice A1 l1.length c1] w fun e w' => e = .returned (.tuple #[.string r1, .int .i64 r2]) ∧ Below w.heap.size w w' := by
  obtain ⟨v, hv⟩ := val_total a0 l1
  unfold textedit_Apply.f at h
  split at h
  · rename_i hz
    rw [hv, Option.bind_some] at h
    split at h
    · rename_i h0
      subst h0
      cases h
      exact apply35 _ a0 A1 c1 l1 w hr1 hc1 hv hz
    · rename_i h0
      cases h
      exact apply35_no _ a0 A1 c1 l1 _ w hr1 hc1 hv h0
  · cases h
end Go.Proofs.Ytficalhfbopjbaa.Ds
