/- TopologicalOrder. Condition: at most 400 edges, well-formed keys. -/
import Derived.Test.YteekdkkfegcoeaaDghRd
namespace Go.Proofs.Yteekdkkfegcoeaa.Dg
open Go.RowKit Go.Sort Go.Lib Go.Proofs.YteekdkkfegcoeaaW.PrintWords Go.Proofs.YteekdkkfegcoeaaW.PrintLast Go.Proofs.YteekdkkfegcoeaaW.PrintMore
open Go.Proofs.Yteekdkkfegcoeaa
open Go.ChangeMaps (setBlock)
set_option linter.unusedVariables false
set_option linter.unusedSimpArgs false
attribute [local go_sem] Oper.semAt_some
def tgo (nx : S24 → List S24) (ks : List S24) : Nat → List S24 → List S24 × Int
  | 0, ord => (ord, 0)
  | n + 1, ord => match ks.find? (fun k => rdyF (nx k) ord k) with
    | none => ([], 8)
    | some k => tgo nx ks n (ord ++ [k])
theorem ixf_cases (p : S24 → Bool) (xs : List S24) : (ixf p xs = -1 ∧ xs.find? p = none) ∨ ∃ (j : Nat) (h : j < xs.length), ixf p xs = (j : Int) ∧ p xs[j] = true ∧ xs.find? p = some xs[j] := by
  cases h : xs.find? p with
  | none =>
    left
    refine ⟨ixf_none p xs (fun t ht => ?_), rfl⟩
    have := List.find?_eq_none.1 h _ (List.getElem_mem ht)
    simpa using this
  | some k =>
    right
    rw [List.find?_eq_some_iff_getElem] at h
    obtain ⟨hp, j, hj, he, hb⟩ := h
    subst he
    exact ⟨j, hj, ixf_at p xs j hj hp (fun t ht htj => by simpa using hb t htj), hp, rfl⟩
theorem cells_below {W W' : World} {a b c : Addr} {u v x : Value} (h : W.cell? a = some u ∧ W.cell? b = some v ∧ W.cell? c = some x) (hb : Below W.heap.size W W') : W'.cell? a = some u ∧ W'.cell? b = some v ∧ W'.cell? c = some x :=
  ⟨(hb.cell (World.block_lt_of_cell? _ _ h.1)).trans h.1, (hb.cell (World.block_lt_of_cell? _ _ h.2.1)).trans h.2.1, (hb.cell (World.block_lt_of_cell? _ _ h.2.2)).trans h.2.2⟩
def Oke (l0 : List S37) : Prop := l0.length ≤ 400 ∧ ∀ e ∈ l0, wfK e.f0 ∧ wfK e.f1
open Classical in
noncomputable def depgraph_TopologicalOrder.f (l0 : List (S37)) : Option ((List (S24)) × Int) := if Oke l0 then some (tgo (nxt false l0) (gof false l0).2 (gof false l0).2.length []) else none
set_option maxHeartbeats 8000000 in
set_option maxRecDepth 100000 in
theorem depgraph_TopologicalOrder.calls (A0 : Option Addr) (c0 : Nat) (l0 : List (S37)) (r1 : List (S24)) (r2 : Int) (w : World) (hr0 : Kd.C k37 w A0 l0.length l0) (hc0 : l0.length ≤ c0) (h : depgraph_TopologicalOrder.f l0 = some (r1, r2)) :
    Calls Try.prog 10 #[.slice A0 l0.length c0] w fun e w' => ∃ v0_ : Value, e = .returned (.tuple #[v0_, .int .i64 r2]) ∧ Kd.R k24 24 w' w.heap.size (fun _ => True) v0_ r1 ∧ Below w.heap.size w w' := by
  have mixed : Try.prog.follows .mixedOrders = true := by kernel_rfl
  have eg : ∀ args w, (callFunc 20 args).run Try.prog w = .ok (.enter 20 args) w := enters_of Try.func20 (by kernel_rfl) rfl
  have hu24 := Try.underlying24
  have hu26 := Try.underlying26
  have hu49 := Try.underlying49
  have hu50 := Try.underlying50
  have hu52 := Try.underlying52
  unfold depgraph_TopologicalOrder.f at h
  split at h
  case isFalse => cases h
  rename_i hk
  have HK := Aside0.mk hk
  have HRR := Aside0.mk (Option.some.inj h)
  have HR := Aside0.mk hr0
  have HC := Aside0.mk hc0
  clear hk h hr0 hc0
  go_enter Try.func10, Try.ntmps10
  go_wp2_with (first | (go_at_call 17; refine (ng_calls false A0 c0 l0 w HR.out HK.out.1 HC.out HK.out.2).mono ?_; rintro e_ w1 ⟨gb, gm, l, kv, ks, rfl, hgr, hb2, hgf⟩; have HG := Aside0.mk hgr; have HB1 := Aside0.mk hb2; have HGF := Aside0.mk hgf; clear hgr hb2 hgf) | ((with_reducible refine gate_dst (N := 4) rfl ?_); refine box_event ?hg (N := 4) ?hd (cs := #[.pointer none]) (t := 46) ?hr ?_; (case hd => rfl); (case hg => rfl); (case hr => first | (go_simp; done) | (go_simp; rfl)); intro g1 hg1 w2 hbox hb3; have c1_ : w2.cell? ⟨g1, 0, none⟩ = some (.pointer none) := (blk_cell hbox 0).trans rfl; have f1_ := blk_frozen hbox 0; have BK1 := Aside0.mk hbox; have HB2 := Aside0.mk hb3; have GE1 := Aside0.mk (Nat.le_of_eq hg1.symm); clear hbox hb3 hg1) | ((with_reducible refine gate_dst (N := 10) rfl ?_); have n1_ := Aside0.mk (show (w2.setCell ⟨g1, 0, none⟩ (.pointer (some ⟨gb, 0, none⟩))).heap[g1]? = some (.cells #[.pointer (some ⟨gb, 0, none⟩)] 46 (0, 0)) from blk_put (cs := #[.pointer none]) BK1.out 0 _ rfl); have n2_ := Aside0.mk (show Below w1.heap.size w1 (w2.setCell ⟨g1, 0, none⟩ (.pointer (some ⟨gb, 0, none⟩))) from below_set HB2.out GE1.out); clear c1_ f1_ BK1 HB2; have BK1 := n1_; have HB2 := n2_; clear n1_ n2_; generalize (w2.setCell ⟨g1, 0, none⟩ (.pointer (some ⟨gb, 0, none⟩))) = w3 at BK1 HB2 ⊢; refine Mp.wp_make_at rfl 49 rfl (enc := encK) Try.underlying49 ?_; intro w4 pm hpm hat hg_ hb hs; have HM := Aside0.mk hat; have GM := Aside0.mk (show w1.heap.size ≤ pm from by rw [hpm]; exact HB2.out.size); have n1_ := Aside0.mk (Below.trans_below HB2.out HB2.out.size hb); have n2_ := Aside0.mk (blk_below BK1.out hb); clear BK1 HB2; have BK1 := n2_; have HB2 := n1_; clear n1_ n2_ hat hg_ hb hs hpm) | ((with_reducible refine gate_dst (N := 5) rfl ?_); refine box_event ?hg (N := 5) ?hd (cs := #[.map none]) (t := 49) ?hr ?_; (case hd => rfl); (case hg => rfl); (case hr => first | (go_simp; done) | (go_simp; rfl)); intro g2 hg2 w5 hbox hb3; have c2_ : w5.cell? ⟨g2, 0, none⟩ = some (.map none) := (blk_cell hbox 0).trans rfl; have f2_ := blk_frozen hbox 0; have BK2 := Aside0.mk hbox; have n1_ := Aside0.mk (Below.trans_below HB2.out HB2.out.size hb3); have n2_ := Aside0.mk (blk_below BK1.out hb3); have n3_ := Aside0.mk (HM.out.below hb3); have GE2 := Aside0.mk (show w1.heap.size ≤ g2 from by rw [hg2]; exact HB2.out.size); have NE2 := Aside0.mk (show g1 ≠ g2 ∧ pm ≠ g2 from ⟨by have := blk_lt BK1.out; omega, by have := HM.out.lt; omega⟩); clear BK1 HB2 HM; have HB2 := n1_; have BK1 := n2_; have HM := n3_; clear hbox hb3 hg2 n1_ n2_ n3_))
  have n1_ := Aside0.mk (show (w5.setCell ⟨g2, 0, none⟩ (.map (some pm))).heap[g2]? = some (.cells #[.map (some pm)] 49 (0, 0)) from blk_put (cs := #[.map none]) BK2.out 0 _ rfl)
  have n2_ := Aside0.mk (show Below w1.heap.size w1 (w5.setCell ⟨g2, 0, none⟩ (.map (some pm))) from below_set HB2.out GE2.out)
  have n3_ := Aside0.mk (show (w5.setCell ⟨g2, 0, none⟩ (.map (some pm))).heap[g1]? = some (.cells #[.pointer (some ⟨gb, 0, none⟩)] 46 (0, 0)) from (Below.heap_setCell _ _ _ _ (show g1 ≠ _ from NE2.out.1)).trans BK1.out)
  have n4_ := Aside0.mk (HM.out.set (p := ⟨g2, 0, none⟩) NE2.out.2 (.map (some pm)))
  clear c2_ f2_ BK2 HB2 BK1 HM
  have BK2 := n1_
  have HB2 := n2_
  have BK1 := n3_
  have HM := n4_
  clear n1_ n2_ n3_ n4_
  generalize (w5.setCell ⟨g2, 0, none⟩ (.map (some pm))) = w6 at BK1 BK2 HB2 HM ⊢
  have hgood := gof_good false l0 l0.length (Nat.le_refl _)
  rw [List.take_length, HGF.out] at hgood
  have hnx : (fun k => (celAt l k).xs) = nxt false l0 := by
    funext k
    rw [celAt_xs]
    unfold nxt
    rw [HGF.out]
  have hks : (gof false l0).2 = ks := by rw [HGF.out]
  have HKS := Aside0.mk (show ks.length ≤ 800 from by have := hgood.klen; have := HK.out.1; simp only at *; omega)
  have HKSW := Aside0.mk (show ∀ x ∈ ks, wfK x from fun x hx => gof_wf false l0 HK.out.2 x (hks.symm ▸ hx))
  have HNXW := Aside0.mk (show ∀ k, (celAt l k).xs.length ≤ 400 ∧ ∀ x ∈ (celAt l k).xs, wfK x from fun k => ⟨by rw [celAt_xs]; exact Nat.le_trans (hgood.at k).2 HK.out.1, fun x hx => gof_wf false l0 HK.out.2 x (nxt_keys false l0 k x (by rw [← hnx]; exact hx))⟩)
  have HT := Aside0.mk (show tgo (fun k => (celAt l k).xs) ks ks.length [] = (r1, r2) from by rw [hnx, ← hks]; exact HRR.out)
  clear hgood hnx hks
  go_loopg [6] ks.length (fun kx s6 wr => ∃ ord : List S24, ord.length ≤ ks.length ∧ ks.length - ord.length ≤ kx ∧ Aside0 (tgo (fun k => (celAt l k).xs) ks (ks.length - ord.length) ord = (r1, r2)) ∧ Aside0 (wr.ownsRow w1.heap.size 24 3 s6 ord.length (flatK ord)) ∧
    Aside0 (Mp.At Try.prog 24 encK wr pm (seenL ord)) ∧ Aside0 (wr.heap[g1]? = some (.cells #[.pointer (some ⟨gb, 0, none⟩)] 46 (0, 0))) ∧ Aside0 (wr.heap[g2]? = some (.cells #[.map (some pm)] 49 (0, 0))) ∧ Aside0 (Below w1.heap.size w1 wr))
  case atStart => exact ⟨[], Nat.zero_le _, Nat.le_refl _, HT, ⟨own_nil _ _⟩, HM, BK1, BK2, HB2⟩
  case round =>
    clear HT HM BK1 BK2 HB2
    obtain ⟨ord, hol, hok, HT, HO, HM, BK1, BK2, HB2⟩ := hrel
    obtain ⟨A6, c6, rfl, hc6, _⟩ := own24_reads HO.out
    obtain ⟨Ak, ck, hkv, hck, hCk⟩ := own24_reads (HG.out.below HB2.out).krow
    have HKV := Aside0.mk hkv
    clear hkv
    have c1_ : wr.cell? ⟨g1, 0, none⟩ = some (.pointer (some ⟨gb, 0, none⟩)) := (blk_cell BK1.out 0).trans rfl
    have c2_ : wr.cell? ⟨g2, 0, none⟩ = some (.map (some pm)) := (blk_cell BK2.out 0).trans rfl
    have c3_ : wr.cell? ⟨gb, 1, none⟩ = some (.slice Ak ks.length ck) := (blk_cell (HG.out.below HB2.out).box 1).trans (by rw [← HKV.out]; rfl)
    by_cases hlt : ord.length < ks.length
    · have hltz : (ord.length : Int) < (ks.length : Int) := by omega
      have HIX := Aside0.mk (ixf_calls 20 #[.pointer (some ⟨g1, 0, none⟩), .pointer (some ⟨g2, 0, none⟩)] (fun k => rdyF (celAt l k).xs ord k) Ak ck ks wr eg hCk (by have := HKS.out; omega) (fun W' hgw x hx =>
        top1_calls w.heap.size gb gm l kv ks pm g1 g2 ord x W' (HG.out.below (Below.trans_below HB2.out HB2.out.size hgw.below)) (HM.out.below hgw.below) (HKSW.out x hx) (HNXW.out x).2 (by have := (HNXW.out x).1; omega) (blk_below BK1.out hgw.below) (blk_below BK2.out hgw.below)))
      have HOL := Aside0.mk (show ord.length < ks.length from hlt)
      rcases ixf_cases (fun k => rdyF (celAt l k).xs ord k) ks with ⟨hx1, hx2⟩ | ⟨j, hj, hx1, hx2, hx3⟩
      · rw [hx1] at HIX
        have HX2 := Aside0.mk hx2
        clear hx1 hx2 hCk
        go_wp2_with (go_at_call 19; refine HIX.out.mono ?_; rintro e_ wq ⟨rfl, hgw⟩)
        go_ret2
        have ht := HT.out
        obtain ⟨m, hm⟩ : ∃ m, ks.length - ord.length = m + 1 := ⟨ks.length - ord.length - 1, by omega⟩
        rw [hm] at ht
        unfold tgo at ht
        rw [HX2.out] at ht
        injection ht with h1 h2
        subst h1; subst h2
        refine ⟨.slice none 0 0, rfl, Kd.R_nil _ _ _ _ _, ?_⟩
        exact Below.trans_below (Below.trans_below HB1.out HB1.out.size HB2.out) (Nat.le_trans HB1.out.size HB2.out.size) hgw.below
      · rw [hx1] at HIX
        obtain ⟨ad, e_, q0, q1, q2⟩ := elem24 hCk (Below.refl _ _) j hj
        subst e_
        rw [rd_at ks j hj] at q0 q1 q2
        obtain ⟨k, hkk⟩ : ∃ k, k = ks[j] := ⟨_, rfl⟩
        rw [← hkk] at q0 q1 q2 hx2 hx3
        have HKM := Aside0.mk (show k ∈ ks from hkk ▸ List.getElem_mem hj)
        have HKW := Aside0.mk (HKSW.out k HKM.out)
        have HKN := Aside0.mk (show k ∉ ord from by
          simp only [rdyF, Bool.and_eq_true, decide_eq_true_eq] at hx2
          exact hx2.1)
        have HX3 := Aside0.mk hx3
        have HJ := Aside0.mk (show j < ks.length ∧ rd_T24 ks (j : Int) = k from ⟨hj, by rw [rd_at ks j hj, hkk]⟩)
        clear hx1 hx2 hx3 hkk hCk
        have HW := Aside0.mk (And.intro q0 (And.intro q1 q2))
        clear q0 q1 q2
        have p0 : (0 : Int) ≤ (j : Int) := by omega
        have p1 : (j : Int) < (ks.length : Int) := by omega
        have p2 : decide ((j : Int) < 0) = false := decide_eq_false (by omega)
        go_wp2_with (go_at_call 19; refine HIX.out.mono ?_; rintro e_ wq ⟨rfl, hgw⟩; have hbw := hgw.below; have n1_ := Aside0.mk (blk_below BK1.out hbw); have n2_ := Aside0.mk (blk_below BK2.out hbw); have n3_ := Aside0.mk (Below.trans_below HB2.out HB2.out.size hbw); have n4_ := Aside0.mk (HM.out.below hbw); have n5_ := Aside0.mk (own24_keep HO.out hbw.block); have n6_ := Aside0.mk (cells_below HW.out hbw); clear BK1 BK2 HB2 HM HO HW c1_ c2_ c3_ hbw; have BK1 := n1_; have BK2 := n2_; have HB2 := n3_; have HM := n4_; have HO := n5_; have HW := n6_; clear n1_ n2_ n3_ n4_ n5_ n6_)
        have c1_ : wq.cell? ⟨g1, 0, none⟩ = some (.pointer (some ⟨gb, 0, none⟩)) := (blk_cell BK1.out 0).trans rfl
        have c2_ : wq.cell? ⟨g2, 0, none⟩ = some (.map (some pm)) := (blk_cell BK2.out 0).trans rfl
        have c3_ : wq.cell? ⟨gb, 1, none⟩ = some (.slice (some ad) ks.length ck) := (blk_cell (HG.out.below HB2.out).box 1).trans (by rw [← HKV.out]; rfl)
        obtain ⟨q0, q1, q2⟩ := HW.out
        refine start_ (n := 9) (S := fun w' => w'.cell? ⟨g2, 0, none⟩ = some (.map (some pm)) ∧ w'.cell? ⟨g1, 0, none⟩ = some (.pointer (some ⟨gb, 0, none⟩)) ∧ w'.cell? ⟨gb, 1, none⟩ = some (.slice (some ad) ks.length ck) ∧ w'.cell? (ad.add (j * 3)) = some (.int .i64 k.f0) ∧ w'.cell? ⟨(ad.add (j * 3)).block, (ad.add (j * 3)).off + 1, none⟩ = some (.int .i64 k.f1) ∧ w'.cell? ⟨(ad.add (j * 3)).block, (ad.add (j * 3)).off + 2, none⟩ = some (.int .i64 k.f2)) (ds := [8]) #[false, false, false, false, false, false, false, false, false] (by kernel_rfl) rfl rfl ⟨c2_, c1_, c3_, q0, q1, q2⟩ (fun hHeld => ?_)
        have n1_ := Aside0.mk (blk_drew BK1.out)
        have n2_ := Aside0.mk (blk_drew BK2.out)
        have n3_ := Aside0.mk (below_drew HB2.out)
        have n4_ := Aside0.mk HM.out.drew
        have n5_ := Aside0.mk (own24_keep HO.out (fun _ _ => rfl) : wq.drew.ownsRow w1.heap.size 24 3 (.slice A6 ord.length c6) ord.length (flatK ord))
        clear BK1 BK2 HB2 HM HO c1_ c2_ c3_ q0 q1 q2
        have BK1 := n1_
        have BK2 := n2_
        have HB2 := n3_
        have HM := n4_
        have HO := n5_
        clear n1_ n2_ n3_ n4_ n5_
        generalize wq.drew = w7 at BK1 BK2 HB2 HM HO hHeld ⊢
        refine take_ (i := 0) (N := some 27) (v := ?_) (a' := ?_) #[true, false, false, false, false, false, false, false, false] rfl rfl (by kernel_rfl) (fun _ _ _ h => h) (Or.inl ⟨by rfl, ?_⟩) hHeld ?_ ?_
        rotate_left
        · rintro w' ⟨s0, s1, s2, s3, s4, s5⟩
          go_simp
          with_reducible rfl
        rotate_left
        · simp only [Act.put, List.setIfInBounds_toArray, List.set_cons_zero, List.set_cons_succ, i64_w, i32_w]
          rfl
        refine take_ (i := 1) (N := some 28) (v := ?_) (a' := ?_) #[true, true, false, false, false, false, false, false, false] rfl rfl (by kernel_rfl) (fun _ _ _ h => h) (Or.inl ⟨by rfl, ?_⟩) hHeld ?_ ?_
        rotate_left
        · rintro w' ⟨s0, s1, s2, s3, s4, s5⟩
          go_simp
          with_reducible rfl
        rotate_left
        · simp only [Act.put, List.setIfInBounds_toArray, List.set_cons_zero, List.set_cons_succ, i64_w, i32_w]
          rfl
        refine pure_ (i := 2) (N := some 29) (v := ?_) (a' := ?_) #[true, true, true, false, false, false, false, false, false] rfl rfl (by kernel_rfl) (fun _ _ _ h => h) (Or.inl ⟨by rfl, ?_⟩) ?_ ?_
        rotate_left
        · intro w'
          go_simp
          with_reducible rfl
        rotate_left
        · simp only [Act.put, List.setIfInBounds_toArray, List.set_cons_zero, List.set_cons_succ, i64_w, i32_w]
          rfl
        refine pure_ (i := 3) (N := some 30) (v := ?_) (a' := ?_) #[true, true, true, true, false, false, false, false, false] rfl rfl (by kernel_rfl) (fun _ _ _ h => h) (Or.inl ⟨by rfl, ?_⟩) ?_ ?_
        rotate_left
        · intro w'
          go_simp
          with_reducible rfl
        rotate_left
        · simp only [Act.put, List.setIfInBounds_toArray, List.set_cons_zero, List.set_cons_succ, i64_w, i32_w]
          rfl
        refine take_ (i := 4) (N := some 31) (v := ?_) (a' := ?_) #[true, true, true, true, true, false, false, false, false] rfl rfl (by kernel_rfl) (fun _ _ _ h => h) (Or.inl ⟨by rfl, ?_⟩) hHeld ?_ ?_
        rotate_left
        · rintro w' ⟨s0, s1, s2, s3, s4, s5⟩
          go_simp
          with_reducible rfl
        rotate_left
        · simp only [Act.put, List.setIfInBounds_toArray, List.set_cons_zero, List.set_cons_succ, i64_w, i32_w]
          rfl
        refine pure_ (i := 5) (N := some 32) (v := ?_) (a' := ?_) #[true, true, true, true, true, true, false, false, false] rfl rfl (by kernel_rfl) (fun _ _ _ h => h) (Or.inl ⟨by rfl, ?_⟩) ?_ ?_
        rotate_left
        · intro w'
          go_simp
          with_reducible rfl
        rotate_left
        · simp only [Act.put, List.setIfInBounds_toArray, List.set_cons_zero, List.set_cons_succ, i64_w, i32_w]
          rfl
        refine pure_ (i := 6) (N := some 33) (v := ?_) (a' := ?_) #[true, true, true, true, true, true, true, false, false] rfl rfl (by kernel_rfl) (fun _ _ _ h => h) (Or.inl ⟨by rfl, ?_⟩) ?_ ?_
        rotate_left
        · intro w'
          go_simp
          with_reducible rfl
        rotate_left
        · simp only [Act.put, List.setIfInBounds_toArray, List.set_cons_zero, List.set_cons_succ, i64_w, i32_w]
          rfl
        refine take_ (i := 7) (N := some 34) (v := ?_) (a' := ?_) #[true, true, true, true, true, true, true, true, false] rfl rfl (by kernel_rfl) (fun _ _ _ h => h) (Or.inl ⟨by rfl, ?_⟩) hHeld ?_ ?_
        rotate_left
        · rintro w' ⟨s0, s1, s2, s3, s4, s5⟩
          go_simp
          with_reducible rfl
        rotate_left
        · simp only [Act.put, List.setIfInBounds_toArray, List.set_cons_zero, List.set_cons_succ, i64_w, i32_w]
          rfl
        refine last_ (i := 8) (N := none) #[true, true, true, true, true, true, true, true, true] rfl rfl (by kernel_rfl) (by decide) (fun K hK => ?_)
        obtain ⟨lf, hlf⟩ := keyK k HKW.out
        obtain ⟨o9, hrun, hat3⟩ := Mp.At.store (T := 49) KK injK Try.underlying49 HM.out hlf (.int .i64 1)
        rw [seen_set ord k HKN.out] at hat3
        have hne1 : g1 ≠ pm := fun e => by
          obtain ⟨es_, ck_, hes_⟩ := HM.out
          have h1_ := BK1.out
          rw [e, hes_.blk] at h1_
          cases h1_
        have hne2 : g2 ≠ pm := fun e => by
          obtain ⟨es_, ck_, hes_⟩ := HM.out
          have h1_ := BK2.out
          rw [e, hes_.blk] at h1_
          cases h1_
        have n1_ := Aside0.mk ((Mp.setBlock_other o9 hne1).trans BK1.out)
        have n2_ := Aside0.mk ((Mp.setBlock_other o9 hne2).trans BK2.out)
        have n3_ := Aside0.mk (below_setBlock (o := o9) HB2.out GM.out)
        have n4_ := Aside0.mk hat3
        have n5_ := Aside0.mk (own_move (w1 := setBlock w7 pm o9) HO.out (fun q e => Mp.setBlock_other o9 (fun e2 => by
          obtain ⟨es_, ck_, hes_⟩ := HM.out
          exact own_not_map HO.out hes_.blk (by rw [← e2]; exact e.symm))))
        clear hat3 hne1 hne2
        refine skip_ (w1 := setBlock w7 pm o9) (by rfl) rfl ?_ ?_
        · unfold encK at hrun
          go_simp
          all_goals first | (rw [hrun]; done) | (rw [hrun]; rfl) | (simp [hrun]; done) | exact hrun
        clear hrun BK1 BK2 HB2 HM HO hlf hHeld
        have BK1 := n1_
        have BK2 := n2_
        have HB2 := n3_
        have HM := n4_
        have HO := n5_
        clear n1_ n2_ n3_ n4_ n5_
        generalize setBlock w7 pm o9 = w8 at BK1 BK2 HB2 HM HO ⊢
        refine hK.out _ _ ?_
        clear hK K
        refine done_ (by kernel_rfl) ?_
        obtain ⟨Ak2, ck2, hkv2, _, hCk2⟩ := own24_reads (HG.out.below HB2.out).krow
        rw [HKV.out] at hkv2
        injection hkv2 with h1_ h2_ h3_
        rw [← h1_] at hCk2
        obtain ⟨ad2, e2_, q0, q1, q2⟩ := elem24 hCk2 (Below.refl _ _) j HJ.out.1
        injection e2_ with e2_
        rw [← e2_, HJ.out.2] at q0 q1 q2
        clear h1_ h2_ h3_ e2_ hCk2 HW
        have c1_ : w8.cell? ⟨g1, 0, none⟩ = some (.pointer (some ⟨gb, 0, none⟩)) := (blk_cell BK1.out 0).trans rfl
        have c3_ : w8.cell? ⟨gb, 1, none⟩ = some (.slice (some ad) ks.length ck) := (blk_cell (HG.out.below HB2.out).box 1).trans (by rw [← HKV.out]; rfl)
        go_wp2_with (first | (at_builtin; refine print_append_cells (w0 := w1) w1.heap.size rfl (.tmp 35) (.tmp 43) 26 24 (.agg #[.int .i64 0, .int .i64 0, .int .i64 0]) 3 24 rfl Try.underlying26 info24k rfl (by omega) (by omega) (.slice A6 ord.length c6) ord.length (flatK ord) (cells3 k) rfl rfl rfl (cells3_one k) HO.out HB2.out HB2.out.size (by have := HOL.out; have := HKS.out; omega) ?_; intro v6 w9 q1 q2 q3 q4; have HO9 := Aside0.mk q1; have HB9 := Aside0.mk q2; have HG9 := Aside0.mk q3; clear q1 q2 q3 q4))
        have hne9 : ∀ {g : Nat} {cs : Array Value} {t : Nat}, w8.heap[g]? = some (.cells cs t (0, 0)) → t ≠ 24 → w9.heap[g]? = some (.cells cs t (0, 0)) := fun hb ht => (HG9.out.block _ (blk_lt hb) (own_not_cells HO.out hb ht)).trans hb
        go_roundg (ks.length - (ord.length + 1))
        case measure => omega
        case rel =>
          have l_ : (ord ++ [k]).length = ord.length + 1 := by simp
          have f_ : flatK (ord ++ [k]) = flatK ord ++ cells3 k := by rw [flatK_app]; simp [flatK]
          have r6_ : w9.ownsRow w1.heap.size 24 3 v6 (ord ++ [k]).length (flatK (ord ++ [k])) := by rw [l_, f_]; exact HO9.out
          have m_ : Mp.At Try.prog 24 encK w9 pm (seenL (ord ++ [k])) := by
            obtain ⟨es_, ck_, hes_⟩ := HM.out
            exact HM.out.keep (HG9.out.block pm HM.out.lt (own_not_map HO.out hes_.blk))
          have t_ : tgo (fun k => (celAt l k).xs) ks (ks.length - (ord ++ [k]).length) (ord ++ [k]) = (r1, r2) := by
            have ht := HT.out
            obtain ⟨m, hm⟩ : ∃ m, ks.length - ord.length = m + 1 := ⟨ks.length - ord.length - 1, by omega⟩
            rw [hm] at ht
            unfold tgo at ht
            rw [HX3.out] at ht
            rw [l_, show ks.length - (ord.length + 1) = m by omega]
            exact ht
          exact ⟨ord ++ [k], by rw [l_]; omega, by rw [l_]; exact Nat.le_refl _, ⟨t_⟩, ⟨r6_⟩, ⟨m_⟩, ⟨hne9 BK1.out (by decide)⟩, ⟨hne9 BK2.out (by decide)⟩, HB9⟩
    · have hltz : decide ((ord.length : Int) < (ks.length : Int)) = false := decide_eq_false (by omega)
      have ht := HT.out
      rw [show ks.length - ord.length = 0 by omega] at ht
      unfold tgo at ht
      injection ht with h1 h2
      have HE := Aside0.mk (And.intro h1 h2)
      clear h1 h2 hCk
      go_wp2
      go_ret2
      have hfin : Kd.R k24 24 wr w.heap.size (fun _ => True) (.slice A6 ord.length c6) r1 ∧ Below w.heap.size w wr := by
        rw [← HE.out.1]
        exact ⟨Kd.R_lower (R_of24 HO.out (fun _ _ => trivial)) HB1.out.size, Below.trans_below HB1.out HB1.out.size HB2.out⟩
      refine ⟨.slice A6 ord.length c6, ?_, hfin⟩
      rw [← HE.out.2]
      rfl
end Go.Proofs.Yteekdkkfegcoeaa.Dg
