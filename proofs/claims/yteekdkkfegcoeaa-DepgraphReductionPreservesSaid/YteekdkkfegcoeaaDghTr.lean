/- TransitiveReduction. Condition: at most 400 edges, well-formed keys. -/
import Derived.Test.YteekdkkfegcoeaaDghTa
namespace Go.Proofs.Yteekdkkfegcoeaa.Dg
open Go.RowKit Go.Sort Go.Lib Go.Proofs.YteekdkkfegcoeaaW.PrintWords Go.Proofs.YteekdkkfegcoeaaW.PrintLast Go.Proofs.YteekdkkfegcoeaaW.PrintMore
open Go.Proofs.Yteekdkkfegcoeaa
open Go.ChangeMaps (setBlock)
set_option linter.unusedVariables false
set_option linter.unusedSimpArgs false
attribute [local go_sem] Oper.semAt_some
attribute [local go_sem] max2_int min2_int
/-- is the edge implied by a longer path? -/
noncomputable def imp (l0 : List S37) (e : S37) : Bool := (nxt false l0 e.f0).any (fun k => decide (e.f1 ∈ deps false l0 k))
noncomputable def rstep (l0 res : List S37) (e : S37) : List S37 := if imp l0 e then res else if e ∈ res then res else res ++ [e]
noncomputable def redu (l0 : List S37) : List S37 := l0.foldl (rstep l0) []
theorem any_congr' {α : Type} {p q : α → Bool} : ∀ (xs : List α), (∀ x ∈ xs, p x = q x) → xs.any p = xs.any q
  | [], _ => rfl
  | x :: r, h => by rw [List.any_cons, List.any_cons, h x (List.mem_cons_self ..), any_congr' r (fun y hy => h y (List.mem_cons_of_mem _ hy))]
theorem rstep_len (l0 res : List S37) (e : S37) : (rstep l0 res e).length ≤ res.length + 1 := by
  unfold rstep
  split
  · omega
  · split <;> simp
theorem redu_succ (l0 : List S37) (j : Nat) (h : j < l0.length) : (l0.take (j + 1)).foldl (rstep l0) [] = rstep l0 ((l0.take j).foldl (rstep l0) []) l0[j] := by
  rw [List.take_succ_eq_append_getElem h, List.foldl_append]
  rfl
theorem _root_.Go.Proofs.YteekdkkfegcoeaaW.PrintWords.Kd.R_move' {w w' : World} {base : Nat} {v : Value} {xs : List S37} (h : Kd.R k37 37 w base (fun _ => True) v xs) (hb : Below w.heap.size w w') : Kd.R k37 37 w' base (fun _ => True) v xs := Kd.R_below h hb
open Classical in
noncomputable def depgraph_TransitiveReduction.f (l0 : List (S37)) : Option ((List (S37)) × Int) := if Oke l0 then (if (tgo (nxt false l0) (gof false l0).2 (gof false l0).2.length []).2 = 0 then some (redu l0, 0) else some ([], (tgo (nxt false l0) (gof false l0).2 (gof false l0).2.length []).2)) else none
set_option maxHeartbeats 8000000 in
set_option maxRecDepth 100000 in
theorem depgraph_TransitiveReduction.calls (A0 : Option Addr) (c0 : Nat) (l0 : List (S37)) (r1 : List (S37)) (r2 : Int) (w : World) (hr0 : Kd.C k37 w A0 l0.length l0) (hc0 : l0.length ≤ c0) (h : depgraph_TransitiveReduction.f l0 = some (r1, r2)) :
    Calls Try.prog 13 #[.slice A0 l0.length c0] w fun e w' => ∃ v0_ : Value, e = .returned (.tuple #[v0_, .int .i64 r2]) ∧ Kd.R k37 37 w' w.heap.size (fun _ => True) v0_ r1 ∧ Below w.heap.size w w' := by
  have mixed : Try.prog.follows .mixedOrders = true := by kernel_rfl
  have eg : ∀ args w, (callFunc 23 args).run Try.prog w = .ok (.enter 23 args) w := enters_of Try.func23 (by kernel_rfl) rfl
  have hu22 := Try.underlying22
  have hu24 := Try.underlying24
  have hu26 := Try.underlying26
  have hu37 := Try.underlying37
  have hu50 := Try.underlying50
  have hu52 := Try.underlying52
  unfold depgraph_TransitiveReduction.f at h
  split at h
  case isFalse => cases h
  rename_i hk
  have HK := Aside0.mk hk
  have HTO := Aside0.mk (show depgraph_TopologicalOrder.f l0 = some ((tgo (nxt false l0) (gof false l0).2 (gof false l0).2.length []).1, (tgo (nxt false l0) (gof false l0).2 (gof false l0).2.length []).2) from if_pos hk)
  have HR := Aside0.mk hr0
  have HC := Aside0.mk hc0
  clear hk hr0 hc0
  have hmin : min (l0.length : Int) 400 = (l0.length : Int) := by have := HK.out.1; omega
  have hmax : max (l0.length : Int) 0 = (l0.length : Int) := by omega
  generalize (tgo (nxt false l0) (gof false l0).2 (gof false l0).2.length []).1 = o1 at HTO
  generalize (tgo (nxt false l0) (gof false l0).2 (gof false l0).2.length []).2 = o2 at HTO h
  by_cases ho2 : o2 = 0
  case neg =>
    rw [if_neg ho2] at h
    have h' := Option.some.inj h
    injection h' with h1 h2
    subst h1; subst h2
    clear h hmin hmax
    go_enter Try.func13, Try.ntmps13
    go_wp2_with (first | (go_at_call 10; refine (depgraph_TopologicalOrder.calls A0 c0 l0 _ _ w HR.out HC.out HTO.out).mono ?_; rintro e_ w0 ⟨v0, rfl, ho_, hb_⟩; have HB0 := Aside0.mk hb_; clear ho_ hb_))
    go_ret2
    exact ⟨.slice none 0 0, rfl, Kd.R_nil _ _ _ _ _, HB0.out⟩
  rw [if_pos ho2] at h
  have h' := Option.some.inj h
  injection h' with h1 h2
  subst h2
  subst ho2
  have HRR := Aside0.mk h1
  clear h h1
  go_enter Try.func13, Try.ntmps13
  go_wp2_with (first | (go_at_call 10; refine (depgraph_TopologicalOrder.calls A0 c0 l0 _ _ w HR.out HC.out HTO.out).mono ?_; rintro e_ w0 ⟨v0, rfl, ho_, hb_⟩; have HB0 := Aside0.mk hb_; clear ho_ hb_) | (go_at_call 17; refine (ng_calls false A0 c0 l0 w0 (Kd.C_below HR.out HB0.out) HK.out.1 HC.out HK.out.2).mono ?_; rintro e_ w1 ⟨gb, gm, l, kv, ks, rfl, hgr, hb2, hgf⟩; have HG := Aside0.mk hgr; have HB1 := Aside0.mk (Below.trans_below HB0.out HB0.out.size hb2); have HGF := Aside0.mk hgf; clear hgr hb2 hgf) | ((with_reducible refine gate_dst (N := 24) rfl ?_); refine Mp.wp_make_at rfl 50 rfl (enc := encK) Try.underlying50 ?_; intro w4 bm hpm hat hg_ hb hs; have HM := Aside0.mk hat; have GM := Aside0.mk (show w1.heap.size ≤ bm from Nat.le_of_eq hpm.symm); have HB2 := Aside0.mk hb; clear hat hg_ hb hs hpm) | ((with_reducible refine gate_dst (N := 7) rfl ?_); refine box_event ?hg (N := 7) ?hd (cs := #[.map none]) (t := 50) ?hr ?_; (case hd => rfl); (case hg => rfl); (case hr => first | (go_simp; done) | (go_simp; rfl)); intro g7 hg7 w5 hbox hb3; have c7_ : w5.cell? ⟨g7, 0, none⟩ = some (.map none) := (blk_cell hbox 0).trans rfl; have f7_ := blk_frozen hbox 0; have BK7 := Aside0.mk hbox; have n1_ := Aside0.mk (Below.trans_below HB2.out HB2.out.size hb3); have n3_ := Aside0.mk (HM.out.below hb3); have GE7 := Aside0.mk (show w1.heap.size ≤ g7 from by rw [hg7]; exact HB2.out.size); have NE7 := Aside0.mk (show bm ≠ g7 from by have := HM.out.lt; omega); clear HB2 HM; have HB2 := n1_; have HM := n3_; clear hbox hb3 hg7 n1_ n3_; obtain ⟨Ak, ck, hkv, hck, hCk_⟩ := own24_reads HG.out.krow; have HKV := Aside0.mk hkv; clear hkv hCk_; have c3_ : w5.cell? ⟨gb, 1, none⟩ = some (.slice Ak ks.length ck) := (blk_cell (HG.out.below HB2.out).box 1).trans (by rw [← HKV.out]; rfl); have ne_ : gb ≠ g7 := (by have := HG.out.lt.1; have := GE7.out; omega); have ne2_ := ne_.symm))
  have n1_ := Aside0.mk (show (w5.setCell ⟨g7, 0, none⟩ (.map (some bm))).heap[g7]? = some (.cells #[.map (some bm)] 50 (0, 0)) from blk_put (cs := #[.map none]) BK7.out 0 _ rfl)
  have n2_ := Aside0.mk (show Below w1.heap.size w1 (w5.setCell ⟨g7, 0, none⟩ (.map (some bm))) from below_set HB2.out GE7.out)
  have n4_ := Aside0.mk (HM.out.set (p := ⟨g7, 0, none⟩) NE7.out (.map (some bm)))
  clear c7_ f7_ c3_ ne_ ne2_ BK7 HB2 HM
  have BK7 := n1_
  have HB2 := n2_
  have HM := n4_
  clear n1_ n2_ n4_
  generalize (w5.setCell ⟨g7, 0, none⟩ (.map (some bm))) = w6 at BK7 HB2 HM ⊢
  have hgood := gof_good false l0 l0.length (Nat.le_refl _)
  rw [List.take_length, HGF.out] at hgood
  have hnx : (fun k => (celAt l k).xs) = nxt false l0 := by
    funext k
    rw [celAt_xs]
    unfold nxt
    rw [HGF.out]
  have hks : (gof false l0).2 = ks := by rw [HGF.out]
  have HNX := Aside0.mk hnx
  have HKS := Aside0.mk (show ks.length ≤ 800 ∧ Srt ks from ⟨by have := hgood.klen; have := HK.out.1; simp only at *; omega, hgood.keys⟩)
  have HKSW := Aside0.mk (show ∀ x ∈ ks, wfK x from fun x hx => gof_wf false l0 HK.out.2 x (hks.symm ▸ hx))
  have HNXW := Aside0.mk (show ∀ k, (celAt l k).xs.length ≤ 400 ∧ ∀ x ∈ (celAt l k).xs, wfK x from fun k => ⟨by rw [celAt_xs]; exact Nat.le_trans (hgood.at k).2 HK.out.1, fun x hx => gof_wf false l0 HK.out.2 x (nxt_keys false l0 k x (by rw [← hnx]; exact hx))⟩)
  have HNXK := Aside0.mk (show ∀ k, ∀ x ∈ (celAt l k).xs, x ∈ ks from fun k x hx => by rw [← hks]; exact nxt_keys false l0 k x (by rw [← hnx]; exact hx))
  clear hgood hnx hks
  go_loopg [30] ks.length (fun kx s30 wr => ∃ j : Nat, s30 = .int .i64 j ∧ j ≤ ks.length ∧ ks.length - j ≤ kx ∧ Aside0 (∃ bl : List (S24 × Cel), Mp.At Try.prog 24 encK wr bm (Mp.vals Cel.v bl) ∧ (∀ q ∈ bl, wr.ownsRow w1.heap.size 24 3 q.2.v q.2.xs.length (flatK q.2.xs)) ∧ (∀ q, (celAt bl q).xs = if q ∈ ks.take j then deps false l0 q else [])) ∧
    Aside0 (wr.heap[g7]? = some (.cells #[.map (some bm)] 50 (0, 0))) ∧ Aside0 (Below w1.heap.size w1 wr))
  case atStart =>
    have h0_ : ∃ bl : List (S24 × Cel), Mp.At Try.prog 24 encK w6 bm (Mp.vals Cel.v bl) ∧ (∀ q ∈ bl, w6.ownsRow w1.heap.size 24 3 q.2.v q.2.xs.length (flatK q.2.xs)) ∧ (∀ q, (celAt bl q).xs = if q ∈ ks.take 0 then deps false l0 q else []) := ⟨[], HM.out, by simp, fun q => by simp [celAt, Mp.aget_nil, zc]⟩
    exact ⟨0, rfl, Nat.zero_le _, Nat.le_refl _, ⟨h0_⟩, BK7, HB2⟩
  case round =>
    clear HM BK7 HB2
    obtain ⟨j, rfl, hjn, hjk, ⟨bl, hm_, hrow_, hbl_⟩, BK7, HB2⟩ := hrel
    have HM := Aside0.mk hm_
    have HROW := Aside0.mk hrow_
    have HBL := Aside0.mk hbl_
    clear hm_ hrow_ hbl_
    by_cases hlt : j < ks.length
    · obtain ⟨Ak2, ck2, hkv2, _, hCk2⟩ := own24_reads (HG.out.below HB2.out).krow
      rw [HKV.out] at hkv2
      injection hkv2 with h1_ h2_ h3_
      rw [← h1_] at hCk2
      obtain ⟨ad, e2_, q0, q1, q2⟩ := elem24 hCk2 (Below.refl _ _) j hlt
      subst e2_
      rw [rd_at ks j hlt] at q0 q1 q2
      obtain ⟨k, hkk⟩ : ∃ k, k = ks[j] := ⟨_, rfl⟩
      rw [← hkk] at q0 q1 q2
      have HJ := Aside0.mk (show j < ks.length ∧ ks.take (j + 1) = ks.take j ++ [k] from ⟨hlt, by rw [hkk]; exact List.take_succ_eq_append_getElem hlt⟩)
      have HKW := Aside0.mk (HKSW.out k (hkk ▸ List.getElem_mem hlt))
      clear h1_ h2_ h3_ hCk2 hkk
      have p0 : (0 : Int) ≤ (j : Int) := by omega
      have p1 : (j : Int) < (ks.length : Int) := by omega
      have hkl : ks.length ≤ 800 := HKS.out.1
      go_wp2_with (first | ((with_reducible refine gate_dst (N := 9) rfl ?_); refine box_event ?hg (N := 9) ?hd (cs := #[.int .i64 0, .int .i64 0, .int .i64 0]) (t := 24) ?hr ?_; (case hd => rfl); (case hg => rfl); (case hr => first | (go_simp; done) | (go_simp; rfl)); intro g9 hg9 w7 hbox hb3; have d0_ : w7.cell? ⟨g9, 0, none⟩ = some (.int .i64 0) := (blk_cell hbox 0).trans rfl; have d1_ : w7.cell? ⟨g9, 1, none⟩ = some (.int .i64 0) := (blk_cell hbox 1).trans rfl; have d2_ : w7.cell? ⟨g9, 2, none⟩ = some (.int .i64 0) := (blk_cell hbox 2).trans rfl; have f0_ := blk_frozen hbox 0; have f1_ := blk_frozen hbox 1; have f2_ := blk_frozen hbox 2; have BK9 := Aside0.mk hbox; have HB9 := Aside0.mk hb3; have HG9 := Aside0.mk hg9; clear hbox hb3 hg9))
      have n1_ := Aside0.mk (show (((w7.setCell ⟨g9, 0, none⟩ (.int .i64 k.f0)).setCell ⟨g9, 1, none⟩ (.int .i64 k.f1)).setCell ⟨g9, 2, none⟩ (.int .i64 k.f2)).heap[g9]? = some (.cells #[.int .i64 k.f0, .int .i64 k.f1, .int .i64 k.f2] 24 (0, 0)) from by refine blk_put (cs := #[(.int .i64 k.f0), (.int .i64 k.f1), (.int .i64 0)]) ?_ 2 _ rfl; refine blk_put (cs := #[(.int .i64 k.f0), (.int .i64 0), (.int .i64 0)]) ?_ 1 _ rfl; refine blk_put (cs := #[(.int .i64 0), (.int .i64 0), (.int .i64 0)]) ?_ 0 _ rfl; exact BK9.out)
      have n2_ := Aside0.mk (show Below wr.heap.size wr (((w7.setCell ⟨g9, 0, none⟩ (.int .i64 k.f0)).setCell ⟨g9, 1, none⟩ (.int .i64 k.f1)).setCell ⟨g9, 2, none⟩ (.int .i64 k.f2)) from below_set (below_set (below_set HB9.out (Nat.le_of_eq HG9.out.symm)) (Nat.le_of_eq HG9.out.symm)) (Nat.le_of_eq HG9.out.symm))
      clear d0_ d1_ d2_ f0_ f1_ f2_ BK9 HB9
      have BK9 := n1_
      have HB9 := n2_
      clear n1_ n2_
      generalize (((w7.setCell ⟨g9, 0, none⟩ (.int .i64 k.f0)).setCell ⟨g9, 1, none⟩ (.int .i64 k.f1)).setCell ⟨g9, 2, none⟩ (.int .i64 k.f2)) = w8 at BK9 HB9 ⊢
      clear q0 q1 q2
      refine start_ (n := 6) (S := fun w' => w'.cell? ⟨g7, 0, none⟩ = some (.map (some bm)) ∧ w'.cell? ⟨g9, 0, none⟩ = some (.int .i64 k.f0) ∧ w'.cell? ⟨g9, 1, none⟩ = some (.int .i64 k.f1) ∧ w'.cell? ⟨g9, 2, none⟩ = some (.int .i64 k.f2)) (ds := [5]) #[false, false, false, false, false, false] (by kernel_rfl) rfl rfl ⟨(blk_cell (blk_drew (blk_below BK7.out HB9.out)) 0).trans rfl, (blk_cell (blk_drew BK9.out) 0).trans rfl, (blk_cell (blk_drew BK9.out) 1).trans rfl, (blk_cell (blk_drew BK9.out) 2).trans rfl⟩ (fun hHeld => ?_)
      have n1_ := Aside0.mk (blk_drew BK9.out)
      have n2_ := Aside0.mk (below_drew HB9.out)
      clear BK9 HB9
      have BK9 := n1_
      have HB9 := n2_
      clear n1_ n2_
      generalize w8.drew = w9 at BK9 HB9 hHeld ⊢
      have HB29 := Aside0.mk (Below.trans_below HB2.out HB2.out.size HB9.out)
      refine take_ (i := 0) (N := some 34) (v := ?_) (a' := ?_) #[true, false, false, false, false, false] rfl rfl (by kernel_rfl) (fun _ _ _ h => h) (Or.inl ⟨by rfl, ?_⟩) hHeld ?_ ?_
      rotate_left
      · rintro w' ⟨s0, s1, s2, s3⟩
        go_simp
        with_reducible rfl
      rotate_left
      · simp only [Act.put, List.setIfInBounds_toArray, List.set_cons_zero, List.set_cons_succ, i64_w, i32_w]
        rfl
      refine take_ (i := 1) (N := some 35) (v := ?_) (a' := ?_) #[true, true, false, false, false, false] rfl rfl (by kernel_rfl) (fun _ _ _ h => h) (Or.inl ⟨by rfl, ?_⟩) hHeld ?_ ?_
      rotate_left
      · rintro w' ⟨s0, s1, s2, s3⟩
        go_simp
        with_reducible rfl
      rotate_left
      · simp only [Act.put, List.setIfInBounds_toArray, List.set_cons_zero, List.set_cons_succ, i64_w, i32_w]
        rfl
      refine pure_ (i := 2) (N := some 36) (v := ?_) (a' := ?_) #[true, true, true, false, false, false] rfl rfl (by kernel_rfl) (fun _ _ _ h => h) (Or.inl ⟨by rfl, ?_⟩) ?_ ?_
      rotate_left
      · intro w'
        go_simp
        with_reducible rfl
      rotate_left
      · simp only [Act.put, List.setIfInBounds_toArray, List.set_cons_zero, List.set_cons_succ, i64_w, i32_w]
        rfl
      refine take_ (i := 3) (N := some 37) (v := ?_) (a' := ?_) #[true, true, true, true, false, false] rfl rfl (by kernel_rfl) (fun _ _ _ h => h) (Or.inl ⟨by rfl, ?_⟩) hHeld ?_ ?_
      rotate_left
      · rintro w' ⟨s0, s1, s2, s3⟩
        go_simp
        with_reducible rfl
      rotate_left
      · simp only [Act.put, List.setIfInBounds_toArray, List.set_cons_zero, List.set_cons_succ, i64_w, i32_w]
        rfl
      refine one_ (i := 4) (N := some 38) #[true, true, true, true, true, false] rfl rfl (by kernel_rfl) (by decide) (fun K hK => ?_)
      refine goes_ Try.func18 (by kernel_rfl) rfl #[.pointer (some ⟨gb, 0, none⟩), .agg #[.int .i64 k.f0, .int .i64 k.f1, .int .i64 k.f2]] (by rfl) rfl rfl (by (try simp only [List.map_toArray, List.map_cons, List.map_nil]); first | done | rfl) ?_
      refine (rc_calls w0.heap.size gb gm l kv ks k w9 (HG.out.below HB29.out) HKW.out HKSW.out (by have := HKS.out; omega) (fun q => ⟨(HNXW.out q).1, HNXK.out q⟩)).mono ?_
      rw [HNX.out]
      rintro e_ wa ⟨v, xs, rfl, hv, hb4, hsx, hmx⟩
      refine ⟨_, rfl, ?_⟩
      have hxr : xs = deps false l0 k := hsx.ext (deps_srt false l0 _) (fun x => (hmx x).trans (deps_mem false l0 _ x).symm)
      rw [hxr] at hv
      have HV := Aside0.mk (own24_of (Kd.R_lower hv HB29.out.size))
      have n1_ := Aside0.mk (blk_below BK9.out hb4)
      have n2_ := Aside0.mk (Below.trans_below HB9.out HB9.out.size hb4)
      clear BK9 HB9 HB29 hv hb4 hsx hmx hxr
      have BK9 := n1_
      have HB9 := n2_
      clear n1_ n2_
      refine hK.out _ _ ⟨(blk_cell (blk_below BK7.out HB9.out) 0).trans rfl, (blk_cell BK9.out 0).trans rfl, (blk_cell BK9.out 1).trans rfl, (blk_cell BK9.out 2).trans rfl⟩ (fun hHeld => ?_)
      clear hK K
      refine norm_ (a' := ?_) ?_ ?_
      rotate_left
      · show Act.put _ (some 38) _ = _
        simp only [Act.put, List.setIfInBounds_toArray, List.set_cons_zero, List.set_cons_succ, i64_w, i32_w]
        rfl
      refine last_ (i := 5) (N := none) #[true, true, true, true, true, true] rfl rfl (by kernel_rfl) (by decide) (fun K hK => ?_)
      obtain ⟨lf, hlf⟩ := keyK k HKW.out
      obtain ⟨o9, hrun, hat3⟩ := Mp.At.store (T := 50) KK injK Try.underlying50 (HM.out.below HB9.out) hlf v
      have hm9_ := HM.out.below HB9.out
      have hbl_ := below_setBlock (o := o9) (Below.trans_below HB2.out HB2.out.size HB9.out) GM.out
      have hne7 : g7 ≠ bm := fun e => by
        obtain ⟨es_, ck_, hes_⟩ := HM.out
        have h1_ := BK7.out
        rw [e, hes_.blk] at h1_
        cases h1_
      have mv_ : ∀ {v' : Value} {n : Nat} {fl : List Value}, wa.ownsRow w1.heap.size 24 3 v' n fl → (setBlock wa bm o9).ownsRow w1.heap.size 24 3 v' n fl := fun ho => own_move ho (fun q e => Mp.setBlock_other o9 (fun e2 => by
        obtain ⟨es_, ck_, hes_⟩ := hm9_
        exact own_not_map ho hes_.blk (by rw [← e2]; exact e.symm)))
      have n1_ := Aside0.mk ((Mp.setBlock_other o9 hne7).trans (blk_below BK7.out HB9.out))
      have n2_ := Aside0.mk hbl_
      have n3_ := Aside0.mk (show Mp.At Try.prog 24 encK (setBlock wa bm o9) bm (Mp.vals Cel.v (Mp.aset bl k ⟨v, deps false l0 k⟩)) from by rw [← Mp.aset_vals Cel.v bl k ⟨v, deps false l0 k⟩]; exact hat3)
      have n4_ := Aside0.mk (show ∀ q ∈ Mp.aset bl k ⟨v, deps false l0 k⟩, (setBlock wa bm o9).ownsRow w1.heap.size 24 3 q.2.v q.2.xs.length (flatK q.2.xs) from fun q hq => by
        rcases mem_aset hq with ⟨h1_, _⟩ | rfl
        · exact mv_ (own24_keep (HROW.out q h1_) HB9.out.block)
        · exact mv_ HV.out)
      clear hat3 hm9_ hbl_ hne7 mv_ hlf
      refine skip_ (w1 := setBlock wa bm o9) (by rfl) rfl ?_ ?_
      · unfold encK at hrun
        go_simp
        all_goals first | (rw [hrun]; done) | (rw [hrun]; rfl) | (simp [hrun]; done) | exact hrun
      clear hrun hHeld
      generalize setBlock wa bm o9 = wb at n1_ n2_ n3_ n4_ ⊢
      refine hK.out _ _ ?_
      clear hK K
      refine done_ (by kernel_rfl) ?_
      go_wp2
      go_roundg (ks.length - (j + 1))
      case measure => omega
      case rel =>
        have hx_ : ∀ q, (celAt (Mp.aset bl k ⟨v, deps false l0 k⟩) q).xs = if q ∈ ks.take (j + 1) then deps false l0 q else [] := by
          intro q
          have h1_ := HBL.out q
          unfold celAt at h1_ ⊢
          rw [Mp.aget_aset, HJ.out.2]
          by_cases hq : k = q
          · subst hq; simp
          · rw [if_neg hq, h1_]
            have hq2 : ¬ q = k := fun e => hq e.symm
            simp [hq2]
        have h0_ : ∃ bl : List (S24 × Cel), Mp.At Try.prog 24 encK wb bm (Mp.vals Cel.v bl) ∧ (∀ q ∈ bl, wb.ownsRow w1.heap.size 24 3 q.2.v q.2.xs.length (flatK q.2.xs)) ∧ (∀ q, (celAt bl q).xs = if q ∈ ks.take (j + 1) then deps false l0 q else []) := ⟨_, n3_.out, n4_.out, hx_⟩
        refine ⟨j + 1, ?_, by omega, Nat.le_refl _, ⟨h0_⟩, n1_, n2_⟩
        first | rfl | go_num
    · obtain rfl : j = ks.length := by omega
      have HBE := Aside0.mk (show ∀ q ∈ ks, (celAt bl q).xs = deps false l0 q from fun q hq => by rw [HBL.out q, List.take_length, if_pos hq])
      have HLLw := Aside0.mk (show ∀ q, (celAt bl q).xs.length < 1000000 from fun q => by
        rw [HBL.out q]
        split
        · have h1_ := gof_good false l0 l0.length (Nat.le_refl _)
          rw [List.take_length] at h1_
          have h2_ := h1_.klen
          have h3_ := List.length_filter_le (fun x => true) (gof false l0).2
          have h4_ : (deps false l0 q).length ≤ (gof false l0).2.length := List.length_filter_le _ _
          have h5_ := HK.out.1
          omega
        · simp)
      have p1 : decide ((ks.length : Int) < (ks.length : Int)) = false := decide_eq_false (by omega)
      have hcc : l0.length ≤ c0 := HC.out
      go_wp2_with fail
      have HGL := Aside0.mk (HG.out.below HB2.out)
      have HBW1 := Aside0.mk (Below.trans_below HB1.out HB1.out.size HB2.out)
      have HLM := HM
      have HLR := HROW
      have HLL := HLLw
      have HL7 := BK7
      have HRLc := Aside0.mk (Kd.C_below HR.out HBW1.out)
      have HSZ := Aside0.mk (show w1.heap.size ≤ wr.heap.size from HB2.out.size)
      clear HM HROW BK7 HB2
      generalize wr = wL at HGL HBW1 HLM HLR HL7 HRLc HSZ ⊢
      go_loopg [10, 46] l0.length (fun kx s10 s46 wr => ∃ (j : Nat) (res : List S37), s46 = .int .i64 j ∧ j ≤ l0.length ∧ l0.length - j ≤ kx ∧ Aside0 (res = (l0.take j).foldl (rstep l0) [] ∧ res.length ≤ j) ∧ Aside0 (Kd.R k37 37 wr wL.heap.size (fun _ => True) s10 res) ∧ Aside0 (Below wL.heap.size wL wr))
      case atStart => exact ⟨0, [], rfl, Nat.zero_le _, Nat.le_refl _, ⟨⟨by simp, Nat.le_refl _⟩⟩, ⟨Kd.R_nil _ _ _ _ _⟩, ⟨Below.refl _ _⟩⟩
      case round =>
        obtain ⟨j, res, rfl, hjn, hjk, HRES, HO, HBL2⟩ := hrel
        obtain ⟨A10, c10, rfl⟩ := Kd.R_slice HO.out
        have HBL := HBL2
        by_cases hlt : j < l0.length
        · obtain ⟨ad, e_, q0, q1, q2, q3, q4, q5⟩ := at_T37 (Kd.C_below HRLc.out HBL.out) (j : Int) (by omega) (by omega)
          subst e_
          rw [Int.toNat_natCast, rd37_at l0 j hlt] at q0 q1 q2 q3 q4 q5
          obtain ⟨e, hee⟩ : ∃ e, e = l0[j] := ⟨_, rfl⟩
          rw [← hee] at q0 q1 q2 q3 q4 q5
          have HEW := Aside0.mk (HK.out.2 e (hee ▸ List.getElem_mem hlt))
          have HRL := Aside0.mk (show res.length ≤ 400 from by have := HRES.out.2; have := HK.out.1; omega)
          have HST := Aside0.mk (show rstep l0 res e = (l0.take (j + 1)).foldl (rstep l0) [] ∧ (rstep l0 res e).length ≤ j + 1 from ⟨by rw [redu_succ l0 j hlt, ← HRES.out.1, hee], by have := rstep_len l0 res e; have := HRES.out.2; omega⟩)
          obtain ⟨ip, hip⟩ : ∃ b, b = imp l0 e := ⟨_, rfl⟩
          have HIMP := Aside0.mk (show ((celAt l e.f0).xs.any fun q => decide (e.f1 ∈ (celAt bl q).xs)) = ip from by
            rw [hip]
            unfold imp
            rw [← HNX.out]
            exact any_congr' _ (fun q hq => by rw [HBE.out q (HNXK.out e.f0 q hq)]))
          have HIP := Aside0.mk hip
          obtain ⟨dm, hdm⟩ : ∃ b, b = decide (e ∈ res) := ⟨_, rfl⟩
          have HDM := Aside0.mk hdm.symm
          clear hip hdm hee
          have p0 : (0 : Int) ≤ (j : Int) := by omega
          have p2 : (j : Int) < (l0.length : Int) := by omega
          have hll : l0.length ≤ 400 := HK.out.1
          go_wp2_with (first | ((with_reducible refine gate_dst (N := 12) rfl ?_); refine box_event ?hg (N := 12) ?hd (cs := #[.int .i64 0, .int .i64 0, .int .i64 0, .int .i64 0, .int .i64 0, .int .i64 0]) (t := 37) ?hr ?_; (case hd => rfl); (case hg => rfl); (case hr => first | (go_simp; done) | (go_simp; rfl)); intro g12 hg12 w7 hbox hb3; have d0_ : w7.cell? ⟨g12, 0, none⟩ = some (.int .i64 0) := (blk_cell hbox 0).trans rfl; have d1_ : w7.cell? ⟨g12, 1, none⟩ = some (.int .i64 0) := (blk_cell hbox 1).trans rfl; have d2_ : w7.cell? ⟨g12, 2, none⟩ = some (.int .i64 0) := (blk_cell hbox 2).trans rfl; have d3_ : w7.cell? ⟨g12, 3, none⟩ = some (.int .i64 0) := (blk_cell hbox 3).trans rfl; have d4_ : w7.cell? ⟨g12, 4, none⟩ = some (.int .i64 0) := (blk_cell hbox 4).trans rfl; have d5_ : w7.cell? ⟨g12, 5, none⟩ = some (.int .i64 0) := (blk_cell hbox 5).trans rfl; have f0_ := blk_frozen hbox 0; have f1_ := blk_frozen hbox 1; have f2_ := blk_frozen hbox 2; have f3_ := blk_frozen hbox 3; have f4_ := blk_frozen hbox 4; have f5_ := blk_frozen hbox 5; have BK12 := Aside0.mk hbox; have HB12 := Aside0.mk hb3; have HG12 := Aside0.mk hg12; clear hbox hb3 hg12))
          have n1_ := Aside0.mk (show ((((((w7.setCell ⟨g12, 0, none⟩ (.int .i64 e.f0.f0)).setCell ⟨g12, 1, none⟩ (.int .i64 e.f0.f1)).setCell ⟨g12, 2, none⟩ (.int .i64 e.f0.f2)).setCell ⟨g12, 3, none⟩ (.int .i64 e.f1.f0)).setCell ⟨g12, 4, none⟩ (.int .i64 e.f1.f1)).setCell ⟨g12, 5, none⟩ (.int .i64 e.f1.f2)).heap[g12]? = some (.cells #[.int .i64 e.f0.f0, .int .i64 e.f0.f1, .int .i64 e.f0.f2, .int .i64 e.f1.f0, .int .i64 e.f1.f1, .int .i64 e.f1.f2] 37 (0, 0)) from by refine blk_put (cs := #[(.int .i64 e.f0.f0), (.int .i64 e.f0.f1), (.int .i64 e.f0.f2), (.int .i64 e.f1.f0), (.int .i64 e.f1.f1), (.int .i64 0)]) ?_ 5 _ rfl; refine blk_put (cs := #[(.int .i64 e.f0.f0), (.int .i64 e.f0.f1), (.int .i64 e.f0.f2), (.int .i64 e.f1.f0), (.int .i64 0), (.int .i64 0)]) ?_ 4 _ rfl; refine blk_put (cs := #[(.int .i64 e.f0.f0), (.int .i64 e.f0.f1), (.int .i64 e.f0.f2), (.int .i64 0), (.int .i64 0), (.int .i64 0)]) ?_ 3 _ rfl; refine blk_put (cs := #[(.int .i64 e.f0.f0), (.int .i64 e.f0.f1), (.int .i64 0), (.int .i64 0), (.int .i64 0), (.int .i64 0)]) ?_ 2 _ rfl; refine blk_put (cs := #[(.int .i64 e.f0.f0), (.int .i64 0), (.int .i64 0), (.int .i64 0), (.int .i64 0), (.int .i64 0)]) ?_ 1 _ rfl; refine blk_put (cs := #[(.int .i64 0), (.int .i64 0), (.int .i64 0), (.int .i64 0), (.int .i64 0), (.int .i64 0)]) ?_ 0 _ rfl; exact BK12.out)
          have n2_ := Aside0.mk (show Below wr.heap.size wr ((((((w7.setCell ⟨g12, 0, none⟩ (.int .i64 e.f0.f0)).setCell ⟨g12, 1, none⟩ (.int .i64 e.f0.f1)).setCell ⟨g12, 2, none⟩ (.int .i64 e.f0.f2)).setCell ⟨g12, 3, none⟩ (.int .i64 e.f1.f0)).setCell ⟨g12, 4, none⟩ (.int .i64 e.f1.f1)).setCell ⟨g12, 5, none⟩ (.int .i64 e.f1.f2)) from (below_set (below_set (below_set (below_set (below_set (below_set HB12.out (Nat.le_of_eq HG12.out.symm)) (Nat.le_of_eq HG12.out.symm)) (Nat.le_of_eq HG12.out.symm)) (Nat.le_of_eq HG12.out.symm)) (Nat.le_of_eq HG12.out.symm)) (Nat.le_of_eq HG12.out.symm)))
          clear d0_ d1_ d2_ d3_ d4_ d5_ f0_ f1_ f2_ f3_ f4_ f5_ q0 q1 q2 q3 q4 q5 BK12 HB12
          have BK12 := n1_
          have HB12 := n2_
          clear n1_ n2_
          generalize ((((((w7.setCell ⟨g12, 0, none⟩ (.int .i64 e.f0.f0)).setCell ⟨g12, 1, none⟩ (.int .i64 e.f0.f1)).setCell ⟨g12, 2, none⟩ (.int .i64 e.f0.f2)).setCell ⟨g12, 3, none⟩ (.int .i64 e.f1.f0)).setCell ⟨g12, 4, none⟩ (.int .i64 e.f1.f1)).setCell ⟨g12, 5, none⟩ (.int .i64 e.f1.f2)) = w8 at BK12 HB12 ⊢
          refine start_ (n := 10) (S := fun w' => w'.cell? ⟨gb, 0, none⟩ = some (.map (some gm)) ∧ w'.cell? ⟨g12, 0, none⟩ = some (.int .i64 e.f0.f0) ∧ w'.cell? ⟨g12, 1, none⟩ = some (.int .i64 e.f0.f1) ∧ w'.cell? ⟨g12, 2, none⟩ = some (.int .i64 e.f0.f2)) (ds := []) #[false, false, false, false, false, false, false, false, false, false] (by kernel_rfl) rfl rfl ⟨(blk_cell (blk_drew (HGL.out.below (Below.trans_below HBL.out HBL.out.size HB12.out)).box) 0).trans rfl, (blk_cell (blk_drew BK12.out) 0).trans rfl, (blk_cell (blk_drew BK12.out) 1).trans rfl, (blk_cell (blk_drew BK12.out) 2).trans rfl⟩ (fun hHeld => ?_)
          have n1_ := Aside0.mk (blk_drew BK12.out)
          have n2_ := Aside0.mk (below_drew HB12.out)
          clear BK12 HB12
          have BK12 := n1_
          have HB12 := n2_
          clear n1_ n2_
          generalize w8.drew = w9 at BK12 HB12 hHeld ⊢
          have HBW := Aside0.mk (Below.trans_below HBL.out HBL.out.size HB12.out)
          have HGW := Aside0.mk (HGL.out.below HBW.out)
          obtain ⟨Ax, cx, hex, hcx, hCx⟩ := own24_reads (HGW.out.cel e.f0)
          have HEX := Aside0.mk hex
          have HCX := Aside0.mk (And.intro hcx hCx)
          clear hex hcx hCx
          refine pure_ (i := 0) (N := some 50) (v := ?_) (a' := ?_) #[true, false, false, false, false, false, false, false, false, false] rfl rfl (by kernel_rfl) (fun _ _ _ h => h) (Or.inl ⟨by rfl, ?_⟩) ?_ ?_
          rotate_left
          · intro w'
            go_simp
            with_reducible rfl
          rotate_left
          · simp only [Act.put, List.setIfInBounds_toArray, List.set_cons_zero, List.set_cons_succ, i64_w, i32_w]
            rfl
          refine pure_ (i := 1) (N := some 51) (v := ?_) (a' := ?_) #[true, true, false, false, false, false, false, false, false, false] rfl rfl (by kernel_rfl) (fun _ _ _ h => h) (Or.inl ⟨by rfl, ?_⟩) ?_ ?_
          rotate_left
          · intro w'
            go_simp
            with_reducible rfl
          rotate_left
          · simp only [Act.put, List.setIfInBounds_toArray, List.set_cons_zero, List.set_cons_succ, i64_w, i32_w]
            rfl
          refine pure_ (i := 2) (N := some 52) (v := ?_) (a' := ?_) #[true, true, true, false, false, false, false, false, false, false] rfl rfl (by kernel_rfl) (fun _ _ _ h => h) (Or.inl ⟨by rfl, ?_⟩) ?_ ?_
          rotate_left
          · intro w'
            go_simp
            with_reducible rfl
          rotate_left
          · simp only [Act.put, List.setIfInBounds_toArray, List.set_cons_zero, List.set_cons_succ, i64_w, i32_w]
            rfl
          refine take_ (i := 3) (N := some 53) (v := ?_) (a' := ?_) #[true, true, true, true, false, false, false, false, false, false] rfl rfl (by kernel_rfl) (fun _ _ _ h => h) (Or.inl ⟨by rfl, ?_⟩) hHeld ?_ ?_
          rotate_left
          · rintro w' ⟨s0, s1, s2, s3⟩
            go_simp
            with_reducible rfl
          rotate_left
          · simp only [Act.put, List.setIfInBounds_toArray, List.set_cons_zero, List.set_cons_succ, i64_w, i32_w]
            rfl
          refine pure_ (i := 4) (N := some 54) (v := ?_) (a' := ?_) #[true, true, true, true, true, false, false, false, false, false] rfl rfl (by kernel_rfl) (fun _ _ _ h => h) (Or.inl ⟨by rfl, ?_⟩) ?_ ?_
          rotate_left
          · intro w'
            go_simp
            with_reducible rfl
          rotate_left
          · simp only [Act.put, List.setIfInBounds_toArray, List.set_cons_zero, List.set_cons_succ, i64_w, i32_w]
            rfl
          refine take_ (i := 5) (N := some 55) (v := ?_) (a' := ?_) #[true, true, true, true, true, true, false, false, false, false] rfl rfl (by kernel_rfl) (fun _ _ _ h => h) (Or.inl ⟨by rfl, ?_⟩) hHeld ?_ ?_
          rotate_left
          · rintro w' ⟨s0, s1, s2, s3⟩
            go_simp
            with_reducible rfl
          rotate_left
          · simp only [Act.put, List.setIfInBounds_toArray, List.set_cons_zero, List.set_cons_succ, i64_w, i32_w]
            rfl
          refine pure_ (i := 7) (N := some 57) (v := ?_) (a' := ?_) #[true, true, true, true, true, true, false, true, false, false] rfl rfl (by kernel_rfl) (fun _ _ _ h => h) (Or.inl ⟨by rfl, ?_⟩) ?_ ?_
          rotate_left
          · intro w'
            go_simp
            with_reducible rfl
          rotate_left
          · simp only [Act.put, List.setIfInBounds_toArray, List.set_cons_zero, List.set_cons_succ, i64_w, i32_w]
            rfl
          refine one_ (i := 6) (N := some 56) #[true, true, true, true, true, true, true, true, false, false] rfl rfl (by kernel_rfl) (by decide) (fun K hK => ?_)
          obtain ⟨lf, hlf⟩ := keyK e.f0 HEW.out.1
          have hrun := HGW.out.look e.f0 hlf
          rw [HEX.out] at hrun
          refine value_ (w1 := w9) (v := .slice Ax (celAt l e.f0).xs.length cx) (by rfl) rfl ?_ ?_
          · unfold encK at hrun
            go_simp
            all_goals first | (rw [hrun]; done) | (rw [hrun]; rfl) | (simp [hrun]; done) | exact hrun
          clear hrun hlf
          refine hK.out _ _ ⟨(blk_cell HGW.out.box 0).trans rfl, (blk_cell BK12.out 0).trans rfl, (blk_cell BK12.out 1).trans rfl, (blk_cell BK12.out 2).trans rfl⟩ (fun hHeld => ?_)
          clear hK K
          refine norm_ (a' := ?_) ?_ ?_
          rotate_left
          · show Act.put _ (some 56) _ = _
            simp only [Act.put, List.setIfInBounds_toArray, List.set_cons_zero, List.set_cons_succ, i64_w, i32_w]
            rfl
          refine one_ (i := 8) (N := some 58) #[true, true, true, true, true, true, true, true, true, false] rfl rfl (by kernel_rfl) (by decide) (fun K hK => ?_)
          refine goes_ Try.func22 (by kernel_rfl) rfl #[.slice Ax (celAt l e.f0).xs.length cx, .func (.func 23) #[] #[.pointer (some ⟨g7, 0, none⟩), .pointer (some ⟨g12, 0, none⟩)]] (by rfl) rfl rfl (by (try simp only [List.map_toArray, List.map_cons, List.map_nil]); first | done | rfl) ?_
          refine (ctfB_calls 23 #[.pointer (some ⟨g7, 0, none⟩), .pointer (some ⟨g12, 0, none⟩)] (fun q => decide (e.f1 ∈ (celAt bl q).xs)) Ax cx (celAt l e.f0).xs w9 eg HCX.out.2 (by have := (HNXW.out e.f0).1; omega) (fun W' hb q hq =>
            red1_calls w1.heap.size bm g7 g12 bl e q W' (blk_below (blk_below HL7.out HBW.out) hb) (blk_below BK12.out hb) ((HLM.out.below HBW.out).below hb) (fun z hz => own24_keep (own24_keep (HLR.out z hz) HBW.out.block) hb.block) ((HNXW.out e.f0).2 q hq) (HLL.out q))).mono ?_
          rw [HIMP.out]
          rintro e_ wa ⟨rfl, hb⟩
          refine ⟨_, rfl, ?_⟩
          have n1_ := Aside0.mk (blk_below BK12.out hb)
          have n2_ := Aside0.mk (Below.trans_below HB12.out HB12.out.size hb)
          have n3_ := Aside0.mk (Below.trans_below HBW.out HBW.out.size hb)
          clear BK12 HB12 HBW HGW
          have BK12 := n1_
          have HB12 := n2_
          have HBW := n3_
          clear n1_ n2_ n3_ hb
          refine hK.out _ _ ⟨(blk_cell (HGL.out.below HBW.out).box 0).trans rfl, (blk_cell BK12.out 0).trans rfl, (blk_cell BK12.out 1).trans rfl, (blk_cell BK12.out 2).trans rfl⟩ (fun hHeld => ?_)
          clear hK K
          refine norm_ (a' := ?_) ?_ ?_
          rotate_left
          · show Act.put _ (some 58) _ = _
            simp only [Act.put, List.setIfInBounds_toArray, List.set_cons_zero, List.set_cons_succ, i64_w, i32_w]
            rfl
          refine pure_ (i := 9) (N := some 13) (v := ?_) (a' := ?_) #[true, true, true, true, true, true, true, true, true, true] rfl rfl (by kernel_rfl) (fun _ _ _ h => h) (Or.inl ⟨by rfl, ?_⟩) ?_ ?_
          rotate_left
          · intro w'
            go_simp
            with_reducible rfl
          rotate_left
          · simp only [Act.put, List.setIfInBounds_toArray, List.set_cons_zero, List.set_cons_succ, i64_w, i32_w]
            rfl
          refine done_ (by kernel_rfl) ?_
          try clear hHeld
          have hoa_ : Kd.R k37 37 wa wL.heap.size (fun _ => True) (.slice A10 res.length c10) res := Kd.R_move' HO.out HB12.out
          have HCA := Aside0.mk (show res.length ≤ c10 ∧ Kd.C k37 wa A10 res.length res from ⟨(Kd.R_reads' hoa_).2.1, (Kd.R_reads' hoa_).2.2⟩)
          clear hoa_
          have c12_0 : wa.cell? ⟨g12, 0, none⟩ = some (.int .i64 e.f0.f0) := (blk_cell BK12.out 0).trans rfl
          have c12_1 : wa.cell? ⟨g12, 1, none⟩ = some (.int .i64 e.f0.f1) := (blk_cell BK12.out 1).trans rfl
          have c12_2 : wa.cell? ⟨g12, 2, none⟩ = some (.int .i64 e.f0.f2) := (blk_cell BK12.out 2).trans rfl
          have c12_3 : wa.cell? ⟨g12, 3, none⟩ = some (.int .i64 e.f1.f0) := (blk_cell BK12.out 3).trans rfl
          have c12_4 : wa.cell? ⟨g12, 4, none⟩ = some (.int .i64 e.f1.f1) := (blk_cell BK12.out 4).trans rfl
          have c12_5 : wa.cell? ⟨g12, 5, none⟩ = some (.int .i64 e.f1.f2) := (blk_cell BK12.out 5).trans rfl
          cases ip with
          | true =>
            go_wp2
            go_roundg (l0.length - (j + 1))
            case measure => omega
            case rel =>
              have hs_ : rstep l0 res e = res := by unfold rstep; rw [← HIP.out, if_pos rfl]
              have h1_ := HST.out
              rw [hs_] at h1_
              refine ⟨j + 1, res, ?_, by omega, Nat.le_refl _, ⟨h1_⟩, ⟨Kd.R_move' HO.out HB12.out⟩, HBW⟩
              first | rfl | go_num
          | false =>
            cases dm with
            | true =>
              go_wp2_with (first | (go_at_call 25; refine (api_QEdge_25.calls (res.length + 1) A10 c10 res e.f0.f0 e.f0.f1 e.f0.f2 e.f1.f0 e.f1.f1 e.f1.f2 _ wa HCA.out.2 HCA.out.1 (api_QEdge_25_spec res e (by have := HRL.out; omega) _ (Nat.lt_succ_self _))).mono ?_; rw [HDM.out]; rintro e_ wb ⟨rfl, hb⟩; have n1_ := Aside0.mk (blk_below BK12.out hb); have n2_ := Aside0.mk (Below.trans_below HB12.out HB12.out.size hb); have n3_ := Aside0.mk (Below.trans_below HBW.out HBW.out.size hb); clear BK12 HB12 HBW c12_0 c12_1 c12_2 c12_3 c12_4 c12_5; have BK12 := n1_; have HB12 := n2_; have HBW := n3_; have c12_0 : wb.cell? ⟨g12, 0, none⟩ = some (.int .i64 e.f0.f0) := (blk_cell BK12.out 0).trans rfl; have c12_1 : wb.cell? ⟨g12, 1, none⟩ = some (.int .i64 e.f0.f1) := (blk_cell BK12.out 1).trans rfl; have c12_2 : wb.cell? ⟨g12, 2, none⟩ = some (.int .i64 e.f0.f2) := (blk_cell BK12.out 2).trans rfl; have c12_3 : wb.cell? ⟨g12, 3, none⟩ = some (.int .i64 e.f1.f0) := (blk_cell BK12.out 3).trans rfl; have c12_4 : wb.cell? ⟨g12, 4, none⟩ = some (.int .i64 e.f1.f1) := (blk_cell BK12.out 4).trans rfl; have c12_5 : wb.cell? ⟨g12, 5, none⟩ = some (.int .i64 e.f1.f2) := (blk_cell BK12.out 5).trans rfl; clear n1_ n2_ n3_ hb))
              go_roundg (l0.length - (j + 1))
              case measure => omega
              case rel =>
                have hs_ : rstep l0 res e = res := by unfold rstep; rw [← HIP.out, if_neg (by simp), if_pos (of_decide_eq_true HDM.out)]
                have h1_ := HST.out
                rw [hs_] at h1_
                refine ⟨j + 1, res, ?_, by omega, Nat.le_refl _, ⟨h1_⟩, ⟨Kd.R_move' HO.out HB12.out⟩, HBW⟩
                first | rfl | go_num
            | false =>
              go_wp2_with (first | (go_at_call 25; refine (api_QEdge_25.calls (res.length + 1) A10 c10 res e.f0.f0 e.f0.f1 e.f0.f2 e.f1.f0 e.f1.f1 e.f1.f2 _ wa HCA.out.2 HCA.out.1 (api_QEdge_25_spec res e (by have := HRL.out; omega) _ (Nat.lt_succ_self _))).mono ?_; rw [HDM.out]; rintro e_ wb ⟨rfl, hb⟩; have n1_ := Aside0.mk (blk_below BK12.out hb); have n2_ := Aside0.mk (Below.trans_below HB12.out HB12.out.size hb); have n3_ := Aside0.mk (Below.trans_below HBW.out HBW.out.size hb); clear BK12 HB12 HBW c12_0 c12_1 c12_2 c12_3 c12_4 c12_5; have BK12 := n1_; have HB12 := n2_; have HBW := n3_; have c12_0 : wb.cell? ⟨g12, 0, none⟩ = some (.int .i64 e.f0.f0) := (blk_cell BK12.out 0).trans rfl; have c12_1 : wb.cell? ⟨g12, 1, none⟩ = some (.int .i64 e.f0.f1) := (blk_cell BK12.out 1).trans rfl; have c12_2 : wb.cell? ⟨g12, 2, none⟩ = some (.int .i64 e.f0.f2) := (blk_cell BK12.out 2).trans rfl; have c12_3 : wb.cell? ⟨g12, 3, none⟩ = some (.int .i64 e.f1.f0) := (blk_cell BK12.out 3).trans rfl; have c12_4 : wb.cell? ⟨g12, 4, none⟩ = some (.int .i64 e.f1.f1) := (blk_cell BK12.out 4).trans rfl; have c12_5 : wb.cell? ⟨g12, 5, none⟩ = some (.int .i64 e.f1.f2) := (blk_cell BK12.out 5).trans rfl; clear n1_ n2_ n3_ hb) | (at_builtin; refine Kd.R_append k37 (w0 := wL) wL.heap.size rfl (.tmp 67) (.tmp 69) 22 37 (.agg #[.int .i64 0, .int .i64 0, .int .i64 0, .int .i64 0, .int .i64 0, .int .i64 0]) 48 rfl Try.underlying22 (by kernel_rfl) rfl (by decide) (by omega) (.slice A10 res.length c10) res e [.int .i64 e.f0.f0, .int .i64 e.f0.f1, .int .i64 e.f0.f2, .int .i64 e.f1.f0, .int .i64 e.f1.f1, .int .i64 e.f1.f2] (fun _ => True) (fun _ => False) rfl rfl (k37_mkM _ _ _ _) (fun _ h => h.elim) (fun _ _ => trivial) (Kd.R_move' HO.out HB12.out) HBW.out HBW.out.size (by have := HRL.out; omega) ?_; intro v10 wc q1 q2 q3 q4; have HOC := Aside0.mk q1; have HBC := Aside0.mk q2; clear q1 q2 q3 q4))
              go_roundg (l0.length - (j + 1))
              case measure => omega
              case rel =>
                have hs_ : rstep l0 res e = res ++ [e] := by unfold rstep; rw [← HIP.out, if_neg (by simp), if_neg (of_decide_eq_false HDM.out)]
                have h1_ := HST.out
                rw [hs_] at h1_
                refine ⟨j + 1, res ++ [e], ?_, by omega, Nat.le_refl _, ⟨h1_⟩, HOC, HBC⟩
                first | rfl | go_num
        · obtain rfl : j = l0.length := by omega
          have p1 : decide ((l0.length : Int) < (l0.length : Int)) = false := decide_eq_false (by omega)
          have hrr : res = r1 := by rw [HRES.out.1, List.take_length, ← HRR.out]; rfl
          have HFN := Aside0.mk (show Kd.R k37 37 wr w.heap.size (fun _ => True) (.slice A10 res.length c10) r1 ∧ Below w.heap.size w wr from ⟨by rw [← hrr]; exact Kd.R_lower HO.out HBW1.out.size, Below.trans_below HBW1.out HBW1.out.size HBL.out⟩)
          clear hrr
          go_wp2
          go_ret2
          exact ⟨.slice A10 res.length c10, rfl, HFN.out⟩
end Go.Proofs.Yteekdkkfegcoeaa.Dg
