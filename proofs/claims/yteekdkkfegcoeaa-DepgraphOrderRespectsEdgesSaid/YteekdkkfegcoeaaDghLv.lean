/- Levels. Condition: at most 400 edges, well-formed keys. -/
import Derived.Test.YteekdkkfegcoeaaDghTo
import Derived.Test.YteekdkkfegcoeaaDghRp
namespace Go.Proofs.Yteekdkkfegcoeaa.Dg
open Go.RowKit Go.Sort Go.Lib Go.Proofs.YteekdkkfegcoeaaW.PrintWords Go.Proofs.YteekdkkfegcoeaaW.PrintLast Go.Proofs.YteekdkkfegcoeaaW.PrintMore
open Go.Proofs.Yteekdkkfegcoeaa
open Go.ChangeMaps (setBlock)
set_option linter.unusedVariables false
set_option linter.unusedSimpArgs false
attribute [local go_sem] Oper.semAt_some
def lgo (nx : S24 → List S24) (ks : List S24) : Nat → List S24 → List (List S24) → List (List S24) × Int
  | 0, p, ls => (ls, 0)
  | n + 1, p, ls => if p.length < ks.length then (if ks.filter (fun k => rdyF (nx k) p k) = [] then ([], 8) else lgo nx ks n (p ++ ks.filter (fun k => rdyF (nx k) p k)) (ls ++ [ks.filter (fun k => rdyF (nx k) p k)])) else (ls, 0)
theorem seenL_len (rs : List S24) : (seenL rs).length = rs.length := List.length_map _
theorem exec_len {ev : Operand → Value} {o : Oper} {m : Operand} {w : World} {b : Nat} {l : List (S24 × Value)} (hop : o.op = .call { callee := .builtin .len, args := #[m], argTypes := #[49] }) (hm : ev m = .map (some b)) (h : Mp.At Try.prog 24 encK w b l) :
    (execOp ev o).run Try.prog w = .ok (.value (.int .i64 (l.length : Nat))) w := by
  have hrun := h.len Try.underlying49 o.type
  simp [execOp, hop, resolve, invoke, builtin, hm, hrun, Result.andThen]
open Classical in
noncomputable def depgraph_Levels.f (l0 : List (S37)) : Option ((List (List S24)) × Int) := if Oke l0 then some (lgo (nxt false l0) (gof false l0).2 (gof false l0).2.length [] []) else none
set_option maxHeartbeats 8000000 in
set_option maxRecDepth 100000 in
theorem depgraph_Levels.calls (A0 : Option Addr) (c0 : Nat) (l0 : List (S37)) (r1 : List (List S24)) (r2 : Int) (w : World) (hr0 : Kd.C k37 w A0 l0.length l0) (hc0 : l0.length ≤ c0) (h : depgraph_Levels.f l0 = some (r1, r2)) :
    Calls Try.prog 11 #[.slice A0 l0.length c0] w fun e w' => ∃ v0_ : Value, e = .returned (.tuple #[v0_, .int .i64 r2]) ∧ Kd.R (Kd.slice 24 k24) 26 w' w.heap.size (fun _ => True) v0_ r1 ∧ Below w.heap.size w w' := by
  have mixed : Try.prog.follows .mixedOrders = true := by kernel_rfl
  have hu24 := Try.underlying24
  have hu26 := Try.underlying26
  have hu33 := Try.underlying33
  have hu49 := Try.underlying49
  have hu50 := Try.underlying50
  have hu52 := Try.underlying52
  unfold depgraph_Levels.f at h
  split at h
  case isFalse => cases h
  rename_i hk
  have HK := Aside0.mk hk
  have HRR := Aside0.mk (Option.some.inj h)
  have HR := Aside0.mk hr0
  have HC := Aside0.mk hc0
  clear hk h hr0 hc0
  go_enter Try.func11, Try.ntmps11
  go_wp2_with (first | (go_at_call 17; refine (ng_calls false A0 c0 l0 w HR.out HK.out.1 HC.out HK.out.2).mono ?_; rintro e_ w1 ⟨gb, gm, l, kv, ks, rfl, hgr, hb2, hgf⟩; have HG := Aside0.mk hgr; have HB1 := Aside0.mk hb2; have HGF := Aside0.mk hgf; clear hgr hb2 hgf) | ((with_reducible refine gate_dst (N := 14) rfl ?_); refine Mp.wp_make_at rfl 49 rfl (enc := encK) Try.underlying49 ?_; intro w4 pm hpm hat hg_ hb hs; have HM := Aside0.mk hat; have GM := Aside0.mk (show w1.heap.size ≤ pm from Nat.le_of_eq hpm.symm); have HB2 := Aside0.mk hb; clear hat hg_ hb hs hpm))
  have hgood := gof_good false l0 l0.length (Nat.le_refl _)
  rw [List.take_length, HGF.out] at hgood
  have hnx : (fun k => (celAt l k).xs) = nxt false l0 := by
    funext k
    rw [celAt_xs]
    unfold nxt
    rw [HGF.out]
  have hks : (gof false l0).2 = ks := by rw [HGF.out]
  have HKS := Aside0.mk (show ks.length ≤ 800 ∧ Srt ks from ⟨by have := hgood.klen; have := HK.out.1; simp only at *; omega, hgood.keys⟩)
  have HKSW := Aside0.mk (show ∀ x ∈ ks, wfK x from fun x hx => gof_wf false l0 HK.out.2 x (hks.symm ▸ hx))
  have HNXW := Aside0.mk (show ∀ k, (celAt l k).xs.length ≤ 400 ∧ ∀ x ∈ (celAt l k).xs, wfK x from fun k => ⟨by rw [celAt_xs]; exact Nat.le_trans (hgood.at k).2 HK.out.1, fun x hx => gof_wf false l0 HK.out.2 x (nxt_keys false l0 k x (by rw [← hnx]; exact hx))⟩)
  have HT := Aside0.mk (show lgo (fun k => (celAt l k).xs) ks ks.length [] [] = (r1, r2) from by rw [hnx, ← hks]; exact HRR.out)
  clear hgood hnx hks
  go_loopg [6] ks.length (fun kx s6 wr => ∃ (n : Nat) (p : List S24) (ls : List (List S24)), n ≤ kx ∧ Aside0 (ks.length - p.length ≤ n ∧ p.length ≤ 800 ∧ ls.length ≤ p.length ∧ p.Nodup ∧ ∀ x ∈ p, x ∈ ks) ∧ Aside0 (lgo (fun k => (celAt l k).xs) ks n p ls = (r1, r2)) ∧ Aside0 (Kd.R (Kd.slice 24 k24) 26 wr w1.heap.size (fun k => k ≠ pm) s6 ls) ∧
    Aside0 (Mp.At Try.prog 24 encK wr pm (seenL p)) ∧ Aside0 (Below w1.heap.size w1 wr))
  case atStart => exact ⟨ks.length, [], [], Nat.le_refl _, ⟨by simp, by simp, Nat.le_refl _, List.nodup_nil, by simp⟩, HT, ⟨Kd.R_nil _ _ _ _ _⟩, HM, HB2⟩
  case round =>
    clear HT HM HB2
    obtain ⟨n, p, ls, hnk, HP, HT, HL, HM, HB2⟩ := hrel
    obtain ⟨A6, c6, rfl⟩ := Kd.R_slice HL.out
    go_wp2_with fail
    refine start_ (n := 8) (S := fun w' => w'.cell? ⟨gb, 1, none⟩ = some kv) (ds := []) #[false, false, false, false, false, false, false, false] (by kernel_rfl) rfl rfl ((blk_cell (blk_drew (HG.out.below HB2.out).box) 1).trans rfl) (fun hHeld => ?_)
    have n1_ := Aside0.mk HM.out.drew
    have n2_ := Aside0.mk (below_drew HB2.out)
    have n3_ := Aside0.mk (Kd.R_drew HL.out)
    clear HM HB2 HL
    have HM := n1_
    have HB2 := n2_
    have HL := n3_
    clear n1_ n2_ n3_
    generalize wr.drew = wI at HM HB2 HL hHeld ⊢
    obtain ⟨Ak, ck, hkv, hck, hCk⟩ := own24_reads (HG.out.below HB2.out).krow
    have HCK := Aside0.mk (And.intro hck hCk)
    subst hkv
    clear hck hCk
    refine pure_ (i := 0) (N := some 15) (v := ?_) (a' := ?_) #[true, false, false, false, false, false, false, false] rfl rfl (by kernel_rfl) (fun _ _ _ h => h) (Or.inl ⟨by rfl, ?_⟩) ?_ ?_
    rotate_left
    · intro w'
      go_simp
      with_reducible rfl
    rotate_left
    · simp only [Act.put, List.setIfInBounds_toArray, List.set_cons_zero, List.set_cons_succ, i64_w, i32_w]
      rfl
    refine pure_ (i := 2) (N := some 17) (v := ?_) (a' := ?_) #[true, false, true, false, false, false, false, false] rfl rfl (by kernel_rfl) (fun _ _ _ h => h) (Or.inl ⟨by rfl, ?_⟩) ?_ ?_
    rotate_left
    · intro w'
      go_simp
      with_reducible rfl
    rotate_left
    · simp only [Act.put, List.setIfInBounds_toArray, List.set_cons_zero, List.set_cons_succ, i64_w, i32_w]
      rfl
    refine pure_ (i := 3) (N := some 18) (v := ?_) (a' := ?_) #[true, false, true, true, false, false, false, false] rfl rfl (by kernel_rfl) (fun _ _ _ h => h) (Or.inl ⟨by rfl, ?_⟩) ?_ ?_
    rotate_left
    · intro w'
      go_simp
      with_reducible rfl
    rotate_left
    · simp only [Act.put, List.setIfInBounds_toArray, List.set_cons_zero, List.set_cons_succ, i64_w, i32_w]
      rfl
    refine pure_ (i := 4) (N := some 19) (v := ?_) (a' := ?_) #[true, false, true, true, true, false, false, false] rfl rfl (by kernel_rfl) (fun _ _ _ h => h) (Or.inl ⟨by rfl, ?_⟩) ?_ ?_
    rotate_left
    · intro w'
      go_simp
      with_reducible rfl
    rotate_left
    · simp only [Act.put, List.setIfInBounds_toArray, List.set_cons_zero, List.set_cons_succ, i64_w, i32_w]
      rfl
    refine take_ (i := 5) (N := some 20) (v := ?_) (a' := ?_) #[true, false, true, true, true, true, false, false] rfl rfl (by kernel_rfl) (fun _ _ _ h => h) (Or.inl ⟨by rfl, ?_⟩) hHeld ?_ ?_
    rotate_left
    · rintro w' s0
      go_simp
      with_reducible rfl
    rotate_left
    · simp only [Act.put, List.setIfInBounds_toArray, List.set_cons_zero, List.set_cons_succ, i64_w, i32_w]
      rfl
    refine pure_ (i := 6) (N := some 21) (v := ?_) (a' := ?_) #[true, false, true, true, true, true, true, false] rfl rfl (by kernel_rfl) (fun _ _ _ h => h) (Or.inl ⟨by rfl, ?_⟩) ?_ ?_
    rotate_left
    · intro w'
      go_simp
      with_reducible rfl
    rotate_left
    · simp only [Act.put, List.setIfInBounds_toArray, List.set_cons_zero, List.set_cons_succ, i64_w, i32_w]
      rfl
    refine one_ (i := 1) (N := some 16) #[true, true, true, true, true, true, true, false] rfl rfl (by kernel_rfl) (by decide) (fun K hK => ?_)
    refine value_ (w1 := wI) (v := .int .i64 ((seenL p).length : Nat)) (by rfl) rfl (exec_len rfl rfl HM.out) ?_
    rw [seenL_len]
    refine hK.out _ _ hHeld (fun hHeld => ?_)
    clear hK K
    refine norm_ (a' := ?_) ?_ ?_
    rotate_left
    · show Act.put _ (some 16) _ = _
      simp only [Act.put, List.setIfInBounds_toArray, List.set_cons_zero, List.set_cons_succ, i64_w, i32_w]
      rfl
    refine pure_ (i := 7) (N := some 22) (v := ?_) (a' := ?_) #[true, true, true, true, true, true, true, true] rfl rfl (by kernel_rfl) (fun _ _ _ h => h) (Or.inl ⟨by rfl, ?_⟩) ?_ ?_
    rotate_left
    · intro w'
      go_simp
      with_reducible rfl
    rotate_left
    · simp only [Act.put, List.setIfInBounds_toArray, List.set_cons_zero, List.set_cons_succ, i64_w, i32_w]
      rfl
    refine done_ (by kernel_rfl) ?_
    try clear hHeld
    by_cases hlt : p.length < ks.length
    · have hltz : decide ((p.length : Int) < (ks.length : Int)) = true := decide_eq_true (by omega)
      have c3_ : wI.cell? ⟨gb, 1, none⟩ = some (.slice Ak ks.length ck) := (blk_cell (HG.out.below HB2.out).box 1).trans rfl
      have HGI := Aside0.mk (HG.out.below HB2.out)
      have HMI := HM
      go_wp2_with fail
      clear c3_
      try rw [show decide (p.length < ks.length) = true from decide_eq_true hlt]
      go_loopg [7, 28] ks.length (fun kx s7 s28 wr => ∃ (j : Nat) (lv : List S24), s28 = .int .i64 j ∧ j ≤ ks.length ∧ ks.length - j ≤ kx ∧ Aside0 (lv = (ks.take j).filter (fun k => rdyF (celAt l k).xs p k) ∧ lv.length ≤ j) ∧ Aside0 (wr.ownsRow wI.heap.size 24 3 s7 lv.length (flatK lv)) ∧ Aside0 (Below wI.heap.size wI wr))
      case atStart => exact ⟨0, [], rfl, Nat.zero_le _, Nat.le_refl _, ⟨by simp, Nat.le_refl _⟩, ⟨own_nil _ _⟩, ⟨Below.refl _ _⟩⟩
      case round =>
        obtain ⟨j, lv, rfl, hjn, hjk, HLV, HV, HBI⟩ := hrel
        obtain ⟨A7, c7, rfl, hc7, _⟩ := own24_reads HV.out
        by_cases hjl : j < ks.length
        · obtain ⟨ad, e2_, q0, q1, q2⟩ := elem24 (Kd.C_below HCK.out.2 HBI.out) (Below.refl _ _) j hjl
          subst e2_
          rw [rd_at ks j hjl] at q0 q1 q2
          obtain ⟨k, hkk⟩ : ∃ k, k = ks[j] := ⟨_, rfl⟩
          rw [← hkk] at q0 q1 q2
          have HJ := Aside0.mk (show ks.take (j + 1) = ks.take j ++ [k] from by rw [hkk]; exact List.take_succ_eq_append_getElem hjl)
          have HKW := Aside0.mk (HKSW.out k (hkk ▸ List.getElem_mem hjl))
          have HLL := Aside0.mk (show lv.length ≤ 800 from by have := HLV.out.2; have := HKS.out.1; omega)
          clear hkk
          have p0 : (0 : Int) ≤ (j : Int) := by omega
          have p1 : (j : Int) < (ks.length : Int) := by omega
          have hkl : ks.length ≤ 800 := HKS.out.1
          obtain ⟨rb, hrb⟩ : ∃ b, b = rdyF (celAt l k).xs p k := ⟨_, rfl⟩
          have HRD := Aside0.mk hrb.symm
          clear hrb
          cases rb with
          | false =>
            go_wp2_with (first | ((with_reducible refine gate_dst (N := 9) rfl ?_); refine box_event ?hg (N := 9) ?hd (cs := #[.int .i64 0, .int .i64 0, .int .i64 0]) (t := 24) ?hr ?_; (case hd => rfl); (case hg => rfl); (case hr => first | (go_simp; done) | (go_simp; rfl)); intro g9 hg9 w7 hbox hb3; have d0_ : w7.cell? ⟨g9, 0, none⟩ = some (.int .i64 0) := (blk_cell hbox 0).trans rfl; have d1_ : w7.cell? ⟨g9, 1, none⟩ = some (.int .i64 0) := (blk_cell hbox 1).trans rfl; have d2_ : w7.cell? ⟨g9, 2, none⟩ = some (.int .i64 0) := (blk_cell hbox 2).trans rfl; have f0_ := blk_frozen hbox 0; have f1_ := blk_frozen hbox 1; have f2_ := blk_frozen hbox 2; have BK9 := Aside0.mk hbox; have HB9 := Aside0.mk hb3; have HG9 := Aside0.mk hg9; clear hbox hb3 hg9))
            (have n1_ := Aside0.mk (show (((w7.setCell ⟨g9, 0, none⟩ (.int .i64 k.f0)).setCell ⟨g9, 1, none⟩ (.int .i64 k.f1)).setCell ⟨g9, 2, none⟩ (.int .i64 k.f2)).heap[g9]? = some (.cells #[.int .i64 k.f0, .int .i64 k.f1, .int .i64 k.f2] 24 (0, 0)) from by refine blk_put (cs := #[(.int .i64 k.f0), (.int .i64 k.f1), (.int .i64 0)]) ?_ 2 _ rfl; refine blk_put (cs := #[(.int .i64 k.f0), (.int .i64 0), (.int .i64 0)]) ?_ 1 _ rfl; refine blk_put (cs := #[(.int .i64 0), (.int .i64 0), (.int .i64 0)]) ?_ 0 _ rfl; exact BK9.out); have n2_ := Aside0.mk (show Below wr.heap.size wr (((w7.setCell ⟨g9, 0, none⟩ (.int .i64 k.f0)).setCell ⟨g9, 1, none⟩ (.int .i64 k.f1)).setCell ⟨g9, 2, none⟩ (.int .i64 k.f2)) from below_set (below_set (below_set HB9.out (Nat.le_of_eq HG9.out.symm)) (Nat.le_of_eq HG9.out.symm)) (Nat.le_of_eq HG9.out.symm)); clear d0_ d1_ d2_ f0_ f1_ f2_ BK9 HB9; have BK9 := n1_; have HB9 := n2_; clear n1_ n2_; generalize (((w7.setCell ⟨g9, 0, none⟩ (.int .i64 k.f0)).setCell ⟨g9, 1, none⟩ (.int .i64 k.f1)).setCell ⟨g9, 2, none⟩ (.int .i64 k.f2)) = w8 at BK9 HB9 ⊢; refine (rdy_calls w.heap.size gb gm l _ ks pm p k w8 (HGI.out.below (Below.trans_below HBI.out HBI.out.size HB9.out)) (HMI.out.below (Below.trans_below HBI.out HBI.out.size HB9.out)) HKW.out (HNXW.out k).2 (by have := (HNXW.out k).1; omega)).mono ?_; rw [HRD.out]; rintro e_ w9 ⟨rfl, hgw⟩; have n1_ := Aside0.mk (blk_below BK9.out hgw.below); have n2_ := Aside0.mk (Below.trans_below HB9.out HB9.out.size hgw.below); clear BK9 HB9 hgw; have BK9 := n1_; have HB9 := n2_; clear n1_ n2_; have d0_ : w9.cell? ⟨g9, 0, none⟩ = some (.int .i64 k.f0) := (blk_cell BK9.out 0).trans rfl; have d1_ : w9.cell? ⟨g9, 1, none⟩ = some (.int .i64 k.f1) := (blk_cell BK9.out 1).trans rfl; have d2_ : w9.cell? ⟨g9, 2, none⟩ = some (.int .i64 k.f2) := (blk_cell BK9.out 2).trans rfl)
            go_wp2
            go_roundg (ks.length - (j + 1))
            case measure => omega
            case rel =>
              have l_ : lv = (ks.take (j + 1)).filter (fun k => rdyF (celAt l k).xs p k) ∧ lv.length ≤ j + 1 := by
                refine ⟨?_, by have := HLV.out.2; omega⟩
                rw [HJ.out, List.filter_append, ← HLV.out.1]
                simp [HRD.out]
              refine ⟨j + 1, lv, ?_, by omega, Nat.le_refl _, ⟨l_⟩, ⟨own24_keep HV.out HB9.out.block⟩, ⟨Below.trans_below HBI.out HBI.out.size HB9.out⟩⟩
              first | rfl | go_num
          | true =>
            go_wp2_with (first | ((with_reducible refine gate_dst (N := 9) rfl ?_); refine box_event ?hg (N := 9) ?hd (cs := #[.int .i64 0, .int .i64 0, .int .i64 0]) (t := 24) ?hr ?_; (case hd => rfl); (case hg => rfl); (case hr => first | (go_simp; done) | (go_simp; rfl)); intro g9 hg9 w7 hbox hb3; have d0_ : w7.cell? ⟨g9, 0, none⟩ = some (.int .i64 0) := (blk_cell hbox 0).trans rfl; have d1_ : w7.cell? ⟨g9, 1, none⟩ = some (.int .i64 0) := (blk_cell hbox 1).trans rfl; have d2_ : w7.cell? ⟨g9, 2, none⟩ = some (.int .i64 0) := (blk_cell hbox 2).trans rfl; have f0_ := blk_frozen hbox 0; have f1_ := blk_frozen hbox 1; have f2_ := blk_frozen hbox 2; have BK9 := Aside0.mk hbox; have HB9 := Aside0.mk hb3; have HG9 := Aside0.mk hg9; clear hbox hb3 hg9))
            (have n1_ := Aside0.mk (show (((w7.setCell ⟨g9, 0, none⟩ (.int .i64 k.f0)).setCell ⟨g9, 1, none⟩ (.int .i64 k.f1)).setCell ⟨g9, 2, none⟩ (.int .i64 k.f2)).heap[g9]? = some (.cells #[.int .i64 k.f0, .int .i64 k.f1, .int .i64 k.f2] 24 (0, 0)) from by refine blk_put (cs := #[(.int .i64 k.f0), (.int .i64 k.f1), (.int .i64 0)]) ?_ 2 _ rfl; refine blk_put (cs := #[(.int .i64 k.f0), (.int .i64 0), (.int .i64 0)]) ?_ 1 _ rfl; refine blk_put (cs := #[(.int .i64 0), (.int .i64 0), (.int .i64 0)]) ?_ 0 _ rfl; exact BK9.out); have n2_ := Aside0.mk (show Below wr.heap.size wr (((w7.setCell ⟨g9, 0, none⟩ (.int .i64 k.f0)).setCell ⟨g9, 1, none⟩ (.int .i64 k.f1)).setCell ⟨g9, 2, none⟩ (.int .i64 k.f2)) from below_set (below_set (below_set HB9.out (Nat.le_of_eq HG9.out.symm)) (Nat.le_of_eq HG9.out.symm)) (Nat.le_of_eq HG9.out.symm)); clear d0_ d1_ d2_ f0_ f1_ f2_ BK9 HB9; have BK9 := n1_; have HB9 := n2_; clear n1_ n2_; generalize (((w7.setCell ⟨g9, 0, none⟩ (.int .i64 k.f0)).setCell ⟨g9, 1, none⟩ (.int .i64 k.f1)).setCell ⟨g9, 2, none⟩ (.int .i64 k.f2)) = w8 at BK9 HB9 ⊢; refine (rdy_calls w.heap.size gb gm l _ ks pm p k w8 (HGI.out.below (Below.trans_below HBI.out HBI.out.size HB9.out)) (HMI.out.below (Below.trans_below HBI.out HBI.out.size HB9.out)) HKW.out (HNXW.out k).2 (by have := (HNXW.out k).1; omega)).mono ?_; rw [HRD.out]; rintro e_ w9 ⟨rfl, hgw⟩; have n1_ := Aside0.mk (blk_below BK9.out hgw.below); have n2_ := Aside0.mk (Below.trans_below HB9.out HB9.out.size hgw.below); clear BK9 HB9 hgw; have BK9 := n1_; have HB9 := n2_; clear n1_ n2_; have d0_ : w9.cell? ⟨g9, 0, none⟩ = some (.int .i64 k.f0) := (blk_cell BK9.out 0).trans rfl; have d1_ : w9.cell? ⟨g9, 1, none⟩ = some (.int .i64 k.f1) := (blk_cell BK9.out 1).trans rfl; have d2_ : w9.cell? ⟨g9, 2, none⟩ = some (.int .i64 k.f2) := (blk_cell BK9.out 2).trans rfl)
            go_wp2_with (first | (at_builtin; refine print_append_cells (w0 := wI) wI.heap.size rfl (.tmp 36) (.tmp 38) 26 24 (.agg #[.int .i64 0, .int .i64 0, .int .i64 0]) 3 24 rfl Try.underlying26 info24k rfl (by omega) (by omega) (.slice A7 lv.length c7) lv.length (flatK lv) (cells3 k) rfl rfl rfl (cells3_one k) (own24_keep HV.out HB9.out.block) (Below.trans_below HBI.out HBI.out.size HB9.out) (Nat.le_trans HBI.out.size HB9.out.size) (by have := HLL.out; omega) ?_; intro v7 wa q1 q2 q3 q4; have HOA := Aside0.mk q1; have HBA := Aside0.mk q2; clear q1 q2 q3 q4))
            go_roundg (ks.length - (j + 1))
            case measure => omega
            case rel =>
              have l_ : lv ++ [k] = (ks.take (j + 1)).filter (fun k => rdyF (celAt l k).xs p k) ∧ (lv ++ [k]).length ≤ j + 1 := by
                refine ⟨?_, by have := HLV.out.2; simp only [List.length_append, List.length_singleton]; omega⟩
                rw [HJ.out, List.filter_append, ← HLV.out.1]
                simp [HRD.out]
              have r_ : wa.ownsRow wI.heap.size 24 3 v7 (lv ++ [k]).length (flatK (lv ++ [k])) := by
                rw [show (lv ++ [k]).length = lv.length + 1 by simp, show flatK (lv ++ [k]) = flatK lv ++ cells3 k by rw [flatK_app]; simp [flatK]]
                exact HOA.out
              refine ⟨j + 1, lv ++ [k], ?_, by omega, Nat.le_refl _, ⟨l_⟩, ⟨r_⟩, HBA⟩
              first | rfl | go_num
        · obtain rfl : j = ks.length := by omega
          have p1 : decide ((ks.length : Int) < (ks.length : Int)) = false := decide_eq_false (by omega)
          have HF := Aside0.mk (show lv = ks.filter (fun k => rdyF (celAt l k).xs p k) from by have := HLV.out.1; rwa [List.take_length] at this)
          obtain ⟨n', hn'⟩ : ∃ n', n = n' + 1 := ⟨n - 1, by have := HP.out.1; omega⟩
          by_cases hlv : lv = []
          · have hz : decide ((lv.length : Int) = 0) = true := by rw [hlv]; rfl
            have hz2 : (lv.length : Int) = 0 := by rw [hlv]; rfl
            have ht := HT.out
            rw [hn'] at ht
            unfold lgo at ht
            rw [if_pos hlt, ← HF.out, if_pos hlv] at ht
            injection ht with h1 h2
            subst h1; subst h2
            have HFN := Aside0.mk (show Below w.heap.size w wr from Below.trans_below (Below.trans_below HB1.out HB1.out.size HB2.out) (Nat.le_trans HB1.out.size HB2.out.size) HBI.out)
            clear HF HLV hlv
            go_wp2
            go_ret2
            exact ⟨.slice none 0 0, rfl, Kd.R_nil _ _ _ _ _, HFN.out⟩
          · have hlz : 0 < lv.length := List.length_pos_iff.2 hlv
            have hz : decide ((lv.length : Int) = 0) = false := decide_eq_false (by omega)
            have hz2 : ¬ ((lv.length : Int) = 0) := by omega
            have HSUB := Aside0.mk (show lv.Nodup ∧ (∀ x ∈ lv, x ∈ ks ∧ x ∉ p) ∧ lv.length ≤ 800 from by
              refine ⟨?_, fun x hx => ?_, by have := HLV.out.2; have := HKS.out.1; omega⟩
              · rw [HF.out]
                exact (List.Pairwise.imp (R := ltK) (S := fun a b => a ≠ b) (fun {a b} h1 e => by subst e; exact ltK_irr a h1) HKS.out.2).filter _
              · rw [HF.out, List.mem_filter] at hx
                refine ⟨hx.1, ?_⟩
                have h1 := hx.2
                simp only [rdyF, Bool.and_eq_true, decide_eq_true_eq] at h1
                exact h1.1)
            have HBW := Aside0.mk (Below.trans_below HB2.out HB2.out.size HBI.out)
            have HVW := Aside0.mk (Kd.R_lower (R_of24 (ok := fun k => k ≠ pm) HV.out (fun q e => fun e2 => by
              have h1 := own_base HV.out q e
              have h2 := HM.out.lt
              omega)) HB2.out.size)
            have HLW := Aside0.mk (Kd.R_below HL.out HBI.out)
            have HMW := Aside0.mk (HM.out.below HBI.out)
            have HN' := Aside0.mk hn'
            clear hn' hlv
            go_wp2_with fail
            clear HV HBI HM HL HB2 HGI HMI HCK
            generalize wr = wj at HBW HVW HLW HMW ⊢
            try rw [show ((lv.length : Int) == 0) = false from beq_eq_false_iff_ne.2 hz2]
            go_loopg [46] lv.length (fun kx s46 wr => ∃ j : Nat, s46 = .int .i64 j ∧ j ≤ lv.length ∧ lv.length - j ≤ kx ∧ Aside0 (Kd.R k24 24 wr w1.heap.size (fun k => k ≠ pm) (.slice A7 lv.length c7) lv) ∧ Aside0 (Kd.R (Kd.slice 24 k24) 26 wr w1.heap.size (fun k => k ≠ pm) (.slice A6 ls.length c6) ls) ∧
              Aside0 (Mp.At Try.prog 24 encK wr pm (seenL (p ++ lv.take j))) ∧ Aside0 (Below w1.heap.size w1 wr))
            case atStart => exact ⟨0, rfl, Nat.zero_le _, Nat.le_refl _, HVW, HLW, ⟨by simpa using HMW.out⟩, HBW⟩
            case round =>
              clear HVW HLW HMW HBW
              obtain ⟨j, rfl, hjn, hjk, HVJ, HLJ, HMJ, HBJ⟩ := hrel
              by_cases hjl : j < lv.length
              · obtain ⟨ad, e2_, q0, q1, q2⟩ := elem24 (Kd.R_reads' HVJ.out).2.2 (Below.refl _ _) j hjl
                subst e2_
                rw [rd_at lv j hjl] at q0 q1 q2
                obtain ⟨k, hkk⟩ : ∃ k, k = lv[j] := ⟨_, rfl⟩
                rw [← hkk] at q0 q1 q2
                have HJ := Aside0.mk (show lv.take (j + 1) = lv.take j ++ [k] from by rw [hkk]; exact List.take_succ_eq_append_getElem hjl)
                have hkm : k ∈ lv := hkk ▸ List.getElem_mem hjl
                obtain ⟨lk, hlk⟩ := keyK k (HKSW.out k (HSUB.out.2.1 k hkm).1)
                have HLK := Aside0.mk hlk
                have HNI := Aside0.mk (show k ∉ p ++ lv.take j from by
                  intro h
                  rcases List.mem_append.1 h with h | h
                  · exact (HSUB.out.2.1 k hkm).2 h
                  · obtain ⟨t, ht, e⟩ := List.getElem_of_mem h
                    rw [List.length_take] at ht
                    rw [List.getElem_take] at e
                    have h3 := List.pairwise_iff_getElem.1 HSUB.out.1 t j (by omega) hjl (by omega)
                    exact h3 (e.trans hkk))
                clear hkk hkm hlk
                have p0 : (0 : Int) ≤ (j : Int) := by omega
                have p1 : (j : Int) < (lv.length : Int) := by omega
                have hvl : lv.length ≤ 800 := HSUB.out.2.2
                go_wp2_with (first | ((with_reducible refine gate_dst (N := 11) rfl ?_); refine box_event ?hg (N := 11) ?hd (cs := #[.int .i64 0, .int .i64 0, .int .i64 0]) (t := 24) ?hr ?_; (case hd => rfl); (case hg => rfl); (case hr => first | (go_simp; done) | (go_simp; rfl)); intro g9 hg9 w7 hbox hb3; have d0_ : w7.cell? ⟨g9, 0, none⟩ = some (.int .i64 0) := (blk_cell hbox 0).trans rfl; have d1_ : w7.cell? ⟨g9, 1, none⟩ = some (.int .i64 0) := (blk_cell hbox 1).trans rfl; have d2_ : w7.cell? ⟨g9, 2, none⟩ = some (.int .i64 0) := (blk_cell hbox 2).trans rfl; have f0_ := blk_frozen hbox 0; have f1_ := blk_frozen hbox 1; have f2_ := blk_frozen hbox 2; have BK9 := Aside0.mk hbox; have HB9 := Aside0.mk hb3; have HG9 := Aside0.mk hg9; clear hbox hb3 hg9) | (have n1_ := Aside0.mk (show (((w7.setCell ⟨g9, 0, none⟩ (.int .i64 k.f0)).setCell ⟨g9, 1, none⟩ (.int .i64 k.f1)).setCell ⟨g9, 2, none⟩ (.int .i64 k.f2)).heap[g9]? = some (.cells #[.int .i64 k.f0, .int .i64 k.f1, .int .i64 k.f2] 24 (0, 0)) from by refine blk_put (cs := #[(.int .i64 k.f0), (.int .i64 k.f1), (.int .i64 0)]) ?_ 2 _ rfl; refine blk_put (cs := #[(.int .i64 k.f0), (.int .i64 0), (.int .i64 0)]) ?_ 1 _ rfl; refine blk_put (cs := #[(.int .i64 0), (.int .i64 0), (.int .i64 0)]) ?_ 0 _ rfl; exact BK9.out); have n2_ := Aside0.mk (show Below wr.heap.size wr (((w7.setCell ⟨g9, 0, none⟩ (.int .i64 k.f0)).setCell ⟨g9, 1, none⟩ (.int .i64 k.f1)).setCell ⟨g9, 2, none⟩ (.int .i64 k.f2)) from below_set (below_set (below_set HB9.out (Nat.le_of_eq HG9.out.symm)) (Nat.le_of_eq HG9.out.symm)) (Nat.le_of_eq HG9.out.symm)); clear d0_ d1_ d2_ f0_ f1_ f2_ BK9 HB9; have BK9 := n1_; have HB9 := n2_; clear n1_ n2_; generalize (((w7.setCell ⟨g9, 0, none⟩ (.int .i64 k.f0)).setCell ⟨g9, 1, none⟩ (.int .i64 k.f1)).setCell ⟨g9, 2, none⟩ (.int .i64 k.f2)) = w8 at BK9 HB9 ⊢; refine Mp.wp_store rfl (.tmp 50) (.tmp 51) (.const (.int .i64 1)) 49 rfl (kt := 24) (b := pm) (l := seenL (p ++ lv.take j)) (enc := encK) KK injK Try.underlying49 (HMJ.out.below HB9.out) k HLK.out (.int .i64 1) rfl rfl rfl ?_; intro wa hat7 hg7_ hsz7; have HMA := Aside0.mk hat7; have HGA := Aside0.mk hg7_; clear hat7 hg7_ hsz7))
                go_roundg (lv.length - (j + 1))
                case measure => omega
                case rel =>
                  have m_ : Mp.At Try.prog 24 encK wa pm (seenL (p ++ lv.take (j + 1))) := by
                    rw [HJ.out, ← List.append_assoc, ← seen_set _ k HNI.out]
                    exact HMA.out
                  have a_ : Kd.R k24 24 wa w1.heap.size (fun k => k ≠ pm) (.slice (some ad) lv.length c7) lv := Kd.R_step (Kd.R_below HVJ.out HB9.out) (fun q hq hl => HGA.out.block q hl (fun e => hq (by injection e)))
                  have b_ : Kd.R (Kd.slice 24 k24) 26 wa w1.heap.size (fun k => k ≠ pm) (.slice A6 ls.length c6) ls := Kd.R_step (Kd.R_below HLJ.out HB9.out) (fun q hq hl => HGA.out.block q hl (fun e => hq (by injection e)))
                  have c_ : Below w1.heap.size w1 wa := Below.grown (Below.trans_below HBJ.out HBJ.out.size HB9.out) HGA.out (Nat.le_trans HBJ.out.size HB9.out.size) (fun q e => by injection e with e; have := GM.out; omega)
                  refine ⟨j + 1, ?_, by omega, Nat.le_refl _, ⟨a_⟩, ⟨b_⟩, ⟨m_⟩, ⟨c_⟩⟩
                  first | rfl | go_num
              · obtain rfl : j = lv.length := by omega
                have p1 : decide ((lv.length : Int) < (lv.length : Int)) = false := decide_eq_false (by omega)
                have HMK := Aside0.mk (show Mp.At Try.prog 24 encK wr pm (seenL (p ++ lv)) from by have := HMJ.out; rwa [List.take_length] at this)
                have HPL := Aside0.mk HMK.out.lt
                have HLSL := Aside0.mk (show ls.length ≤ 800 from by have := HP.out; omega)
                have HMM := Aside0.mk (show (Kd.slice 24 k24).M wr w1.heap.size (fun k => k ≠ pm ∧ some k ≠ (Value.slice A6 ls.length c6).ownBlock) lv [.slice A7 lv.length c7] from ⟨_, rfl, R_of24 (own24_of HVJ.out) (fun q e => ⟨HVJ.out.1 q e, fun e2 => by
                  obtain ⟨_, inner, ho, _⟩ := HLJ.out
                  obtain ⟨ca, h1⟩ := own_typed ho q e2.symm
                  obtain ⟨cb, h2⟩ := own_typed (own24_of HVJ.out) q e
                  rw [h1] at h2
                  injection h2 with h2
                  injection h2 with _ h2
                  exact absurd h2 (by decide)⟩)⟩)
                clear HMJ
                go_wp2_with (first | (at_builtin; refine Kd.R_append (Kd.slice 24 k24) (w0 := w1) w1.heap.size rfl (.tmp 53) (.tmp 55) 33 26 (.slice none 0 0) 24 rfl Try.underlying33 (by kernel_rfl) rfl (by decide) (by omega) (.slice A6 ls.length c6) ls lv [.slice A7 lv.length c7] (fun k => k ≠ pm) (fun k => k ≠ pm ∧ some k ≠ (Value.slice A6 ls.length c6).ownBlock) rfl rfl HMM.out (fun _ h => h) (fun k hk => by have := HPL.out; omega) HLJ.out HBJ.out HBJ.out.size (by have := HLSL.out; omega) ?_; intro v6 wb q1 q2 q3 q4; have HLB := Aside0.mk q1; have HBB := Aside0.mk q2; have HGB := Aside0.mk q3; clear q1 q2 q3 q4))
                go_roundg n'
                case measure => have := HN'.out; omega
                case rel =>
                  have hnp : (p ++ lv).Nodup := by
                    rw [List.nodup_append]
                    exact ⟨HP.out.2.2.2.1, HSUB.out.1, fun a ha b hb e => (HSUB.out.2.1 b hb).2 (e ▸ ha)⟩
                  have hsp : ∀ x ∈ p ++ lv, x ∈ ks := fun x hx => by
                    rcases List.mem_append.1 hx with hx | hx
                    · exact HP.out.2.2.2.2 x hx
                    · exact (HSUB.out.2.1 x hx).1
                  have hlp := nodup_le hnp hsp
                  have h1_ : ks.length - (p ++ lv).length ≤ n' ∧ (p ++ lv).length ≤ 800 ∧ (ls ++ [lv]).length ≤ (p ++ lv).length ∧ (p ++ lv).Nodup ∧ ∀ x ∈ p ++ lv, x ∈ ks := by
                    have := HP.out; have := HN'.out; have := HKS.out.1
                    simp only [List.length_append, List.length_singleton] at *
                    exact ⟨by omega, by omega, by omega, hnp, hsp⟩
                  have h2_ : lgo (fun k => (celAt l k).xs) ks n' (p ++ lv) (ls ++ [lv]) = (r1, r2) := by
                    have ht := HT.out
                    rw [HN'.out] at ht
                    unfold lgo at ht
                    rw [if_pos hlt, ← HF.out, if_neg (fun e => by rw [e] at hlz; simp at hlz)] at ht
                    exact ht
                  have h3_ : Mp.At Try.prog 24 encK wb pm (seenL (p ++ lv)) := by
                    obtain ⟨es_, ck_, hes_⟩ := HMK.out
                    refine HMK.out.keep (HGB.out.block pm HMK.out.lt (fun e => ?_))
                    obtain ⟨_, inner, ho, _⟩ := HLJ.out
                    obtain ⟨ca, h1⟩ := own_typed ho pm e.symm
                    rw [hes_.blk] at h1
                    cases h1
                  exact ⟨n', p ++ lv, ls ++ [lv], Nat.le_refl _, ⟨h1_⟩, ⟨h2_⟩, HLB, ⟨h3_⟩, HBB⟩
    · have hltz : decide ((p.length : Int) < (ks.length : Int)) = false := decide_eq_false (by omega)
      have ht := HT.out
      have ht2 : (ls, 0) = (r1, r2) := by
        cases n with
        | zero => exact ht
        | succ n => unfold lgo at ht; rw [if_neg hlt] at ht; exact ht
      injection ht2 with h1 h2
      subst h1; subst h2
      have HFN := Aside0.mk (show Kd.R (Kd.slice 24 k24) 26 wI w.heap.size (fun _ => True) (.slice A6 ls.length c6) ls ∧ Below w.heap.size w wI from ⟨Kd.R_mono (Kd.R_lower HL.out HB1.out.size) (fun _ _ => trivial), Below.trans_below HB1.out HB1.out.size HB2.out⟩)
      clear ht
      go_wp2
      go_ret2
      exact ⟨.slice A6 ls.length c6, rfl, HFN.out⟩
end Go.Proofs.Yteekdkkfegcoeaa.Dg
