/- reachable: the keys reachable from a key, sorted. Condition: a graph as newGraph makes it. -/
import Derived.Test.YteekdkkfegcoeaaDghNg
import Derived.Test.YteekdkkfegcoeaaDghRp
import Derived.Test.YteekdkkfegcoeaaDghCs
namespace Go.Proofs.Yteekdkkfegcoeaa.Dg
open Go.RowKit Go.Sort Go.Lib Go.Proofs.YteekdkkfegcoeaaW.PrintWords Go.Proofs.YteekdkkfegcoeaaW.PrintLast Go.Proofs.YteekdkkfegcoeaaW.PrintMore
open Go.Proofs.Yteekdkkfegcoeaa
open Go.ChangeMaps (setBlock)
set_option linter.unusedVariables false
set_option linter.unusedSimpArgs false
attribute [local go_sem] Oper.semAt_some
def seenL (rs : List S24) : List (S24 × Value) := rs.map fun x => (x, .int .i64 1)
theorem seen_get (rs : List S24) (k : S24) : Mp.aget (seenL rs) k = if k ∈ rs then some (.int .i64 1) else none := by
  induction rs with
  | nil => rfl
  | cons x r ih =>
    show Mp.aget ((x, _) :: seenL r) k = _
    rw [Mp.aget_cons, ih]
    by_cases h : x = k
    · subst h; simp
    · have h2 : ¬ k = x := fun e => h e.symm
      simp [h, h2]
theorem seen_set (rs : List S24) (k : S24) (h : k ∉ rs) : Mp.aset (seenL rs) k (.int .i64 1) = seenL (rs ++ [k]) := by
  unfold Mp.aset
  have h1 : ¬ (seenL rs).any (fun p => decide (p.1 = k)) = true := by
    rw [Mp.any_iff, seen_get, if_neg h]; simp
  rw [if_neg h1]
  unfold seenL
  simp
theorem zero3 (w : World) : (zeroValue 3).run Try.prog w = .ok (.int .i64 0) w := Try.zeroValue3 w
theorem seen_look {rs : List S24} {k : S24} {W : World} {gs : Nat} (h : Mp.At Try.prog 24 encK W gs (seenL rs)) {lk : Lit} (hk : keyOf Try.prog 24 (encK k) = some lk) {r : Int} (hr : r = if k ∈ rs then 1 else 0) :
    (Instr.lookup 49 (.map (some gs)) (encK k) false).run Try.prog W = .ok (.int .i64 r) W := by
  have hrun := Mp.At.look (T := 49) false KK injK Try.underlying49 (zero3 W) h hk
  rw [hrun, seen_get, hr]
  by_cases h1 : k ∈ rs
  · simp [h1]
  · simp [h1]
theorem wp_seen {ops : Array Oper} {rest : List Oper} {o : Oper} {a : Act} {w : World} {Q : Exit → Act → World → Prop} (hg : o.guard = none) (m x : Operand) (hop : o.op = Op.lookup 49 m x false) (gs : Nat) (k : S24) (r : Int) (hm : a.eval m = .map (some gs)) (hx : a.eval x = encK k)
    (hrun : (Instr.lookup 49 (.map (some gs)) (encK k) false).run Try.prog w = .ok (.int .i64 r) w) (hK : wpList Try.prog ops Q rest (a.put o.dst (.int .i64 r)) w) : wpList Try.prog ops Q (o :: rest) a w := by
  refine wpList_plain hg fun K' hK' => ?_
  unfold Oper.wp
  simp [execOp, hop, hm, hx, hrun, Result.andThen]
  exact hK' _ _ hK
theorem own24_keep {w w' : World} {base : Nat} {v : Value} {n : Nat} {fl : List Value} (h : w.ownsRow base 24 3 v n fl) (hk : ∀ k, k < w.heap.size → w'.heap[k]? = w.heap[k]?) : w'.ownsRow base 24 3 v n fl :=
  own_move h (fun k e => hk k (own_lt h k e))
theorem own24_step {wr w6 w7 : World} {base gs : Nat} {v : Value} {n : Nat} {fl : List Value} {m : List (S24 × Value)} (h : wr.ownsRow base 24 3 v n fl) (hb : Below wr.heap.size wr w6) (hg : w6.grownBy w7 (some gs)) (hm : Mp.At Try.prog 24 encK wr gs m) : w7.ownsRow base 24 3 v n fl := by
  obtain ⟨es, c, hes⟩ := hm
  exact own_move h (fun k e => (hg.block k (Nat.lt_of_lt_of_le (own_lt h k e) hb.size) (fun e2 => own_not_map h hes.blk (by injection e2 with e2; rw [← e2]; exact e.symm))).trans (hb.block k (own_lt h k e)))
theorem below_map {W wr w6 w7 : World} {gs : Nat} (h : Below W.heap.size W wr) (hb : Below wr.heap.size wr w6) (hg : w6.grownBy w7 (some gs)) (hgs : W.heap.size ≤ gs) (hn : W.heap.size ≤ wr.heap.size) : Below W.heap.size W w7 :=
  Below.grown (Below.trans_below h hn hb) hg (Nat.le_trans hn hb.size) (fun k e => by injection e with e; omega)
theorem own24_take {w : World} {base : Nat} {ad : Addr} {c : Nat} {xs : List S24} {k : S24} (h : w.ownsRow base 24 3 (.slice (some ad) (xs.length + 1) c) (xs.length + 1) (flatK (xs ++ [k]))) : w.ownsRow base 24 3 (.slice (some ad) xs.length c) xs.length (flatK xs) := by
  refine ⟨flatK_len xs, ?_⟩
  rcases h.2 with ⟨h1, _⟩ | ⟨g, cap, cur, he, hb, hg, hn, hm, hs, ht⟩
  · cases h1
  · injection he with h1 h2 h3
    refine .inr ⟨g, cap, cur, by rw [h1, h3], hb, hg, by omega, hm, hs, ?_⟩
    have h4 := congrArg (List.take (xs.length * 3)) ht
    rw [List.take_take, Nat.min_eq_left (by omega), flatK_app] at h4
    rw [h4, ← flatK_len xs, List.take_left]
set_option maxHeartbeats 8000000 in
set_option maxRecDepth 100000 in
theorem rc_calls (base gb gm : Nat) (l : List (S24 × Cel)) (kv : Value) (ks : List S24) (key : S24) (W : World) (hg : Gr base gb gm l kv ks W) (hkw : wfK key) (hksw : ∀ x ∈ ks, wfK x) (hkl : ks.length ≤ 801)
    (hnx : ∀ k, (celAt l k).xs.length ≤ 400 ∧ ∀ x ∈ (celAt l k).xs, x ∈ ks) :
    Calls Try.prog 18 #[.pointer (some ⟨gb, 0, none⟩), encK key] W fun e w' => ∃ v xs, e = .returned v ∧ Kd.R k24 24 w' W.heap.size (fun _ => True) v xs ∧ Below W.heap.size W w' ∧ Srt xs ∧ ∀ x, x ∈ xs ↔ Reach (fun k => (celAt l k).xs) key x := by
  have mixed : Try.prog.follows .mixedOrders = true := by kernel_rfl
  have hu24 := Try.underlying24
  have hu26 := Try.underlying26
  have hu49 := Try.underlying49
  have hu50 := Try.underlying50
  have hu52 := Try.underlying52
  have HG := Aside0.mk hg
  have HKW := Aside0.mk hkw
  have HKS := Aside0.mk (And.intro hksw hkl)
  have HNX := Aside0.mk hnx
  clear hg hkw hksw hkl hnx
  unfold encK
  go_enter Try.func18, Try.ntmps18
  go_wp2_with (first | ((with_reducible refine gate_dst (N := 3) rfl ?_); refine box_event ?hg (N := 3) ?hd (cs := #[.int .i64 key.f0, .int .i64 key.f1, .int .i64 key.f2]) (t := 24) ?hr ?_; (case hd => rfl); (case hg => rfl); (case hr => first | (go_simp; done) | (go_simp; rfl)); intro g3 hg3 w1 hbox hb3; have BK3 := Aside0.mk hbox; have HB1 := Aside0.mk hb3; clear hbox hb3 hg3) | ((with_reducible refine gate_dst (N := 9) rfl ?_); refine Mp.wp_make_at rfl 49 rfl (enc := encK) Try.underlying49 ?_; intro w2 gs hgs hat hg_ hb hs; have HM := Aside0.mk hat; have GM := Aside0.mk (show W.heap.size ≤ gs from by rw [hgs]; exact HB1.out.size); have n1_ := Aside0.mk (below_step HB1.out hb); have n2_ := Aside0.mk (blk_below BK3.out hb); clear BK3 HB1; have BK3 := n2_; have HB1 := n1_; clear n1_ n2_ hat hg_ hb hs hgs))
  refine start_ (n := 8) (S := fun w' => w'.cell? ⟨gb, 0, none⟩ = some (.map (some gm)) ∧ w'.cell? ⟨g3, 0, none⟩ = some (.int .i64 key.f0) ∧ w'.cell? ⟨g3, 1, none⟩ = some (.int .i64 key.f1) ∧ w'.cell? ⟨g3, 2, none⟩ = some (.int .i64 key.f2)) (ds := []) #[false, false, false, false, false, false, false, false] (by kernel_rfl) rfl rfl ⟨(blk_cell (blk_drew (HG.out.below HB1.out).box) 0).trans rfl, (blk_cell (blk_drew BK3.out) 0).trans rfl, (blk_cell (blk_drew BK3.out) 1).trans rfl, (blk_cell (blk_drew BK3.out) 2).trans rfl⟩ (fun hHeld => ?_)
  have n1_ := Aside0.mk (blk_drew BK3.out)
  have n2_ := Aside0.mk HM.out.drew
  have n3_ := Aside0.mk (below_drew HB1.out)
  clear BK3 HM HB1
  have BK3 := n1_
  have HM := n2_
  have HB1 := n3_
  clear n1_ n2_ n3_
  generalize w2.drew = w3 at BK3 HM HB1 hHeld ⊢
  have HG3 := Aside0.mk (HG.out.below HB1.out)
  obtain ⟨A0, c0, he0, hc0, hC0⟩ := own24_reads (HG3.out.cel key)
  have HE0 := Aside0.mk he0
  have HC0 := Aside0.mk (And.intro hc0 hC0)
  clear he0 hc0 hC0
  refine pure_ (i := 0) (N := some 10) (v := ?_) (a' := ?_) #[true, false, false, false, false, false, false, false] rfl rfl (by kernel_rfl) (fun _ _ _ h => h) (Or.inl ⟨by rfl, ?_⟩) ?_ ?_
  rotate_left
  · intro w'
    go_simp
    with_reducible rfl
  rotate_left
  · simp only [Act.put, List.setIfInBounds_toArray, List.set_cons_zero, List.set_cons_succ, i64_w, i32_w]
    rfl
  refine pure_ (i := 1) (N := some 11) (v := ?_) (a' := ?_) #[true, true, false, false, false, false, false, false] rfl rfl (by kernel_rfl) (fun _ _ _ h => h) (Or.inl ⟨by rfl, ?_⟩) ?_ ?_
  rotate_left
  · intro w'
    go_simp
    with_reducible rfl
  rotate_left
  · simp only [Act.put, List.setIfInBounds_toArray, List.set_cons_zero, List.set_cons_succ, i64_w, i32_w]
    rfl
  refine pure_ (i := 2) (N := some 12) (v := ?_) (a' := ?_) #[true, true, true, false, false, false, false, false] rfl rfl (by kernel_rfl) (fun _ _ _ h => h) (Or.inl ⟨by rfl, ?_⟩) ?_ ?_
  rotate_left
  · intro w'
    go_simp
    with_reducible rfl
  rotate_left
  · simp only [Act.put, List.setIfInBounds_toArray, List.set_cons_zero, List.set_cons_succ, i64_w, i32_w]
    rfl
  refine take_ (i := 3) (N := some 13) (v := ?_) (a' := ?_) #[true, true, true, true, false, false, false, false] rfl rfl (by kernel_rfl) (fun _ _ _ h => h) (Or.inl ⟨by rfl, ?_⟩) hHeld ?_ ?_
  rotate_left
  · rintro w' ⟨s0, s1, s2, s3⟩
    go_simp
    with_reducible rfl
  rotate_left
  · simp only [Act.put, List.setIfInBounds_toArray, List.set_cons_zero, List.set_cons_succ, i64_w, i32_w]
    rfl
  refine take_ (i := 4) (N := some 14) (v := ?_) (a' := ?_) #[true, true, true, true, true, false, false, false] rfl rfl (by kernel_rfl) (fun _ _ _ h => h) (Or.inl ⟨by rfl, ?_⟩) hHeld ?_ ?_
  rotate_left
  · rintro w' ⟨s0, s1, s2, s3⟩
    go_simp
    with_reducible rfl
  rotate_left
  · simp only [Act.put, List.setIfInBounds_toArray, List.set_cons_zero, List.set_cons_succ, i64_w, i32_w]
    rfl
  refine one_ (i := 5) (N := some 15) #[true, true, true, true, true, true, false, false] rfl rfl (by kernel_rfl) (by decide) (fun K hK => ?_)
  obtain ⟨lk, hlk⟩ := keyK key HKW.out
  have hrun := HG3.out.look key hlk
  rw [HE0.out] at hrun
  refine value_ (w1 := w3) (v := .slice A0 (celAt l key).xs.length c0) (by rfl) rfl ?_ ?_
  · unfold encK at hrun
    go_simp
    all_goals first | (rw [hrun]; done) | (rw [hrun]; rfl) | (simp [hrun]; done) | exact hrun
  clear hrun hlk
  refine hK.out _ _ ⟨(blk_cell HG3.out.box 0).trans rfl, (blk_cell BK3.out 0).trans rfl, (blk_cell BK3.out 1).trans rfl, (blk_cell BK3.out 2).trans rfl⟩ (fun hHeld => ?_)
  clear hK K
  refine norm_ (a' := ?_) ?_ ?_
  rotate_left
  · show Act.put _ (some 15) _ = _
    simp only [Act.put, List.setIfInBounds_toArray, List.set_cons_zero, List.set_cons_succ, i64_w, i32_w]
    rfl
  refine one_ (i := 6) (N := some 16) #[true, true, true, true, true, true, true, false] rfl rfl (by kernel_rfl) (by decide) (fun K hK => ?_)
  refine goes_ Try.func27 (by kernel_rfl) rfl #[.slice A0 (celAt l key).xs.length c0] (by rfl) rfl rfl (by (try simp only [List.map_toArray, List.map_cons, List.map_nil]); first | done | rfl) ?_
  refine (clone_calls A0 c0 (celAt l key).xs w3 HC0.out.2 HC0.out.1 (by have := (HNX.out key).1; omega)).mono ?_
  rintro e_ w4 ⟨v7, rfl, ho7, hb7⟩
  refine ⟨_, rfl, ?_⟩
  have R7 := Aside0.mk (own24_of (Kd.R_lower ho7 HB1.out.size))
  have n1_ := Aside0.mk (blk_below BK3.out hb7)
  have n2_ := Aside0.mk (HM.out.below hb7)
  have n3_ := Aside0.mk (below_step HB1.out hb7)
  clear BK3 HM HB1 HG3
  have BK3 := n1_
  have HM := n2_
  have HB1 := n3_
  clear n1_ n2_ n3_ ho7 hb7
  refine hK.out _ _ ⟨(blk_cell (HG.out.below HB1.out).box 0).trans rfl, (blk_cell BK3.out 0).trans rfl, (blk_cell BK3.out 1).trans rfl, (blk_cell BK3.out 2).trans rfl⟩ (fun hHeld => ?_)
  clear hK K
  refine norm_ (a' := ?_) ?_ ?_
  rotate_left
  · show Act.put _ (some 16) _ = _
    simp only [Act.put, List.setIfInBounds_toArray, List.set_cons_zero, List.set_cons_succ, i64_w, i32_w]
    rfl
  refine pure_ (i := 7) (N := some 7) (v := ?_) (a' := ?_) #[true, true, true, true, true, true, true, true] rfl rfl (by kernel_rfl) (fun _ _ _ h => h) (Or.inl ⟨by rfl, ?_⟩) ?_ ?_
  rotate_left
  · intro w'
    go_simp
    with_reducible rfl
  rotate_left
  · simp only [Act.put, List.setIfInBounds_toArray, List.set_cons_zero, List.set_cons_succ, i64_w, i32_w]
    rfl
  refine done_ (by kernel_rfl) ?_
  try clear hHeld
  go_wp2_with fail
  go_loopg [5, 7] (ks.length * 401 + 400) (fun kx s5 s7 wr => ∃ rs pd : List S24, meas ks rs pd ≤ kx ∧ Aside0 (meas ks rs pd ≤ 400000) ∧ Aside0 (Inv (fun k => (celAt l k).xs) key ks rs pd) ∧ Aside0 (wr.ownsRow W.heap.size 24 3 s5 rs.length (flatK rs)) ∧ Aside0 (wr.ownsRow W.heap.size 24 3 s7 pd.length (flatK pd)) ∧
    Aside0 (∀ b, s5.ownBlock = some b → s7.ownBlock ≠ some b) ∧ Aside0 (Mp.At Try.prog 24 encK wr gs (seenL rs)) ∧ Aside0 (Below W.heap.size W wr))
  case atStart =>
    have h0_ : meas ks [] (celAt l key).xs ≤ ks.length * 401 + 400 := by unfold meas; have := (HNX.out key).1; simp only [List.length_nil, Nat.sub_zero]; omega
    exact ⟨[], (celAt l key).xs, h0_, ⟨by have := HKS.out.2; omega⟩, ⟨Inv.start (fun k => (HNX.out k).2)⟩, ⟨own_nil _ _⟩, R7, ⟨by intro b e; cases e⟩, HM, HB1⟩
  case round =>
    clear R7 HM HB1
    obtain ⟨rs, pd, hms, HMS, HI, HO5, HO7, HAP, HM, HB⟩ := hrel
    obtain ⟨A5, c5, rfl, hc5, _⟩ := own24_reads HO5.out
    obtain ⟨A7, c7, rfl, hc7, hC7⟩ := own24_reads HO7.out
    rcases List.eq_nil_or_concat pd with rfl | ⟨pd0, k, rfl⟩
    · have hR5 : Kd.R k24 24 wr W.heap.size (fun _ => True) (.slice A5 rs.length c5) rs := R_of24 HO5.out (fun _ _ => trivial)
      have hsort := sort_calls hR5 (by have := HI.out.le; have := HKS.out.2; omega) HI.out.nd
      have HSO := Aside0.mk hsort
      clear hC7 hR5 hsort
      simp only [List.length_nil]
      go_wp2_with (go_at_call 28; refine HSO.out.mono ?_; rintro e_ w9 ⟨rfl, ys, h1, h2, h3, h4, h5⟩)
      go_ret
      have hfin : Kd.R k24 24 w9 W.heap.size (fun _ => True) (.slice A5 rs.length c5) ys ∧ Below W.heap.size W w9 ∧ Srt ys ∧ ∀ x, x ∈ ys ↔ Reach (fun k => (celAt l k).xs) key x := ⟨h4, Below.grown HB.out h5 HB.out.size (own_base HO5.out), h3, fun x => (h1 x).trans (HI.out.done x)⟩
      refine ⟨_, ys, ?_, hfin⟩
      rfl
    · rw [List.concat_eq_append] at *
      have hn7 : (pd0 ++ [k]).length = pd0.length + 1 := by simp
      rw [hn7] at HO7 HAP hc7 hC7 ⊢
      have hkp : k ∈ pd0 ++ [k] := List.mem_append_right _ (List.mem_singleton_self k)
      obtain ⟨lk2, hlk2⟩ := keyK k (HKS.out.1 k (HI.out.pk k hkp))
      have HLK := Aside0.mk hlk2
      obtain ⟨ad, e_, q0, q1, q2⟩ := elem24 hC7 (Below.refl _ _) pd0.length (by omega)
      subst e_
      have hrd : rd_T24 (pd0 ++ [k]) (pd0.length : Int) = k := by
        rw [rd_at _ _ (by simp)]
        simp
      rw [hrd] at q0 q1 q2
      have HPL := Aside0.mk (show pd0.length ≤ 400000 from by have := HMS.out; unfold meas at this; rw [hn7] at this; omega)
      have HRL := Aside0.mk (show rs.length ≤ 801 from by have := HI.out.le; have := HKS.out.2; omega)
      have HO7t := Aside0.mk (own24_take HO7.out)
      obtain ⟨n0, hn0⟩ : ∃ n, n = pd0.length := ⟨_, rfl⟩
      rw [← hn0] at HO7 HAP hc7 q0 q1 q2 HO7t ⊢
      have HN0 := Aside0.mk hn0
      clear hn0 hrd hC7 hn7 hkp hlk2
      have hwn : wrap64 (n0 : Int) = (n0 : Int) := by have := HPL.out; have := HN0.out; unfold wrap64; omega
      have p0 : (0 : Int) ≤ (n0 : Int) := by omega
      have p1 : (n0 : Int) < (n0 : Int) + 1 := by omega
      have p2 : (n0 : Int) ≤ (n0 : Int) + 1 := by omega
      have p3 : (0 : Int) < (n0 : Int) + 1 := by omega
      have p4 : n0 ≤ c7 := by omega
      have p5 : (n0 : Int) ≤ (c7 : Int) := by omega
      by_cases hin : k ∈ rs
      · have HIN := Aside0.mk (show (1 : Int) = if k ∈ rs then 1 else 0 from (if_pos hin).symm)
        go_wp2_with (first | ((with_reducible refine gate_dst (N := 8) rfl ?_); refine box_event ?hg (N := 8) ?hd (cs := #[.int .i64 0, .int .i64 0, .int .i64 0]) (t := 24) ?hr ?_; (case hd => rfl); (case hg => rfl); (case hr => first | (go_simp; done) | (go_simp; rfl)); intro g8 hg8 w5 hbox hb3; have c0_ : w5.cell? ⟨g8, 0, none⟩ = some (.int .i64 0) := (blk_cell hbox 0).trans rfl; have c1_ : w5.cell? ⟨g8, 1, none⟩ = some (.int .i64 0) := (blk_cell hbox 1).trans rfl; have c2_ : w5.cell? ⟨g8, 2, none⟩ = some (.int .i64 0) := (blk_cell hbox 2).trans rfl; have f0_ := blk_frozen hbox 0; have f1_ := blk_frozen hbox 1; have f2_ := blk_frozen hbox 2; have BK8 := Aside0.mk hbox; have HB5 := Aside0.mk hb3; have HG8 := Aside0.mk hg8; clear hbox hb3 hg8) | ((with_reducible refine gate_dst (N := 33) rfl ?_); have n1_ := Aside0.mk (show (((w5.setCell ⟨g8, 0, none⟩ (.int .i64 k.f0)).setCell ⟨g8, 1, none⟩ (.int .i64 k.f1)).setCell ⟨g8, 2, none⟩ (.int .i64 k.f2)).heap[g8]? = some (.cells #[.int .i64 k.f0, .int .i64 k.f1, .int .i64 k.f2] 24 (0, 0)) from by refine blk_put (cs := #[(.int .i64 k.f0), (.int .i64 k.f1), (.int .i64 0)]) ?_ 2 _ rfl; refine blk_put (cs := #[(.int .i64 k.f0), (.int .i64 0), (.int .i64 0)]) ?_ 1 _ rfl; refine blk_put (cs := #[(.int .i64 0), (.int .i64 0), (.int .i64 0)]) ?_ 0 _ rfl; exact BK8.out); have n2_ := Aside0.mk (show Below wr.heap.size wr (((w5.setCell ⟨g8, 0, none⟩ (.int .i64 k.f0)).setCell ⟨g8, 1, none⟩ (.int .i64 k.f1)).setCell ⟨g8, 2, none⟩ (.int .i64 k.f2)) from below_set (below_set (below_set HB5.out (Nat.le_of_eq HG8.out.symm)) (Nat.le_of_eq HG8.out.symm)) (Nat.le_of_eq HG8.out.symm)); clear c0_ c1_ c2_ f0_ f1_ f2_ BK8 HB5; have BK8 := n1_; have HB5 := n2_; clear n1_ n2_; generalize (((w5.setCell ⟨g8, 0, none⟩ (.int .i64 k.f0)).setCell ⟨g8, 1, none⟩ (.int .i64 k.f1)).setCell ⟨g8, 2, none⟩ (.int .i64 k.f2)) = w6 at BK8 HB5 ⊢; have c0_ : w6.cell? ⟨g8, 0, none⟩ = some (.int .i64 k.f0) := (blk_cell BK8.out 0).trans rfl; have c1_ : w6.cell? ⟨g8, 1, none⟩ = some (.int .i64 k.f1) := (blk_cell BK8.out 1).trans rfl; have c2_ : w6.cell? ⟨g8, 2, none⟩ = some (.int .i64 k.f2) := (blk_cell BK8.out 2).trans rfl; refine wp_seen rfl (.tmp 31) (.tmp 32) rfl gs k 1 rfl rfl (seen_look (HM.out.below HB5.out) HLK.out HIN.out) ?_))
        clear c0_ c1_ c2_
        have hm_ : meas ks rs pd0 + 1 ≤ gk := by rw [← meas_skip k]; exact hms
        go_roundg (meas ks rs pd0)
        case measure => omega
        case rel =>
          have r5_ := own24_keep HO5.out (fun q hq => HB5.out.block q hq)
          have r7_ : w6.ownsRow W.heap.size 24 3 (.slice (some ad) n0 c7) pd0.length (flatK pd0) := by rw [← HN0.out]; exact own24_keep HO7t.out (fun q hq => HB5.out.block q hq)
          have b_ := Below.trans_below HB.out HB.out.size HB5.out
          have i_ := HI.out.skip hin
          have m_ := HMS.out
          rw [meas_skip] at m_
          exact ⟨rs, pd0, Nat.le_refl _, ⟨by omega⟩, ⟨i_⟩, ⟨r5_⟩, ⟨r7_⟩, ⟨HAP.out⟩, ⟨HM.out.below HB5.out⟩, ⟨b_⟩⟩
      · have HIN := Aside0.mk (show (0 : Int) = if k ∈ rs then 1 else 0 from (if_neg hin).symm)
        go_wp2_with (first | ((with_reducible refine gate_dst (N := 8) rfl ?_); refine box_event ?hg (N := 8) ?hd (cs := #[.int .i64 0, .int .i64 0, .int .i64 0]) (t := 24) ?hr ?_; (case hd => rfl); (case hg => rfl); (case hr => first | (go_simp; done) | (go_simp; rfl)); intro g8 hg8 w5 hbox hb3; have c0_ : w5.cell? ⟨g8, 0, none⟩ = some (.int .i64 0) := (blk_cell hbox 0).trans rfl; have c1_ : w5.cell? ⟨g8, 1, none⟩ = some (.int .i64 0) := (blk_cell hbox 1).trans rfl; have c2_ : w5.cell? ⟨g8, 2, none⟩ = some (.int .i64 0) := (blk_cell hbox 2).trans rfl; have f0_ := blk_frozen hbox 0; have f1_ := blk_frozen hbox 1; have f2_ := blk_frozen hbox 2; have BK8 := Aside0.mk hbox; have HB5 := Aside0.mk hb3; have HG8 := Aside0.mk hg8; clear hbox hb3 hg8) | ((with_reducible refine gate_dst (N := 33) rfl ?_); have n1_ := Aside0.mk (show (((w5.setCell ⟨g8, 0, none⟩ (.int .i64 k.f0)).setCell ⟨g8, 1, none⟩ (.int .i64 k.f1)).setCell ⟨g8, 2, none⟩ (.int .i64 k.f2)).heap[g8]? = some (.cells #[.int .i64 k.f0, .int .i64 k.f1, .int .i64 k.f2] 24 (0, 0)) from by refine blk_put (cs := #[(.int .i64 k.f0), (.int .i64 k.f1), (.int .i64 0)]) ?_ 2 _ rfl; refine blk_put (cs := #[(.int .i64 k.f0), (.int .i64 0), (.int .i64 0)]) ?_ 1 _ rfl; refine blk_put (cs := #[(.int .i64 0), (.int .i64 0), (.int .i64 0)]) ?_ 0 _ rfl; exact BK8.out); have n2_ := Aside0.mk (show Below wr.heap.size wr (((w5.setCell ⟨g8, 0, none⟩ (.int .i64 k.f0)).setCell ⟨g8, 1, none⟩ (.int .i64 k.f1)).setCell ⟨g8, 2, none⟩ (.int .i64 k.f2)) from below_set (below_set (below_set HB5.out (Nat.le_of_eq HG8.out.symm)) (Nat.le_of_eq HG8.out.symm)) (Nat.le_of_eq HG8.out.symm)); clear c0_ c1_ c2_ f0_ f1_ f2_ BK8 HB5; have BK8 := n1_; have HB5 := n2_; clear n1_ n2_; generalize (((w5.setCell ⟨g8, 0, none⟩ (.int .i64 k.f0)).setCell ⟨g8, 1, none⟩ (.int .i64 k.f1)).setCell ⟨g8, 2, none⟩ (.int .i64 k.f2)) = w6 at BK8 HB5 ⊢; have c0_ : w6.cell? ⟨g8, 0, none⟩ = some (.int .i64 k.f0) := (blk_cell BK8.out 0).trans rfl; have c1_ : w6.cell? ⟨g8, 1, none⟩ = some (.int .i64 k.f1) := (blk_cell BK8.out 1).trans rfl; have c2_ : w6.cell? ⟨g8, 2, none⟩ = some (.int .i64 k.f2) := (blk_cell BK8.out 2).trans rfl; refine wp_seen rfl (.tmp 31) (.tmp 32) rfl gs k 0 rfl rfl (seen_look (HM.out.below HB5.out) HLK.out HIN.out) ?_) | (refine Mp.wp_store rfl (.tmp 35) (.tmp 36) (.const (.int .i64 1)) 49 rfl (kt := 24) (b := gs) (l := seenL rs) (enc := encK) KK injK Try.underlying49 (HM.out.below HB5.out) k HLK.out (.int .i64 1) rfl rfl rfl ?_; intro w7 hat7 hg7_ hsz7; clear c0_ c1_ c2_; have HM7 := Aside0.mk hat7; have HG7 := Aside0.mk hg7_; have HS7 := Aside0.mk hsz7; clear hat7 hg7_ hsz7; have BK9 := Aside0.mk ((HG7.out.block g8 (blk_lt BK8.out) (fun e => by injection e with e; have := HM.out.lt; have := HG8.out; omega)).trans BK8.out); have c0_ : w7.cell? ⟨g8, 0, none⟩ = some (.int .i64 k.f0) := (blk_cell BK9.out 0).trans rfl; have c1_ : w7.cell? ⟨g8, 1, none⟩ = some (.int .i64 k.f1) := (blk_cell BK9.out 1).trans rfl; have c2_ : w7.cell? ⟨g8, 2, none⟩ = some (.int .i64 k.f2) := (blk_cell BK9.out 2).trans rfl) | (at_builtin; refine print_append_cells (w0 := W) W.heap.size rfl (.tmp 37) (.tmp 39) 26 24 (.agg #[.int .i64 0, .int .i64 0, .int .i64 0]) 3 24 rfl Try.underlying26 info24k rfl (by omega) (by omega) (.slice A5 rs.length c5) rs.length (flatK rs) (cells3 k) rfl rfl rfl (cells3_one k) (own24_step HO5.out HB5.out HG7.out HM.out) (below_map HB.out HB5.out HG7.out GM.out HB.out.size) (Nat.le_trans HB.out.size (Nat.le_trans HB5.out.size HG7.out.size)) (by have := HRL.out; omega) ?_; intro v5 w8 q1 q2 q3 q4; have HO8 := Aside0.mk q1; have HB8 := Aside0.mk q2; have HG8g := Aside0.mk q3; have HA8 := Aside0.mk q4; clear q1 q2 q3 q4))
        clear c0_ c1_ c2_ q0 q1 q2
        have hlt5 := own_lt HO5.out
        have hlt7 := own_lt HO7.out
        have BKa := Aside0.mk ((HG8g.out.block g8 (blk_lt BK9.out) (fun e => by have := hlt5 g8 e.symm; have := HG8.out; omega)).trans BK9.out)
        have n1_ := Aside0.mk (own_move (own24_step HO7t.out HB5.out HG7.out HM.out) (fun q e => HG8g.out.block q (own_lt (own24_step HO7t.out HB5.out HG7.out HM.out) q e) (fun e2 => HAP.out q e2.symm e)))
        have hm8_ : Mp.At Try.prog 24 encK w8 gs (seenL (rs ++ [k])) := by
          rw [← seen_set rs k hin]
          have h1_ := own24_step HO5.out HB5.out HG7.out HM.out
          obtain ⟨es_, ck_, hes_⟩ := HM7.out
          exact HM7.out.keep (HG8g.out.block gs HM7.out.lt (own_not_map h1_ hes_.blk))
        have HM8 := Aside0.mk hm8_
        have HN78 := Aside0.mk (show (Value.slice (some ad) n0 c7).ownBlock = some g8 → False from fun e => by have := hlt7 g8 e; have := HG8.out; omega)
        have HX5 := Aside0.mk (show ∀ b, v5.ownBlock = some b → (Value.slice (some ad) n0 c7).ownBlock ≠ some b from by
          intro b e e2
          rcases HA8.out with h1_ | ⟨b2, h1_, h2_⟩
          · rw [h1_] at e; exact HAP.out b e e2
          · rw [h1_] at e; injection e with e
            have h3_ := hlt7 b e2
            have h4_ := HB5.out.size
            have h5_ := HG7.out.size
            omega)
        clear HO7 BK9 hm8_ hlt5 hlt7
        have HO7 := n1_
        clear n1_
        refine start_ (n := 9) (S := fun w' => w'.cell? ⟨gb, 0, none⟩ = some (.map (some gm)) ∧ w'.cell? ⟨g8, 0, none⟩ = some (.int .i64 k.f0) ∧ w'.cell? ⟨g8, 1, none⟩ = some (.int .i64 k.f1) ∧ w'.cell? ⟨g8, 2, none⟩ = some (.int .i64 k.f2)) (ds := []) #[false, false, false, false, false, false, false, false, false] (by kernel_rfl) rfl rfl ⟨(blk_cell (blk_drew (HG.out.below HB8.out).box) 0).trans rfl, (blk_cell (blk_drew BKa.out) 0).trans rfl, (blk_cell (blk_drew BKa.out) 1).trans rfl, (blk_cell (blk_drew BKa.out) 2).trans rfl⟩ (fun hHeld => ?_)
        have n1_ := Aside0.mk (blk_drew BKa.out)
        have n3_ := Aside0.mk (below_drew HB8.out)
        have n4_ := Aside0.mk (own24_keep HO8.out (fun _ _ => rfl) : w8.drew.ownsRow W.heap.size 24 3 v5 (rs.length + 1) (flatK rs ++ cells3 k))
        have n5_ := Aside0.mk (own24_keep HO7.out (fun _ _ => rfl) : w8.drew.ownsRow W.heap.size 24 3 (.slice (some ad) n0 c7) n0 (flatK pd0))
        have n6_ := Aside0.mk HM8.out.drew
        clear BKa HB8 HO8 HO7 HM8
        have BKa := n1_
        have HB8 := n3_
        have HO8 := n4_
        have HO7 := n5_
        have HM8 := n6_
        clear n1_ n3_ n4_ n5_ n6_
        generalize w8.drew = w9 at BKa HB8 HO8 HO7 HM8 hHeld ⊢
        have HG9 := Aside0.mk (HG.out.below HB8.out)
        obtain ⟨Ax, cx, hex, hcx, hCx⟩ := own24_reads (HG9.out.cel k)
        have HEX := Aside0.mk hex
        have HCX := Aside0.mk (And.intro hcx hCx)
        clear hex hcx hCx
        refine pure_ (i := 0) (N := some 41) (v := ?_) (a' := ?_) #[true, false, false, false, false, false, false, false, false] rfl rfl (by kernel_rfl) (fun _ _ _ h => h) (Or.inl ⟨by rfl, ?_⟩) ?_ ?_
        rotate_left
        · intro w'
          go_simp
          with_reducible rfl
        rotate_left
        · simp only [Act.put, List.setIfInBounds_toArray, List.set_cons_zero, List.set_cons_succ, i64_w, i32_w]
          rfl
        refine pure_ (i := 1) (N := some 42) (v := ?_) (a' := ?_) #[true, true, false, false, false, false, false, false, false] rfl rfl (by kernel_rfl) (fun _ _ _ h => h) (Or.inl ⟨by rfl, ?_⟩) ?_ ?_
        rotate_left
        · intro w'
          go_simp
          with_reducible rfl
        rotate_left
        · simp only [Act.put, List.setIfInBounds_toArray, List.set_cons_zero, List.set_cons_succ, i64_w, i32_w]
          rfl
        refine pure_ (i := 2) (N := some 43) (v := ?_) (a' := ?_) #[true, true, true, false, false, false, false, false, false] rfl rfl (by kernel_rfl) (fun _ _ _ h => h) (Or.inl ⟨by rfl, ?_⟩) ?_ ?_
        rotate_left
        · intro w'
          go_simp
          with_reducible rfl
        rotate_left
        · simp only [Act.put, List.setIfInBounds_toArray, List.set_cons_zero, List.set_cons_succ, i64_w, i32_w]
          rfl
        refine pure_ (i := 3) (N := some 44) (v := ?_) (a' := ?_) #[true, true, true, true, false, false, false, false, false] rfl rfl (by kernel_rfl) (fun _ _ _ h => h) (Or.inl ⟨by rfl, ?_⟩) ?_ ?_
        rotate_left
        · intro w'
          go_simp
          with_reducible rfl
        rotate_left
        · simp only [Act.put, List.setIfInBounds_toArray, List.set_cons_zero, List.set_cons_succ, i64_w, i32_w]
          rfl
        refine take_ (i := 4) (N := some 45) (v := ?_) (a' := ?_) #[true, true, true, true, true, false, false, false, false] rfl rfl (by kernel_rfl) (fun _ _ _ h => h) (Or.inl ⟨by rfl, ?_⟩) hHeld ?_ ?_
        rotate_left
        · rintro w' ⟨s0, s1, s2, s3⟩
          go_simp
          with_reducible rfl
        rotate_left
        · simp only [Act.put, List.setIfInBounds_toArray, List.set_cons_zero, List.set_cons_succ, i64_w, i32_w]
          rfl
        refine take_ (i := 5) (N := some 46) (v := ?_) (a' := ?_) #[true, true, true, true, true, true, false, false, false] rfl rfl (by kernel_rfl) (fun _ _ _ h => h) (Or.inl ⟨by rfl, ?_⟩) hHeld ?_ ?_
        rotate_left
        · rintro w' ⟨s0, s1, s2, s3⟩
          go_simp
          with_reducible rfl
        rotate_left
        · simp only [Act.put, List.setIfInBounds_toArray, List.set_cons_zero, List.set_cons_succ, i64_w, i32_w]
          rfl
        refine one_ (i := 6) (N := some 47) #[true, true, true, true, true, true, true, false, false] rfl rfl (by kernel_rfl) (by decide) (fun K hK => ?_)
        have hrun := HG9.out.look k HLK.out
        rw [HEX.out] at hrun
        refine value_ (w1 := w9) (v := .slice Ax (celAt l k).xs.length cx) (by rfl) rfl ?_ ?_
        · unfold encK at hrun
          go_simp
          all_goals first | (rw [hrun]; done) | (rw [hrun]; rfl) | (simp [hrun]; done) | exact hrun
        clear hrun
        refine hK.out _ _ ⟨(blk_cell HG9.out.box 0).trans rfl, (blk_cell BKa.out 0).trans rfl, (blk_cell BKa.out 1).trans rfl, (blk_cell BKa.out 2).trans rfl⟩ (fun hHeld => ?_)
        clear hK K
        refine norm_ (a' := ?_) ?_ ?_
        rotate_left
        · show Act.put _ (some 47) _ = _
          simp only [Act.put, List.setIfInBounds_toArray, List.set_cons_zero, List.set_cons_succ, i64_w, i32_w]
          rfl
        refine one_ (i := 7) (N := some 48) #[true, true, true, true, true, true, true, true, false] rfl rfl (by kernel_rfl) (by decide) (fun K hK => ?_)
        have hR7 : Kd.R k24 24 w9 W.heap.size (fun _ => True) (.slice (some ad) n0 c7) pd0 := R_of24 (by rw [← HN0.out]; exact HO7.out) (fun _ _ => trivial)
        refine Kd.R_append_rows_step k24 (w0 := W) W.heap.size (by rfl) (.tmp 41) (.tmp 47) 26 24 (.agg #[.int .i64 0, .int .i64 0, .int .i64 0]) 24 rfl Try.underlying26 (by kernel_rfl) rfl (by decide) (by omega) (.slice (some ad) n0 c7) pd0 (celAt l k).xs _ _ _ (fun _ => True) (fun _ => False) rfl rfl hR7 HCX.out.2 (fun _ _ h => by obtain rfl := k24_open h; exact k24_mkM _ _ _ _) (fun _ h => h.elim) (fun _ _ => trivial) HB8.out HB8.out.size (by have := (HNX.out k).1; have := HPL.out; omega) ?_
        rintro v7 wa hv hb hg_ hat_
        have HVA := Aside0.mk (own24_of hv)
        have HBA := Aside0.mk hb
        have HGA := Aside0.mk hg_
        have HTA := Aside0.mk hat_
        have kg8 := (hg_.block g8 (blk_lt BKa.out) (fun e => HN78.out e.symm)).trans BKa.out
        have K8 := Aside0.mk kg8
        clear hR7 hv hb hg_ hat_ kg8
        refine hK.out _ _ ⟨(blk_cell (HG.out.below HBA.out).box 0).trans rfl, (blk_cell K8.out 0).trans rfl, (blk_cell K8.out 1).trans rfl, (blk_cell K8.out 2).trans rfl⟩ (fun hHeld => ?_)
        clear hK K
        refine norm_ (a' := ?_) ?_ ?_
        rotate_left
        · show Act.put _ (some 48) _ = _
          simp only [Act.put, List.setIfInBounds_toArray, List.set_cons_zero, List.set_cons_succ, i64_w, i32_w]
          rfl
        refine pure_ (i := 8) (N := some 7) (v := ?_) (a' := ?_) #[true, true, true, true, true, true, true, true, true] rfl rfl (by kernel_rfl) (fun _ _ _ h => h) (Or.inl ⟨by rfl, ?_⟩) ?_ ?_
        rotate_left
        · intro w'
          go_simp
          with_reducible rfl
        rotate_left
        · simp only [Act.put, List.setIfInBounds_toArray, List.set_cons_zero, List.set_cons_succ, i64_w, i32_w]
          rfl
        refine done_ (by kernel_rfl) ?_
        try clear hHeld
        have hm_ : meas ks (rs ++ [k]) (pd0 ++ (celAt l k).xs) + 1 ≤ meas ks rs (pd0 ++ [k]) := meas_push (HI.out.push (fun k => (HNX.out k).2) hin).le (HNX.out k).1
        go_wp2
        go_roundg (meas ks (rs ++ [k]) (pd0 ++ (celAt l k).xs))
        case measure => omega
        case rel =>
          have i_ := HI.out.push (fun k => (HNX.out k).2) hin
          have l_ : (rs ++ [k]).length = rs.length + 1 := by simp
          have f_ : flatK (rs ++ [k]) = flatK rs ++ cells3 k := by rw [flatK_app]; simp [flatK]
          have r5_ : wa.ownsRow W.heap.size 24 3 v5 (rs ++ [k]).length (flatK (rs ++ [k])) := by
            rw [l_, f_]
            exact own_move HO8.out (fun q e => HGA.out.block q (own_lt HO8.out q e) (fun e2 => HX5.out q e e2.symm))
          have x_ : ∀ b, v5.ownBlock = some b → v7.ownBlock ≠ some b := by
            intro b e e2
            rcases HTA.out with h1_ | ⟨b2, h1_, h2_⟩
            · rw [h1_] at e2; exact HX5.out b e e2
            · rw [h1_] at e2; injection e2 with e2
              have h3_ := own_lt HO8.out b e
              omega
          have mm_ : Mp.At Try.prog 24 encK wa gs (seenL (rs ++ [k])) := by
            obtain ⟨es_, ck_, hes_⟩ := HM8.out
            exact HM8.out.keep (HGA.out.block gs HM8.out.lt (own_not_map HO7.out hes_.blk))
          have m_ := HMS.out
          exact ⟨rs ++ [k], pd0 ++ (celAt l k).xs, Nat.le_refl _, ⟨by omega⟩, ⟨i_⟩, ⟨r5_⟩, HVA, ⟨x_⟩, ⟨mm_⟩, HBA⟩
end Go.Proofs.Yteekdkkfegcoeaa.Dg
