/- glossatorkeep3.reversed. -/
import Derived.Test.YtmonbhoeplmieaaDoorJshWl
import Derived.Test.YtmonbhoeplmieaaDoorJshCn
import Derived.Deep.QuietTactic
import Derived.BigQuiet
import Derived.Deep.LoopGhost
import Derived.Shelf.Abstract
namespace Go.Proofs.YtmonbhoeplmieaaDoor.Js
open Go.RowKit Go.Proofs.YtmonbhoeplmieaaDoorW.PrintWords Go.Proofs.YtmonbhoeplmieaaDoorW.PrintLast Go.Proofs.YtmonbhoeplmieaaDoorW.PrintMore
open Go.Proofs.YtmonbhoeplmieaaDoor
set_option linter.unusedVariables false
set_option linter.unusedSimpArgs false

attribute [local go_sem] Oper.semAt_some
mutual
/-- the members of all objects in reversed order -/
def rv : S25 → S25
  | .mk k n t ns es => if k = 5 then .mk k n t ns.reverse (rvs es).reverse else .mk k n t ns (rvs es)
def rvs : List S25 → List S25
  | [] => []
  | e :: es => rv e :: rvs es
end
theorem rvs_map : ∀ es, rvs es = es.map rv
  | [] => by rw [rvs]; rfl
  | e :: es => by rw [rvs, rvs_map es]; rfl
theorem rv_obj {j : S25} (h : j.f0 = 5) : rv j = .mk j.f0 j.f1 j.f2 j.f3.reverse (j.f4.map rv).reverse := by
  cases j
  rw [rv, if_pos h, rvs_map]
theorem rv_other {j : S25} (h : ¬ j.f0 = 5) : rv j = .mk j.f0 j.f1 j.f2 j.f3 (j.f4.map rv) := by
  cases j
  rw [rv, if_neg h, rvs_map]
mutual
/-- no more names and elements than the limits let in, and an object has as many names as elements -/
def nice : S25 → Prop
  | .mk k _ _ ns es => ns.length ≤ 400 ∧ es.length ≤ 400 ∧ (k = 5 → ns.length = es.length) ∧ nices es
def nices : List S25 → Prop
  | [] => True
  | e :: es => nice e ∧ nices es
end
theorem nice_eq (j : S25) : nice j ↔ (j.f3.length ≤ 400 ∧ j.f4.length ≤ 400 ∧ (j.f0 = 5 → j.f3.length = j.f4.length) ∧ nices j.f4) := by cases j; first | (rw [nice]; done) | (rw [nice]; rfl)
theorem nices_mem : ∀ {es : List S25} {x : S25}, nices es → x ∈ es → nice x
  | [], _, _, h => by cases h
  | e :: es, x, hs, h => by
    rw [nices] at hs
    rcases List.mem_cons.1 h with rfl | h
    · exact hs.1
    · exact nices_mem hs.2 h
theorem nices_of : ∀ {es : List S25}, (∀ x ∈ es, nice x) → nices es
  | [], _ => by rw [nices]; trivial
  | e :: es, h => by rw [nices]; exact ⟨h e (by simp), nices_of fun x hx => h x (by simp [hx])⟩
/-- the first i of the list's elements put where they stand in the reversed list -/
def mixL {α : Type} (l : List α) (i : Nat) : List α := l.reverse.take i ++ l.drop i
theorem mixL_len {α : Type} (l : List α) (i : Nat) (h : i ≤ l.length) : (mixL l i).length = l.length := by unfold mixL; rw [List.length_append, List.length_take, List.length_reverse, List.length_drop]; omega
theorem mixL_zero {α : Type} (l : List α) : mixL l 0 = l := by unfold mixL; rw [List.take_zero, List.drop_zero, List.nil_append]
theorem mixL_all {α : Type} (l : List α) : mixL l l.length = l.reverse := by unfold mixL; rw [List.drop_length, List.append_nil, List.take_of_length_le (by rw [List.length_reverse]; exact Nat.le_refl _)]
theorem mixL_set {α : Type} (l : List α) (i q : Nat) (x : α) (h : i + q + 1 = l.length) (hx : l[q]? = some x) : (mixL l i).set i x = mixL l (i + 1) := by
  unfold mixL
  have hr : l.reverse[i]? = some x := by rw [List.getElem?_reverse (by omega), show l.length - 1 - i = q from by omega]; exact hx
  have hi : i < l.reverse.length := by rw [List.length_reverse]; omega
  rw [List.set_append_right _ _ (by rw [List.length_take, List.length_reverse]; omega), List.take_add_one, hr, List.length_take, List.length_reverse, show i - min i l.length = 0 from by omega, List.drop_eq_getElem_cons (by omega), List.set_cons_zero]
  simp
theorem infoJ : (Tryd.prog.info? 25).map (fun i => (i.zero, i.size, i.bytes)) = some (some (.agg #[.int .i64 0, .int .i64 0, .string ByteArray.empty, .slice none 0 0, .slice none 0 0]), 5, 80) := by kernel_rfl
theorem infoJ5 : (Tryd.prog.info? 25).map (·.size) = some 5 := by kernel_rfl
theorem far_ {w : World} {g g' j : Nat} {o : Obj} {v : Value} (h : w.heap[g]? = some o) (hne : g ≠ g') : (w.setCell ⟨g', j, none⟩ v).heap[g]? = some o := (Below.heap_setCell w ⟨g', j, none⟩ v g hne).trans h
theorem ok_ {g1 g2 g3 NN q : Nat} {v : Value} (h1 : g1 < NN) (h2 : g2 < NN) (h3 : g3 < NN) (hv : ∀ q, v.ownBlock = some q → q < NN) (hq : NN ≤ q) : (q ≠ g1 ∧ q ≠ g2 ∧ q ≠ g3) ∧ some q ≠ v.ownBlock :=
  ⟨⟨by omega, by omega, by omega⟩, fun e => by have h_ := hv q e.symm; omega⟩
theorem rn_ {w' : World} {b B g1 g2 g3 : Nat} {v : Value} {xs : List ByteArray} (h : Kd.R Kd.string 9 w' b (fun _ => True) v xs) (hb : B ≤ b) (h1 : g1 < b) (h2 : g2 < b) (h3 : g3 < b ∨ w'.heap.size ≤ g3) :
    Kd.R Kd.string 9 w' B (fun q => q ≠ g1 ∧ q ≠ g2 ∧ q ≠ g3) v xs :=
  Kd.R_lower (Kd.R_mono (Kd.R_bound h) (fun q hq => by obtain ⟨_, a, b, _⟩ := hq; exact ⟨by omega, by omega, by omega⟩)) hb
theorem store_run {oi : Oper} {a : Act} {t : TypeId} {p x : Operand} {P : Program} {w w1 : World} {pv u : Value} (ho : oi.op = .store t p x) (hp : a.eval p = pv) (hx : a.eval x = u) (h : (Instr.storeAt t pv u).run P w = .ok () w1) :
    (execOp a.eval oi).run P w = .ok .skip w1 := by
  unfold execOp
  simp only [ho, hp, hx, Sem.run_bind, Sem.run_pure, h, Result.andThen_ok]
set_option maxRecDepth 100000 in
theorem seg_run {W : World} {base g n cap : Nat} {ok : Nat → Prop} {xs : List S25} (h : Kd.R k25 25 W base ok (.slice (some ⟨g, 0, none⟩) n cap) xs) (i : Nat) (hi : i < n) (seg : List Value) {u : Value} (hu : u.cells.toList = seg) (ht : (Tryd.prog.info? 25).map (·.size) = some seg.length) (h1 : ∀ q ∈ seg, q.oneCell' = true) :
    (Instr.storeAt 25 (.pointer (some ⟨g, i * 5, none⟩)) u).run Tryd.prog W = .ok () (W.setCells g (i * 5) seg) := by
  have hnx := (Kd.R_reads' h).1
  have h5 : seg.length = 5 := by
    have h_ := ht.symm.trans infoJ5
    exact Option.some.inj h_
  obtain ⟨_, inner, hown, hr⟩ := h
  rcases hown.2 with ⟨hv, _⟩ | ⟨g', cap', cur, hv, hb, hh, hnc, hcm, hcs, _⟩
  · cases hv
  injection hv with ha _ hc
  injection ha with ha
  injection ha with hg'
  subst hg'; subst hc
  refine run_store_run 25 u seg hh hu ht ?_ h1
  have hcs5 : cur.size = cap * 5 := hcs
  clear hcs ht
  have h2 : i * 5 + 5 ≤ n * 5 := by omega
  have h3 : n * 5 ≤ cap * 5 := Nat.mul_le_mul_right _ (by omega)
  omega
theorem addr_add (g n : Nat) : (⟨g, 0, none⟩ : Addr).add n = ⟨g, n, none⟩ := by
  unfold Addr.add
  split <;> simp_all
theorem seg_ready {W : World} {base g n cap : Nat} {ok : Nat → Prop} {xs : List S25} (h : Kd.R k25 25 W base ok (.slice (some ⟨g, 0, none⟩) n cap) xs) (i : Nat) (hi : i < n) :
    ∃ c : List Value, c.length = k25.sz ∧ ∀ j u, c[j]? = some u → W.cell? ⟨g, (i : Int).toNat * k25.sz + j, none⟩ = some u := by
  obtain ⟨hn, _, hC⟩ := Kd.R_reads' h
  obtain ⟨ad, c, e, hl, hK, hc⟩ := Kd.C_get hC (⟨0, 0, ByteArray.empty, [], []⟩ : S25) (i : Int) (Int.natCast_nonneg _) (by omega)
  obtain rfl := Option.some.inj e
  refine ⟨c, hl, fun j u hj => ?_⟩
  have h_ := hc j u hj
  exact (congrArg W.cell? (addr_add g _)).symm.trans h_
theorem str_cell {W : World} {base g n cap : Nat} {ok : Nat → Prop} {xs : List ByteArray} (h : Kd.R Kd.string 9 W base ok (.slice (some ⟨g, 0, none⟩) n cap) xs) (i : Nat) (hi : i < n) : ∃ u, W.cell? ⟨g, i, none⟩ = some u ∧ W.frozen? ⟨g, i, none⟩ = false := by
  have hn := (Kd.R_reads' h).1
  subst hn
  have h_ := Kd.R_cell ByteArray.empty h (i : Int) (Int.natCast_nonneg _) (by omega)
  rw [Int.toNat_natCast] at h_
  exact ⟨_, h_.1, h_.2⟩
theorem str_store {W : World} {g i : Nat} {u : Value} (nm : ByteArray) (h1 : W.cell? ⟨g, i, none⟩ = some u) (h2 : W.frozen? ⟨g, i, none⟩ = false) : (Instr.storeAt 9 (.pointer (some ⟨g, i, none⟩)) (.string nm)).run Tryd.prog W = .ok () (W.setCell ⟨g, i, none⟩ (.string nm)) := by
  have hu := Tryd.underlying9
  go_simp
  try rfl
def RvSays (n : Nat) : Prop := ∀ (j : S25) (W0 : World) (An : Option Addr) (cn : Nat) (Ae : Option Addr) (ce : Nat) (w : World), SizeOf.sizeOf j < n →
    k25.K W0 j [.int .i64 j.f0, .int .i64 j.f1, .string j.f2, .slice An j.f3.length cn, .slice Ae j.f4.length ce] → nice j → Below W0.heap.size W0 w →
    Calls Tryd.prog 10 #[.agg #[.int .i64 j.f0, .int .i64 j.f1, .string j.f2, .slice An j.f3.length cn, .slice Ae j.f4.length ce]] w fun e w' => ∃ vn ve, e = .returned (.agg #[.int .i64 j.f0, .int .i64 j.f1, .string j.f2, vn, ve]) ∧ k25.M w' w.heap.size (fun _ => True) (rv j) [.int .i64 j.f0, .int .i64 j.f1, .string j.f2, vn, ve] ∧ Below w.heap.size w w'
set_option maxHeartbeats 8000000 in
set_option maxRecDepth 100000 in
theorem reversed_step (n : Nat) (ih : RvSays n) : RvSays (n + 1) := by
  intro j W0 An cn Ae ce w hsz hK hnc hW
  have hu25 := Tryd.underlying25
  have hu22 := Tryd.underlying22
  have hu23 := Tryd.underlying23
  obtain ⟨k, hk⟩ : ∃ k, j.f4.length = k := ⟨_, rfl⟩
  obtain ⟨An', cn', Ae', ce', heq, hln, hcn, hle, hce⟩ := k25_open hK
  simp only [List.cons.injEq, Value.slice.injEq, and_true, true_and] at heq
  obtain ⟨⟨rfl, rfl⟩, rfl, rfl⟩ := heq
  have hnc' := (nice_eq j).1 hnc
  have HS := Aside0.mk hsz
  have HE := Aside0.mk hk
  have HLN := Aside0.mk hln
  have HCN := Aside0.mk hcn
  have HCE := Aside0.mk hce
  have HW := Aside0.mk hW
  have HNC := Aside0.mk hnc
  have HN4 := Aside0.mk hnc'.1
  have HK4 := Aside0.mk (show k ≤ 400 from by rw [← hk]; exact hnc'.2.1)
  have HKC := Aside0.mk (show k ≤ ce from by rw [← hk]; exact hle)
  have HB := Aside0.mk (Below.refl w.heap.size w)
  rw [hk]
  clear hsz hK hnc hnc' hW hk hln hcn hle hce
  go_enter Tryd.func10, Tryd.ntmps10
  go_upto_region 1 with (first | ((with_reducible refine gate_dst (N := 1) rfl ?_); refine box_event ?hg (N := 1) ?hd (cs := #[.int .i64 j.f0, .int .i64 j.f1, .string j.f2, .slice An j.f3.length cn, .slice Ae k ce]) (t := 25) ?hr ?_; (case hd => rfl); (case hg => rfl); (case hr => first | (go_simp; done) | (go_simp; rfl)); intro g1 hg w1 hbox hb; have PB := Aside0.mk hbox; have GE1 := Aside0.mk (show w.heap.size ≤ g1 from by rw [hg]; exact HB.out.size); have n1_ := Aside0.mk (below_step HB.out hb); clear HB; have HB := n1_; clear n1_; clear hbox hb hg) | ((with_reducible refine gate_dst (N := 2) rfl ?_); refine box_event ?hg (N := 2) ?hd (cs := #[.int .i64 0, .int .i64 0, .string ByteArray.empty, .slice none 0 0, .slice none 0 0]) (t := 25) ?hr ?_; (case hd => rfl); (case hg => rfl); (case hr => first | (go_simp; done) | (go_simp; rfl)); intro g2 hg w2 hbox hb; have B2 := Aside0.mk hbox; have GE2 := Aside0.mk (show w.heap.size ≤ g2 from by rw [hg]; exact HB.out.size); have NE12 := Aside0.mk (show g1 ≠ g2 from by rw [hg]; exact Nat.ne_of_lt (blk_lt PB.out)); have n0_ := Aside0.mk (blk_below PB.out hb); have n1_ := Aside0.mk (below_step HB.out hb); clear PB HB; have PB := n0_; have HB := n1_; clear n0_ n1_; clear hbox hb hg))
  refine start_ (n := 12) (S := fun w' => w'.cell? ⟨g1, 0, none⟩ = some (.int .i64 j.f0) ∧ w'.cell? ⟨g1, 1, none⟩ = some (.int .i64 j.f1) ∧ w'.cell? ⟨g1, 2, none⟩ = some (.string j.f2) ∧ w'.cell? ⟨g1, 3, none⟩ = some (.slice An j.f3.length cn)) (ds := [11]) #[false, false, false, false, false, false, false, false, false, false, false, false] (by kernel_rfl) rfl rfl ⟨(blk_cell (blk_drew PB.out) 0).trans rfl, (blk_cell (blk_drew PB.out) 1).trans rfl, (blk_cell (blk_drew PB.out) 2).trans rfl, (blk_cell (blk_drew PB.out) 3).trans rfl⟩ (fun hHeld => ?_)
  have hb := below_drew1 (Below.refl w2.heap.size w2)
  have n0_ := Aside0.mk (blk_below PB.out hb)
  have n1_ := Aside0.mk (blk_below B2.out hb)
  have n2_ := Aside0.mk (below_step HB.out hb)
  clear PB B2 HB
  have PB := n0_
  have B2 := n1_
  have HB := n2_
  clear n0_ n1_ n2_
  clear hb
  generalize w2.drew = w3 at PB B2 HB hHeld ⊢
  refine pure_ (i := 0) (N := some 7) (v := ?_) (a' := ?_) #[true, false, false, false, false, false, false, false, false, false, false, false] rfl rfl (by kernel_rfl) (fun _ _ _ h => h) (Or.inl ⟨by rfl, ?_⟩) ?_ ?_
  rotate_left
  · intro w'
    go_simp
    with_reducible rfl
  rotate_left
  · simp only [Act.put, List.setIfInBounds_toArray, List.set_cons_zero, List.set_cons_succ, i64_w, i32_w]
    rfl
  refine pure_ (i := 2) (N := some 9) (v := ?_) (a' := ?_) #[true, false, true, false, false, false, false, false, false, false, false, false] rfl rfl (by kernel_rfl) (fun _ _ _ h => h) (Or.inl ⟨by rfl, ?_⟩) ?_ ?_
  rotate_left
  · intro w'
    go_simp
    with_reducible rfl
  rotate_left
  · simp only [Act.put, List.setIfInBounds_toArray, List.set_cons_zero, List.set_cons_succ, i64_w, i32_w]
    rfl
  refine pure_ (i := 4) (N := some 11) (v := ?_) (a' := ?_) #[true, false, true, false, true, false, false, false, false, false, false, false] rfl rfl (by kernel_rfl) (fun _ _ _ h => h) (Or.inl ⟨by rfl, ?_⟩) ?_ ?_
  rotate_left
  · intro w'
    go_simp
    with_reducible rfl
  rotate_left
  · simp only [Act.put, List.setIfInBounds_toArray, List.set_cons_zero, List.set_cons_succ, i64_w, i32_w]
    rfl
  refine pure_ (i := 6) (N := some 13) (v := ?_) (a' := ?_) #[true, false, true, false, true, false, true, false, false, false, false, false] rfl rfl (by kernel_rfl) (fun _ _ _ h => h) (Or.inl ⟨by rfl, ?_⟩) ?_ ?_
  rotate_left
  · intro w'
    go_simp
    with_reducible rfl
  rotate_left
  · simp only [Act.put, List.setIfInBounds_toArray, List.set_cons_zero, List.set_cons_succ, i64_w, i32_w]
    rfl
  refine take_ (i := 1) (N := some 8) (v := ?_) (a' := ?_) #[true, true, true, false, true, false, true, false, false, false, false, false] rfl rfl (by kernel_rfl) (fun _ _ _ h => h) (Or.inl ⟨by rfl, ?_⟩) hHeld ?_ ?_
  rotate_left
  · rintro w' ⟨s0, s1, s2, s3⟩
    go_simp
    with_reducible rfl
  rotate_left
  · simp only [Act.put, List.setIfInBounds_toArray, List.set_cons_zero, List.set_cons_succ, i64_w, i32_w]
    rfl
  refine take_ (i := 3) (N := some 10) (v := ?_) (a' := ?_) #[true, true, true, true, true, false, true, false, false, false, false, false] rfl rfl (by kernel_rfl) (fun _ _ _ h => h) (Or.inl ⟨by rfl, ?_⟩) hHeld ?_ ?_
  rotate_left
  · rintro w' ⟨s0, s1, s2, s3⟩
    go_simp
    with_reducible rfl
  rotate_left
  · simp only [Act.put, List.setIfInBounds_toArray, List.set_cons_zero, List.set_cons_succ, i64_w, i32_w]
    rfl
  refine take_ (i := 5) (N := some 12) (v := ?_) (a' := ?_) #[true, true, true, true, true, true, true, false, false, false, false, false] rfl rfl (by kernel_rfl) (fun _ _ _ h => h) (Or.inl ⟨by rfl, ?_⟩) hHeld ?_ ?_
  rotate_left
  · rintro w' ⟨s0, s1, s2, s3⟩
    go_simp
    with_reducible rfl
  rotate_left
  · simp only [Act.put, List.setIfInBounds_toArray, List.set_cons_zero, List.set_cons_succ, i64_w, i32_w]
    rfl
  refine take_ (i := 7) (N := some 14) (v := ?_) (a' := ?_) #[true, true, true, true, true, true, true, true, false, false, false, false] rfl rfl (by kernel_rfl) (fun _ _ _ h => h) (Or.inl ⟨by rfl, ?_⟩) hHeld ?_ ?_
  rotate_left
  · rintro w' ⟨s0, s1, s2, s3⟩
    go_simp
    with_reducible rfl
  rotate_left
  · simp only [Act.put, List.setIfInBounds_toArray, List.set_cons_zero, List.set_cons_succ, i64_w, i32_w]
    rfl
  refine join_ (σ := Option Addr × Nat × Nat) 1 #[true, true, true, true, true, true, true, true, true, true, true, false] (fun s_ => [(15, .slice s_.1 j.f3.length s_.2.1), (16, .agg #[.int .i64 j.f0, .int .i64 j.f1, .string j.f2, .slice s_.1 j.f3.length s_.2.1, .slice none 0 0]), (3, .pointer (some ⟨s_.2.2, 0, none⟩))]) (fun s_ w' => (fun w' => w'.cell? ⟨g1, 0, none⟩ = some (.int .i64 j.f0) ∧ w'.cell? ⟨g1, 1, none⟩ = some (.int .i64 j.f1) ∧ w'.cell? ⟨g1, 2, none⟩ = some (.string j.f2) ∧ w'.cell? ⟨g1, 3, none⟩ = some (.slice An j.f3.length cn)) w' ∧ w'.heap[s_.2.2]? = some (.cells #[.int .i64 0, .int .i64 0, .string ByteArray.empty, .slice none 0 0, .slice none 0 0] 25 (0, 0)) ∧ w.heap.size ≤ s_.2.2 ∧ s_.2.2 ≠ g1 ∧ s_.2.2 ≠ g2 ∧ Kd.R Kd.string 9 w' w.heap.size (fun q => q ≠ g1 ∧ q ≠ g2 ∧ q ≠ s_.2.2) (.slice s_.1 j.f3.length s_.2.1) j.f3 ∧ Below w.heap.size w w' ∧ w'.heap[g1]? = some (.cells #[.int .i64 j.f0, .int .i64 j.f1, .string j.f2, .slice An j.f3.length cn, .slice Ae k ce] 25 (0, 0)) ∧ w'.heap[g2]? = some (.cells #[.int .i64 0, .int .i64 0, .string ByteArray.empty, .slice none 0 0, .slice none 0 0] 25 (0, 0))) ?_ ?_
  rotate_left
  · intro hCont
    refine two_ (i := 8) (j := 10) (Ni := some 15) (Nj := some 3) #[true, true, true, true, true, true, true, true, true, false, false, false] #[true, true, true, true, true, true, true, true, false, false, true, false] rfl rfl rfl rfl (by kernel_rfl) (by decide) (by decide) (fun K hK => ?_) (fun K hK => ?_)
    · skip
      refine goes_ Tryd.func18 (by kernel_rfl) rfl #[.slice An j.f3.length cn] (by rfl) rfl rfl (by (try simp only [List.map_toArray, List.map_cons, List.map_nil]); first | done | rfl) ?_
      refine (rclone_strings An cn j.f3 w3 (Kd.C_below HCN.out (below_step HW.out (HB.out))) HLN.out (by have h_ := HN4.out; omega)).mono ?_
      rintro e_ wc ⟨vc, rfl, hvc, hb⟩
      refine ⟨_, rfl, ?_⟩
      obtain ⟨A3, c3, rfl⟩ := Kd.R_slice hvc
      have gl1 := blk_lt PB.out
      have gl2 := blk_lt B2.out
      have hs3_ := hb.size
      have n0_ := Aside0.mk (blk_below PB.out hb)
      have n1_ := Aside0.mk (blk_below B2.out hb)
      have n2_ := Aside0.mk (below_step HB.out hb)
      clear PB B2 HB
      have PB := n0_
      have B2 := n1_
      have HB := n2_
      clear n0_ n1_ n2_
      clear hb
      refine hK.out _ _ ⟨(blk_cell PB.out 0).trans rfl, (blk_cell PB.out 1).trans rfl, (blk_cell PB.out 2).trans rfl, (blk_cell PB.out 3).trans rfl⟩ (fun hHeld => ?_)
      clear hK K
      refine norm_ (a' := ?_) ?_ ?_
      rotate_left
      · show Act.put _ (some 15) _ = _
        simp only [Act.put, List.setIfInBounds_toArray, List.set_cons_zero, List.set_cons_succ, i64_w, i32_w]
        rfl
      refine pure_ (i := 9) (N := some 16) (v := ?_) (a' := ?_) #[true, true, true, true, true, true, true, true, true, true, false, false] rfl rfl (by kernel_rfl) (fun _ _ _ h => h) (Or.inl ⟨by rfl, ?_⟩) ?_ ?_
      rotate_left
      · intro w'
        go_simp
        with_reducible rfl
      rotate_left
      · simp only [Act.put, List.setIfInBounds_toArray, List.set_cons_zero, List.set_cons_succ, i64_w, i32_w]
        rfl
      refine one_ (i := 10) (N := some 3) #[true, true, true, true, true, true, true, true, true, true, true, false] rfl rfl (by kernel_rfl) (by decide) (fun K hK => ?_)
      refine value_ (w1 := wc.alloc (.cells #[.int .i64 0, .int .i64 0, .string ByteArray.empty, .slice none 0 0, .slice none 0 0] 25 (0, 0))) (v := .pointer (some ⟨wc.heap.size, 0, none⟩)) (by rfl) rfl ?_ ?_
      · go_simp
        try rfl
      refine hK.out _ _ ⟨(blk_cell (blk_alloc PB.out _) 0).trans rfl, (blk_cell (blk_alloc PB.out _) 1).trans rfl, (blk_cell (blk_alloc PB.out _) 2).trans rfl, (blk_cell (blk_alloc PB.out _) 3).trans rfl⟩ (fun hHeld => ?_)
      clear hK K
      have hF := hCont (A3, c3, wc.heap.size) _ ⟨hHeld, blk_new wc _, HB.out.size, (by show wc.heap.size ≠ g1; omega), (by show wc.heap.size ≠ g2; omega), Kd.R_alloc (rn_ hvc (Nat.le_trans GE2.out (Nat.le_of_lt gl2)) gl1 gl2 (Or.inr (Nat.le_refl _))) _, below_alloc HB.out _, blk_alloc PB.out _, blk_alloc B2.out _⟩
      refine norm_ ?_ hF
      simp only [putAll, Act.put, List.setIfInBounds_toArray, List.set_cons_zero, List.set_cons_succ]
    · skip
      have gl1 := blk_lt PB.out
      have gl2 := blk_lt B2.out
      refine value_ (w1 := w3.alloc (.cells #[.int .i64 0, .int .i64 0, .string ByteArray.empty, .slice none 0 0, .slice none 0 0] 25 (0, 0))) (v := .pointer (some ⟨w3.heap.size, 0, none⟩)) (by rfl) rfl ?_ ?_
      · go_simp
        try rfl
      refine hK.out _ _ ⟨(blk_cell (blk_alloc PB.out _) 0).trans rfl, (blk_cell (blk_alloc PB.out _) 1).trans rfl, (blk_cell (blk_alloc PB.out _) 2).trans rfl, (blk_cell (blk_alloc PB.out _) 3).trans rfl⟩ (fun hHeld => ?_)
      clear hK K
      refine norm_ (a' := ?_) ?_ ?_
      rotate_left
      · show Act.put _ (some 3) _ = _
        simp only [Act.put, List.setIfInBounds_toArray, List.set_cons_zero, List.set_cons_succ, i64_w, i32_w]
        rfl
      refine one_ (i := 8) (N := some 15) #[true, true, true, true, true, true, true, true, true, false, true, false] rfl rfl (by kernel_rfl) (by decide) (fun K hK => ?_)
      refine goes_ Tryd.func18 (by kernel_rfl) rfl #[.slice An j.f3.length cn] (by rfl) rfl rfl (by (try simp only [List.map_toArray, List.map_cons, List.map_nil]); first | done | rfl) ?_
      refine (rclone_strings An cn j.f3 (w3.alloc (.cells #[.int .i64 0, .int .i64 0, .string ByteArray.empty, .slice none 0 0, .slice none 0 0] 25 (0, 0))) (Kd.C_below HCN.out (below_step HW.out (below_alloc HB.out _))) HLN.out (by have h_ := HN4.out; omega)).mono ?_
      rintro e_ wc ⟨vc, rfl, hvc, hb⟩
      refine ⟨_, rfl, ?_⟩
      obtain ⟨A3, c3, rfl⟩ := Kd.R_slice hvc
      have hz_ : (w3.alloc (.cells #[.int .i64 0, .int .i64 0, .string ByteArray.empty, .slice none 0 0, .slice none 0 0] 25 (0, 0))).heap.size = w3.heap.size + 1 := World.size_alloc _ _
      have hbz := hb.size
      have NW := Aside0.mk (blk_below (blk_new w3 (.cells #[.int .i64 0, .int .i64 0, .string ByteArray.empty, .slice none 0 0, .slice none 0 0] 25 (0, 0))) hb)
      have n0_ := Aside0.mk (blk_below (blk_alloc PB.out (.cells #[.int .i64 0, .int .i64 0, .string ByteArray.empty, .slice none 0 0, .slice none 0 0] 25 (0, 0))) hb)
      have n1_ := Aside0.mk (blk_below (blk_alloc B2.out (.cells #[.int .i64 0, .int .i64 0, .string ByteArray.empty, .slice none 0 0, .slice none 0 0] 25 (0, 0))) hb)
      have n2_ := Aside0.mk (below_step (below_alloc HB.out (.cells #[.int .i64 0, .int .i64 0, .string ByteArray.empty, .slice none 0 0, .slice none 0 0] 25 (0, 0))) hb)
      have gw := HB.out.size
      clear PB B2 HB hb
      have PB := n0_
      have B2 := n1_
      have HB := n2_
      clear n0_ n1_ n2_
      refine hK.out _ _ ⟨(blk_cell PB.out 0).trans rfl, (blk_cell PB.out 1).trans rfl, (blk_cell PB.out 2).trans rfl, (blk_cell PB.out 3).trans rfl⟩ (fun hHeld => ?_)
      clear hK K
      refine norm_ (a' := ?_) ?_ ?_
      rotate_left
      · show Act.put _ (some 15) _ = _
        simp only [Act.put, List.setIfInBounds_toArray, List.set_cons_zero, List.set_cons_succ, i64_w, i32_w]
        rfl
      refine pure_ (i := 9) (N := some 16) (v := ?_) (a' := ?_) #[true, true, true, true, true, true, true, true, true, true, true, false] rfl rfl (by kernel_rfl) (fun _ _ _ h => h) (Or.inl ⟨by rfl, ?_⟩) ?_ ?_
      rotate_left
      · intro w'
        go_simp
        with_reducible rfl
      rotate_left
      · simp only [Act.put, List.setIfInBounds_toArray, List.set_cons_zero, List.set_cons_succ, i64_w, i32_w]
        rfl
      have hF := hCont (A3, c3, w3.heap.size) _ ⟨hHeld, NW.out, gw, (by show w3.heap.size ≠ g1; omega), (by show w3.heap.size ≠ g2; omega), rn_ hvc (by rw [hz_]; omega) (by rw [hz_]; omega) (by rw [hz_]; omega) (Or.inl (by rw [hz_]; exact Nat.lt_succ_self _)), HB.out, PB.out, B2.out⟩
      refine norm_ ?_ hF
      simp only [putAll, Act.put, List.setIfInBounds_toArray, List.set_cons_zero, List.set_cons_succ]
  rintro ⟨A3, c3, g3⟩ w4 ⟨hHeld, hb3, hge3, hn31, hn32, hrn, hbw, hpb, hb2⟩
  clear PB B2 HB
  have B3 := Aside0.mk hb3
  have GE3 := Aside0.mk hge3
  have NE31 := Aside0.mk hn31
  have NE32 := Aside0.mk hn32
  have HN := Aside0.mk hrn
  have HB := Aside0.mk hbw
  have PB := Aside0.mk hpb
  have B2 := Aside0.mk hb2
  clear hb3 hge3 hn31 hn32 hrn hbw hpb hb2
  dsimp only at B3 GE3 NE31 NE32 HN
  refine norm_ (a' := ?_) ?_ ?_
  rotate_left
  · show putAll _ [(15, .slice A3 j.f3.length c3), (16, .agg #[.int .i64 j.f0, .int .i64 j.f1, .string j.f2, .slice A3 j.f3.length c3, .slice none 0 0]), (3, .pointer (some ⟨g3, 0, none⟩))] = _
    simp only [putAll, Act.put, List.setIfInBounds_toArray, List.set_cons_zero, List.set_cons_succ]
    rfl
  refine last_ (i := 11) (N := none) #[true, true, true, true, true, true, true, true, true, true, true, true] rfl rfl (by kernel_rfl) (by decide) (fun K hK => ?_)
  have e0_ : w4.cell? ⟨g3, 0, none⟩ = some (.int .i64 0) := (blk_cell B3.out 0).trans rfl
  have f0_ := blk_frozen B3.out 0
  have e1_ : w4.cell? ⟨g3, 1, none⟩ = some (.int .i64 0) := (blk_cell B3.out 1).trans rfl
  have f1_ := blk_frozen B3.out 1
  have e2_ : w4.cell? ⟨g3, 2, none⟩ = some (.string ByteArray.empty) := (blk_cell B3.out 2).trans rfl
  have f2_ := blk_frozen B3.out 2
  have e3_ : w4.cell? ⟨g3, 3, none⟩ = some (.slice none 0 0) := (blk_cell B3.out 3).trans rfl
  have f3_ := blk_frozen B3.out 3
  have e4_ : w4.cell? ⟨g3, 4, none⟩ = some (.slice none 0 0) := (blk_cell B3.out 4).trans rfl
  have f4_ := blk_frozen B3.out 4
  refine skip_ (w1 := (((((w4.setCell ⟨g3, 0, none⟩ (.int .i64 j.f0)).setCell ⟨g3, 1, none⟩ (.int .i64 j.f1)).setCell ⟨g3, 2, none⟩ (.string j.f2)).setCell ⟨g3, 3, none⟩ (.slice A3 j.f3.length c3)).setCell ⟨g3, 4, none⟩ (.slice none 0 0))) (by rfl) rfl ?_ ?_
  · go_simp
    try rfl
  have n0_ := Aside0.mk (show (((((w4.setCell ⟨g3, 0, none⟩ (.int .i64 j.f0)).setCell ⟨g3, 1, none⟩ (.int .i64 j.f1)).setCell ⟨g3, 2, none⟩ (.string j.f2)).setCell ⟨g3, 3, none⟩ (.slice A3 j.f3.length c3)).setCell ⟨g3, 4, none⟩ (.slice none 0 0)).heap[g3]? = some (.cells #[.int .i64 j.f0, .int .i64 j.f1, .string j.f2, .slice A3 j.f3.length c3, .slice none 0 0] 25 (0, 0)) from by refine blk_put (cs := #[.int .i64 j.f0, .int .i64 j.f1, .string j.f2, .slice A3 j.f3.length c3, .slice none 0 0]) ?_ 4 _ rfl; refine blk_put (cs := #[.int .i64 j.f0, .int .i64 j.f1, .string j.f2, .slice none 0 0, .slice none 0 0]) ?_ 3 _ rfl; refine blk_put (cs := #[.int .i64 j.f0, .int .i64 j.f1, .string ByteArray.empty, .slice none 0 0, .slice none 0 0]) ?_ 2 _ rfl; refine blk_put (cs := #[.int .i64 j.f0, .int .i64 0, .string ByteArray.empty, .slice none 0 0, .slice none 0 0]) ?_ 1 _ rfl; refine blk_put (cs := #[.int .i64 0, .int .i64 0, .string ByteArray.empty, .slice none 0 0, .slice none 0 0]) ?_ 0 _ rfl; exact B3.out)
  have n1_ := Aside0.mk (show (((((w4.setCell ⟨g3, 0, none⟩ (.int .i64 j.f0)).setCell ⟨g3, 1, none⟩ (.int .i64 j.f1)).setCell ⟨g3, 2, none⟩ (.string j.f2)).setCell ⟨g3, 3, none⟩ (.slice A3 j.f3.length c3)).setCell ⟨g3, 4, none⟩ (.slice none 0 0)).heap[g1]? = some (.cells #[.int .i64 j.f0, .int .i64 j.f1, .string j.f2, .slice An j.f3.length cn, .slice Ae k ce] 25 (0, 0)) from (far_ (far_ (far_ (far_ (far_ PB.out NE31.out.symm) NE31.out.symm) NE31.out.symm) NE31.out.symm) NE31.out.symm))
  have n2_ := Aside0.mk (show (((((w4.setCell ⟨g3, 0, none⟩ (.int .i64 j.f0)).setCell ⟨g3, 1, none⟩ (.int .i64 j.f1)).setCell ⟨g3, 2, none⟩ (.string j.f2)).setCell ⟨g3, 3, none⟩ (.slice A3 j.f3.length c3)).setCell ⟨g3, 4, none⟩ (.slice none 0 0)).heap[g2]? = some (.cells #[.int .i64 0, .int .i64 0, .string ByteArray.empty, .slice none 0 0, .slice none 0 0] 25 (0, 0)) from (far_ (far_ (far_ (far_ (far_ B2.out NE32.out.symm) NE32.out.symm) NE32.out.symm) NE32.out.symm) NE32.out.symm))
  have n3_ := Aside0.mk (show Kd.R Kd.string 9 (((((w4.setCell ⟨g3, 0, none⟩ (.int .i64 j.f0)).setCell ⟨g3, 1, none⟩ (.int .i64 j.f1)).setCell ⟨g3, 2, none⟩ (.string j.f2)).setCell ⟨g3, 3, none⟩ (.slice A3 j.f3.length c3)).setCell ⟨g3, 4, none⟩ (.slice none 0 0)) w.heap.size (fun q => q ≠ g1 ∧ q ≠ g2 ∧ q ≠ g3) (.slice A3 j.f3.length c3) (j.f3) from (Kd.R_far (Kd.R_far (Kd.R_far (Kd.R_far (Kd.R_far HN.out (fun _ h_ => h_.2.2) _) (fun _ h_ => h_.2.2) _) (fun _ h_ => h_.2.2) _) (fun _ h_ => h_.2.2) _) (fun _ h_ => h_.2.2) _))
  have n4_ := Aside0.mk (show Below w.heap.size w (((((w4.setCell ⟨g3, 0, none⟩ (.int .i64 j.f0)).setCell ⟨g3, 1, none⟩ (.int .i64 j.f1)).setCell ⟨g3, 2, none⟩ (.string j.f2)).setCell ⟨g3, 3, none⟩ (.slice A3 j.f3.length c3)).setCell ⟨g3, 4, none⟩ (.slice none 0 0)) from (below_set (below_set (below_set (below_set (below_set HB.out GE3.out) GE3.out) GE3.out) GE3.out) GE3.out))
  clear B3 PB B2 HN HB e0_ e1_ e2_ e3_ e4_ f0_ f1_ f2_ f3_ f4_
  have B3 := n0_
  have PB := n1_
  have B2 := n2_
  have HN := n3_
  have HB := n4_
  clear n0_ n1_ n2_ n3_ n4_
  generalize (((((w4.setCell ⟨g3, 0, none⟩ (.int .i64 j.f0)).setCell ⟨g3, 1, none⟩ (.int .i64 j.f1)).setCell ⟨g3, 2, none⟩ (.string j.f2)).setCell ⟨g3, 3, none⟩ (.slice A3 j.f3.length c3)).setCell ⟨g3, 4, none⟩ (.slice none 0 0)) = wq at B3 PB B2 HN HB ⊢
  refine hK.out _ _ ?_
  clear hK K
  refine done_ (by kernel_rfl) ?_
  have HR := Aside0.mk (show Kd.R k25 25 wq w.heap.size (fun q => (q ≠ g1 ∧ q ≠ g2 ∧ q ≠ g3) ∧ some q ≠ (Value.slice A3 j.f3.length c3).ownBlock) (.slice none 0 0) ([]) from Kd.R_nil _ _ _ _ _)
  have c4 : wq.cell? ⟨g1, 4, none⟩ = some (.slice Ae k ce) := (blk_cell PB.out 4).trans rfl
  go_wp2_with fail
  clear c4
  go_loopg [20] k (fun gq s20 wx => ∃ (dn td : List S25) (vE : Value), j.f4 = dn ++ td ∧ gq = td.length ∧ s20 = .int .i64 (dn.length : Int) ∧ wx.heap[g1]? = some (.cells #[.int .i64 j.f0, .int .i64 j.f1, .string j.f2, .slice An j.f3.length cn, .slice Ae k ce] 25 (0, 0)) ∧ wx.heap[g2]? = some (.cells #[.int .i64 0, .int .i64 0, .string ByteArray.empty, .slice none 0 0, .slice none 0 0] 25 (0, 0)) ∧ wx.heap[g3]? = some (.cells #[.int .i64 j.f0, .int .i64 j.f1, .string j.f2, .slice A3 j.f3.length c3, vE] 25 (0, 0)) ∧ Kd.R Kd.string 9 wx w.heap.size (fun q => q ≠ g1 ∧ q ≠ g2 ∧ q ≠ g3) (.slice A3 j.f3.length c3) (j.f3) ∧ Kd.R k25 25 wx w.heap.size (fun q => (q ≠ g1 ∧ q ≠ g2 ∧ q ≠ g3) ∧ some q ≠ (Value.slice A3 j.f3.length c3).ownBlock) vE (dn.map rv) ∧ Below w.heap.size w wx)
  case atStart => exact ⟨[], j.f4, _, rfl, HE.out.symm, rfl, PB.out, B2.out, B3.out, HN.out, HR.out, HB.out⟩
  case round =>
    clear PB B2 B3 HN HR HB
    obtain ⟨dn, td, vE, hdt, rfl, rfl, hpb, hb2, hb3, hhn, hhr, hbx⟩ := hrel
    have PB := Aside0.mk hpb
    have B2 := Aside0.mk hb2
    have B3 := Aside0.mk hb3
    have HN := Aside0.mk hhn
    have HR := Aside0.mk hhr
    have HB := Aside0.mk hbx
    clear hpb hb2 hb3 hhn hhr hbx
    have HDT := Aside0.mk hdt
    have hlen : k = dn.length + td.length := by rw [← HE.out, hdt, List.length_append]
    obtain ⟨i, hi⟩ : ∃ i, i = dn.length := ⟨_, rfl⟩
    have HI := Aside0.mk hi
    rw [← hi]
    cases td with
    | cons e t =>
      have b1 : i < k := by simp at hlen; omega
      have e5 : decide ((i : Int) < (k : Int)) = true := decide_eq_true (by omega)
      have HDL := Aside0.mk (show dn.length ≤ 400 from by have h_ := HK4.out; omega)
      have hkce := HKC.out
      have HKB := Aside0.mk (show i + 1 ≤ 9223372036854775807 from by have h_ := HK4.out; omega)
      obtain ⟨ad, x, An2, cn2, Ae2, ce2, ea, hxe, q0, q1, q2, q3, q4, hKx⟩ := at_J HCE.out i (by rw [HE.out]; exact b1)
      obtain rfl : x = e := by
        rw [hdt, hi, List.getElem?_append_right (Nat.le_refl _), Nat.sub_self] at hxe
        exact (Option.some.inj hxe).symm
      have HQ := Aside0.mk (show ∀ w' : World, Below W0.heap.size W0 w' → (w'.cell? (ad.add (i * 5)) = some (.int .i64 x.f0) ∧ w'.cell? ⟨(ad.add (i * 5)).block, (ad.add (i * 5)).off + 1, none⟩ = some (.int .i64 x.f1) ∧ w'.cell? ⟨(ad.add (i * 5)).block, (ad.add (i * 5)).off + 2, none⟩ = some (.string x.f2) ∧ w'.cell? ⟨(ad.add (i * 5)).block, (ad.add (i * 5)).off + 3, none⟩ = some (.slice An2 x.f3.length cn2) ∧ w'.cell? ⟨(ad.add (i * 5)).block, (ad.add (i * 5)).off + 4, none⟩ = some (.slice Ae2 x.f4.length ce2)) from fun w' h_ => ⟨(h_.cell (World.block_lt_of_cell? _ _ q0)).trans q0, (h_.cell (World.block_lt_of_cell? _ _ q1)).trans q1, (h_.cell (World.block_lt_of_cell? _ _ q2)).trans q2, (h_.cell (World.block_lt_of_cell? _ _ q3)).trans q3, (h_.cell (World.block_lt_of_cell? _ _ q4)).trans q4⟩)
      have hxm : x ∈ j.f4 := List.mem_of_getElem? hxe
      have IH := Aside0.mk (show ∀ w' : World, Below W0.heap.size W0 w' → Calls Tryd.prog 10 #[.agg #[.int .i64 x.f0, .int .i64 x.f1, .string x.f2, .slice An2 x.f3.length cn2, .slice Ae2 x.f4.length ce2]] w' fun e w'' => ∃ vn ve, e = .returned (.agg #[.int .i64 x.f0, .int .i64 x.f1, .string x.f2, vn, ve]) ∧ k25.M w'' w'.heap.size (fun _ => True) (rv x) [.int .i64 x.f0, .int .i64 x.f1, .string x.f2, vn, ve] ∧ Below w'.heap.size w' w'' from fun w' h1 => ih x W0 An2 cn2 Ae2 ce2 w' (by have h_ := elem_lt hxm; have h2_ := HS.out; omega) hKx (nices_mem ((nice_eq j).1 HNC.out).2.2.2 hxm) h1)
      subst ea
      clear q0 q1 q2 q3 q4 hKx hxm
      have c4 : wr.cell? ⟨g1, 4, none⟩ = some (.slice (some ad) k ce) := (blk_cell PB.out 4).trans rfl
      clear hdt hlen hi hxe c4
      go_upto_region 5 with fail
      refine start_ (n := 12) (S := fun w' => w'.cell? ⟨g3, 4, none⟩ = some vE ∧ w'.cell? ⟨g1, 4, none⟩ = some (.slice (some ad) k ce) ∧ w'.cell? (ad.add (i * 5)) = some (.int .i64 x.f0) ∧ w'.cell? ⟨(ad.add (i * 5)).block, (ad.add (i * 5)).off + 1, none⟩ = some (.int .i64 x.f1) ∧ w'.cell? ⟨(ad.add (i * 5)).block, (ad.add (i * 5)).off + 2, none⟩ = some (.string x.f2) ∧ w'.cell? ⟨(ad.add (i * 5)).block, (ad.add (i * 5)).off + 3, none⟩ = some (.slice An2 x.f3.length cn2) ∧ w'.cell? ⟨(ad.add (i * 5)).block, (ad.add (i * 5)).off + 4, none⟩ = some (.slice Ae2 x.f4.length ce2)) (ds := [11]) #[false, false, false, false, false, false, false, false, false, false, false, false] (by kernel_rfl) rfl rfl ⟨(blk_cell (blk_drew B3.out) 4).trans rfl, (blk_cell (blk_drew PB.out) 4).trans rfl, HQ.out _ (below_step HW.out (below_drew HB.out))⟩ (fun hHeld => ?_)
      have hb := below_drew1 (Below.refl wr.heap.size wr)
      have n0_ := Aside0.mk (blk_below PB.out hb)
      have n1_ := Aside0.mk (blk_below B2.out hb)
      have n2_ := Aside0.mk (blk_below B3.out hb)
      have n3_ := Aside0.mk (Kd.R_below HN.out hb)
      have n4_ := Aside0.mk (Kd.R_below HR.out hb)
      have n5_ := Aside0.mk (below_step HB.out hb)
      clear PB B2 B3 HN HR HB
      have PB := n0_
      have B2 := n1_
      have B3 := n2_
      have HN := n3_
      have HR := n4_
      have HB := n5_
      clear n0_ n1_ n2_ n3_ n4_ n5_
      clear hb
      generalize wr.drew = wy at PB B2 B3 HN HR HB hHeld ⊢
      refine pure_ (i := 0) (N := some 23) (v := ?_) (a' := ?_) #[true, false, false, false, false, false, false, false, false, false, false, false] rfl rfl (by kernel_rfl) (fun _ _ _ h => h) (Or.inl ⟨by rfl, ?_⟩) ?_ ?_
      rotate_left
      · intro w'
        go_simp
        with_reducible rfl
      rotate_left
      · simp only [Act.put, List.setIfInBounds_toArray, List.set_cons_zero, List.set_cons_succ, i64_w, i32_w]
        rfl
      refine take_ (i := 1) (N := some 24) (v := ?_) (a' := ?_) #[true, true, false, false, false, false, false, false, false, false, false, false] rfl rfl (by kernel_rfl) (fun _ _ _ h => h) (Or.inl ⟨by rfl, ?_⟩) hHeld ?_ ?_
      rotate_left
      · rintro w' ⟨s0, s1, s2, s3, s4, s5, s6⟩
        go_simp
        with_reducible rfl
      rotate_left
      · simp only [Act.put, List.setIfInBounds_toArray, List.set_cons_zero, List.set_cons_succ, i64_w, i32_w]
        rfl
      refine pure_ (i := 2) (N := some 25) (v := ?_) (a' := ?_) #[true, true, true, false, false, false, false, false, false, false, false, false] rfl rfl (by kernel_rfl) (fun _ _ _ h => h) (Or.inl ⟨by rfl, ?_⟩) ?_ ?_
      rotate_left
      · intro w'
        go_simp
        with_reducible rfl
      rotate_left
      · simp only [Act.put, List.setIfInBounds_toArray, List.set_cons_zero, List.set_cons_succ, i64_w, i32_w]
        rfl
      refine take_ (i := 3) (N := some 26) (v := ?_) (a' := ?_) #[true, true, true, true, false, false, false, false, false, false, false, false] rfl rfl (by kernel_rfl) (fun _ _ _ h => h) (Or.inl ⟨by rfl, ?_⟩) hHeld ?_ ?_
      rotate_left
      · rintro w' ⟨s0, s1, s2, s3, s4, s5, s6⟩
        go_simp
        with_reducible rfl
      rotate_left
      · simp only [Act.put, List.setIfInBounds_toArray, List.set_cons_zero, List.set_cons_succ, i64_w, i32_w]
        rfl
      refine pure_ (i := 4) (N := some 27) (v := ?_) (a' := ?_) #[true, true, true, true, true, false, false, false, false, false, false, false] rfl rfl (by kernel_rfl) (fun _ _ _ h => h) (Or.inl ⟨by rfl, ?_⟩) ?_ ?_
      rotate_left
      · intro w'
        go_simp
        with_reducible rfl
      rotate_left
      · simp only [Act.put, List.setIfInBounds_toArray, List.set_cons_zero, List.set_cons_succ, i64_w, i32_w]
        rfl
      refine pure_ (i := 5) (N := some 28) (v := ?_) (a' := ?_) #[true, true, true, true, true, true, false, false, false, false, false, false] rfl rfl (by kernel_rfl) (fun _ _ _ h => h) (Or.inl ⟨by rfl, ?_⟩) ?_ ?_
      rotate_left
      · intro w'
        go_simp
        with_reducible rfl
      rotate_left
      · simp only [Act.put, List.setIfInBounds_toArray, List.set_cons_zero, List.set_cons_succ, i64_w, i32_w]
        rfl
      refine take_ (i := 6) (N := some 29) (v := ?_) (a' := ?_) #[true, true, true, true, true, true, true, false, false, false, false, false] rfl rfl (by kernel_rfl) (fun _ _ _ h => h) (Or.inl ⟨by rfl, ?_⟩) hHeld ?_ ?_
      rotate_left
      · rintro w' ⟨s0, s1, s2, s3, s4, s5, s6⟩
        go_simp
        with_reducible rfl
      rotate_left
      · simp only [Act.put, List.setIfInBounds_toArray, List.set_cons_zero, List.set_cons_succ, i64_w, i32_w]
        rfl
      refine one_ (i := 7) (N := some 30) #[true, true, true, true, true, true, true, true, false, false, false, false] rfl rfl (by kernel_rfl) (by decide) (fun K hK => ?_)
      refine goes_ Tryd.func10 (by kernel_rfl) rfl #[.agg #[.int .i64 x.f0, .int .i64 x.f1, .string x.f2, .slice An2 x.f3.length cn2, .slice Ae2 x.f4.length ce2]] (by rfl) rfl rfl (by (try simp only [List.map_toArray, List.map_cons, List.map_nil]); first | done | rfl) ?_
      refine (IH.out wy (below_step HW.out HB.out)).mono ?_
      rintro e_ wc ⟨vn, ve, rfl, hM, hb⟩
      refine ⟨_, rfl, ?_⟩
      obtain ⟨u3_, u4_, hu_, hn_, he_⟩ := k25_openM hM
      simp only [List.cons.injEq, and_true, true_and] at hu_
      obtain ⟨rfl, rfl⟩ : vn = u3_ ∧ ve = u4_ := by first | exact ⟨hu_.1, hu_.2⟩ | exact ⟨hu_.2.2.2.1, hu_.2.2.2.2⟩
      obtain ⟨A4, c4, rfl⟩ := Kd.R_slice hn_
      obtain ⟨A5, c5, rfl⟩ := Kd.R_slice he_
      clear hn_ he_ hu_
      obtain ⟨NN, hNN⟩ : ∃ NN, NN = wy.heap.size := ⟨_, rfl⟩
      have HM := Aside0.mk (show k25.M wc w.heap.size (fun q => NN ≤ q) (rv x) [.int .i64 x.f0, .int .i64 x.f1, .string x.f2, .slice A4 (rv x).f3.length c4, .slice A5 (rv x).f4.length c5] from k25.M_lower HB.out.size (k25.M_mono (fun q hq => by have h_ := hq.2.1; omega) (k25.M_bound hM)))
      have GL1 := Aside0.mk (show g1 < NN from by rw [hNN]; exact blk_lt PB.out)
      have GL2 := Aside0.mk (show g2 < NN from by rw [hNN]; exact blk_lt B2.out)
      have GL3 := Aside0.mk (show g3 < NN from by rw [hNN]; exact blk_lt B3.out)
      have LN := Aside0.mk (show ∀ q, (Value.slice A3 j.f3.length c3).ownBlock = some q → q < NN from by rw [hNN]; exact Kd.R_lt HN.out)
      have LE := Aside0.mk (show ∀ q, (vE : Value).ownBlock = some q → q < NN from by rw [hNN]; exact Kd.R_lt HR.out)
      have NW := Aside0.mk (show NN ≤ wc.heap.size from by rw [hNN]; exact hb.size)
      clear hM hNN
      have n0_ := Aside0.mk (blk_below PB.out hb)
      have n1_ := Aside0.mk (blk_below B2.out hb)
      have n2_ := Aside0.mk (blk_below B3.out hb)
      have n3_ := Aside0.mk (Kd.R_below HN.out hb)
      have n4_ := Aside0.mk (Kd.R_below HR.out hb)
      have n5_ := Aside0.mk (below_step HB.out hb)
      clear PB B2 B3 HN HR HB
      have PB := n0_
      have B2 := n1_
      have B3 := n2_
      have HN := n3_
      have HR := n4_
      have HB := n5_
      clear n0_ n1_ n2_ n3_ n4_ n5_
      clear hb
      refine hK.out _ _ ⟨(blk_cell B3.out 4).trans rfl, (blk_cell PB.out 4).trans rfl, HQ.out _ (below_step HW.out HB.out)⟩ (fun hHeld => ?_)
      clear hK K
      refine norm_ (a' := ?_) ?_ ?_
      rotate_left
      · show Act.put _ (some 30) _ = _
        simp only [Act.put, List.setIfInBounds_toArray, List.set_cons_zero, List.set_cons_succ, i64_w, i32_w]
        rfl
      refine one_ (i := 8) (N := some 31) #[true, true, true, true, true, true, true, true, true, false, false, false] rfl rfl (by kernel_rfl) (by decide) (fun K hK => ?_)
      refine value_ (w1 := wc.alloc (.cells #[.int .i64 x.f0, .int .i64 x.f1, .string x.f2, .slice A4 (rv x).f3.length c4, .slice A5 (rv x).f4.length c5] 25 (0, 0))) (v := .slice (some ⟨wc.heap.size, 0, none⟩) 1 1) (by rfl) rfl ?_ ?_
      · go_simp
        try rfl
      refine hK.out _ _ ⟨(blk_cell (blk_alloc B3.out _) 4).trans rfl, (blk_cell (blk_alloc PB.out _) 4).trans rfl, HQ.out _ (below_step HW.out (below_alloc HB.out _))⟩ (fun hHeld => ?_)
      clear hK K
      refine norm_ (a' := ?_) ?_ ?_
      rotate_left
      · show Act.put _ (some 31) _ = _
        simp only [Act.put, List.setIfInBounds_toArray, List.set_cons_zero, List.set_cons_succ, i64_w, i32_w]
        rfl
      refine one_ (i := 9) (N := some 32) #[true, true, true, true, true, true, true, true, true, true, false, false] rfl rfl (by kernel_rfl) (by decide) (fun K hK => ?_)
      refine Kd.R_append_step k25 (w0 := w) (W := wc) w.heap.size (by rfl) (.tmp 24) (.tmp 31) 23 25 (.agg #[.int .i64 0, .int .i64 0, .string ByteArray.empty, .slice none 0 0, .slice none 0 0]) 80 rfl Tryd.underlying23 infoJ rfl (show 0 < 5 by decide) (by omega) vE (dn.map rv) (rv x) [.int .i64 x.f0, .int .i64 x.f1, .string x.f2, .slice A4 (rv x).f3.length c4, .slice A5 (rv x).f4.length c5] (fun q => (q ≠ g1 ∧ q ≠ g2 ∧ q ≠ g3) ∧ some q ≠ (Value.slice A3 j.f3.length c3).ownBlock) (fun q => NN ≤ q) rfl rfl HM.out (fun q hq => ⟨ok_ GL1.out GL2.out GL3.out LN.out hq, fun e_ => by have h_ := LE.out q e_.symm; omega⟩) (fun q hq => ok_ GL1.out GL2.out GL3.out LN.out (Nat.le_trans NW.out hq)) HR.out HB.out HB.out.size (by have h_ := HDL.out; rw [List.length_map]; omega) ?_
      intro v1 w8 ho hb hg hat
      have HO := Aside0.mk ho
      have nb_ := Aside0.mk hb
      have n0_ := Aside0.mk (blk_grown PB.out hg (fun e_ => (HR.out.1 g1 e_.symm).1.1 rfl))
      have n1_ := Aside0.mk (blk_grown B2.out hg (fun e_ => (HR.out.1 g2 e_.symm).1.2.1 rfl))
      have n2_ := Aside0.mk (blk_grown B3.out hg (fun e_ => (HR.out.1 g3 e_.symm).1.2.2 rfl))
      have n3_ := Aside0.mk (Kd.R_over HN.out HR.out (fun q hq => by simp only [Kd.string, Kd.scalar, List.mem_cons, List.not_mem_nil, or_false] at hq; subst hq; decide) hg)
      clear PB B2 B3 HN
      have PB := n0_
      have B2 := n1_
      have B3 := n2_
      have HN := n3_
      clear n0_ n1_ n2_ n3_
      clear HR HB HM ho hb hg hat GL1 GL2 GL3 LN LE NW
      have HR := HO
      have HB := nb_
      clear HO nb_
      refine hK.out _ _ ⟨(blk_cell B3.out 4).trans rfl, (blk_cell PB.out 4).trans rfl, HQ.out _ (below_step HW.out HB.out)⟩ (fun hHeld => ?_)
      clear hK K
      refine norm_ (a' := ?_) ?_ ?_
      rotate_left
      · show Act.put _ (some 32) _ = _
        simp only [Act.put, List.setIfInBounds_toArray, List.set_cons_zero, List.set_cons_succ, i64_w, i32_w]
        rfl
      refine pure_ (i := 10) (N := some 33) (v := ?_) (a' := ?_) #[true, true, true, true, true, true, true, true, true, true, true, false] rfl rfl (by kernel_rfl) (fun _ _ _ h => h) (Or.inl ⟨by rfl, ?_⟩) ?_ ?_
      rotate_left
      · intro w'
        go_simp
        with_reducible rfl
      rotate_left
      · simp only [Act.put, List.setIfInBounds_toArray, List.set_cons_zero, List.set_cons_succ, i64_w, i32_w]
        rfl
      refine last_ (i := 11) (N := none) #[true, true, true, true, true, true, true, true, true, true, true, true] rfl rfl (by kernel_rfl) (by decide) (fun K hK => ?_)
      have c_ : w8.cell? ⟨g3, 4, none⟩ = some vE := (blk_cell B3.out 4).trans rfl
      have f_ := blk_frozen B3.out 4
      obtain ⟨A9, c9, hv1_⟩ := Kd.R_slice HR.out
      rw [hv1_] at HR ⊢
      clear hv1_
      refine skip_ (w1 := w8.setCell ⟨g3, 4, none⟩ (.slice A9 (dn.map rv ++ [rv x]).length c9)) (by rfl) rfl ?_ ?_
      · go_simp
        try rfl
      have n0_ := Aside0.mk (show (w8.setCell ⟨g3, 4, none⟩ (.slice A9 (dn.map rv ++ [rv x]).length c9)).heap[g3]? = some (.cells #[.int .i64 j.f0, .int .i64 j.f1, .string j.f2, .slice A3 j.f3.length c3, .slice A9 (dn.map rv ++ [rv x]).length c9] 25 (0, 0)) from by refine blk_put (cs := #[.int .i64 j.f0, .int .i64 j.f1, .string j.f2, .slice A3 j.f3.length c3, vE]) ?_ 4 _ rfl; exact B3.out)
      have n1_ := Aside0.mk (far_ (j := 4) (v := .slice A9 (dn.map rv ++ [rv x]).length c9) PB.out NE31.out.symm)
      have n2_ := Aside0.mk (far_ (j := 4) (v := .slice A9 (dn.map rv ++ [rv x]).length c9) B2.out NE32.out.symm)
      have n3_ := Aside0.mk (Kd.R_far (p := ⟨g3, 4, none⟩) HN.out (fun _ h_ => h_.2.2) (.slice A9 (dn.map rv ++ [rv x]).length c9))
      have n4_ := Aside0.mk (Kd.R_far (p := ⟨g3, 4, none⟩) HR.out (fun _ h_ => h_.1.2.2) (.slice A9 (dn.map rv ++ [rv x]).length c9))
      have n5_ := Aside0.mk (below_set (j := 4) (v := .slice A9 (dn.map rv ++ [rv x]).length c9) HB.out GE3.out)
      clear B3 PB B2 HN HR HB c_ f_
      have B3 := n0_
      have PB := n1_
      have B2 := n2_
      have HN := n3_
      have HR := n4_
      have HB := n5_
      clear n0_ n1_ n2_ n3_ n4_ n5_
      generalize (w8.setCell ⟨g3, 4, none⟩ (.slice A9 (dn.map rv ++ [rv x]).length c9)) = w9 at B3 PB B2 HN HR HB ⊢
      refine hK.out _ _ ?_
      clear hK K
      refine done_ (by kernel_rfl) ?_
      go_wp2_with fail
      go_roundg t.length
      case measure => exact Nat.lt_succ_self _
      case rel => exact ⟨dn ++ [x], t, _, by rw [HDT.out]; simp, rfl, congrArg (Value.int .i64) (by have h_ := HKB.out; have h2_ := HI.out; rw [List.length_append]; simp only [List.length_cons, List.length_nil]; unfold wrap64; omega), PB.out, B2.out, B3.out, HN.out, by rw [List.map_append]; exact HR.out, HB.out⟩
    | nil =>
      have b1 : k ≤ i := by simp at hlen; omega
      have e5 : decide ((i : Int) < (k : Int)) = false := decide_eq_false (by omega)
      have hed : j.f4 = dn := by rw [hdt, List.append_nil]
      obtain ⟨A9, cE, hv⟩ := Kd.R_slice HR.out
      rw [hv] at HR B3
      rw [← hed, List.length_map, HE.out] at HR B3
      clear hv hed hdt HDT hlen hi
      have k0 : wr.cell? ⟨g1, 0, none⟩ = some (.int .i64 j.f0) := (blk_cell PB.out 0).trans rfl
      by_cases hk5 : j.f0 = 5
      · have HNE := Aside0.mk (show j.f3.length = k from by rw [← HE.out]; exact ((nice_eq j).1 HNC.out).2.2.1 hk5)
        have d5 : decide (j.f0 = 5) = true := decide_eq_true hk5
        have d5b : (j.f0 == 5) = true := by rw [hk5]; rfl
        have HRV := Aside0.mk (rv_obj hk5)
        have c4 : wr.cell? ⟨g3, 4, none⟩ = some (.slice A9 k cE) := (blk_cell B3.out 4).trans rfl
        clear hk5
        go_wp2_with fail
        clear k0 c4 d5 d5b e5 b1
        go_loopg [42] k (fun gq s42 wx => ∃ (i m : Nat), gq = m ∧ i + m = k ∧ s42 = .int .i64 (i : Int) ∧ wx.heap[g1]? = some (.cells #[.int .i64 j.f0, .int .i64 j.f1, .string j.f2, .slice An j.f3.length cn, .slice Ae k ce] 25 (0, 0)) ∧ wx.heap[g2]? = some (.cells #[.int .i64 0, .int .i64 0, .string ByteArray.empty, .slice none 0 0, .slice none 0 0] 25 (0, 0)) ∧ wx.heap[g3]? = some (.cells #[.int .i64 j.f0, .int .i64 j.f1, .string j.f2, .slice A3 j.f3.length c3, .slice A9 k cE] 25 (0, 0)) ∧ Kd.R Kd.string 9 wx w.heap.size (fun q => q ≠ g1 ∧ q ≠ g2 ∧ q ≠ g3) (.slice A3 j.f3.length c3) (mixL j.f3 i) ∧ Kd.R k25 25 wx w.heap.size (fun q => (q ≠ g1 ∧ q ≠ g2 ∧ q ≠ g3) ∧ some q ≠ (Value.slice A3 j.f3.length c3).ownBlock) (.slice A9 k cE) (mixL (j.f4.map rv) i) ∧ Below w.heap.size w wx)
        case atStart => exact ⟨0, k, rfl, by omega, rfl, PB.out, B2.out, B3.out, by rw [mixL_zero]; exact HN.out, by rw [mixL_zero]; exact HR.out, HB.out⟩
        case round =>
          clear PB B2 B3 HN HR HB HI
          obtain ⟨i, m, rfl, him, rfl, hpb, hb2, hb3, hhn, hhr, hbx⟩ := hrel
          have PB := Aside0.mk hpb
          have B2 := Aside0.mk hb2
          have B3 := Aside0.mk hb3
          have HN := Aside0.mk hhn
          have HR := Aside0.mk hhr
          have HB := Aside0.mk hbx
          clear hpb hb2 hb3 hhn hhr hbx
          cases gk with
          | zero =>
            have e6 : decide ((i : Int) < (k : Int)) = false := decide_eq_false (by omega)
            have b6 : k ≤ i := by omega
            have hik : i = k := by omega
            have n1_ := HN.out
            have n2_ := HR.out
            rw [hik, ← HNE.out, mixL_all] at n1_
            rw [hik, show mixL (j.f4.map rv) k = (j.f4.map rv).reverse from by rw [← HE.out, ← List.length_map (f := rv), mixL_all]] at n2_
            clear HN HR hik him
            have HN := Aside0.mk n1_
            have HR := Aside0.mk n2_
            clear n1_ n2_
            have rc0 : wr.cell? ⟨g3, 0, none⟩ = some (.int .i64 j.f0) := (blk_cell B3.out 0).trans rfl; have rc1 : wr.cell? ⟨g3, 1, none⟩ = some (.int .i64 j.f1) := (blk_cell B3.out 1).trans rfl; have rc2 : wr.cell? ⟨g3, 2, none⟩ = some (.string j.f2) := (blk_cell B3.out 2).trans rfl; have rc3 : wr.cell? ⟨g3, 3, none⟩ = some (.slice A3 j.f3.length c3) := (blk_cell B3.out 3).trans rfl; have rc4 : wr.cell? ⟨g3, 4, none⟩ = some (.slice A9 k cE) := (blk_cell B3.out 4).trans rfl
            have rz0 : wr.cell? ⟨g2, 0, none⟩ = some (.int .i64 0) := (blk_cell B2.out 0).trans rfl; have rz1 : wr.cell? ⟨g2, 1, none⟩ = some (.int .i64 0) := (blk_cell B2.out 1).trans rfl; have rz2 : wr.cell? ⟨g2, 2, none⟩ = some (.string ByteArray.empty) := (blk_cell B2.out 2).trans rfl; have rz3 : wr.cell? ⟨g2, 3, none⟩ = some (.slice none 0 0) := (blk_cell B2.out 3).trans rfl; have rz4 : wr.cell? ⟨g2, 4, none⟩ = some (.slice none 0 0) := (blk_cell B2.out 4).trans rfl; have rzf0 := blk_frozen B2.out 0; have rzf1 := blk_frozen B2.out 1; have rzf2 := blk_frozen B2.out 2; have rzf3 := blk_frozen B2.out 3; have rzf4 := blk_frozen B2.out 4
            go_wp2_with fail
            refine bodyPost_ret (results_cell_row rfl _ _ g2 25 #[.int .i64 j.f0, .int .i64 j.f1, .string j.f2, .slice A3 j.f3.length c3, .slice A9 k cE] (0, 0) _ rfl (by refine blk_put (cs := #[.int .i64 j.f0, .int .i64 j.f1, .string j.f2, .slice A3 j.f3.length c3, .slice none 0 0]) ?_ 4 _ rfl; refine blk_put (cs := #[.int .i64 j.f0, .int .i64 j.f1, .string j.f2, .slice none 0 0, .slice none 0 0]) ?_ 3 _ rfl; refine blk_put (cs := #[.int .i64 j.f0, .int .i64 j.f1, .string ByteArray.empty, .slice none 0 0, .slice none 0 0]) ?_ 2 _ rfl; refine blk_put (cs := #[.int .i64 j.f0, .int .i64 0, .string ByteArray.empty, .slice none 0 0, .slice none 0 0]) ?_ 1 _ rfl; refine blk_put (cs := #[.int .i64 0, .int .i64 0, .string ByteArray.empty, .slice none 0 0, .slice none 0 0]) ?_ 0 _ rfl; exact B2.out) Tryd.underlying25 rfl (by kernel_rfl)) rfl ?_
            refine ⟨_, _, rfl, ?_, (below_set (below_set (below_set (below_set (below_set HB.out GE2.out) GE2.out) GE2.out) GE2.out) GE2.out)⟩
            rw [HRV.out]
            exact k25_mkM _ _ _ ⟨j.f0, j.f1, j.f2, _, _⟩ (Kd.R_mono (Kd.R_far (p := ⟨g2, 4, none⟩) (Kd.R_far (p := ⟨g2, 3, none⟩) (Kd.R_far (p := ⟨g2, 2, none⟩) (Kd.R_far (p := ⟨g2, 1, none⟩) (Kd.R_far (p := ⟨g2, 0, none⟩) HN.out (fun _ h_ => h_.2.1) _) (fun _ h_ => h_.2.1) _) (fun _ h_ => h_.2.1) _) (fun _ h_ => h_.2.1) _) (fun _ h_ => h_.2.1) _) (fun _ _ => trivial)) (Kd.R_mono (Kd.R_far (p := ⟨g2, 4, none⟩) (Kd.R_far (p := ⟨g2, 3, none⟩) (Kd.R_far (p := ⟨g2, 2, none⟩) (Kd.R_far (p := ⟨g2, 1, none⟩) (Kd.R_far (p := ⟨g2, 0, none⟩) HR.out (fun _ h_ => h_.1.2.1) _) (fun _ h_ => h_.1.2.1) _) (fun _ h_ => h_.1.2.1) _) (fun _ h_ => h_.1.2.1) _) (fun _ h_ => h_.1.2.1) _) (fun _ _ => trivial))
          | succ q =>
            have e6 : decide ((i : Int) < (k : Int)) = true := decide_eq_true (by omega)
            have b6 : i < k := by omega
            have HIK := Aside0.mk b6
            have HIN := Aside0.mk (show i < j.f3.length from by rw [HNE.out]; exact b6)
            have hin := HIN.out
            have hqk : q < k := by omega
            have hqn : q < j.f3.length := by rw [HNE.out]; exact hqk
            obtain ⟨r, hr⟩ : ∃ r, r + 1 = k := ⟨k - 1, by omega⟩
            have s1_ : wrap64 ((k : Int) - 1) = (r : Int) := by have h_ := HK4.out; unfold wrap64; omega
            have s1b_ : IntKind.i64.wrap ((k : Int) - 1) = (r : Int) := (i64_w _).trans s1_
            have s2_ : wrap64 ((r : Int) - (i : Int)) = (q : Int) := by have h_ := HK4.out; unfold wrap64; omega
            have s2b_ : IntKind.i64.wrap ((r : Int) - (i : Int)) = (q : Int) := (i64_w _).trans s2_
            have hkce := HKC.out
            have hncn := HLN.out
            have HKB := Aside0.mk (show i + 1 ≤ 9223372036854775807 from by have h_ := HK4.out; omega)
            have HIM := Aside0.mk him
            obtain ⟨adn, ean, hnm⟩ := Kd.at_string HCN.out (q : Int) (by omega) (by omega)
            rw [Int.toNat_natCast] at hnm
            obtain ⟨nm, hnm_⟩ : ∃ nm, nm = rdOf ByteArray.empty j.f3 (q : Int) := ⟨_, rfl⟩
            rw [← hnm_] at hnm
            have HNM := Aside0.mk (show j.f3[q]? = some nm from by rw [hnm_]; unfold rdOf; rw [Int.toNat_natCast, List.getD_eq_getElem?_getD, List.getElem?_eq_getElem hqn, Option.getD_some])
            have HQN := Aside0.mk (show ∀ w' : World, Below W0.heap.size W0 w' → w'.cell? (adn.add q) = some (.string nm) from fun w' h_ => (h_.cell (World.block_lt_of_cell? _ _ hnm)).trans hnm)
            obtain ⟨ad, x, An2, cn2, Ae2, ce2, ea, hxe, q0, q1, q2, q3, q4, hKx⟩ := at_J HCE.out q (by rw [HE.out]; exact hqk)
            skip
            have HQ := Aside0.mk (show ∀ w' : World, Below W0.heap.size W0 w' → (w'.cell? (ad.add (q * 5)) = some (.int .i64 x.f0) ∧ w'.cell? ⟨(ad.add (q * 5)).block, (ad.add (q * 5)).off + 1, none⟩ = some (.int .i64 x.f1) ∧ w'.cell? ⟨(ad.add (q * 5)).block, (ad.add (q * 5)).off + 2, none⟩ = some (.string x.f2) ∧ w'.cell? ⟨(ad.add (q * 5)).block, (ad.add (q * 5)).off + 3, none⟩ = some (.slice An2 x.f3.length cn2) ∧ w'.cell? ⟨(ad.add (q * 5)).block, (ad.add (q * 5)).off + 4, none⟩ = some (.slice Ae2 x.f4.length ce2)) from fun w' h_ => ⟨(h_.cell (World.block_lt_of_cell? _ _ q0)).trans q0, (h_.cell (World.block_lt_of_cell? _ _ q1)).trans q1, (h_.cell (World.block_lt_of_cell? _ _ q2)).trans q2, (h_.cell (World.block_lt_of_cell? _ _ q3)).trans q3, (h_.cell (World.block_lt_of_cell? _ _ q4)).trans q4⟩)
            have hxm : x ∈ j.f4 := List.mem_of_getElem? hxe
            have IH := Aside0.mk (show ∀ w' : World, Below W0.heap.size W0 w' → Calls Tryd.prog 10 #[.agg #[.int .i64 x.f0, .int .i64 x.f1, .string x.f2, .slice An2 x.f3.length cn2, .slice Ae2 x.f4.length ce2]] w' fun e w'' => ∃ vn ve, e = .returned (.agg #[.int .i64 x.f0, .int .i64 x.f1, .string x.f2, vn, ve]) ∧ k25.M w'' w'.heap.size (fun _ => True) (rv x) [.int .i64 x.f0, .int .i64 x.f1, .string x.f2, vn, ve] ∧ Below w'.heap.size w' w'' from fun w' h1 => ih x W0 An2 cn2 Ae2 ce2 w' (by have h_ := elem_lt hxm; have h2_ := HS.out; omega) hKx (nices_mem ((nice_eq j).1 HNC.out).2.2.2 hxm) h1)
            subst ea
            clear q0 q1 q2 q3 q4 hKx hxm
            have HXE := Aside0.mk hxe
            obtain ⟨gE, capE_, hfe, _, _, _⟩ := Kd.R_form HR.out (by rw [mixL_len _ _ (by rw [List.length_map, HE.out]; omega), List.length_map, HE.out]; omega)
            simp only [Value.slice.injEq] at hfe
            obtain ⟨rfl, -, -⟩ := hfe
            obtain ⟨gN, capN_, hfn, _, _, _⟩ := Kd.R_form HN.out (by rw [mixL_len _ _ (by omega)]; omega)
            simp only [Value.slice.injEq] at hfn
            obtain ⟨rfl, -, -⟩ := hfn
            subst ean
            clear hnm hnm_ hxe hr him
            go_upto_region 12 with fail
            refine start_ (n := 27) (S := fun w' => w'.cell? ⟨g3, 4, none⟩ = some (.slice (some ⟨gE, 0, none⟩) k cE) ∧ w'.cell? ⟨g3, 3, none⟩ = some (.slice (some ⟨gN, 0, none⟩) j.f3.length c3) ∧ w'.cell? ⟨g1, 4, none⟩ = some (.slice (some ad) k ce) ∧ w'.cell? ⟨g1, 3, none⟩ = some (.slice (some adn) j.f3.length cn) ∧ w'.cell? (adn.add q) = some (.string nm) ∧ w'.cell? (ad.add (q * 5)) = some (.int .i64 x.f0) ∧ w'.cell? ⟨(ad.add (q * 5)).block, (ad.add (q * 5)).off + 1, none⟩ = some (.int .i64 x.f1) ∧ w'.cell? ⟨(ad.add (q * 5)).block, (ad.add (q * 5)).off + 2, none⟩ = some (.string x.f2) ∧ w'.cell? ⟨(ad.add (q * 5)).block, (ad.add (q * 5)).off + 3, none⟩ = some (.slice An2 x.f3.length cn2) ∧ w'.cell? ⟨(ad.add (q * 5)).block, (ad.add (q * 5)).off + 4, none⟩ = some (.slice Ae2 x.f4.length ce2)) (ds := [26]) #[false, false, false, false, false, false, false, false, false, false, false, false, false, false, false, false, false, false, false, false, false, false, false, false, false, false, false] (by kernel_rfl) rfl rfl ⟨(blk_cell (blk_drew B3.out) 4).trans rfl, (blk_cell (blk_drew B3.out) 3).trans rfl, (blk_cell (blk_drew PB.out) 4).trans rfl, (blk_cell (blk_drew PB.out) 3).trans rfl, HQN.out _ (below_step HW.out (below_drew HB.out)), HQ.out _ (below_step HW.out (below_drew HB.out))⟩ (fun hHeld => ?_)
            have hb := below_drew1 (Below.refl wr.heap.size wr)
            have n0_ := Aside0.mk (blk_below PB.out hb)
            have n1_ := Aside0.mk (blk_below B2.out hb)
            have n2_ := Aside0.mk (blk_below B3.out hb)
            have n3_ := Aside0.mk (Kd.R_below HN.out hb)
            have n4_ := Aside0.mk (Kd.R_below HR.out hb)
            have n5_ := Aside0.mk (below_step HB.out hb)
            clear PB B2 B3 HN HR HB
            have PB := n0_
            have B2 := n1_
            have B3 := n2_
            have HN := n3_
            have HR := n4_
            have HB := n5_
            clear n0_ n1_ n2_ n3_ n4_ n5_
            clear hb
            generalize wr.drew = wy at PB B2 B3 HN HR HB hHeld ⊢
            refine pure_ (i := 0) (N := some 45) (v := ?_) (a' := ?_) #[true, false, false, false, false, false, false, false, false, false, false, false, false, false, false, false, false, false, false, false, false, false, false, false, false, false, false] rfl rfl (by kernel_rfl) (fun _ _ _ h => h) (Or.inl ⟨by rfl, ?_⟩) ?_ ?_
            rotate_left
            · intro w'
              go_simp
              with_reducible rfl
            rotate_left
            · simp only [Act.put, List.setIfInBounds_toArray, List.set_cons_zero, List.set_cons_succ, i64_w, i32_w]
              rfl
            refine take_ (i := 1) (N := some 46) (v := ?_) (a' := ?_) #[true, true, false, false, false, false, false, false, false, false, false, false, false, false, false, false, false, false, false, false, false, false, false, false, false, false, false] rfl rfl (by kernel_rfl) (fun _ _ _ h => h) (Or.inl ⟨by rfl, ?_⟩) hHeld ?_ ?_
            rotate_left
            · rintro w' ⟨s0, s1, s2, s3, s4, s5, s6, s7, s8, s9⟩
              go_simp
              with_reducible rfl
            rotate_left
            · simp only [Act.put, List.setIfInBounds_toArray, List.set_cons_zero, List.set_cons_succ, i64_w, i32_w]
              rfl
            refine pure_ (i := 2) (N := some 47) (v := ?_) (a' := ?_) #[true, true, true, false, false, false, false, false, false, false, false, false, false, false, false, false, false, false, false, false, false, false, false, false, false, false, false] rfl rfl (by kernel_rfl) (fun _ _ _ h => h) (Or.inl ⟨by rfl, ?_⟩) ?_ ?_
            rotate_left
            · intro w'
              go_simp
              with_reducible rfl
            rotate_left
            · simp only [Act.put, List.setIfInBounds_toArray, List.set_cons_zero, List.set_cons_succ, i64_w, i32_w]
              rfl
            refine pure_ (i := 3) (N := some 48) (v := ?_) (a' := ?_) #[true, true, true, true, false, false, false, false, false, false, false, false, false, false, false, false, false, false, false, false, false, false, false, false, false, false, false] rfl rfl (by kernel_rfl) (fun _ _ _ h => h) (Or.inl ⟨by rfl, ?_⟩) ?_ ?_
            rotate_left
            · intro w'
              go_simp
              with_reducible rfl
            rotate_left
            · simp only [Act.put, List.setIfInBounds_toArray, List.set_cons_zero, List.set_cons_succ, i64_w, i32_w]
              rfl
            refine take_ (i := 4) (N := some 49) (v := ?_) (a' := ?_) #[true, true, true, true, true, false, false, false, false, false, false, false, false, false, false, false, false, false, false, false, false, false, false, false, false, false, false] rfl rfl (by kernel_rfl) (fun _ _ _ h => h) (Or.inl ⟨by rfl, ?_⟩) hHeld ?_ ?_
            rotate_left
            · rintro w' ⟨s0, s1, s2, s3, s4, s5, s6, s7, s8, s9⟩
              go_simp
              with_reducible rfl
            rotate_left
            · simp only [Act.put, List.setIfInBounds_toArray, List.set_cons_zero, List.set_cons_succ, i64_w, i32_w]
              rfl
            refine pure_ (i := 5) (N := some 50) (v := ?_) (a' := ?_) #[true, true, true, true, true, true, false, false, false, false, false, false, false, false, false, false, false, false, false, false, false, false, false, false, false, false, false] rfl rfl (by kernel_rfl) (fun _ _ _ h => h) (Or.inl ⟨by rfl, ?_⟩) ?_ ?_
            rotate_left
            · intro w'
              go_simp
              with_reducible rfl
            rotate_left
            · simp only [Act.put, List.setIfInBounds_toArray, List.set_cons_zero, List.set_cons_succ, i64_w, i32_w]
              rfl
            refine pure_ (i := 6) (N := some 51) (v := ?_) (a' := ?_) #[true, true, true, true, true, true, true, false, false, false, false, false, false, false, false, false, false, false, false, false, false, false, false, false, false, false, false] rfl rfl (by kernel_rfl) (fun _ _ _ h => h) (Or.inl ⟨by rfl, ?_⟩) ?_ ?_
            rotate_left
            · intro w'
              go_simp
              with_reducible rfl
            rotate_left
            · simp only [Act.put, List.setIfInBounds_toArray, List.set_cons_zero, List.set_cons_succ, i64_w, i32_w]
              rfl
            refine take_ (i := 7) (N := some 52) (v := ?_) (a' := ?_) #[true, true, true, true, true, true, true, true, false, false, false, false, false, false, false, false, false, false, false, false, false, false, false, false, false, false, false] rfl rfl (by kernel_rfl) (fun _ _ _ h => h) (Or.inl ⟨by rfl, ?_⟩) hHeld ?_ ?_
            rotate_left
            · rintro w' ⟨s0, s1, s2, s3, s4, s5, s6, s7, s8, s9⟩
              go_simp
              with_reducible rfl
            rotate_left
            · simp only [Act.put, List.setIfInBounds_toArray, List.set_cons_zero, List.set_cons_succ, i64_w, i32_w]
              rfl
            refine pure_ (i := 8) (N := some 53) (v := ?_) (a' := ?_) #[true, true, true, true, true, true, true, true, true, false, false, false, false, false, false, false, false, false, false, false, false, false, false, false, false, false, false] rfl rfl (by kernel_rfl) (fun _ _ _ h => h) (Or.inl ⟨by rfl, ?_⟩) ?_ ?_
            rotate_left
            · intro w'
              go_simp
              with_reducible rfl
            rotate_left
            · simp only [Act.put, List.setIfInBounds_toArray, List.set_cons_zero, List.set_cons_succ, i64_w, i32_w]
              rfl
            refine pure_ (i := 9) (N := some 54) (v := ?_) (a' := ?_) #[true, true, true, true, true, true, true, true, true, true, false, false, false, false, false, false, false, false, false, false, false, false, false, false, false, false, false] rfl rfl (by kernel_rfl) (fun _ _ _ h => h) (Or.inl ⟨by rfl, ?_⟩) ?_ ?_
            rotate_left
            · intro w'
              go_simp
              with_reducible rfl
            rotate_left
            · simp only [Act.put, List.setIfInBounds_toArray, List.set_cons_zero, List.set_cons_succ, i64_w, i32_w]
              rfl
            refine pure_ (i := 10) (N := some 55) (v := ?_) (a' := ?_) #[true, true, true, true, true, true, true, true, true, true, true, false, false, false, false, false, false, false, false, false, false, false, false, false, false, false, false] rfl rfl (by kernel_rfl) (fun _ _ _ h => h) (Or.inl ⟨by rfl, ?_⟩) ?_ ?_
            rotate_left
            · intro w'
              go_simp
              with_reducible rfl
            rotate_left
            · simp only [Act.put, List.setIfInBounds_toArray, List.set_cons_zero, List.set_cons_succ, i64_w, i32_w]
              rfl
            refine pure_ (i := 11) (N := some 56) (v := ?_) (a' := ?_) #[true, true, true, true, true, true, true, true, true, true, true, true, false, false, false, false, false, false, false, false, false, false, false, false, false, false, false] rfl rfl (by kernel_rfl) (fun _ _ _ h => h) (Or.inl ⟨by rfl, ?_⟩) ?_ ?_
            rotate_left
            · intro w'
              go_simp
              with_reducible rfl
            rotate_left
            · simp only [Act.put, List.setIfInBounds_toArray, List.set_cons_zero, List.set_cons_succ, i64_w, i32_w]
              rfl
            refine pure_ (i := 12) (N := some 57) (v := ?_) (a' := ?_) #[true, true, true, true, true, true, true, true, true, true, true, true, true, false, false, false, false, false, false, false, false, false, false, false, false, false, false] rfl rfl (by kernel_rfl) (fun _ _ _ h => h) (Or.inl ⟨by rfl, ?_⟩) ?_ ?_
            rotate_left
            · intro w'
              go_simp
              with_reducible rfl
            rotate_left
            · simp only [Act.put, List.setIfInBounds_toArray, List.set_cons_zero, List.set_cons_succ, i64_w, i32_w]
              rfl
            refine take_ (i := 13) (N := some 58) (v := ?_) (a' := ?_) #[true, true, true, true, true, true, true, true, true, true, true, true, true, true, false, false, false, false, false, false, false, false, false, false, false, false, false] rfl rfl (by kernel_rfl) (fun _ _ _ h => h) (Or.inl ⟨by rfl, ?_⟩) hHeld ?_ ?_
            rotate_left
            · rintro w' ⟨s0, s1, s2, s3, s4, s5, s6, s7, s8, s9⟩
              go_simp
              with_reducible rfl
            rotate_left
            · simp only [Act.put, List.setIfInBounds_toArray, List.set_cons_zero, List.set_cons_succ, i64_w, i32_w]
              rfl
            refine pure_ (i := 15) (N := some 60) (v := ?_) (a' := ?_) #[true, true, true, true, true, true, true, true, true, true, true, true, true, true, false, true, false, false, false, false, false, false, false, false, false, false, false] rfl rfl (by kernel_rfl) (fun _ _ _ h => h) (Or.inl ⟨by rfl, ?_⟩) ?_ ?_
            rotate_left
            · intro w'
              go_simp
              with_reducible rfl
            rotate_left
            · simp only [Act.put, List.setIfInBounds_toArray, List.set_cons_zero, List.set_cons_succ, i64_w, i32_w]
              rfl
            refine take_ (i := 16) (N := some 61) (v := ?_) (a' := ?_) #[true, true, true, true, true, true, true, true, true, true, true, true, true, true, false, true, true, false, false, false, false, false, false, false, false, false, false] rfl rfl (by kernel_rfl) (fun _ _ _ h => h) (Or.inl ⟨by rfl, ?_⟩) hHeld ?_ ?_
            rotate_left
            · rintro w' ⟨s0, s1, s2, s3, s4, s5, s6, s7, s8, s9⟩
              go_simp
              with_reducible rfl
            rotate_left
            · simp only [Act.put, List.setIfInBounds_toArray, List.set_cons_zero, List.set_cons_succ, i64_w, i32_w]
              rfl
            refine pure_ (i := 17) (N := some 62) (v := ?_) (a' := ?_) #[true, true, true, true, true, true, true, true, true, true, true, true, true, true, false, true, true, true, false, false, false, false, false, false, false, false, false] rfl rfl (by kernel_rfl) (fun _ _ _ h => h) (Or.inl ⟨by rfl, ?_⟩) ?_ ?_
            rotate_left
            · intro w'
              go_simp
              with_reducible rfl
            rotate_left
            · simp only [Act.put, List.setIfInBounds_toArray, List.set_cons_zero, List.set_cons_succ, i64_w, i32_w]
              rfl
            refine pure_ (i := 18) (N := some 63) (v := ?_) (a' := ?_) #[true, true, true, true, true, true, true, true, true, true, true, true, true, true, false, true, true, true, true, false, false, false, false, false, false, false, false] rfl rfl (by kernel_rfl) (fun _ _ _ h => h) (Or.inl ⟨by rfl, ?_⟩) ?_ ?_
            rotate_left
            · intro w'
              go_simp
              with_reducible rfl
            rotate_left
            · simp only [Act.put, List.setIfInBounds_toArray, List.set_cons_zero, List.set_cons_succ, i64_w, i32_w]
              rfl
            refine pure_ (i := 19) (N := some 64) (v := ?_) (a' := ?_) #[true, true, true, true, true, true, true, true, true, true, true, true, true, true, false, true, true, true, true, true, false, false, false, false, false, false, false] rfl rfl (by kernel_rfl) (fun _ _ _ h => h) (Or.inl ⟨by rfl, ?_⟩) ?_ ?_
            rotate_left
            · intro w'
              go_simp
              with_reducible rfl
            rotate_left
            · simp only [Act.put, List.setIfInBounds_toArray, List.set_cons_zero, List.set_cons_succ, i64_w, i32_w]
              rfl
            refine pure_ (i := 20) (N := some 65) (v := ?_) (a' := ?_) #[true, true, true, true, true, true, true, true, true, true, true, true, true, true, false, true, true, true, true, true, true, false, false, false, false, false, false] rfl rfl (by kernel_rfl) (fun _ _ _ h => h) (Or.inl ⟨by rfl, ?_⟩) ?_ ?_
            rotate_left
            · intro w'
              go_simp
              with_reducible rfl
            rotate_left
            · simp only [Act.put, List.setIfInBounds_toArray, List.set_cons_zero, List.set_cons_succ, i64_w, i32_w]
              rfl
            refine pure_ (i := 21) (N := some 66) (v := ?_) (a' := ?_) #[true, true, true, true, true, true, true, true, true, true, true, true, true, true, false, true, true, true, true, true, true, true, false, false, false, false, false] rfl rfl (by kernel_rfl) (fun _ _ _ h => h) (Or.inl ⟨by rfl, ?_⟩) ?_ ?_
            rotate_left
            · intro w'
              go_simp
              with_reducible rfl
            rotate_left
            · simp only [Act.put, List.setIfInBounds_toArray, List.set_cons_zero, List.set_cons_succ, i64_w, i32_w]
              rfl
            refine take_ (i := 22) (N := some 67) (v := ?_) (a' := ?_) #[true, true, true, true, true, true, true, true, true, true, true, true, true, true, false, true, true, true, true, true, true, true, true, false, false, false, false] rfl rfl (by kernel_rfl) (fun _ _ _ h => h) (Or.inl ⟨by rfl, ?_⟩) hHeld ?_ ?_
            rotate_left
            · rintro w' ⟨s0, s1, s2, s3, s4, s5, s6, s7, s8, s9⟩
              go_simp
              with_reducible rfl
            rotate_left
            · simp only [Act.put, List.setIfInBounds_toArray, List.set_cons_zero, List.set_cons_succ, i64_w, i32_w]
              rfl
            refine one_ (i := 14) (N := some 59) #[true, true, true, true, true, true, true, true, true, true, true, true, true, true, true, true, true, true, true, true, true, true, true, false, false, false, false] rfl rfl (by kernel_rfl) (by decide) (fun K hK => ?_)
            refine goes_ Tryd.func10 (by kernel_rfl) rfl #[.agg #[.int .i64 x.f0, .int .i64 x.f1, .string x.f2, .slice An2 x.f3.length cn2, .slice Ae2 x.f4.length ce2]] (by rfl) rfl rfl (by (try simp only [List.map_toArray, List.map_cons, List.map_nil]); first | done | rfl) ?_
            refine (IH.out wy (below_step HW.out HB.out)).mono ?_
            rintro e_ wc ⟨vn, ve, rfl, hM, hb⟩
            refine ⟨_, rfl, ?_⟩
            obtain ⟨u3_, u4_, hu_, hn_, he_⟩ := k25_openM hM
            simp only [List.cons.injEq, and_true, true_and] at hu_
            obtain ⟨rfl, rfl⟩ : vn = u3_ ∧ ve = u4_ := by first | exact ⟨hu_.1, hu_.2⟩ | exact ⟨hu_.2.2.2.1, hu_.2.2.2.2⟩
            obtain ⟨A4, c4, rfl⟩ := Kd.R_slice hn_
            obtain ⟨A5, c5, rfl⟩ := Kd.R_slice he_
            clear hn_ he_ hu_
            obtain ⟨NN, hNN⟩ : ∃ NN, NN = wy.heap.size := ⟨_, rfl⟩
            have HM := Aside0.mk (show k25.M wc w.heap.size (fun q => NN ≤ q) (rv x) [.int .i64 x.f0, .int .i64 x.f1, .string x.f2, .slice A4 (rv x).f3.length c4, .slice A5 (rv x).f4.length c5] from k25.M_lower HB.out.size (k25.M_mono (fun q hq => by have h_ := hq.2.1; omega) (k25.M_bound hM)))
            have GL1 := Aside0.mk (show g1 < NN from by rw [hNN]; exact blk_lt PB.out)
            have GL2 := Aside0.mk (show g2 < NN from by rw [hNN]; exact blk_lt B2.out)
            have GL3 := Aside0.mk (show g3 < NN from by rw [hNN]; exact blk_lt B3.out)
            have LN := Aside0.mk (show ∀ q, (Value.slice (some ⟨gN, 0, none⟩) j.f3.length c3).ownBlock = some q → q < NN from by rw [hNN]; exact Kd.R_lt HN.out)
            have LE := Aside0.mk (show ∀ q, (Value.slice (some ⟨gE, 0, none⟩) k cE).ownBlock = some q → q < NN from by rw [hNN]; exact Kd.R_lt HR.out)
            have NW := Aside0.mk (show NN ≤ wc.heap.size from by rw [hNN]; exact hb.size)
            clear hM hNN
            have n0_ := Aside0.mk (blk_below PB.out hb)
            have n1_ := Aside0.mk (blk_below B2.out hb)
            have n2_ := Aside0.mk (blk_below B3.out hb)
            have n3_ := Aside0.mk (Kd.R_below HN.out hb)
            have n4_ := Aside0.mk (Kd.R_below HR.out hb)
            have n5_ := Aside0.mk (below_step HB.out hb)
            clear PB B2 B3 HN HR HB
            have PB := n0_
            have B2 := n1_
            have B3 := n2_
            have HN := n3_
            have HR := n4_
            have HB := n5_
            clear n0_ n1_ n2_ n3_ n4_ n5_
            clear hb
            refine hK.out _ _ ⟨(blk_cell B3.out 4).trans rfl, (blk_cell B3.out 3).trans rfl, (blk_cell PB.out 4).trans rfl, (blk_cell PB.out 3).trans rfl, HQN.out _ (below_step HW.out HB.out), HQ.out _ (below_step HW.out HB.out)⟩ (fun hHeld => ?_)
            clear hK K
            refine norm_ (a' := ?_) ?_ ?_
            rotate_left
            · show Act.put _ (some 59) _ = _
              simp only [Act.put, List.setIfInBounds_toArray, List.set_cons_zero, List.set_cons_succ, i64_w, i32_w]
              rfl
            refine pure_ (i := 23) (N := some 68) (v := ?_) (a' := ?_) #[true, true, true, true, true, true, true, true, true, true, true, true, true, true, true, true, true, true, true, true, true, true, true, true, false, false, false] rfl rfl (by kernel_rfl) (fun _ _ _ h => h) (Or.inl ⟨by rfl, ?_⟩) ?_ ?_
            rotate_left
            · intro w'
              go_simp
              with_reducible rfl
            rotate_left
            · simp only [Act.put, List.setIfInBounds_toArray, List.set_cons_zero, List.set_cons_succ, i64_w, i32_w]
              rfl
            refine one_ (i := 24) (N := none) #[true, true, true, true, true, true, true, true, true, true, true, true, true, true, true, true, true, true, true, true, true, true, true, true, true, false, false] rfl rfl (by kernel_rfl) (by decide) (fun K hK => ?_)
            obtain ⟨inE, hoE⟩ := Kd.R_own HR.out
            obtain ⟨hcx, hcl_, hcc_⟩ := seg_ready HR.out i (by have h_ := HIK.out; omega)
            obtain ⟨hr0_, hg0_⟩ := Kd.R_seg HR.out (i : Int) (Int.natCast_nonneg _) (by have h_ := HIK.out; omega) (c := hcx) (j := 0) (seg := [.int .i64 x.f0, .int .i64 x.f1, .string x.f2, .slice A4 (rv x).f3.length c4, .slice A5 (rv x).f4.length c5]) hcl_ hcc_ (show 0 + 5 ≤ 5 by decide) (x' := rv x) (okp := fun q => NN ≤ q) (by rw [List.take_zero, List.nil_append, List.drop_eq_nil_of_le (by rw [hcl_]; exact Nat.le_refl _), List.append_nil]; exact HM.out) (fun q hq => ⟨ok_ GL1.out GL2.out GL3.out LN.out hq, fun e_ => by have h_ := LE.out gE rfl; omega⟩)
            rw [Int.toNat_natCast] at hr0_ hg0_
            have hg : wc.grownBy (wc.setCells gE (i * 5) [.int .i64 x.f0, .int .i64 x.f1, .string x.f2, .slice A4 (rv x).f3.length c4, .slice A5 (rv x).f4.length c5]) (some gE) := hg0_
            refine skip_ (w1 := (wc.setCells gE (i * 5) [.int .i64 x.f0, .int .i64 x.f1, .string x.f2, .slice A4 (rv x).f3.length c4, .slice A5 (rv x).f4.length c5])) (by rfl) rfl ?_ ?_
            · refine store_run rfl rfl rfl (seg_run HR.out i (by have h_ := HIK.out; omega) [.int .i64 x.f0, .int .i64 x.f1, .string x.f2, .slice A4 (rv x).f3.length c4, .slice A5 (rv x).f4.length c5] rfl infoJ5 (by simp [Value.oneCell']))
            have HO := Aside0.mk (show Kd.R k25 25 (wc.setCells gE (i * 5) [.int .i64 x.f0, .int .i64 x.f1, .string x.f2, .slice A4 (rv x).f3.length c4, .slice A5 (rv x).f4.length c5]) w.heap.size (fun q => (q ≠ g1 ∧ q ≠ g2 ∧ q ≠ g3) ∧ some q ≠ (Value.slice (some ⟨gN, 0, none⟩) j.f3.length c3).ownBlock) (.slice (some ⟨gE, 0, none⟩) k cE) ((mixL (j.f4.map rv) i).set i (rv x)) from hr0_)
            have nb_ := Aside0.mk (pw_below_grown HB.out (some gE) HB.out.size hg (fun q hq => by injection hq with hq; rw [← hq]; exact Kd.R_base HR.out gE rfl))
            have n0_ := Aside0.mk (blk_grown PB.out hg (fun e_ => (HR.out.1 g1 (Option.some.inj e_ ▸ rfl)).1.1 rfl))
            have n1_ := Aside0.mk (blk_grown B2.out hg (fun e_ => (HR.out.1 g2 (Option.some.inj e_ ▸ rfl)).1.2.1 rfl))
            have n2_ := Aside0.mk (blk_grown B3.out hg (fun e_ => (HR.out.1 g3 (Option.some.inj e_ ▸ rfl)).1.2.2 rfl))
            have n3_ := Aside0.mk (Kd.R_over HN.out HR.out (fun q hq => by simp only [Kd.string, Kd.scalar, List.mem_cons, List.not_mem_nil, or_false] at hq; subst hq; decide) hg)
            clear PB B2 B3 HN
            have PB := n0_
            have B2 := n1_
            have B3 := n2_
            have HN := n3_
            clear n0_ n1_ n2_ n3_
            clear HR HB HM hg hr0_ hg0_ GL1 GL2 GL3 LN LE NW hcl_ hcc_ hoE
            have HR := HO
            have HB := nb_
            clear HO nb_
            generalize (wc.setCells gE (i * 5) [.int .i64 x.f0, .int .i64 x.f1, .string x.f2, .slice A4 (rv x).f3.length c4, .slice A5 (rv x).f4.length c5]) = w8 at PB B2 B3 HN HR HB ⊢
            refine hK.out _ _ ⟨(blk_cell B3.out 4).trans rfl, (blk_cell B3.out 3).trans rfl, (blk_cell PB.out 4).trans rfl, (blk_cell PB.out 3).trans rfl, HQN.out _ (below_step HW.out HB.out), HQ.out _ (below_step HW.out HB.out)⟩ (fun hHeld => ?_)
            clear hK K
            refine pure_ (i := 25) (N := some 69) (v := ?_) (a' := ?_) #[true, true, true, true, true, true, true, true, true, true, true, true, true, true, true, true, true, true, true, true, true, true, true, true, true, true, false] rfl rfl (by kernel_rfl) (fun _ _ _ h => h) (Or.inl ⟨by rfl, ?_⟩) ?_ ?_
            rotate_left
            · intro w'
              go_simp
              with_reducible rfl
            rotate_left
            · simp only [Act.put, List.setIfInBounds_toArray, List.set_cons_zero, List.set_cons_succ, i64_w, i32_w]
              rfl
            refine last_ (i := 26) (N := none) #[true, true, true, true, true, true, true, true, true, true, true, true, true, true, true, true, true, true, true, true, true, true, true, true, true, true, true] rfl rfl (by kernel_rfl) (by decide) (fun K hK => ?_)
            obtain ⟨hrp_, hgp_⟩ := Kd.R_putg HN.out (i : Int) nm
            rw [Int.toNat_natCast] at hrp_ hgp_
            have hcell_ := (str_cell HN.out i (by have h_ := HIN.out; omega))
            obtain ⟨u_, hc_, hf_⟩ := hcell_
            refine skip_ (w1 := (w8.setCell ⟨gN, i, none⟩ (.string nm))) (by rfl) rfl (store_run rfl rfl rfl (str_store nm hc_ hf_)) ?_
            have n0_ := Aside0.mk (show (w8.setCell ⟨gN, i, none⟩ (.string nm)).heap[g3]? = some (.cells #[.int .i64 j.f0, .int .i64 j.f1, .string j.f2, .slice (some ⟨gN, 0, none⟩) j.f3.length c3, .slice (some ⟨gE, 0, none⟩) k cE] 25 (0, 0)) from far_ B3.out (fun e_ => (HN.out.1 gN rfl).2.2 e_.symm))
            have n1_ := Aside0.mk (show (w8.setCell ⟨gN, i, none⟩ (.string nm)).heap[g1]? = some (.cells #[.int .i64 j.f0, .int .i64 j.f1, .string j.f2, .slice (some adn) j.f3.length cn, .slice (some ad) k ce] 25 (0, 0)) from far_ PB.out (fun e_ => (HN.out.1 gN rfl).1 e_.symm))
            have n2_ := Aside0.mk (show (w8.setCell ⟨gN, i, none⟩ (.string nm)).heap[g2]? = some (.cells #[.int .i64 0, .int .i64 0, .string ByteArray.empty, .slice none 0 0, .slice none 0 0] 25 (0, 0)) from far_ B2.out (fun e_ => (HN.out.1 gN rfl).2.1 e_.symm))
            have n3_ := Aside0.mk hrp_
            have n4_ := Aside0.mk (Kd.R_far (p := ⟨gN, i, none⟩) HR.out (fun q h_ e_ => h_.2 (by rw [show q = gN from e_]; rfl)) (.string nm))
            have n5_ := Aside0.mk (below_set (j := i) (v := .string nm) HB.out (Kd.R_base HN.out gN rfl))
            clear B3 PB B2 HN HR HB hc_ hf_ hrp_ hgp_
            have B3 := n0_
            have PB := n1_
            have B2 := n2_
            have HN := n3_
            have HR := n4_
            have HB := n5_
            clear n0_ n1_ n2_ n3_ n4_ n5_
            generalize (w8.setCell ⟨gN, i, none⟩ (.string nm)) = w9 at B3 PB B2 HN HR HB ⊢
            refine hK.out _ _ ?_
            clear hK K
            refine done_ (by kernel_rfl) ?_
            clear s1_ s1b_ s2_ s2b_ hkce hncn hqk hqn hin e6
            go_wp2_with fail
            go_roundg q
            case measure => exact Nat.lt_succ_self _
            case rel => exact ⟨i + 1, q, rfl, by have h_ := HIM.out; omega, congrArg (Value.int .i64) (by have h_ := HKB.out; unfold wrap64; omega), PB.out, B2.out, B3.out, by rw [← mixL_set j.f3 i q nm (by have h_ := HIM.out; have h2_ := HNE.out; omega) HNM.out]; exact HN.out, by rw [← mixL_set (j.f4.map rv) i q (rv x) (by rw [List.length_map, HE.out]; have h_ := HIM.out; omega) (by rw [List.getElem?_map, HXE.out]; rfl)]; exact HR.out, HB.out⟩
      · have d5 : decide (j.f0 = 5) = false := decide_eq_false hk5
        have d5b : (j.f0 == 5) = false := by rw [beq_eq_false_iff_ne]; exact hk5
        have HRV := Aside0.mk (rv_other hk5)
        clear hk5
        have rc0 : wr.cell? ⟨g3, 0, none⟩ = some (.int .i64 j.f0) := (blk_cell B3.out 0).trans rfl; have rc1 : wr.cell? ⟨g3, 1, none⟩ = some (.int .i64 j.f1) := (blk_cell B3.out 1).trans rfl; have rc2 : wr.cell? ⟨g3, 2, none⟩ = some (.string j.f2) := (blk_cell B3.out 2).trans rfl; have rc3 : wr.cell? ⟨g3, 3, none⟩ = some (.slice A3 j.f3.length c3) := (blk_cell B3.out 3).trans rfl; have rc4 : wr.cell? ⟨g3, 4, none⟩ = some (.slice A9 k cE) := (blk_cell B3.out 4).trans rfl
        have rz0 : wr.cell? ⟨g2, 0, none⟩ = some (.int .i64 0) := (blk_cell B2.out 0).trans rfl; have rz1 : wr.cell? ⟨g2, 1, none⟩ = some (.int .i64 0) := (blk_cell B2.out 1).trans rfl; have rz2 : wr.cell? ⟨g2, 2, none⟩ = some (.string ByteArray.empty) := (blk_cell B2.out 2).trans rfl; have rz3 : wr.cell? ⟨g2, 3, none⟩ = some (.slice none 0 0) := (blk_cell B2.out 3).trans rfl; have rz4 : wr.cell? ⟨g2, 4, none⟩ = some (.slice none 0 0) := (blk_cell B2.out 4).trans rfl; have rzf0 := blk_frozen B2.out 0; have rzf1 := blk_frozen B2.out 1; have rzf2 := blk_frozen B2.out 2; have rzf3 := blk_frozen B2.out 3; have rzf4 := blk_frozen B2.out 4
        go_wp2_with fail
        refine bodyPost_ret (results_cell_row rfl _ _ g2 25 #[.int .i64 j.f0, .int .i64 j.f1, .string j.f2, .slice A3 j.f3.length c3, .slice A9 k cE] (0, 0) _ rfl (by refine blk_put (cs := #[.int .i64 j.f0, .int .i64 j.f1, .string j.f2, .slice A3 j.f3.length c3, .slice none 0 0]) ?_ 4 _ rfl; refine blk_put (cs := #[.int .i64 j.f0, .int .i64 j.f1, .string j.f2, .slice none 0 0, .slice none 0 0]) ?_ 3 _ rfl; refine blk_put (cs := #[.int .i64 j.f0, .int .i64 j.f1, .string ByteArray.empty, .slice none 0 0, .slice none 0 0]) ?_ 2 _ rfl; refine blk_put (cs := #[.int .i64 j.f0, .int .i64 0, .string ByteArray.empty, .slice none 0 0, .slice none 0 0]) ?_ 1 _ rfl; refine blk_put (cs := #[.int .i64 0, .int .i64 0, .string ByteArray.empty, .slice none 0 0, .slice none 0 0]) ?_ 0 _ rfl; exact B2.out) Tryd.underlying25 rfl (by kernel_rfl)) rfl ?_
        refine ⟨_, _, rfl, ?_, (below_set (below_set (below_set (below_set (below_set HB.out GE2.out) GE2.out) GE2.out) GE2.out) GE2.out)⟩
        rw [HRV.out]
        exact k25_mkM _ _ _ ⟨j.f0, j.f1, j.f2, _, _⟩ (Kd.R_mono (Kd.R_far (p := ⟨g2, 4, none⟩) (Kd.R_far (p := ⟨g2, 3, none⟩) (Kd.R_far (p := ⟨g2, 2, none⟩) (Kd.R_far (p := ⟨g2, 1, none⟩) (Kd.R_far (p := ⟨g2, 0, none⟩) HN.out (fun _ h_ => h_.2.1) _) (fun _ h_ => h_.2.1) _) (fun _ h_ => h_.2.1) _) (fun _ h_ => h_.2.1) _) (fun _ h_ => h_.2.1) _) (fun _ _ => trivial)) (Kd.R_mono (Kd.R_far (p := ⟨g2, 4, none⟩) (Kd.R_far (p := ⟨g2, 3, none⟩) (Kd.R_far (p := ⟨g2, 2, none⟩) (Kd.R_far (p := ⟨g2, 1, none⟩) (Kd.R_far (p := ⟨g2, 0, none⟩) HR.out (fun _ h_ => h_.1.2.1) _) (fun _ h_ => h_.1.2.1) _) (fun _ h_ => h_.1.2.1) _) (fun _ h_ => h_.1.2.1) _) (fun _ h_ => h_.1.2.1) _) (fun _ _ => trivial))
theorem reversed_says : ∀ n, RvSays n
  | 0 => fun _ _ _ _ _ _ _ h => absurd h (Nat.not_lt_zero _)
  | n + 1 => reversed_step n (reversed_says n)
end Go.Proofs.YtmonbhoeplmieaaDoor.Js
