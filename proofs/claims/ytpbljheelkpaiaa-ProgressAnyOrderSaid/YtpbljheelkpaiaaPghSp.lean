/- progress.Split. Condition: a chunk's size below 1000000000. -/
import Derived.RangeFuncNested
import Derived.RangeFuncBound
import Derived.RangeFuncCalls
import Derived.RangeFuncLeaves
import Derived.RangeFuncBox
import Derived.Shelf.Abstract
import Derived.Shelf.RegionOpen
import Derived.WalkKit
import Derived.OwnWalkIn
import Derived.TacticsInMore
import Derived.LoopNIn
import Derived.LoopIn
import Derived.BigQuiet
import Derived.Test.YtpbljheelkpaiaaPgx0
import Derived.Test.YtpbljheelkpaiaaRi
import Derived.Test.YtpbljheelkpaiaaPghCh
import Derived.RangeFuncFrom
import Derived.Lib.SliceRun
namespace Go.Proofs.Ytpbljheelkpaiaa.Pg
open Go.RowKit Go.Shelf Go.Proofs.YtpbljheelkpaiaaW.PrintWords Go.Proofs.YtpbljheelkpaiaaW.PrintLast Go.Proofs.YtpbljheelkpaiaaW.PrintMore
open Go.Proofs.Ytpbljheelkpaiaa
set_option linter.unusedVariables false
set_option linter.unusedSimpArgs false
attribute [local go_sem] Oper.semAt_some
set_option maxHeartbeats 8000000 in
set_option maxRecDepth 100000 in
theorem sc_calls (A : Option Addr) (c : Nat) (xs : List Int) (W : World) (hr : Kd.C (Kd.int .i64) W A xs.length xs) (hc : xs.length ≤ c) (hl : xs.length < 1000000) :
    Calls Try.prog 16 #[.slice A xs.length c] W fun e W' => ∃ v, e = .returned v ∧ Kd.R (Kd.int .i64) 3 W' W.heap.size (fun _ => True) v xs ∧ Below W.heap.size W W' := by
  have hu22 := Try.underlying22
  have hu3 := Try.underlying3
  have HR := Aside0.mk hr
  have HL := Aside0.mk hl
  clear hr hl
  have HB := Aside0.mk (Below.refl W.heap.size W)
  cases A with
  | none =>
    have hq := fun w n c => Go.Lib.run_eql_slice_nil (P := Try.prog) w 22 3 none n c 0 0 hu22
    simp only [Option.isNone_none] at hq
    go_enter Try.func16, Try.ntmps16
    go_wp2
    go_ret
    have h0 : xs = [] := by
      have := HR.out
      cases xs with
      | nil => rfl
      | cons x r =>
        obtain ⟨ad, ea, _⟩ := Kd.at_int this 0 (by omega) (by simp)
        cases ea
    subst h0
    exact ⟨_, rfl, Kd.R_nil _ _ _ _ _, HB.out⟩
  | some ad =>
    have hq := fun w n c => Go.Lib.run_eql_slice_nil (P := Try.prog) w 22 3 (some ad) n c 0 0 hu22
    simp only [Option.isNone_some] at hq
    go_enter Try.func16, Try.ntmps16
    go_wp2_with (first | ((with_reducible refine gate_dst (N := 5) rfl ?_); refine Kd.R_lit (Kd.int .i64) _ 3 ?hg (N := 5) ?hd (xs := ([] : List Int)) (inner := []) (ok := fun _ => True) (okp := fun _ => True) ?hr ?hp (fun _ hk => hk) trivial (Below.refl _ _) (Nat.le_refl _) (by simp) ?_; (case hd => rfl); (case hg => rfl); (case hr => first | (go_simp; done) | (go_simp; rfl)); (case hp => exact Reps.none _ _); intro v5 w5 ho hb hg_ hnew_; clear hg_ hnew_; have HO := Aside0.mk ho; have HB5 := Aside0.mk hb; have HR5 := Aside0.mk (Kd.C_below HR.out hb); clear ho hb) | (at_builtin; (refine Kd.R_append_rows (Kd.int .i64) (w0 := W) W.heap.size rfl (.tmp 5) (.tmp 6) 22 3 _ _ rfl Try.underlying22 info3 rfl (by decide) (by omega) v5 [] xs _ _ _ (fun _ => True) (fun _ => False) rfl rfl HO.out HR5.out (fun _ _ h => h) (fun _ h => h.elim) (fun _ _ => trivial) HB5.out HB5.out.size (by have := HL.out; simp only [List.length_nil]; omega) ?_; rintro v1 w1 hv hb _ _; have HV := Aside0.mk hv; have HBF := Aside0.mk hb; clear hv hb)))
    go_ret
    exact ⟨_, rfl, HV.out, HBF.out⟩
/-- chunk k of the numbers -/
def part (l : List Int) (size k : Nat) : List Int := (l.drop (k * size)).take (ce l.length size k)
theorem part_len (l : List Int) (size k : Nat) : (part l size k).length = ce l.length size k := by
  unfold part ce
  rw [List.length_take, List.length_drop]
  split <;> omega
/-- the chunks so far -/
def cl (a0 : Int) (l : List Int) (size : Nat) (pre : List (Ck l.length size)) : List S39 := pre.zipIdx.map fun p => ⟨a0, (p.2 : Int), false, part l size p.1.1⟩
theorem cl_snoc (a0 : Int) (l : List Int) (size : Nat) (pre : List (Ck l.length size)) (x : Ck l.length size) : cl a0 l size (pre ++ [x]) = cl a0 l size pre ++ [⟨a0, (pre.length : Int), false, part l size x.1⟩] := by
  unfold cl
  rw [List.zipIdx_append, List.map_append]
  simp
theorem cl_len (a0 : Int) (l : List Int) (size : Nat) (pre : List (Ck l.length size)) : (cl a0 l size pre).length = pre.length := by unfold cl; simp
theorem cl_snoc' (a0 : Int) (l : List Int) (size : Nat) (pre : List (Ck l.length size)) (x : Ck l.length size) : cl a0 l size (pre ++ [x]) = cl a0 l size pre ++ [⟨a0, ((cl a0 l size pre).length : Int), false, part l size x.1⟩] := by rw [cl_snoc, cl_len]
structure Sp (g3 g8 B1 B2 : Nat) (ad : Addr) (c1 : Nat) (a0 : Int) (l : List Int) (size : Nat) (w : World) (pre : List (Ck l.length size)) (W : World) : Prop where
  row : ∃ u, W.heap[g8]? = some (.cells #[u] 29 (0, 0)) ∧ Kd.S k39 39 W w.heap.size (fun _ => True) u (cl a0 l size pre)
  tok : W.heap[g3]? = some (.cells #[.int .i64 a0] 3 (0, 0))
  bel : Below w.heap.size w W
  b1 : W.heap[B1]? = some (.cells #[.slice (some ad) l.length c1] 22 (0, 0))
  b2 : W.heap[B2]? = some (.cells #[.int .i64 size] 3 (0, 0))
  lo : w.heap.size ≤ g8
theorem Sp.own (g3 g8 B1 B2 : Nat) (ad : Addr) (c1 : Nat) (a0 : Int) (l : List Int) (size : Nat) (w : World) (B : Nat) (hB : w.heap.size ≤ B) : OwnFrom B (Sp g3 g8 B1 B2 ad c1 a0 l size w) := by
  intro pre W W' row h hg hr
  have hne : ∀ k cells q, W.heap[k]? = some (.cells cells q (0, 0)) → some k ≠ row := by
    rintro k cells q hk e
    obtain ⟨_, o, ho, hc⟩ := hr k e.symm
    rw [hk] at ho
    injection ho with ho
    subst ho
    cases hc
  obtain ⟨u, h1, h2⟩ := h.row
  exact ⟨⟨u, (hg.block g8 (blk_lt h1) (hne _ _ _ h1)).trans h1, Kd.S_mono (Kd.S_grown (Kd.S_bound h2) hg (fun k hk => by obtain ⟨_, _, _, q, _, cells, hc⟩ := hk; exact hne _ _ _ hc)) (fun k hk => hk.1)⟩, (hg.block g3 (blk_lt h.tok) (hne _ _ _ h.tok)).trans h.tok,
    h.bel.grown hg (h.bel.size) (fun k e => Nat.le_trans hB (hr k e).1), (hg.block B1 (blk_lt h.b1) (hne _ _ _ h.b1)).trans h.b1, (hg.block B2 (blk_lt h.b2) (hne _ _ _ h.b2)).trans h.b2, h.lo⟩
theorem div_le {len size : Nat} (h1 : 1 ≤ size) (h2 : 0 < len) : (len + size - 1) / size ≤ len := by
  have h3 : len ≤ len * size := Nat.le_mul_of_pos_right _ (by omega)
  have h4 : (len + size - 1) / size < len + 1 := (Nat.div_lt_iff_lt_mul (by omega)).2 (by rw [Nat.add_mul]; omega)
  omega
theorem part_C {W : World} {ad : Addr} {c : Nat} {l : List Int} (h : Kd.C (Kd.int .i64) W (some ad) l.length l) (size k : Nat) (hk : k * size < l.length) (hc : l.length ≤ c) : Kd.C (Kd.int .i64) W (some (ad.add (k * size))) (part l size k).length (part l size k) := by
  have h1 := Kd.C_drop (c := l.length + 1) h (m := k * size) (by omega) (by omega)
  rw [if_neg (by omega)] at h1
  simp only [show (Kd.int .i64).sz = 1 from rfl, Nat.mul_one, Option.map_some] at h1
  exact Kd.C_take h1 (by rw [List.length_drop]; unfold ce; split <;> omega)
theorem last_set {W : World} {base g m cap : Nat} {xs : List S39} {x : S39} (h : Kd.S k39 39 W base (fun _ => True) (.slice (some ⟨g, 0, none⟩) (m + 1) cap) xs) (hx : xs.getD m z39 = x) :
    Kd.S k39 39 (W.setCell ⟨g, m * 4 + 2, none⟩ (.bool true)) base (fun _ => True) (.slice (some ⟨g, 0, none⟩) (m + 1) cap) (xs.set m ⟨x.f0, x.f1, true, x.f3⟩) ∧ W.grownBy (W.setCell ⟨g, m * 4 + 2, none⟩ (.bool true)) (some g) ∧ ∃ u, W.cell? ⟨g, m * 4 + 2, none⟩ = some u := by
  obtain ⟨oki, c, hcl, hM, hcc, hok, hH⟩ := Kd.S_lend h z39 (m : Int) (by omega) (by omega)
  rw [Int.toNat_natCast, hx] at hM
  obtain ⟨v3, rfl, h3⟩ := k39_openM hM
  obtain ⟨h4, h5⟩ := Kd.H_seg hH (by omega) (by omega) (seg := [.bool true]) (j := 2) (by decide) (by intro q hq; rw [List.mem_singleton] at hq; rw [hq]; rfl)
  rw [Int.toNat_natCast] at h4 h5
  have hM2 := k39_mkM (W.setCell ⟨g, m * 4 + 2, none⟩ (.bool true)) base oki (⟨x.f0, x.f1, true, x.f3⟩ : S39) (v3 := v3) (Kd.R_grown h3 h5 (fun k hk => fun e => by cases e; exact (hok _ hk).2 rfl))
  have h6 := Kd.H_back h4 (x' := (⟨x.f0, x.f1, true, x.f3⟩ : S39)) (okp := oki) hM2 (fun _ hk => hk)
  rw [Int.toNat_natCast] at h6
  exact ⟨h6, h5, _, hcc 2 (.bool x.f2) rfl⟩
theorem cl_get (a0 : Int) (l : List Int) (size : Nat) (xs : List (Ck l.length size)) (j : Nat) : (cl a0 l size xs)[j]? = xs[j]?.map fun x => ⟨a0, (j : Int), false, part l size x.1⟩ := by
  unfold cl
  rw [List.getElem?_map, List.getElem?_zipIdx, Option.map_map, Nat.zero_add]
  rfl
theorem ko_below {W W' : World} (h : Below W.heap.size W W') : KeepsOthers W W' := ⟨h.size, fun k o hk _ => (h.block k (blk_lt hk)).trans hk⟩
theorem k2_below {B1 B2 : Nat} {W W' : World} (h1 : B1 < W.heap.size) (h2 : B2 < W.heap.size) (h : Below W.heap.size W W') : K2 B1 B2 W W' := ⟨h.block B1 h1, h.block B2 h2⟩
def chunksF (a0 : Int) (l : List Int) (size : Nat) : List S39 := (List.range ((l.length + size - 1) / size)).map fun k : Nat => ⟨a0, (k : Int), decide (k + 1 = (l.length + size - 1) / size), part l size k⟩
theorem cl_all (a0 : Int) (l : List Int) (size m : Nat) (xs : List (Ck l.length size)) (hxs : xs.map (·.1) = List.range ((l.length + size - 1) / size)) (hm : (l.length + size - 1) / size = m + 1) :
    (cl a0 l size xs).getD m z39 = ⟨a0, (m : Int), false, part l size m⟩ ∧ (cl a0 l size xs).set m ⟨a0, (m : Int), true, part l size m⟩ = chunksF a0 l size := by
  have h1 : ∀ j, xs[j]?.map (·.1) = if j < m + 1 then some j else none := by
    intro j
    rw [← List.getElem?_map, hxs, hm]
    by_cases hlt : j < m + 1
    · rw [if_pos hlt, List.getElem?_eq_getElem (by rw [List.length_range]; exact hlt), List.getElem_range]
    · rw [if_neg hlt, List.getElem?_eq_none (by rw [List.length_range]; omega)]
  have h2 : ∀ j, (cl a0 l size xs)[j]? = if j < m + 1 then some ⟨a0, (j : Int), false, part l size j⟩ else none := by
    intro j
    rw [cl_get]
    have h3 := h1 j
    cases hj : xs[j]? with
    | none =>
      rw [hj] at h3
      by_cases hlt : j < m + 1
      · rw [if_pos hlt] at h3; cases h3
      · rw [if_neg hlt]; rfl
    | some x =>
      rw [hj] at h3
      by_cases hlt : j < m + 1
      · rw [if_pos hlt] at h3 ⊢
        injection h3 with h3
        have h4 : x.1 = j := h3
        rw [Option.map_some, h4]
      · rw [if_neg hlt] at h3; cases h3
  have hlen : (cl a0 l size xs).length = m + 1 := by
    rw [cl_len]
    have := congrArg List.length hxs
    rwa [List.length_map, List.length_range, hm] at this
  refine ⟨by rw [List.getD_eq_getElem?_getD, h2, if_pos (by omega)]; rfl, List.ext_getElem? fun j => ?_⟩
  unfold chunksF
  rw [List.getElem?_set, List.getElem?_map, hm, h2, hlen]
  by_cases hj : m = j
  · subst hj
    rw [if_pos rfl, if_pos (by omega), List.getElem?_eq_getElem (by rw [List.length_range]; omega), List.getElem_range]
    simp
  · rw [if_neg hj]
    by_cases hlt : j < m + 1
    · rw [if_pos hlt, List.getElem?_eq_getElem (by rw [List.length_range]; omega), List.getElem_range, Option.map_some]
      have : decide (j + 1 = m + 1) = false := decide_eq_false (by omega)
      rw [this]
    · rw [if_neg hlt, List.getElem?_eq_none (by rw [List.length_range]; omega)]
      rfl
theorem info39 : (Try.prog.info? 39).map (fun i => (i.zero, i.size, i.bytes)) = some (some (.agg #[.int .i64 0, .int .i64 0, .bool false, .slice none 0 0]), 4, 48) := by kernel_rfl
set_option maxHeartbeats 16000000 in
set_option maxRecDepth 100000 in
theorem split_many (a0 : Int) (A1 : Option Addr) (c1 : Nat) (l1 : List Int) (size : Nat) (w : World) (h0 : 0 ≤ a0) (hs : 1 ≤ size) (hs9 : size < 1000000000) (hl0 : 0 < l1.length) (hl1 : l1.length ≤ 1000) (hr1 : Kd.C (Kd.int .i64) w A1 l1.length l1) (hc1 : l1.length ≤ c1) :
    Calls Try.prog 8 #[.int .i64 a0, .slice A1 l1.length c1, .int .i64 size] w fun e W' => ∃ v, e = .returned (.tuple #[v, .int .i64 0]) ∧ Kd.S k39 39 W' w.heap.size (fun _ => True) v (chunksF a0 l1 size) ∧ Below w.heap.size w W' := by
  have hu22 := Try.underlying22
  have hu29 := Try.underlying29
  have hu39 := Try.underlying39
  obtain ⟨ad, ea, _⟩ := Kd.at_int hr1 0 (by omega) (by omega)
  cases ea
  have f0 : decide (a0 < 0) = false := decide_eq_false (by omega)
  have f1 : decide ((size : Int) < 1) = false := decide_eq_false (by omega)
  have f2 : decide ((l1.length : Int) > 1000) = false := decide_eq_false (by omega)
  have f2b : decide (1000 < (l1.length : Int)) = false := f2
  have f3 : ((l1.length : Int) == 0) = false := beq_eq_false_iff_ne.mpr (by omega)
  have HR := Aside0.mk hr1
  have HL := Aside0.mk (show (1 ≤ size ∧ size < 1000000000) ∧ 0 < l1.length ∧ l1.length ≤ 1000 ∧ l1.length ≤ c1 from ⟨⟨hs, hs9⟩, hl0, hl1, hc1⟩)
  clear hr1 h0 hs hs9 hl0 hl1 hc1
  have hf15 : Fence.wide.fn 15 := trivial
  refine (callsIn_wide (n := 9)).1 ?_
  refine callsIn_of_wp_marks Try.func8 rfl trivial ?_ rfl
  simp only [Try.ntmps8, List.size_toArray, List.length_cons, List.length_nil, Nat.reduceAdd, Nat.reduceSub, Array.replicate_succ, Array.replicate_zero, List.push_toArray, List.append_toArray, List.nil_append, List.cons_append]
  gi_wp2_with (gi_at_call 15; refine (callsIn_wide.2 (chunk15 ad l1.length c1 size (by have h_ := HL.out; omega) _)).mono ?_; rintro e w' ⟨rfl, rfl⟩)
  have hBW : Below w.heap.size w ((((w.alloc (.cells #[.int .i64 a0] 3)).alloc (.cells #[.slice none 0 0] 29)).alloc (.cells #[.slice (some ad) l1.length c1] 22)).alloc (.cells #[.int .i64 size] 3)) := below_alloc (below_alloc (below_alloc (below_alloc (Below.refl _ _) _) _) _) _
  have k3 : ((((w.alloc (.cells #[.int .i64 a0] 3)).alloc (.cells #[.slice none 0 0] 29)).alloc (.cells #[.slice (some ad) l1.length c1] 22)).alloc (.cells #[.int .i64 size] 3)).heap[w.heap.size]? = some (.cells #[.int .i64 a0] 3 (0, 0)) := blk_alloc (blk_alloc (blk_alloc (blk_new w _) _) _) _
  have k8 : ((((w.alloc (.cells #[.int .i64 a0] 3)).alloc (.cells #[.slice none 0 0] 29)).alloc (.cells #[.slice (some ad) l1.length c1] 22)).alloc (.cells #[.int .i64 size] 3)).heap[w.heap.size + 1]? = some (.cells #[.slice none 0 0] 29 (0, 0)) := by
    have := blk_alloc (blk_alloc (blk_new (w.alloc (.cells #[.int .i64 a0] 3)) (.cells #[.slice none 0 0] 29)) (.cells #[.slice (some ad) l1.length c1] 22)) (.cells #[.int .i64 size] 3)
    rwa [World.size_alloc] at this
  have k1 : ((((w.alloc (.cells #[.int .i64 a0] 3)).alloc (.cells #[.slice none 0 0] 29)).alloc (.cells #[.slice (some ad) l1.length c1] 22)).alloc (.cells #[.int .i64 size] 3)).heap[w.heap.size + 1 + 1]? = some (.cells #[.slice (some ad) l1.length c1] 22 (0, 0)) := by
    have := blk_alloc (blk_new ((w.alloc (.cells #[.int .i64 a0] 3)).alloc (.cells #[.slice none 0 0] 29)) (.cells #[.slice (some ad) l1.length c1] 22)) (.cells #[.int .i64 size] 3)
    rwa [World.size_alloc, World.size_alloc] at this
  have k2 : ((((w.alloc (.cells #[.int .i64 a0] 3)).alloc (.cells #[.slice none 0 0] 29)).alloc (.cells #[.slice (some ad) l1.length c1] 22)).alloc (.cells #[.int .i64 size] 3)).heap[w.heap.size + 1 + 1 + 1]? = some (.cells #[.int .i64 size] 3 (0, 0)) := by
    have := blk_new (((w.alloc (.cells #[.int .i64 a0] 3)).alloc (.cells #[.slice none 0 0] 29)).alloc (.cells #[.slice (some ad) l1.length c1] 22)) (.cells #[.int .i64 size] 3)
    rwa [World.size_alloc, World.size_alloc, World.size_alloc] at this
  have hsz : ((((w.alloc (.cells #[.int .i64 a0] 3)).alloc (.cells #[.slice none 0 0] 29)).alloc (.cells #[.slice (some ad) l1.length c1] 22)).alloc (.cells #[.int .i64 size] 3)).heap.size = w.heap.size + 1 + 1 + 1 + 1 := by simp
  generalize ((((w.alloc (.cells #[.int .i64 a0] 3)).alloc (.cells #[.slice none 0 0] 29)).alloc (.cells #[.slice (some ad) l1.length c1] 22)).alloc (.cells #[.int .i64 size] 3)) = W0 at hBW k3 k8 k1 k2 hsz ⊢
  obtain ⟨g8, hg8⟩ : ∃ g, g = w.heap.size + 1 := ⟨_, rfl⟩
  obtain ⟨B1, hB1⟩ : ∃ g, g = w.heap.size + 1 + 1 := ⟨_, rfl⟩
  obtain ⟨B2, hB2⟩ : ∃ g, g = w.heap.size + 1 + 1 + 1 := ⟨_, rfl⟩
  rw [← hB2] at k2 ⊢
  rw [← hB1] at k1 ⊢
  rw [← hg8] at k8 ⊢
  obtain ⟨g3, hg3⟩ : ∃ g, g = w.heap.size := ⟨_, rfl⟩
  have HG := Aside0.mk (show w.heap.size = g3 ∧ w.heap.size ≤ g8 from ⟨hg3.symm, by omega⟩)
  rw [← hg3] at k3
  rw [show (Value.pointer (some (⟨w.heap.size, 0, none⟩ : Addr))) = .pointer (some ⟨g3, 0, none⟩) from by rw [hg3]]
  clear hg3 hg8 hB1 hB2
  have HSZ := Aside0.mk (show w.heap.size ≤ W0.heap.size ∧ B1 < W0.heap.size ∧ B2 < W0.heap.size from ⟨hBW.size, blk_lt k1, blk_lt k2⟩)
  have NEB := Aside0.mk (show B1 ≠ g8 ∧ B2 ≠ g8 ∧ g3 ≠ g8 from ⟨(fun e => by rw [e] at k1; rw [k1] at k8; cases k8), (fun e => by rw [e] at k2; rw [k2] at k8; cases k8), (fun e => by rw [e] at k3; rw [k3] at k8; cases k8)⟩)
  have HSP0 := Aside0.mk (show Sp g3 g8 B1 B2 ad c1 a0 l1 size w [] W0 from ⟨⟨_, k8, Kd.S_nil _ _ _ _ _⟩, k3, hBW, k1, k2, HG.out.2⟩)
  refine wpIn_rangeFunc_ownF rfl (by decide) (gf := 19) (lb := #[.pointer (some ⟨B1, 0, none⟩), .pointer (some ⟨B2, 0, none⟩)]) rfl trivial (enters_of Try.func19 (by kernel_rfl) rfl)
    (chunk_stops (9 - 1) B1 B2 ad l1.length c1 size HL.out.2.1 HL.out.1.1 (by have h_ := HL.out; omega) HL.out.1.2 HL.out.2.2.2 W0 k1 k2) K2.trans (fun W l o o' h1 h2 h3 h4 => ⟨World.putObj_heap_other (by have h_ := HSZ.out; omega), World.putObj_heap_other (by have h_ := HSZ.out; omega)⟩) (Below.refl _ _) (fun _ => rfl)
    (Sp g3 g8 B1 B2 ad c1 a0 l1 size w) (fun _ _ _ => False) (Sp.own g3 g8 B1 B2 ad c1 a0 l1 size w _ HSZ.out.1) (fun _ _ _ _ _ hs _ _ => hs) HSP0.out
    (fun x => { tmps := #[.int .i64 a0, .slice (some ad) l1.length c1, .int .i64 size, .pointer (some ⟨g3, 0, none⟩), undef, undef, .slice none 0 0, .int .i64 0, .pointer (some ⟨g8, 0, none⟩), chunkV ad l1.length size x.1, .bool false, .int .i64 a0, .bool false, .bool false, .int .i64 size, .bool false, .bool false, .bool false, .slice (some ad) l1.length c1, .int .i64 l1.length, .bool false, .bool false, .slice (some ad) l1.length c1, .int .i64 l1.length, .bool false, undef, undef, undef, .slice (some ad) l1.length c1, .int .i64 size, .func (.func 19) #[] #[.pointer (some ⟨B1, 0, none⟩), .pointer (some ⟨B2, 0, none⟩)], chunkV ad l1.length size x.1, undef, undef, undef, undef, undef, undef, undef, undef, undef, undef, undef, undef, undef, undef, undef, undef], defers := [] }) ?assign ?body ?done ?stop
  case assign =>
    intro l x W K hK
    gi_wp2
    exact hK
  case body =>
    rintro r pre x W hsp hpn
    obtain ⟨u, hu8, hus⟩ := hsp.row
    obtain ⟨Au, cu, rfl⟩ := Kd.S_slice hus
    have HPN := Aside0.mk (show pre.length < 1000000 from by have h_ := HL.out; have h3_ := div_le (len := l1.length) (size := size) h_.1.1 h_.2.1; omega)
    have hcp : Kd.C (Kd.int .i64) W (some (ad.add (x.1 * size))) (part l1 size x.1).length (part l1 size x.1) := part_C (c := c1) (Kd.C_below HR.out hsp.bel) size x.1 x.2 HL.out.2.2.2
    have HPL := Aside0.mk (show (part l1 size x.1).length < 1000000 from by rw [part_len]; unfold ce; have h_ := HL.out; split <;> omega)
    have hcv : chunkV ad l1.length size x.1 = .slice (some (ad.add (x.1 * size))) (part l1 size x.1).length (part l1 size x.1).length := by rw [part_len]; rfl
    rw [hcv]
    have HB := Aside0.mk hsp.bel
    have HU := Aside0.mk hus
    have BK8 := Aside0.mk hu8
    have BK3 := Aside0.mk hsp.tok
    have BK1 := Aside0.mk hsp.b1
    have BK2 := Aside0.mk hsp.b2
    clear hu8 hus hsp hpn hcv
    gi_wp2
    refine Ri.start_in (n := 10) (S := fun w' => w'.cell? ⟨g8, 0, none⟩ = some (.slice Au (cl a0 l1 size pre).length cu) ∧ w'.cell? ⟨g3, 0, none⟩ = some (.int .i64 a0)) (ds := [9]) #[false, false, false, false, false, false, false, false, false, false] (by kernel_rfl) rfl rfl (by kernel_rfl) (by rintro ⟨_, _, h_⟩; exact h_) ⟨(blk_cell (blk_drew BK8.out) 0).trans rfl, (blk_cell (blk_drew BK3.out) 0).trans rfl⟩ (fun hHeld => ?_)
    have hb := below_drew1 (Below.refl W.heap.size W)
    have HKO := Aside0.mk (KeepsOthers.refl W)
    have HK2 := Aside0.mk (show K2 B1 B2 W W from ⟨rfl, rfl⟩)
    have HCP := Aside0.mk (Kd.C_below hcp hb)
    have m1_ := Aside0.mk (below_step HB.out hb)
    have m2_ := Aside0.mk (Kd.S_below HU.out hb)
    have m3_ := Aside0.mk (blk_below BK8.out hb)
    have m4_ := Aside0.mk (blk_below BK3.out hb)
    have m5_ := Aside0.mk (blk_below BK1.out hb)
    have m6_ := Aside0.mk (blk_below BK2.out hb)
    have m7_ := Aside0.mk (HKO.out.trans (ko_below hb))
    have m8_ := Aside0.mk (HK2.out.trans (k2_below (blk_lt BK1.out) (blk_lt BK2.out) hb))
    clear HB HU BK8 BK3 BK1 BK2 HKO HK2
    have HB := m1_
    have HU := m2_
    have BK8 := m3_
    have BK3 := m4_
    have BK1 := m5_
    have BK2 := m6_
    have HKO := m7_
    have HK2 := m8_
    clear m1_ m2_ m3_ m4_ m5_ m6_ m7_ m8_
    clear hb hcp
    generalize W.drew = w4 at HB HU BK8 BK3 BK1 BK2 HKO HK2 HCP hHeld ⊢
    refine take_ (i := 0) (N := some 32) (v := ?_) (a' := ?_) #[true, false, false, false, false, false, false, false, false, false] rfl rfl (by kernel_rfl) (fun _ _ _ h => h) (Or.inl ⟨by rfl, ?_⟩) hHeld ?_ ?_
    rotate_left
    · rintro w' ⟨s0, s1⟩
      go_simp
      with_reducible rfl
    rotate_left
    · simp only [Act.put, List.setIfInBounds_toArray, List.set_cons_zero, List.set_cons_succ, i64_w, i32_w]
      rfl
    refine take_ (i := 1) (N := some 33) (v := ?_) (a' := ?_) #[true, true, false, false, false, false, false, false, false, false] rfl rfl (by kernel_rfl) (fun _ _ _ h => h) (Or.inl ⟨by rfl, ?_⟩) hHeld ?_ ?_
    rotate_left
    · rintro w' ⟨s0, s1⟩
      go_simp
      with_reducible rfl
    rotate_left
    · simp only [Act.put, List.setIfInBounds_toArray, List.set_cons_zero, List.set_cons_succ, i64_w, i32_w]
      rfl
    refine take_ (i := 2) (N := some 34) (v := ?_) (a' := ?_) #[true, true, true, false, false, false, false, false, false, false] rfl rfl (by kernel_rfl) (fun _ _ _ h => h) (Or.inl ⟨by rfl, ?_⟩) hHeld ?_ ?_
    rotate_left
    · rintro w' ⟨s0, s1⟩
      go_simp
      with_reducible rfl
    rotate_left
    · simp only [Act.put, List.setIfInBounds_toArray, List.set_cons_zero, List.set_cons_succ, i64_w, i32_w]
      rfl
    refine pure_ (i := 3) (N := some 35) (v := ?_) (a' := ?_) #[true, true, true, true, false, false, false, false, false, false] rfl rfl (by kernel_rfl) (fun _ _ _ h => h) (Or.inl ⟨by rfl, ?_⟩) ?_ ?_
    rotate_left
    · intro w'
      go_simp
      with_reducible rfl
    rotate_left
    · simp only [Act.put, List.setIfInBounds_toArray, List.set_cons_zero, List.set_cons_succ, i64_w, i32_w]
      rfl
    refine pure_ (i := 4) (N := some 36) (v := ?_) (a' := ?_) #[true, true, true, true, true, false, false, false, false, false] rfl rfl (by kernel_rfl) (fun _ _ _ h => h) (Or.inl ⟨by rfl, ?_⟩) ?_ ?_
    rotate_left
    · intro w'
      go_simp
      with_reducible rfl
    rotate_left
    · simp only [Act.put, List.setIfInBounds_toArray, List.set_cons_zero, List.set_cons_succ, i64_w, i32_w]
      rfl
    refine one_ (i := 5) (N := some 37) #[true, true, true, true, true, true, false, false, false, false] rfl rfl (by kernel_rfl) (by decide) (fun K hK => ?_)
    refine goes_ Try.func16 (by kernel_rfl) rfl #[.slice (some (ad.add (x.1 * size))) (part l1 size x.1).length (part l1 size x.1).length] (by rfl) rfl rfl (by (try simp only [List.map_toArray, List.map_cons, List.map_nil]); first | done | rfl) ?_
    refine (sc_calls (some (ad.add (x.1 * size))) (part l1 size x.1).length (part l1 size x.1) _ HCP.out (Nat.le_refl _) HPL.out).mono ?_
    rintro e_ w5 ⟨vp, rfl, hvp, hb⟩
    refine ⟨_, rfl, ?_⟩
    obtain ⟨Ap, cp, rfl⟩ := Kd.R_slice hvp
    have HVP := Aside0.mk (Kd.R_tight rfl hvp)
    have HVB := Aside0.mk (Kd.R_base hvp)
    have L4 := Aside0.mk (show (w.heap.size ≤ w4.heap.size) ∧ ∀ k, (Value.slice Au (cl a0 l1 size pre).length cu).ownBlock = some k → k < w4.heap.size from ⟨HB.out.size, Kd.S_lt HU.out⟩)
    have HUO := Aside0.mk (Kd.S_old HU.out hb)
    clear hvp
    have m1_ := Aside0.mk (below_step HB.out hb)
    have m2_ := Aside0.mk (Kd.S_below HU.out hb)
    have m3_ := Aside0.mk (blk_below BK8.out hb)
    have m4_ := Aside0.mk (blk_below BK3.out hb)
    have m5_ := Aside0.mk (blk_below BK1.out hb)
    have m6_ := Aside0.mk (blk_below BK2.out hb)
    have m7_ := Aside0.mk (HKO.out.trans (ko_below hb))
    have m8_ := Aside0.mk (HK2.out.trans (k2_below (blk_lt BK1.out) (blk_lt BK2.out) hb))
    clear HB HU BK8 BK3 BK1 BK2 HKO HK2
    have HB := m1_
    have HU := m2_
    have BK8 := m3_
    have BK3 := m4_
    have BK1 := m5_
    have BK2 := m6_
    have HKO := m7_
    have HK2 := m8_
    clear m1_ m2_ m3_ m4_ m5_ m6_ m7_ m8_
    
    refine hK.out _ _ ⟨(blk_cell BK8.out 0).trans rfl, (blk_cell BK3.out 0).trans rfl⟩ (fun hHeld => ?_)
    clear hK K
    refine norm_ (a' := ?_) ?_ ?_
    rotate_left
    · show Act.put _ (some 37) _ = _
      simp only [Act.put, List.setIfInBounds_toArray, List.set_cons_zero, List.set_cons_succ, i64_w, i32_w]
      rfl
    refine pure_ (i := 6) (N := some 38) (v := ?_) (a' := ?_) #[true, true, true, true, true, true, true, false, false, false] rfl rfl (by kernel_rfl) (fun _ _ _ h => h) (Or.inl ⟨by rfl, ?_⟩) ?_ ?_
    rotate_left
    · intro w'
      go_simp
      with_reducible rfl
    rotate_left
    · simp only [Act.put, List.setIfInBounds_toArray, List.set_cons_zero, List.set_cons_succ, i64_w, i32_w]
      rfl
    refine one_ (i := 7) (N := some 39) #[true, true, true, true, true, true, true, true, false, false] rfl rfl (by kernel_rfl) (by decide) (fun K hK => ?_)
    refine value_ (w1 := ?_) (v := ?_) (by rfl) rfl ?_ ?_
    rotate_left 2
    · go_simp
      constructor
      · rfl
      · rfl
    refine hK.out _ _ ⟨(blk_cell (blk_alloc BK8.out _) 0).trans rfl, (blk_cell (blk_alloc BK3.out _) 0).trans rfl⟩ (fun hHeld => ?_)
    clear hK K
    refine norm_ (a' := ?_) ?_ ?_
    rotate_left
    · show Act.put _ (some 39) _ = _
      simp only [Act.put, List.setIfInBounds_toArray, List.set_cons_zero, List.set_cons_succ, i64_w, i32_w]
      rfl
    refine one_ (i := 8) (N := some 40) #[true, true, true, true, true, true, true, true, true, false] rfl rfl (by kernel_rfl) (by decide) (fun K hK => ?_)
    refine Kd.S_append_step k39 (w0 := w) w.heap.size (by rfl) (.tmp 32) (.tmp 39) 29 39 (.agg #[.int .i64 0, .int .i64 0, .bool false, .slice none 0 0]) 48 rfl Try.underlying29 info39 rfl (by decide) (by omega) (.slice Au (cl a0 l1 size pre).length cu) (cl a0 l1 size pre) (⟨a0, ((cl a0 l1 size pre).length : Int), false, part l1 size x.1⟩ : S39) [.int .i64 a0, .int .i64 ((cl a0 l1 size pre).length : Int), .bool false, .slice Ap (part l1 size x.1).length cp] (fun _ => True) (fun k => some k = (Value.slice Ap (part l1 size x.1).length cp).ownBlock) rfl rfl (k39_mkM _ _ _ (⟨a0, ((cl a0 l1 size pre).length : Int), false, part l1 size x.1⟩ : S39) (Kd.R_lower HVP.out L4.out.1)) (fun k hk => ⟨trivial, fun e_ => by have h1_ := HVB.out k hk.symm; have h2_ := L4.out.2 k e_.symm; omega⟩) (fun _ _ => trivial) (Kd.S_mono HUO.out (fun k hk => ⟨trivial, fun e_ => by have h1_ := HVB.out k e_.symm; have h2_ := hk.2; omega⟩)) HB.out HB.out.size (by rw [cl_len]; have h_ := HPN.out; omega) ?_
    intro u1 w8 ho hb hg hat
    obtain ⟨A9, n9, c9, rfl⟩ : ∃ A n c, u1 = .slice A n c := by obtain ⟨A, c, e⟩ := Kd.S_slice ho; exact ⟨A, _, c, e⟩
    rw [← cl_snoc'] at ho
    have NE8 := Aside0.mk (Kd.S_ne HU.out BK8.out (by decide))
    have NE3 := Aside0.mk (Kd.S_ne HU.out BK3.out (by decide))
    have NE1 := Aside0.mk (Kd.S_ne HU.out BK1.out (by decide))
    have NE2 := Aside0.mk (Kd.S_ne HU.out BK2.out (by decide))
    have m1_ := Aside0.mk hb
    have m2_ := Aside0.mk ho
    have m3_ := Aside0.mk (blk_grown BK8.out hg NE8.out)
    have m4_ := Aside0.mk (blk_grown BK3.out hg NE3.out)
    have m5_ := Aside0.mk (blk_grown BK1.out hg NE1.out)
    have m6_ := Aside0.mk (blk_grown BK2.out hg NE2.out)
    have m7_ := Aside0.mk (HKO.out.trans (KeepsOthers.of_grownBy hg (fun j o h1_ h2_ => by obtain ⟨cells, h3_⟩ := Kd.S_typed HU.out j h1_; rw [h3_] at h2_; injection h2_ with h2_; subst h2_; rfl)))
    have m8_ := Aside0.mk (HK2.out.trans (show K2 B1 B2 w5 w8 from ⟨hg.block B1 (blk_lt BK1.out) NE1.out, hg.block B2 (blk_lt BK2.out) NE2.out⟩))
    clear HB HU BK8 BK3 BK1 BK2 HKO HK2 hb ho hg hat
    have HB := m1_
    have HU := m2_
    have BK8 := m3_
    have BK3 := m4_
    have BK1 := m5_
    have BK2 := m6_
    have HKO := m7_
    have HK2 := m8_
    clear m1_ m2_ m3_ m4_ m5_ m6_ m7_ m8_
    refine hK.out _ _ ⟨(blk_cell BK8.out 0).trans rfl, (blk_cell BK3.out 0).trans rfl⟩ (fun hHeld => ?_)
    clear hK K
    refine norm_ (a' := ?_) ?_ ?_
    rotate_left
    · show Act.put _ (some 40) _ = _
      simp only [Act.put, List.setIfInBounds_toArray, List.set_cons_zero, List.set_cons_succ, i64_w, i32_w]
      rfl
    refine last_ (i := 9) (N := none) #[true, true, true, true, true, true, true, true, true, true] rfl rfl (by kernel_rfl) (by decide) (fun K hK => ?_)
    refine skip_ (w1 := w8.setCell ⟨g8, 0, none⟩ (.slice A9 n9 c9)) (by rfl) rfl ?_ ?_
    · have c0 : w8.cell? ⟨g8, 0, none⟩ = some (.slice Au (cl a0 l1 size pre).length cu) := (blk_cell BK8.out 0).trans rfl
      have d0 := blk_frozen BK8.out 0
      go_simp
      try rfl
    refine hK.out _ _ ?_
    clear hK K
    refine done_ (by kernel_rfl) ?_
    gi_wp2
    exact ⟨HKO.out.trans (KeepsOthers.setCell _ _ _), HK2.out.trans ⟨Below.heap_setCell _ _ _ _ (NEB.out.1), Below.heap_setCell _ _ _ _ (NEB.out.2.1)⟩,
      ⟨⟨_, blk_put BK8.out 0 _ rfl, Kd.S_set HU.out BK8.out (by decide) 0 _⟩, (Below.heap_setCell _ _ _ _ (NEB.out.2.2)).trans BK3.out, HB.out.setCell HG.out.2 _, (Below.heap_setCell _ _ _ _ (NEB.out.1)).trans BK1.out, (Below.heap_setCell _ _ _ _ (NEB.out.2.1)).trans BK2.out, HG.out.2⟩⟩
  case done =>
    rintro D' xs W hD hxs hsp hK
    obtain ⟨u, hu8, hus⟩ := hsp.row
    obtain ⟨m, hm⟩ : ∃ m, (l1.length + size - 1) / size = m + 1 := by
      have h_ := HL.out
      have : 0 < (l1.length + size - 1) / size := Nat.div_pos (by omega) (by omega)
      exact ⟨_, (Nat.succ_pred_eq_of_pos this).symm⟩
    have hml : m < 1000000 := by have h_ := HL.out; have h3_ := div_le (len := l1.length) (size := size) h_.1.1 h_.2.1; omega
    obtain ⟨hc1_, hc2_⟩ := cl_all a0 l1 size m xs hxs hm
    have hlen : (cl a0 l1 size xs).length = m + 1 := by
      rw [cl_len]
      have := congrArg List.length hxs
      rwa [List.length_map, List.length_range, hm] at this
    obtain ⟨inner, hown⟩ := Kd.S_own hus
    rw [hlen] at hown
    rcases hown.2 with ⟨hv, hz_⟩ | ⟨g, cap, cur, hv, hbg, hh, hnc, hcm, hcs, _⟩
    · exfalso
      obtain ⟨A_, c_, e_⟩ := Kd.S_slice hus
      rw [hv, hlen] at e_
      cases e_
    subst hv
    obtain ⟨hS, hG, u0, hu0⟩ := last_set hus hc1_
    rw [hc2_] at hS
    have hfr := blk_frozen hh (m * 4 + 2)
    have hne : g8 ≠ g := fun e => by subst e; rw [hu8] at hh; cases hh
    have c8 : W.cell? ⟨g8, 0, none⟩ = some (.slice (some ⟨g, 0, none⟩) (m + 1) cap) := (blk_cell hu8 0).trans rfl
    have c8b : (W.setCell ⟨g, m * 4 + 2, none⟩ (.bool true)).cell? ⟨g8, 0, none⟩ = some (.slice (some ⟨g, 0, none⟩) (m + 1) cap) := (blk_cell (blk_grown hu8 hG (fun e => by injection e with e; exact hne e)) 0).trans rfl
    have hKd : (W.setCell ⟨g, m * 4 + 2, none⟩ (.bool true)).heap[D']? = some (.deferred (some [])) := (hG.block D' (blk_lt hK) (fun e => by injection e with e; subst e; rw [hK] at hh; cases hh)).trans hK
    have hbel : Below w.heap.size w (W.setCell ⟨g, m * 4 + 2, none⟩ (.bool true)) := hsp.bel.setCell hbg _
    have hb1 : decide ((m : Int) < 0) = false := decide_eq_false (by omega)
    have hwm : wrap64 (m : Int) = m ∧ IntKind.i64.wrap (m : Int) = m := w64_mk (by omega)
    obtain ⟨hwm1, hwm2⟩ := hwm
    have HS := Aside0.mk hS
    have HBL := Aside0.mk hbel
    have HKD := Aside0.mk hKd
    clear hS hbel hKd hus hsp hxs hc1_ hc2_ hm hml hlen hown hu8 hK hcs
    gi_wp2
    have hgp := grownBy_putObj' (W.setCell ⟨g, m * 4 + 2, none⟩ (.bool true)) D' (.deferred none)
    refine ⟨by simp, .inl ⟨_, _, rfl, run_takeDeferred HKD.out, ?_⟩⟩
    refine ⟨.tuple #[.slice (some ⟨g, 0, none⟩) (m + 1) cap, .int .i64 0], by simp [results, Try.f8, go_sem], _, rfl, ?_, ?_⟩
    · exact Kd.S_mono (Kd.S_grown (Kd.S_bound HS.out) hgp (fun k hk e => by obtain ⟨_, _, _, q, _, cells, hc⟩ := hk; injection e with e; subst e; rw [HKD.out] at hc; cases hc)) (fun k hk => hk.1)
    · exact HBL.out.grown hgp HBL.out.size (fun k e => by injection e with e; subst e; have h_ := HSZ.out; omega)
  case stop =>
    rintro D' c pre W _ _ h _
    exact h.elim
def progress_Split.f (a0 : Int) (l1 : List Int) (a2 : Int) : Option ((List (S39)) × Int) :=
  if a0 < 0 then some ([], 1) else if a2 < 1 then some ([], 1) else if 1000 < (l1.length : Int) then some ([], 2) else if l1.length = 0 then some ([⟨a0, 0, true, []⟩], 0) else if a2 < 1000000000 then some (chunksF a0 l1 a2.toNat, 0) else none
set_option maxHeartbeats 8000000 in
set_option maxRecDepth 100000 in
theorem split_bad (a0 : Int) (A1 : Option Addr) (c1 : Nat) (l1 : List Int) (a2 : Int) (w : World) (hb : a0 < 0 ∨ a2 < 1) :
    Calls Try.prog 8 #[.int .i64 a0, .slice A1 l1.length c1, .int .i64 a2] w fun e w' => e = .returned (.tuple #[.slice none 0 0, .int .i64 1]) ∧ Below w.heap.size w w' := by
  by_cases h0 : a0 < 0
  · have f0 : decide (a0 < 0) = true := decide_eq_true h0
    go_enter Try.func8, Try.ntmps8
    go_wp2
    go_ret2
    exact ⟨rfl, below_alloc (Below.refl _ _) _⟩
  · have f0 : decide (a0 < 0) = false := decide_eq_false h0
    have f1 : decide (a2 < 1) = true := decide_eq_true (by omega)
    go_enter Try.func8, Try.ntmps8
    go_wp2
    go_ret2
    exact ⟨rfl, below_alloc (Below.refl _ _) _⟩
set_option maxHeartbeats 8000000 in
set_option maxRecDepth 100000 in
theorem split_big (a0 : Int) (A1 : Option Addr) (c1 : Nat) (l1 : List Int) (a2 : Int) (w : World) (h0 : 0 ≤ a0) (h1 : 1 ≤ a2) (h2 : 1000 < (l1.length : Int)) :
    Calls Try.prog 8 #[.int .i64 a0, .slice A1 l1.length c1, .int .i64 a2] w fun e w' => e = .returned (.tuple #[.slice none 0 0, .int .i64 2]) ∧ Below w.heap.size w w' := by
  have f0 : decide (a0 < 0) = false := decide_eq_false (by omega)
  have f1 : decide (a2 < 1) = false := decide_eq_false (by omega)
  have f2 : decide ((l1.length : Int) > 1000) = true := decide_eq_true (by omega)
  have f2b : decide (1000 < (l1.length : Int)) = true := f2
  go_enter Try.func8, Try.ntmps8
  go_wp2
  go_ret2
  exact ⟨rfl, below_alloc (Below.refl _ _) _⟩
set_option maxHeartbeats 8000000 in
set_option maxRecDepth 100000 in
theorem split_none (a0 : Int) (A1 : Option Addr) (c1 : Nat) (a2 : Int) (w : World) (h0 : 0 ≤ a0) (h1 : 1 ≤ a2) :
    Calls Try.prog 8 #[.int .i64 a0, .slice A1 0 c1, .int .i64 a2] w fun e w' => ∃ v, e = .returned (.tuple #[v, .int .i64 0]) ∧ Kd.S k39 39 w' w.heap.size (fun _ => True) v [⟨a0, 0, true, []⟩] ∧ Below w.heap.size w w' := by
  have f0 : decide (a0 < 0) = false := decide_eq_false (by omega)
  have f1 : decide (a2 < 1) = false := decide_eq_false (by omega)
  have hu39 := Try.underlying39
  have hBW : Below w.heap.size w (w.alloc (.cells #[.int .i64 a0] 3)) := below_alloc (Below.refl _ _) _
  have HB := Aside0.mk hBW
  have HREP := Aside0.mk (show ∀ W : World, ∀ j x, ([(⟨a0, 0, true, []⟩ : S39)])[j]? = some x → k39.M W w.heap.size (fun _ => False) x (([.int .i64 a0, .int .i64 0, .bool true, .slice none 0 0].drop (j * k39.sz)).take k39.sz) from by
    intro W j x hj
    cases j with
    | zero =>
      have e_ : (⟨a0, 0, true, []⟩ : S39) = x := by injection hj
      subst e_
      exact k39_mkM W _ _ (⟨a0, 0, true, []⟩ : S39) (Kd.R_nil _ _ _ _ _)
    | succ j => simp at hj)
  clear hBW
  go_enter Try.func8, Try.ntmps8
  go_wp2_with ((with_reducible refine gate_dst (N := 27) rfl ?_); refine Kd.S_lits k39 w.heap.size 39 ?hg (N := 27) ?hd (xs := [(⟨a0, 0, true, []⟩ : S39)]) (inner := [.int .i64 a0, .int .i64 0, .bool true, .slice none 0 0]) (ok := fun _ => True) (fun _ _ => False) ?hr rfl ?hrep (fun _ _ _ h _ => h.elim) (fun _ _ h => h.elim) trivial HB.out HB.out.size (by simp) ?_; (case hd => rfl); (case hg => rfl); (case hr => first | (go_simp; done) | (go_simp; rfl)); (case hrep => exact HREP.out _); intro v1_ w1_ hS_ hB_ hG_ hX_; have HS := Aside0.mk hS_; have HB2 := Aside0.mk hB_; clear hS_ hB_ hG_ hX_)
  go_ret2
  exact ⟨_, rfl, HS.out, HB2.out⟩
theorem progress_Split.calls (a0 : Int) (A1 : Option Addr) (c1 : Nat) (l1 : List Int) (a2 : Int) (r1 : List (S39)) (r2 : Int) (w : World) (hr1 : Kd.C (Kd.int .i64) w A1 l1.length l1) (hc1 : l1.length ≤ c1) (h : progress_Split.f a0 l1 a2 = some (r1, r2)) :
    Calls Try.prog 8 #[.int .i64 a0, .slice A1 l1.length c1, .int .i64 a2] w fun e w' => ∃ v0_ : Value, e = .returned (.tuple #[v0_, .int .i64 r2]) ∧ Kd.S k39 39 w' w.heap.size (fun _ => True) v0_ r1 ∧ Below w.heap.size w w' := by
  unfold progress_Split.f at h
  by_cases h0 : a0 < 0
  · rw [if_pos h0] at h
    cases h
    exact (split_bad a0 A1 c1 l1 a2 w (.inl h0)).mono (fun e w' hh => ⟨_, hh.1, Kd.S_nil _ _ _ _ _, hh.2⟩)
  rw [if_neg h0] at h
  by_cases h1 : a2 < 1
  · rw [if_pos h1] at h
    cases h
    exact (split_bad a0 A1 c1 l1 a2 w (.inr h1)).mono (fun e w' hh => ⟨_, hh.1, Kd.S_nil _ _ _ _ _, hh.2⟩)
  rw [if_neg h1] at h
  by_cases h2 : 1000 < (l1.length : Int)
  · rw [if_pos h2] at h
    cases h
    exact (split_big a0 A1 c1 l1 a2 w (by omega) (by omega) h2).mono (fun e w' hh => ⟨_, hh.1, Kd.S_nil _ _ _ _ _, hh.2⟩)
  rw [if_neg h2] at h
  by_cases h3 : l1.length = 0
  · rw [if_pos h3] at h
    cases h
    rw [h3]
    exact split_none a0 A1 c1 a2 w (by omega) (by omega)
  rw [if_neg h3] at h
  by_cases h4 : a2 < 1000000000
  · rw [if_pos h4] at h
    cases h
    obtain ⟨size, rfl⟩ := Int.eq_ofNat_of_zero_le (show 0 ≤ a2 by omega)
    exact split_many a0 A1 c1 l1 size w (by omega) (by omega) (by omega) (by omega) (by omega) hr1 hc1
  · rw [if_neg h4] at h
    cases h
end Go.Proofs.Ytpbljheelkpaiaa.Pg
