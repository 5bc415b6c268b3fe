/- slices.Insert of one key into a row of keys of one's own. Condition: the place is not behind the row's end. -/
import Derived.Test.YteekdkkfegcoeaaDghKy
import Derived.Lib.AppendZerosOnto
import Derived.Lib.Overlaps
import Derived.Shelf.Spec.SlicesInsert
import Derived.Laws.NewBlocks
namespace Go.Proofs.Yteekdkkfegcoeaa.Dg
open Go.RowKit Go.Sort Go.Lib Go.Proofs.YteekdkkfegcoeaaW.PrintWords Go.Proofs.YteekdkkfegcoeaaW.PrintLast Go.Proofs.YteekdkkfegcoeaaW.PrintMore
open Go.Proofs.Yteekdkkfegcoeaa
set_option linter.unusedVariables false
set_option linter.unusedSimpArgs false
attribute [local go_sem] Oper.semAt_some
/-- the cells of a list of keys -/
def flatK : List S24 → List Value
  | [] => []
  | x :: r => cells3 x ++ flatK r
theorem flatK_len : ∀ xs : List S24, (flatK xs).length = xs.length * 3
  | [] => rfl
  | x :: r => by rw [flatK, List.length_append, flatK_len r, List.length_cons]; simp only [cells3, List.length_cons, List.length_nil]; omega
theorem flatK_app : ∀ xs ys : List S24, flatK (xs ++ ys) = flatK xs ++ flatK ys
  | [], ys => rfl
  | x :: r, ys => by rw [List.cons_append, flatK, flatK, flatK_app r ys, List.append_assoc]
theorem flatK_one : ∀ (xs : List S24) (v : Value), v ∈ flatK xs → v.oneCell' = true
  | [], v, h => by cases h
  | x :: r, v, h => by
    rw [flatK, List.mem_append] at h
    rcases h with h | h
    · simp only [cells3, List.mem_cons, List.not_mem_nil, or_false] at h
      rcases h with rfl | rfl | rfl <;> rfl
    · exact flatK_one r v h
theorem cells3_one (x : S24) (v : Value) (h : v ∈ cells3 x) : v.oneCell' = true := by
  simp only [cells3, List.mem_cons, List.not_mem_nil, or_false] at h
  rcases h with rfl | rfl | rfl <;> rfl
section
variable {P : Program}
/-- copy, elements of k cells -/
theorem copy_k (w : World) (dT sT ty elem : TypeId) (k b o dLen dCap : Nat) (a : Addr) (sLen sCap : Nat) (cs : List Value)
    (hu : P.underlying dT = some (.slice elem)) (hs : (P.info? elem).map (·.size) = some k) (hn : cs.length = Nat.min sLen dLen * k)
    (hsrc : ∀ j v, cs[j]? = some v → w.cell? (a.add j) = some v)
    (hd : ∀ j, j < cs.length → (w.cell? ⟨b, o + j, none⟩).isSome = true) (hf : ∀ j, j < cs.length → w.frozen? ⟨b, o + j, none⟩ = false) (h1 : ∀ v ∈ cs, v.oneCell' = true) :
    (Builtin.copy_ #[dT, sT] ty #[.slice (some ⟨b, o, none⟩) dLen dCap, .slice (some a) sLen sCap]).run P w = .ok (goInt (Nat.min sLen dLen)) (w.setCells b o cs) := by
  have hl := run_firstCells_some (P := P) w k (Nat.min sLen dLen) a sLen sCap cs hn hsrc
  have hst := run_storeCells_cells (P := P) b o cs 0 w (by simpa using hd) (by simpa using hf) h1
  cases hq : P.info? elem with
  | none => simp [hq] at hs
  | some i =>
    have hi : i.size = k := by simpa [hq] using hs
    simp [Builtin.copy_, run_underlying hu, Builtin.lenOf, sizeOf, typeInfo, hq, hi, hl, hst]
end
theorem spl {α : Type} (A Z cs : List α) (o m : Nat) (ho : o = A.length) (hm : m = o + cs.length) : (A ++ Z).take o ++ cs ++ (A ++ Z).drop m = A ++ cs ++ Z.drop cs.length := by
  subst ho
  subst hm
  simp [List.drop_append]
theorem info24z : (Try.prog.info? 24).map (·.size) = some 3 := by kernel_rfl
theorem info24k : (Try.prog.info? 24).map (fun i => (i.zero, i.size, i.bytes)) = some (some (.agg #[.int .i64 0, .int .i64 0, .int .i64 0]), 3, 24) := by kernel_rfl
theorem flat_at {xs : List S24} (i : Nat) : flatK xs = flatK (xs.take i) ++ flatK (xs.drop i) := by
  rw [← flatK_app, List.take_append_drop]
/-- the row's end: one key appended -/
def Ins (W : World) (base : Nat) (v : Value) (xs : List S24) (k : S24) (i : Nat) (e : Ending) (w' : World) : Prop :=
  ∃ v', e = .returned v' ∧ w'.ownsRow base 24 3 v' (xs.length + 1) (flatK (xs.take i ++ k :: xs.drop i)) ∧ W.grownBy w' v.ownBlock ∧ (v'.ownBlock = v.ownBlock ∨ ∃ b, v'.ownBlock = some b ∧ W.heap.size ≤ b)
set_option maxHeartbeats 8000000 in
set_option maxRecDepth 100000 in
theorem ins_end (base : Nat) (A : Option Addr) (c : Nat) (xs : List S24) (k : S24) (W : World) (hown : W.ownsRow base 24 3 (.slice A xs.length c) xs.length (flatK xs)) (hc : xs.length ≤ c) (hbase : base ≤ W.heap.size) (hl : xs.length < 1000000) :
    Calls Try.prog 34 #[.slice A xs.length c, .int .i64 (xs.length : Int), .slice (some ⟨W.heap.size, 0, none⟩) 1 1] (W.alloc (.cells (cells3 k).toArray 24)) fun e w' => Ins W base (.slice A xs.length c) xs k xs.length e w' := by
  have hu24 := Try.underlying24
  have hu26 := Try.underlying26
  have HO := Aside0.mk hown
  have HB := Aside0.mk hbase
  clear hown hbase
  generalize hn : xs.length = n at HO hc hl ⊢
  have HN := Aside0.mk hn
  clear hn
  go_enter Try.func34, Try.ntmps34
  go_wp2_with (at_builtin; refine print_append_cells (w0 := W) base rfl _ _ 26 24 (.agg #[.int .i64 0, .int .i64 0, .int .i64 0]) 3 24 rfl hu26 info24k rfl (by omega) (by omega) (.slice A n c) n (flatK xs) (cells3 k) rfl rfl rfl (cells3_one k) HO.out (Below.refl _ _) HB.out (by omega) ?_; intro v1 w1 q1 _ q2 q3)
  all_goals
    have hI : Ins W base (.slice A n c) xs k n (.returned v1) w1 := by
      refine ⟨_, rfl, ?_, q2, q3⟩
      rw [← HN.out, List.take_length, List.drop_length, flatK_app, HN.out]
      simpa [flatK] using q1
    go_ret
    first | exact hI | (have hc_ : c = n := by assumption
                        rw [hc_] at hI; exact hI)

theorem own_some {W : World} {base g n c : Nat} {fl : List Value} (h : W.ownsRow base 24 3 (.slice (some ⟨g, 0, none⟩) n c) n fl) : ∃ cur, base ≤ g ∧ W.heap[g]? = some (.cells cur 24 (0, 0)) ∧ n ≤ c ∧ c ≤ maxLen ∧ cur.size = c * 3 ∧ cur.toList.take (n * 3) = fl := by
  rcases h.2 with ⟨he, _⟩ | ⟨g', c', cur, he, r⟩
  · cases he
  · simp only [Value.slice.injEq, Option.some.injEq, Addr.mk.injEq, and_true, true_and] at he
    obtain ⟨rfl, rfl⟩ := he
    exact ⟨cur, r⟩
set_option maxHeartbeats 8000000 in
set_option maxRecDepth 100000 in
theorem ins_shift (base g c i : Nat) (xs : List S24) (k : S24) (W : World) (hown : W.ownsRow base 24 3 (.slice (some ⟨g, 0, none⟩) xs.length c) xs.length (flatK xs)) (hi : i < xs.length) (hroom : xs.length < c) (hbase : base ≤ W.heap.size) (hl : xs.length < 1000000) :
    Calls Try.prog 34 #[.slice (some ⟨g, 0, none⟩) xs.length c, .int .i64 (i : Int), .slice (some ⟨W.heap.size, 0, none⟩) 1 1] (W.alloc (.cells (cells3 k).toArray 24)) fun e w' => Ins W base (.slice (some ⟨g, 0, none⟩) xs.length c) xs k i e w' := by
  have mixed : Try.prog.follows .mixedOrders = true := by kernel_rfl
  have hu24 := Try.underlying24
  have hu26 := Try.underlying26
  obtain ⟨cur, hbg, hg, hnc, hcm, hcs, htake⟩ := own_some hown
  have hglt : g < W.heap.size := (Array.getElem?_eq_some_iff.1 hg).1
  have hgne : g ≠ W.heap.size := by omega
  obtain ⟨W0, hW0⟩ : ∃ W0, W0 = W.alloc (.cells (cells3 k).toArray 24) := ⟨_, rfl⟩
  have hg0 : W0.heap[g]? = some (.cells cur 24 (0, 0)) := by rw [hW0]; exact blk_alloc hg _
  have hb0 : W0.heap[W.heap.size]? = some (.cells (cells3 k).toArray 24 (0, 0)) := by rw [hW0]; exact blk_new W _
  obtain ⟨T3, hT3⟩ : ∃ t, t = flatK (xs.drop i) := ⟨_, rfl⟩
  obtain ⟨n, hn⟩ : ∃ n, n = xs.length := ⟨_, rfl⟩
  rw [← hn] at hi hroom hl hnc htake ⊢
  have hTl : T3.length = (n - i) * 3 := by rw [hT3, flatK_len, List.length_drop, hn]
  have hcell : ∀ j v, T3[j]? = some v → W0.cell? ⟨g, i * 3 + j, none⟩ = some v := fun j v hj => by
    rw [blk_cell hg0, ← Array.getElem?_toList]
    have hjl := (List.getElem?_eq_some_iff.1 hj).1
    have h1 : (cur.toList.take (n * 3))[i * 3 + j]? = some v := by
      rw [htake, flat_at i, ← hT3, List.getElem?_append_right (by rw [flatK_len, List.length_take]; omega)]
      rw [flatK_len, List.length_take, Nat.min_eq_left (by omega), Nat.add_sub_cancel_left]
      exact hj
    rw [List.getElem?_take] at h1
    split at h1
    · exact h1
    · cases h1
  have hT1 : ∀ v ∈ T3, v.oneCell' = true := fun v hv => flatK_one _ v (hT3 ▸ hv)
  have hsome : ∀ j, j < c * 3 → (W0.cell? ⟨g, j, none⟩).isSome = true := fun j hj => by
    rw [blk_cell hg0, Array.getElem?_eq_getElem (by omega)]; rfl
  have hfz : ∀ j, W0.frozen? ⟨g, j, none⟩ = false := fun j => blk_frozen hg0 j
  have hov : ∀ lb cb, (callFunc 39 #[.slice (some ⟨W.heap.size, 0, none⟩) 1 1, .slice (some ⟨g, (i + 1) * 3, none⟩) lb cb]).run Try.prog W0 = .ok (.value (.bool false)) W0 := fun lb cb => by
    rw [run_callFunc_extern Try.func39 (by kernel_rfl) (by kernel_rfl) (by kernel_rfl) (e := Extern.SlicesOverlaps.overlaps #[26, 26] #[4]) (by kernel_rfl),
      Lib.run_overlaps_apart W0 26 4 24 hu26 3 (fun w => by obtain ⟨i0, hi0, hz⟩ := Option.map_eq_some_iff.1 info24z; simp [sizeOf, typeInfo, hi0, hz]) ⟨W.heap.size, 0, none⟩ ⟨g, (i + 1) * 3, none⟩ 1 1 lb cb (fun e_ => hgne e_.symm) 24 24 3 (c * 3) (by simp [World.shape?, hb0, cells3]) (by simp [World.shape?, hg0, hcs]) (by omega) (blk_frozen hb0 _) (blk_frozen hb0 _)]
    rfl
  obtain ⟨W1, hW1⟩ : ∃ W1, W1 = W0.drew.setCells g ((i + 1) * 3) T3 := ⟨_, rfl⟩
  have hcp1 : ∀ ty dc sc, (Builtin.copy_ #[26, 26] ty #[.slice (some ⟨g, (i + 1) * 3, none⟩) (n - i) dc, .slice (some ⟨g, i * 3, none⟩) (n + 1 - i) sc]).run Try.prog W0.drew = .ok (goInt (Nat.min (n + 1 - i) (n - i))) W1 := fun ty dc sc => by
    rw [hW1]
    refine copy_k W0.drew 26 26 ty 24 3 g ((i + 1) * 3) _ dc ⟨g, i * 3, none⟩ _ sc T3 hu26 info24z (by rw [hTl]; simp only [Nat.min_def]; split <;> omega) (fun j v hj => by rw [Addr.add_lit]; exact hcell j v hj) (fun j hj => hsome _ (by omega)) (fun j _ => hfz _) hT1
  obtain ⟨cur1, hg1, hs1, hl1⟩ := setCells_row (e := 24) T3 ((i + 1) * 3) W0.drew cur hg0 (by omega)
  rw [← hW1] at hg1
  have hb1 : W1.heap[W.heap.size]? = some (.cells (cells3 k).toArray 24 (0, 0)) := by rw [hW1, setCells_far _ _ _ (fun e_ => hgne e_.symm)]; exact hb0
  obtain ⟨W2, hW2⟩ : ∃ W2, W2 = W1.setCells g (i * 3) (cells3 k) := ⟨_, rfl⟩
  have hcp2 : ∀ ty dc, (Builtin.copy_ #[26, 26] ty #[.slice (some ⟨g, i * 3, none⟩) (n + 1 - i) dc, .slice (some ⟨W.heap.size, 0, none⟩) 1 1]).run Try.prog W1 = .ok (goInt (Nat.min 1 (n + 1 - i))) W2 := fun ty dc => by
    rw [hW2]
    refine copy_k W1 26 26 ty 24 3 g (i * 3) _ dc ⟨W.heap.size, 0, none⟩ 1 1 (cells3 k) hu26 info24z (by simp only [Nat.min_def, cells3, List.length_cons, List.length_nil]; split <;> omega) (fun j v hj => by rw [Addr.add_lit, Nat.zero_add, blk_cell hb1]; simpa using hj) (fun j hj => by rw [blk_cell hg1, Array.getElem?_eq_getElem (by simp only [cells3, List.length_cons, List.length_nil] at hj; omega)]; rfl) (fun j _ => blk_frozen hg1 _) (cells3_one k)
  obtain ⟨cur2, hg2, hs2, hl2⟩ := setCells_row (e := 24) (cells3 k) (i * 3) W1 cur1 hg1 (by simp only [cells3, List.length_cons, List.length_nil]; omega)
  rw [← hW2] at hg2
  have hI : Ins W base (.slice (some ⟨g, 0, none⟩) n c) xs k i (.returned (.slice (some ⟨g, 0, none⟩) (n + 1) c)) W2 := by
    refine ⟨_, rfl, ⟨?_, .inr ⟨g, c, cur2, by rw [hn], hbg, hg2, by omega, hcm, by omega, ?_⟩⟩, ?_, .inl rfl⟩
    · rw [flatK_len, ← hn]
      simp only [List.length_append, List.length_cons, List.length_take, List.length_drop]
      omega
    · obtain ⟨Z, hZ⟩ : ∃ Z, cur.toList = flatK xs ++ Z := ⟨cur.toList.drop (n * 3), by rw [← htake, List.take_append_drop]⟩
      rw [flat_at i, ← hT3] at hZ
      obtain ⟨A0, hA0⟩ : ∃ a, a = flatK (xs.take i) := ⟨_, rfl⟩
      have hAl : A0.length = i * 3 := by rw [hA0, flatK_len, List.length_take, Nat.min_eq_left (by omega)]
      rw [← hA0, List.append_assoc] at hZ
      have hZl : (T3 ++ Z).length = c * 3 - i * 3 := by
        have : cur.toList.length = c * 3 := by rw [Array.length_toList, hcs]
        rw [hZ, List.length_append, hAl] at this
        omega
      have e1 : cur1.toList = A0 ++ ((T3 ++ Z).take 3 ++ T3 ++ (T3 ++ Z).drop (3 + T3.length)) := by
        rw [hl1, hZ, List.take_append, List.take_of_length_le (by omega), List.drop_append, List.drop_eq_nil_of_le (by omega), hAl]
        simp only [List.nil_append, List.append_assoc]
        rw [show (i + 1) * 3 - i * 3 = 3 by omega, show (i + 1) * 3 + T3.length - i * 3 = 3 + T3.length by omega]
      have e2 : cur2.toList = A0 ++ cells3 k ++ (T3 ++ (T3 ++ Z).drop (3 + T3.length)) := by
        rw [hl2, e1, spl A0 _ (cells3 k) _ _ hAl.symm rfl]
        congr 1
        rw [List.append_assoc]
        exact List.drop_left' (by rw [List.length_take, hZl]; simp only [cells3, List.length_cons, List.length_nil]; omega)
      rw [e2, flatK_app, flatK, ← hA0, ← hT3, ← hn, List.append_assoc, ← List.append_assoc, ← List.append_assoc, ← List.append_assoc]
      exact List.take_left' (by simp only [List.length_append, cells3, List.length_cons, List.length_nil]; omega)
    · obtain ⟨p1, p2, p3, p4⟩ := setCells_same g (cells3 k) (i * 3) W1
      obtain ⟨r1, r2, r3, r4⟩ := setCells_same g T3 ((i + 1) * 3) W0.drew
      rw [← hW2] at p1 p2 p3 p4
      rw [← hW1] at r1 r2 r3 r4
      refine ⟨p1.trans (r1.trans ?_), p2.trans (r2.trans ?_), p3.trans (r3.trans ?_), ?_, fun q hq hne => ?_⟩
      · rw [hW0]; rfl
      · rw [hW0]; rfl
      · rw [hW0]; rfl
      · rw [p4, r4, hW0]
        show W.heap.size ≤ (W.heap.push _).size
        rw [Array.size_push]; omega
      · have hqg : q ≠ g := fun e_ => hne (by rw [e_]; rfl)
        rw [hW2, setCells_far _ _ _ hqg, hW1, setCells_far _ _ _ hqg, hW0]
        exact heap_alloc_old W _ hq
  have HI := Aside0.mk hI
  have hz1 : (((i : Int) + 1)).toNat = i + 1 := by omega
  have hb2 : ¬ (c = i + 1) := by omega
  have hb4 : ¬ (c = i) := by omega
  have hw1 : IntKind.i64.wrap ((i : Int) + 1) = (i : Int) + 1 := by rw [IntKind.wrap_i64]; omega
  have hw2 : IntKind.i64.wrap ((n : Int) + 1) = (n : Int) + 1 := by rw [IntKind.wrap_i64]; omega
  have hb3 : (i : Int) + 1 ≤ (n : Int) + 1 := by omega
  have hb1 : ((0 : Int) ≤ (i : Int) + 1) = True := eq_true (by omega)
  have hb6 : (i : Int) ≤ (n : Int) := by omega
  have hb7 : (i : Int) ≤ (n : Int) + 1 := by omega
  have hb8 : i ≤ n := by omega
  have hne1 : ¬ ((i : Int) = (n : Int)) := by omega
  have hb5 : ¬ ((n : Int) + 1 > (c : Int)) := by omega
  have HW0 := Aside0.mk hW0
  have HN := Aside0.mk hn
  clear hn
  clear hW1 hW2 hW0 hI hown htake hcell hg hg0 hb0 hb1 hg1 hg2 hl1 hl2 hs1 hs2 hsome hfz hT1 hT3 hTl hcm hcs hbg
  rw [← HW0.out]
  go_enter Try.func34, Try.ntmps34
  go_wp2_with (simp only [hov])
  have hb1 : ((0 : Int) ≤ (i : Int) + 1) = True := eq_true (by omega)
  go_region_law_o (refine step_copy_runI rfl _ _ 26 26 rfl _ _ (by simp [Act.eval, Act.put]) (by simp [Act.eval, Act.put]) (hcp1 _ _ _) ?_)
  go_wp2_with (at_builtin; refine wpList_copy_runI _ rfl _ _ 26 26 rfl _ _ rfl rfl (hcp2 _ _) ?_)
  go_ret
  exact HI.out

set_option maxHeartbeats 8000000 in
set_option maxRecDepth 100000 in
theorem ins_grow (base g c i : Nat) (xs : List S24) (k : S24) (W : World) (hown : W.ownsRow base 24 3 (.slice (some ⟨g, 0, none⟩) xs.length c) xs.length (flatK xs)) (hi : i < xs.length) (hroom : xs.length = c) (hbase : base ≤ W.heap.size) (hl : xs.length < 1000000) :
    Calls Try.prog 34 #[.slice (some ⟨g, 0, none⟩) xs.length c, .int .i64 (i : Int), .slice (some ⟨W.heap.size, 0, none⟩) 1 1] (W.alloc (.cells (cells3 k).toArray 24)) fun e w' => Ins W base (.slice (some ⟨g, 0, none⟩) xs.length c) xs k i e w' := by
  have mixed : Try.prog.follows .mixedOrders = true := by kernel_rfl
  have hu3 := Try.underlying3
  have hu24 := Try.underlying24
  have hu26 := Try.underlying26
  obtain ⟨cur, hbg, hg, hnc, hcm, hcs, htake⟩ := own_some hown
  have hglt : g < W.heap.size := (Array.getElem?_eq_some_iff.1 hg).1
  have hgne : g ≠ W.heap.size := by omega
  obtain ⟨W0, hW0⟩ : ∃ W0, W0 = W.alloc (.cells (cells3 k).toArray 24) := ⟨_, rfl⟩
  have hs0 : W0.heap.size = W.heap.size + 1 := by rw [hW0]; exact size_alloc1 _ _
  have hg0 : W0.heap[g]? = some (.cells cur 24 (0, 0)) := by rw [hW0]; exact blk_alloc hg _
  have hb0 : W0.heap[W.heap.size]? = some (.cells (cells3 k).toArray 24 (0, 0)) := by rw [hW0]; exact blk_new W _
  obtain ⟨T3, hT3⟩ : ∃ t, t = flatK (xs.drop i) := ⟨_, rfl⟩
  obtain ⟨A0, hA0⟩ : ∃ a, a = flatK (xs.take i) := ⟨_, rfl⟩
  obtain ⟨n, hn⟩ : ∃ n, n = xs.length := ⟨_, rfl⟩
  rw [← hn] at hi hroom hl hnc htake ⊢
  subst hroom
  have hTl : T3.length = (n - i) * 3 := by rw [hT3, flatK_len, List.length_drop, hn]
  have hAl : A0.length = i * 3 := by rw [hA0, flatK_len, List.length_take, Nat.min_eq_left (by omega)]
  have hcurt : cur.toList = A0 ++ T3 := by
    rw [hA0, hT3, ← flat_at i, ← htake, List.take_of_length_le (by rw [Array.length_toList, hcs]; omega)]
  have hcell : ∀ j v, T3[j]? = some v → W0.cell? ⟨g, i * 3 + j, none⟩ = some v := fun j v hj => by
    rw [blk_cell hg0, ← Array.getElem?_toList, hcurt, List.getElem?_append_right (by omega), hAl, Nat.add_sub_cancel_left]
    exact hj
  have hcellA : ∀ j v, A0[j]? = some v → W0.drew.cell? ((⟨g, 0, none⟩ : Addr).add j) = some v := fun j v hj => by
    rw [Addr.add_lit, Nat.zero_add]
    show W0.cell? _ = _
    rw [blk_cell hg0, ← Array.getElem?_toList, hcurt, List.getElem?_append_left (List.getElem?_eq_some_iff.1 hj).1]
    exact hj
  have hT1 : ∀ v ∈ T3, v.oneCell' = true := fun v hv => flatK_one _ v (hT3 ▸ hv)
  obtain ⟨i0, hi0, hz0, hzs, hzb⟩ : ∃ i0, Try.prog.info? 24 = some i0 ∧ i0.zero = some (.agg #[.int .i64 0, .int .i64 0, .int .i64 0]) ∧ i0.size = 3 ∧ i0.bytes = 24 := by
    obtain ⟨i0, hi0, hzz⟩ := Option.map_eq_some_iff.1 info24k
    simp only [Prod.mk.injEq] at hzz
    exact ⟨i0, hi0, hzz.1, hzz.2.1, hzz.2.2⟩
  have hold : (Builtin.firstCells i0.size i (.slice (some ⟨g, 0, none⟩) i n)).run Try.prog W0.drew = .ok A0.toArray W0.drew := by
    rw [hzs]
    exact run_firstCells_some W0.drew 3 i ⟨g, 0, none⟩ i n A0 hAl hcellA
  obtain ⟨G, hG⟩ : ∃ G, G = grownCap W0 (n + 1) n 24 := ⟨_, rfl⟩
  have hkk : (n : Int) + 1 - (i : Int) = ((n + 1 - i : Nat) : Int) := by omega
  have hik : i + (n + 1 - i) = n + 1 := by omega
  obtain ⟨ROW, hROW⟩ : ∃ ROW : Array Value, ROW = A0.toArray ++ Builtin.zeroCells (Value.agg #[.int .i64 0, .int .i64 0, .int .i64 0]).cells (n + 1 - i) ++ Builtin.zeroCells (Value.agg #[.int .i64 0, .int .i64 0, .int .i64 0]).cells (G - (n + 1)) := ⟨_, rfl⟩
  obtain ⟨W1, hW1⟩ : ∃ W1, W1 = W0.drew.alloc (.cells ROW 24) := ⟨_, rfl⟩
  have hrz : ∀ ty, (Builtin.append_ #[26, 3] ty #[.slice (some ⟨g, 0, none⟩) i n, .int .i64 ((n : Int) + 1 - (i : Int))]).run Try.prog W0 = .ok (.slice (some ⟨W0.heap.size, 0, none⟩) (n + 1) G) W1 := fun ty => by
    have h := Lib.run_append_grow_zeros W0 26 3 ty 24 i0 _ .i64 .i64 hu26 hu3 hi0 hz0 (some ⟨g, 0, none⟩) i n A0 hold (n + 1 - i) (by omega) (by omega) (by omega) (by omega) (by rw [hzb]; omega) (by rw [hzb, hik]; exact growslice_fits (by omega) (by omega))
    rw [hik, ← hG, ← hROW, ← hW1] at h
    rw [hkk]
    exact h
  have hGn : n + 1 ≤ G := by rw [hG]; exact grownCap_ge W0 _ _ _
  have hGm : G ≤ maxLen := by rw [hG]; exact grownCap_le_maxLen W0 (n + 1) n 24 (by unfold maxLen; omega)
  have hRs : ROW.size = G * 3 := by
    rw [hROW, Array.size_append, Array.size_append, size_zeroCells, size_zeroCells, List.size_toArray, hAl]
    show i * 3 + (n + 1 - i) * 3 + (G - (n + 1)) * 3 = G * 3
    omega
  obtain ⟨Z, hZ⟩ : ∃ Z, ROW.toList = A0 ++ Z := ⟨_, by rw [hROW, Array.toList_append, Array.toList_append, List.append_assoc]⟩
  have hZl : Z.length = G * 3 - i * 3 := by
    have h := congrArg List.length hZ
    rw [Array.length_toList, hRs, List.length_append, hAl] at h
    omega
  obtain ⟨N, hN⟩ : ∃ N, N = W0.heap.size := ⟨_, rfl⟩
  rw [← hN] at hrz
  have hn1 : W1.heap[N]? = some (.cells ROW 24 (0, 0)) := by rw [hW1, hN]; exact blk_new W0.drew _
  have hg1 : W1.heap[g]? = some (.cells cur 24 (0, 0)) := by rw [hW1]; exact blk_alloc (w := W0.drew) hg0 _
  have hb1 : W1.heap[W.heap.size]? = some (.cells (cells3 k).toArray 24 (0, 0)) := by rw [hW1]; exact blk_alloc (w := W0.drew) hb0 _
  have hgN : g ≠ N := by omega
  have hbN : W.heap.size ≠ N := by omega
  obtain ⟨W2, hW2⟩ : ∃ W2, W2 = W1.setCells N (i * 3) (cells3 k) := ⟨_, rfl⟩
  have hcp2 : ∀ ty dc, (Builtin.copy_ #[26, 26] ty #[.slice (some ⟨N, i * 3, none⟩) (n + 1 - i) dc, .slice (some ⟨W.heap.size, 0, none⟩) 1 1]).run Try.prog W1 = .ok (goInt (Nat.min 1 (n + 1 - i))) W2 := fun ty dc => by
    rw [hW2]
    refine copy_k W1 26 26 ty 24 3 N (i * 3) _ dc ⟨W.heap.size, 0, none⟩ 1 1 (cells3 k) hu26 info24z (by simp only [Nat.min_def, cells3, List.length_cons, List.length_nil]; split <;> omega) (fun j v hj => by rw [Addr.add_lit, Nat.zero_add, blk_cell hb1]; simpa using hj) (fun j hj => by rw [blk_cell hn1, Array.getElem?_eq_getElem (by simp only [cells3, List.length_cons, List.length_nil] at hj; omega)]; rfl) (fun j _ => blk_frozen hn1 _) (cells3_one k)
  obtain ⟨cur2, hg2, hs2, hl2⟩ := setCells_row (e := 24) (cells3 k) (i * 3) W1 ROW hn1 (by simp only [cells3, List.length_cons, List.length_nil]; omega)
  rw [← hW2] at hg2
  have hgg2 : W2.heap[g]? = some (.cells cur 24 (0, 0)) := by rw [hW2, setCells_far _ _ _ hgN]; exact hg1
  obtain ⟨W3, hW3⟩ : ∃ W3, W3 = W2.drew.setCells N ((i + 1) * 3) T3 := ⟨_, rfl⟩
  have hcp3 : ∀ ty dc sc, (Builtin.copy_ #[26, 26] ty #[.slice (some ⟨N, (i + 1) * 3, none⟩) (n - i) dc, .slice (some ⟨g, i * 3, none⟩) (n - i) sc]).run Try.prog W2.drew = .ok (goInt (Nat.min (n - i) (n - i))) W3 := fun ty dc sc => by
    rw [hW3]
    refine copy_k W2.drew 26 26 ty 24 3 N ((i + 1) * 3) _ dc ⟨g, i * 3, none⟩ _ sc T3 hu26 info24z (by rw [hTl]; simp only [Nat.min_def]; split <;> omega) (fun j v hj => by
      rw [Addr.add_lit]
      show W2.cell? _ = _
      rw [blk_cell hgg2, ← blk_cell hg0]; exact hcell j v hj) (fun j hj => by
      show (W2.cell? _).isSome = true
      rw [blk_cell hg2, Array.getElem?_eq_getElem (by omega)]; rfl) (fun j _ => blk_frozen (w := W2.drew) hg2 _) hT1
  obtain ⟨cur3, hg3, hs3, hl3⟩ := setCells_row (e := 24) T3 ((i + 1) * 3) W2.drew cur2 hg2 (by omega)
  rw [← hW3] at hg3
  have hI : Ins W base (.slice (some ⟨g, 0, none⟩) n n) xs k i (.returned (.slice (some ⟨N, 0, none⟩) (n + 1) G)) W3 := by
    refine ⟨_, rfl, ⟨?_, .inr ⟨N, G, cur3, by rw [hn], by omega, hg3, by omega, hGm, by omega, ?_⟩⟩, ?_, .inr ⟨N, rfl, by omega⟩⟩
    · rw [flatK_len, ← hn]
      simp only [List.length_append, List.length_cons, List.length_take, List.length_drop]
      omega
    · have e1 : cur2.toList = A0 ++ cells3 k ++ Z.drop 3 := by
        rw [hl2, hZ, spl A0 Z (cells3 k) _ _ hAl.symm rfl]
        rfl
      have e2 : cur3.toList = (A0 ++ cells3 k) ++ T3 ++ (Z.drop 3).drop T3.length := by
        rw [hl3, e1, spl (A0 ++ cells3 k) (Z.drop 3) T3 _ _ (by simp only [List.length_append, cells3, List.length_cons, List.length_nil]; omega) rfl]
      rw [e2, flatK_app, flatK, ← hA0, ← hT3, ← hn, ← List.append_assoc]
      exact List.take_left' (by simp only [List.length_append, cells3, List.length_cons, List.length_nil]; omega)
    · obtain ⟨p1, p2, p3, p4⟩ := setCells_same N (cells3 k) (i * 3) W1
      obtain ⟨r1, r2, r3, r4⟩ := setCells_same N T3 ((i + 1) * 3) W2.drew
      rw [← hW2] at p1 p2 p3 p4
      rw [← hW3] at r1 r2 r3 r4
      refine ⟨r1.trans (p1.trans ?_), r2.trans (p2.trans ?_), r3.trans (p3.trans ?_), ?_, fun q hq hne => ?_⟩
      · rw [hW1, hW0]; rfl
      · rw [hW1, hW0]; rfl
      · rw [hW1, hW0]; rfl
      · rw [r4]
        show _ ≤ W2.heap.size
        rw [p4, hW1]
        show W.heap.size ≤ (W0.heap.push _).size
        rw [Array.size_push]; omega
      · have hqg : q ≠ N := by omega
        rw [hW3, setCells_far _ _ _ hqg]
        show W2.heap[q]? = _
        rw [hW2, setCells_far _ _ _ hqg, hW1]
        rw [heap_alloc_old W0.drew _ (by show q < W0.heap.size; omega)]
        show W0.heap[q]? = _
        rw [hW0]
        exact heap_alloc_old W _ hq
  have HI := Aside0.mk hI
  have hz1 : (((i : Int) + 1)).toNat = i + 1 := by omega
  have hGi : ¬ (G = i) := by omega
  have hGi1 : ¬ (G = i + 1) := by omega
  have hni : ¬ (n = i) := by omega
  have hb4 : ¬ (n = i) := by omega
  have hw1 : IntKind.i64.wrap ((i : Int) + 1) = (i : Int) + 1 := by rw [IntKind.wrap_i64]; omega
  have hw2 : IntKind.i64.wrap ((n : Int) + 1) = (n : Int) + 1 := by rw [IntKind.wrap_i64]; omega
  have hb6 : (i : Int) ≤ (n : Int) := by omega
  have hb7 : (i : Int) ≤ (n : Int) + 1 := by omega
  have hb8 : i ≤ n := by omega
  have hne1 : ¬ ((i : Int) = (n : Int)) := by omega
  have hG63 : (G : Int) ≤ 9223372036854775807 := by unfold maxLen at hGm; omega
  have hW0a := Aside0.mk hW0
  have HN := Aside0.mk hn
  clear hn
  clear hW1 hW2 hW3 hW0 hI hown htake hcell hcellA hg hg0 hb0 hb1 hn1 hg1 hg2 hgg2 hg3 hl2 hl3 hs2 hs3 hT1 hT3 hTl hcs hbg hold hz0 hzs hzb hi0 hG hROW hRs hZ hZl hAl hcurt hA0 hGm hs0 hN hkk
  rw [← hW0a.out]
  go_enter Try.func34, Try.ntmps34
  go_wp2_with (first
    | (at_builtin; refine Lib.wpList_append_run _ rfl _ _ _ _ rfl _ _ rfl rfl _ _ (hrz _) ?_)
    | (at_builtin; refine wpList_copy_runI _ rfl _ _ 26 26 rfl _ _ rfl rfl (hcp2 _ _) ?_))
  have hb1 : ((0 : Int) ≤ (i : Int) + 1) = True := eq_true (by omega)
  go_region_law_o (refine step_copy_runI rfl _ _ 26 26 rfl _ _ (by simp [Act.eval, Act.put]) (by simp [Act.eval, Act.put]) (hcp3 _ _ _) ?_)
  go_wp2
  go_ret
  exact HI.out
set_option maxHeartbeats 1000000 in
theorem ins_calls (base : Nat) (v : Value) (i : Nat) (xs : List S24) (k : S24) (W : World) (hown : W.ownsRow base 24 3 v xs.length (flatK xs)) (hi : i ≤ xs.length) (hbase : base ≤ W.heap.size) (hl : xs.length < 1000000) :
    Calls Try.prog 34 #[v, .int .i64 (i : Int), .slice (some ⟨W.heap.size, 0, none⟩) 1 1] (W.alloc (.cells (cells3 k).toArray 24)) fun e w' => Ins W base v xs k i e w' := by
  rcases hown.2 with ⟨rfl, h0⟩ | ⟨g, c, cur, rfl, hbg, hg, hnc, r⟩
  · obtain rfl : i = xs.length := by omega
    have e0 : (Value.slice none 0 0) = .slice none xs.length 0 := by rw [h0]
    rw [e0] at hown ⊢
    exact ins_end base none 0 xs k W hown (by omega) hbase hl
  · rcases Nat.lt_or_ge i xs.length with h | h
    · rcases Nat.lt_or_ge xs.length c with h2 | h2
      · exact ins_shift base g c i xs k W hown h h2 hbase hl
      · exact ins_grow base g c i xs k W hown h (by omega) hbase hl
    · obtain rfl : i = xs.length := by omega
      exact ins_end base (some ⟨g, 0, none⟩) c xs k W hown hnc hbase hl

end Go.Proofs.Yteekdkkfegcoeaa.Dg
