/- What TransitiveReduction calls: Contains, ContainsFunc over closures that only lay memory; its closure; Clone of a row of edges. No condition beyond fewer than a million elements. -/
import Derived.Test.YteekdkkfegcoeaaDghTo
namespace Go.Proofs.Yteekdkkfegcoeaa.Dg
open Go.RowKit Go.Sort Go.Lib Go.Proofs.YteekdkkfegcoeaaW.PrintWords Go.Proofs.YteekdkkfegcoeaaW.PrintLast Go.Proofs.YteekdkkfegcoeaaW.PrintMore
open Go.Proofs.Yteekdkkfegcoeaa
open Go.ChangeMaps (setBlock)
set_option linter.unusedVariables false
set_option linter.unusedSimpArgs false
attribute [local go_sem] Oper.semAt_some
/-- a closure's contract: it leaves what is there -/
def ClB (g : Nat) (cb : Array Value) (p : S24 → Bool) (xs : List S24) (W : World) : Prop :=
  ∀ W', Below W.heap.size W W' → ∀ x ∈ xs, Calls Try.prog g (#[encK x] ++ cb) W' fun e w' => e = .returned (.bool (p x)) ∧ Below W'.heap.size W' w'
set_option maxHeartbeats 8000000 in
set_option maxRecDepth 100000 in
theorem ixfB_calls (g : Nat) (cb : Array Value) (p : S24 → Bool) (A : Option Addr) (c : Nat) (xs : List S24) (W : World) (eg : ∀ args w, (callFunc g args).run Try.prog w = .ok (.enter g args) w) (hC : Kd.C k24 W A xs.length xs) (hl : xs.length < 1000000) (hcl : ClB g cb p xs W) :
    Calls Try.prog 19 #[.slice A xs.length c, .func (.func g) #[] cb] W fun e w' => e = .returned (.int .i64 (ixf p xs)) ∧ Below W.heap.size W w' := by
  have hu24 := Try.underlying24
  have hu26 := Try.underlying26
  have HC := Aside0.mk hC
  have HCL := Aside0.mk hcl
  clear hC hcl
  generalize hn : xs.length = n at HC hl ⊢
  generalize hr : ixf p xs = r
  have HN := Aside0.mk hn
  have HR := Aside0.mk hr
  clear hn hr
  go_enter Try.func19, Try.ntmps19
  go_wp2
  go_loopg [8] n (fun kx s8 wr => ∃ j : Nat, s8 = .int .i64 j ∧ j ≤ n ∧ n - j ≤ kx ∧ Aside0 (Below W.heap.size W wr) ∧ Aside0 (∀ t (h : t < xs.length), t < j → p xs[t] = false))
  case atStart => exact ⟨0, rfl, Nat.zero_le _, Nat.le_refl _, ⟨Below.refl _ _⟩, ⟨fun t h ht => absurd ht (Nat.not_lt_zero _)⟩⟩
  case round =>
    obtain ⟨j, rfl, hjn, hjk, GR, HF⟩ := hrel
    by_cases hlt : j < n
    · obtain ⟨ad, e_, q0, q1, q2⟩ := elem24 HC.out GR.out j hlt
      subst e_
      have hjx : j < xs.length := by rw [HN.out]; exact hlt
      have hxm : rd_T24 xs (j : Int) ∈ xs := by rw [rd_at xs j hjx]; exact List.getElem_mem hjx
      have hcall := HCL.out wr GR.out _ hxm
      have Y := Aside0.mk (show j < xs.length ∧ ∀ h : j < xs.length, rd_T24 xs (j : Int) = xs[j] from ⟨hjx, fun h => rd_at xs j h⟩)
      generalize rd_T24 xs (j : Int) = y at q0 q1 q2 hcall Y
      unfold encK at hcall
      have HY := Aside0.mk hcall
      clear hcall hxm hjx
      have p0 : (0 : Int) ≤ (j : Int) := by omega
      have p1 : (j : Int) < (n : Int) := by omega
      cases hp : p y with
      | true =>
        go_wp2_with (go_at_fn g; refine HY.out.mono ?_; rintro e_ w' ⟨rfl, hgw⟩; rw [hp])
        go_ret
        exact ⟨by rw [← HR.out, ixf_at p xs j Y.out.1 (by rw [← Y.out.2 Y.out.1]; exact hp) HF.out]; rfl, below_step GR.out hgw⟩
      | false =>
        go_wp2_with (go_at_fn g; refine HY.out.mono ?_; rintro e_ w' ⟨rfl, hgw⟩; rw [hp])
        go_roundg (n - (j + 1))
        case measure => omega
        case rel =>
          refine ⟨j + 1, ?_, by omega, Nat.le_refl _, ⟨below_step GR.out hgw⟩, ⟨fun t h ht => ?_⟩⟩
          · first | rfl | go_num
          · rcases Nat.lt_or_ge t j with h1 | h1
            · exact HF.out t h h1
            · obtain rfl : t = j := by omega
              rw [← Y.out.2 h]; exact hp
    · obtain rfl : j = n := by omega
      have p1 : decide ((j : Int) < (j : Int)) = false := decide_eq_false (by omega)
      go_wp2
      go_ret
      exact ⟨by rw [← HR.out, ixf_none p xs (fun t h => HF.out t h (by have := HN.out; omega))]; rfl, GR.out⟩
set_option maxHeartbeats 1000000 in
theorem ctfB_calls (g : Nat) (cb : Array Value) (p : S24 → Bool) (A : Option Addr) (c : Nat) (xs : List S24) (W : World) (eg : ∀ args w, (callFunc g args).run Try.prog w = .ok (.enter g args) w) (hC : Kd.C k24 W A xs.length xs) (hl : xs.length < 1000000) (hcl : ClB g cb p xs W) :
    Calls Try.prog 22 #[.slice A xs.length c, .func (.func g) #[] cb] W fun e w' => e = .returned (.bool (xs.any p)) ∧ Below W.heap.size W w' := by
  have h := Aside0.mk (ixfB_calls g cb p A c xs W eg hC hl hcl)
  have hg := ixf_ge p xs
  clear hC hcl
  generalize ixf p xs = r at h hg
  have HGE := Aside0.mk hg
  clear hg
  go_enter Try.func22, Try.ntmps22
  go_wp2_with (go_at_call 19; refine h.out.mono ?_; rintro e_ w' ⟨rfl, hgw⟩)
  go_ret
  exact ⟨by rw [← HGE.out]; rfl, hgw⟩
theorem w64_idT {n : Int} (h : -9223372036854775808 ≤ n) (h' : n ≤ 9223372036854775807) : wrap64 n = n := by unfold wrap64; omega
theorem S37_ext {x y : S37} (h0 : x.f0 = y.f0) (h1 : x.f1 = y.f1) : x = y := by
  cases x; cases y; simp only [S37.mk.injEq]; exact ⟨h0, h1⟩
instance decE : DecidableEq S37 := fun x y =>
  if h : x.f0 = y.f0 ∧ x.f1 = y.f1 then .isTrue (S37_ext h.1 h.2) else .isFalse (fun e => h (by rw [e]; exact ⟨rfl, rfl⟩))
theorem api_QKey_31_from (l : List S24) (key : S24) (hl : l.length < 1000000) : ∀ (d i k : Nat), l.length - i = d → i ≤ l.length → d < k →
    ∃ r, api_QKey_31.l0 k l (l.length : Int) (i : Int) key.f0 key.f1 key.f2 = some r ∧ ((r = -1 ∧ ∀ t (h : t < l.length), i ≤ t → l[t] ≠ key) ∨ ∃ j : Nat, ∃ h : j < l.length, r = (j : Int) ∧ l[j] = key) := by
  intro d
  induction d with
  | zero =>
    intro i k hd hi hk
    obtain ⟨k, rfl⟩ : ∃ k', k = k' + 1 := ⟨k - 1, by omega⟩
    refine ⟨-1, ?_, .inl ⟨rfl, fun t h ht => by omega⟩⟩
    simp only [api_QKey_31.l0]
    rw [if_neg (by omega)]
  | succ d ih =>
    intro i k hd hi hk
    obtain ⟨k, rfl⟩ : ∃ k', k = k' + 1 := ⟨k - 1, by omega⟩
    have hil : i < l.length := by omega
    simp only [api_QKey_31.l0]
    rw [if_pos (by omega), if_pos (by omega), if_pos (by omega), rd_at l i hil]
    by_cases he : l[i] = key
    · rw [if_pos (by rw [he]; simp)]
      exact ⟨(i : Int), rfl, .inr ⟨i, hil, rfl, he⟩⟩
    · rw [if_neg (by
        intro h
        simp only [Bool.and_eq_true, beq_iff_eq] at h
        exact he (S24_ext h.1.symm h.2.1.symm h.2.2.symm))]
      rw [w64_idT (by omega) (by omega)]
      obtain ⟨r, hr, h⟩ := ih (i + 1) k (by omega) (by omega) (by omega)
      refine ⟨r, by push_cast at hr; exact hr, ?_⟩
      rcases h with ⟨h1, h2⟩ | h3
      · refine .inl ⟨h1, fun t h ht => ?_⟩
        rcases Nat.eq_or_lt_of_le ht with h5 | h5
        · subst h5; exact he
        · exact h2 t h h5
      · exact .inr h3
theorem api_QKey_24_spec (l : List S24) (key : S24) (hl : l.length < 1000000) (k : Nat) (hk : l.length < k) [DecidableEq S24] : api_QKey_24.f k l key.f0 key.f1 key.f2 = some (decide (key ∈ l)) := by
  obtain ⟨r, hr, h⟩ := api_QKey_31_from l key hl l.length 0 k (by omega) (by omega) hk
  unfold api_QKey_24.f api_QKey_31.f
  rw [show ((0 : Nat) : Int) = 0 from rfl] at hr
  rw [hr]
  show some (decide (r ≥ 0)) = _
  congr 1
  rcases h with ⟨h1, h2⟩ | ⟨j, hj, h1, h3⟩
  · rw [decide_eq_false (show ¬ (r ≥ 0) by omega), decide_eq_false (fun hm => by
      obtain ⟨t, ht, e⟩ := List.getElem_of_mem hm
      exact h2 t ht (Nat.zero_le _) e)]
  · rw [decide_eq_true (show r ≥ 0 by omega), decide_eq_true (show key ∈ l from h3 ▸ List.getElem_mem hj)]
theorem api_QEdge_32_from (l : List S37) (key : S37) (hl : l.length < 1000000) : ∀ (d i k : Nat), l.length - i = d → i ≤ l.length → d < k →
    ∃ r, api_QEdge_32.l0 k l (l.length : Int) (i : Int) key.f0.f0 key.f0.f1 key.f0.f2 key.f1.f0 key.f1.f1 key.f1.f2 = some r ∧ ((r = -1 ∧ ∀ t (h : t < l.length), i ≤ t → l[t] ≠ key) ∨ ∃ j : Nat, ∃ h : j < l.length, r = (j : Int) ∧ l[j] = key) := by
  intro d
  induction d with
  | zero =>
    intro i k hd hi hk
    obtain ⟨k, rfl⟩ : ∃ k', k = k' + 1 := ⟨k - 1, by omega⟩
    refine ⟨-1, ?_, .inl ⟨rfl, fun t h ht => by omega⟩⟩
    simp only [api_QEdge_32.l0]
    rw [if_neg (by omega)]
  | succ d ih =>
    intro i k hd hi hk
    obtain ⟨k, rfl⟩ : ∃ k', k = k' + 1 := ⟨k - 1, by omega⟩
    have hil : i < l.length := by omega
    simp only [api_QEdge_32.l0]
    rw [if_pos (by omega), if_pos (by omega), if_pos (by omega), rd37_at l i hil]
    by_cases he : l[i] = key
    · rw [if_pos (by rw [he]; simp)]
      exact ⟨(i : Int), rfl, .inr ⟨i, hil, rfl, he⟩⟩
    · rw [if_neg (by
        intro h
        simp only [Bool.and_eq_true, beq_iff_eq] at h
        exact he (S37_ext (S24_ext h.1.1.symm h.1.2.1.symm h.1.2.2.symm) (S24_ext h.2.1.symm h.2.2.1.symm h.2.2.2.symm)))]
      rw [w64_idT (by omega) (by omega)]
      obtain ⟨r, hr, h⟩ := ih (i + 1) k (by omega) (by omega) (by omega)
      refine ⟨r, by push_cast at hr; exact hr, ?_⟩
      rcases h with ⟨h1, h2⟩ | h3
      · refine .inl ⟨h1, fun t h ht => ?_⟩
        rcases Nat.eq_or_lt_of_le ht with h5 | h5
        · subst h5; exact he
        · exact h2 t h h5
      · exact .inr h3
theorem api_QEdge_25_spec (l : List S37) (key : S37) (hl : l.length < 1000000) (k : Nat) (hk : l.length < k) [DecidableEq S37] : api_QEdge_25.f k l key.f0.f0 key.f0.f1 key.f0.f2 key.f1.f0 key.f1.f1 key.f1.f2 = some (decide (key ∈ l)) := by
  obtain ⟨r, hr, h⟩ := api_QEdge_32_from l key hl l.length 0 k (by omega) (by omega) hk
  unfold api_QEdge_25.f api_QEdge_32.f
  rw [show ((0 : Nat) : Int) = 0 from rfl] at hr
  rw [hr]
  show some (decide (r ≥ 0)) = _
  congr 1
  rcases h with ⟨h1, h2⟩ | ⟨j, hj, h1, h3⟩
  · rw [decide_eq_false (show ¬ (r ≥ 0) by omega), decide_eq_false (fun hm => by
      obtain ⟨t, ht, e⟩ := List.getElem_of_mem hm
      exact h2 t ht (Nat.zero_le _) e)]
  · rw [decide_eq_true (show r ≥ 0 by omega), decide_eq_true (show key ∈ l from h3 ▸ List.getElem_mem hj)]
theorem bl_look {W : World} {bm : Nat} {bl : List (S24 × Cel)} (h : Mp.At Try.prog 24 encK W bm (Mp.vals Cel.v bl)) (k : S24) {lk : Lit} (hk : keyOf Try.prog 24 (encK k) = some lk) : (Instr.lookup 50 (.map (some bm)) (encK k) false).run Try.prog W = .ok (celAt bl k).v W := by
  have hrun := Mp.At.look (T := 50) false KK injK Try.underlying50 (zero26 W) h hk
  rw [Mp.aget_vals] at hrun
  rw [hrun]
  unfold celAt
  cases Mp.aget bl k <;> rfl
theorem bl_row {W : World} {base : Nat} {bl : List (S24 × Cel)} (h : ∀ q ∈ bl, W.ownsRow base 24 3 q.2.v q.2.xs.length (flatK q.2.xs)) (k : S24) : W.ownsRow base 24 3 (celAt bl k).v (celAt bl k).xs.length (flatK (celAt bl k).xs) := by
  unfold celAt
  cases hg : Mp.aget bl k with
  | none => exact own_nil W base
  | some c => exact h _ (Mp.aget_mem hg)
set_option maxHeartbeats 8000000 in
set_option maxRecDepth 100000 in
theorem red1_calls (base bm g7 g12 : Nat) (bl : List (S24 × Cel)) (e : S37) (x : S24) (W : World) (h7 : W.heap[g7]? = some (.cells #[.map (some bm)] 50 (0, 0))) (h12 : W.heap[g12]? = some (.cells #[.int .i64 e.f0.f0, .int .i64 e.f0.f1, .int .i64 e.f0.f2, .int .i64 e.f1.f0, .int .i64 e.f1.f1, .int .i64 e.f1.f2] 37 (0, 0))) (hat : Mp.At Try.prog 24 encK W bm (Mp.vals Cel.v bl))
    (hrow : ∀ q ∈ bl, W.ownsRow base 24 3 q.2.v q.2.xs.length (flatK q.2.xs)) (hw : wfK x) (hl : (celAt bl x).xs.length < 1000000) :
    Calls Try.prog 23 #[encK x, .pointer (some ⟨g7, 0, none⟩), .pointer (some ⟨g12, 0, none⟩)] W fun e' w' => e' = .returned (.bool (decide (e.f1 ∈ (celAt bl x).xs))) ∧ Below W.heap.size W w' := by
  have mixed : Try.prog.follows .mixedOrders = true := by kernel_rfl
  have hu24 := Try.underlying24
  have hu26 := Try.underlying26
  have hu37 := Try.underlying37
  have hu50 := Try.underlying50
  obtain ⟨lk, hlk⟩ := keyK x hw
  have HLK := Aside0.mk hlk
  have H7 := Aside0.mk h7
  have H12 := Aside0.mk h12
  have HAT := Aside0.mk hat
  have HROW := Aside0.mk hrow
  have HL := Aside0.mk hl
  clear hlk h7 h12 hat hrow hw hl
  unfold encK
  go_enter Try.func23, Try.ntmps23
  go_wp2_with (first | ((with_reducible refine gate_dst (N := 3) rfl ?_); refine box_event ?hg (N := 3) ?hd (cs := #[.int .i64 x.f0, .int .i64 x.f1, .int .i64 x.f2]) (t := 24) ?hr ?_; (case hd => rfl); (case hg => rfl); (case hr => first | (go_simp; done) | (go_simp; rfl)); intro g3 hg3 w1 hbox hb3; have BK3 := Aside0.mk hbox; have HB1 := Aside0.mk hb3; clear hbox hb3 hg3))
  refine start_ (n := 7) (S := fun w' => w'.cell? ⟨g7, 0, none⟩ = some (.map (some bm)) ∧ w'.cell? ⟨g3, 0, none⟩ = some (.int .i64 x.f0) ∧ w'.cell? ⟨g3, 1, none⟩ = some (.int .i64 x.f1) ∧ w'.cell? ⟨g3, 2, none⟩ = some (.int .i64 x.f2) ∧ w'.cell? ⟨g12, 3, none⟩ = some (.int .i64 e.f1.f0) ∧ w'.cell? ⟨g12, 4, none⟩ = some (.int .i64 e.f1.f1) ∧ w'.cell? ⟨g12, 5, none⟩ = some (.int .i64 e.f1.f2)) (ds := []) #[false, false, false, false, false, false, false] (by kernel_rfl) rfl rfl ⟨(blk_cell (blk_drew (blk_below H7.out HB1.out)) 0).trans rfl, (blk_cell (blk_drew BK3.out) 0).trans rfl, (blk_cell (blk_drew BK3.out) 1).trans rfl, (blk_cell (blk_drew BK3.out) 2).trans rfl, (blk_cell (blk_drew (blk_below H12.out HB1.out)) 3).trans rfl, (blk_cell (blk_drew (blk_below H12.out HB1.out)) 4).trans rfl, (blk_cell (blk_drew (blk_below H12.out HB1.out)) 5).trans rfl⟩ (fun hHeld => ?_)
  have n1_ := Aside0.mk (blk_drew BK3.out)
  have n2_ := Aside0.mk (below_drew HB1.out)
  clear BK3 HB1
  have BK3 := n1_
  have HB1 := n2_
  clear n1_ n2_
  generalize w1.drew = w2 at BK3 HB1 hHeld ⊢
  refine take_ (i := 0) (N := some 5) (v := ?_) (a' := ?_) #[true, false, false, false, false, false, false] rfl rfl (by kernel_rfl) (fun _ _ _ h => h) (Or.inl ⟨by rfl, ?_⟩) hHeld ?_ ?_
  rotate_left
  · rintro w' ⟨s0, s1, s2, s3, s4, s5, s6⟩
    go_simp
    with_reducible rfl
  rotate_left
  · simp only [Act.put, List.setIfInBounds_toArray, List.set_cons_zero, List.set_cons_succ, i64_w, i32_w]
    rfl
  refine take_ (i := 1) (N := some 6) (v := ?_) (a' := ?_) #[true, true, false, false, false, false, false] rfl rfl (by kernel_rfl) (fun _ _ _ h => h) (Or.inl ⟨by rfl, ?_⟩) hHeld ?_ ?_
  rotate_left
  · rintro w' ⟨s0, s1, s2, s3, s4, s5, s6⟩
    go_simp
    with_reducible rfl
  rotate_left
  · simp only [Act.put, List.setIfInBounds_toArray, List.set_cons_zero, List.set_cons_succ, i64_w, i32_w]
    rfl
  refine pure_ (i := 3) (N := some 8) (v := ?_) (a' := ?_) #[true, true, false, true, false, false, false] rfl rfl (by kernel_rfl) (fun _ _ _ h => h) (Or.inl ⟨by rfl, ?_⟩) ?_ ?_
  rotate_left
  · intro w'
    go_simp
    with_reducible rfl
  rotate_left
  · simp only [Act.put, List.setIfInBounds_toArray, List.set_cons_zero, List.set_cons_succ, i64_w, i32_w]
    rfl
  refine take_ (i := 4) (N := some 9) (v := ?_) (a' := ?_) #[true, true, false, true, true, false, false] rfl rfl (by kernel_rfl) (fun _ _ _ h => h) (Or.inl ⟨by rfl, ?_⟩) hHeld ?_ ?_
  rotate_left
  · rintro w' ⟨s0, s1, s2, s3, s4, s5, s6⟩
    go_simp
    with_reducible rfl
  rotate_left
  · simp only [Act.put, List.setIfInBounds_toArray, List.set_cons_zero, List.set_cons_succ, i64_w, i32_w]
    rfl
  refine one_ (i := 2) (N := some 7) #[true, true, true, true, true, false, false] rfl rfl (by kernel_rfl) (by decide) (fun K hK => ?_)
  have hrun := bl_look (HAT.out.below HB1.out) x HLK.out
  obtain ⟨Ax, cx, hex, hcx, hCx⟩ := own24_reads (own24_keep (bl_row HROW.out x) HB1.out.block)
  rw [hex] at hrun
  have HCX := Aside0.mk (And.intro hcx hCx)
  refine value_ (w1 := w2) (v := .slice Ax (celAt bl x).xs.length cx) (by rfl) rfl ?_ ?_
  · unfold encK at hrun
    go_simp
    all_goals first | (rw [hrun]; done) | (rw [hrun]; rfl) | (simp [hrun]; done) | exact hrun
  clear hrun hex hcx hCx
  refine hK.out _ _ ⟨(blk_cell (blk_below H7.out HB1.out) 0).trans rfl, (blk_cell BK3.out 0).trans rfl, (blk_cell BK3.out 1).trans rfl, (blk_cell BK3.out 2).trans rfl, (blk_cell (blk_below H12.out HB1.out) 3).trans rfl, (blk_cell (blk_below H12.out HB1.out) 4).trans rfl, (blk_cell (blk_below H12.out HB1.out) 5).trans rfl⟩ (fun hHeld => ?_)
  clear hK K
  refine norm_ (a' := ?_) ?_ ?_
  rotate_left
  · show Act.put _ (some 7) _ = _
    simp only [Act.put, List.setIfInBounds_toArray, List.set_cons_zero, List.set_cons_succ, i64_w, i32_w]
    rfl
  refine one_ (i := 5) (N := some 10) #[true, true, true, true, true, true, false] rfl rfl (by kernel_rfl) (by decide) (fun K hK => ?_)
  refine goes_ Try.func24 (by kernel_rfl) rfl #[.slice Ax (celAt bl x).xs.length cx, .agg #[.int .i64 e.f1.f0, .int .i64 e.f1.f1, .int .i64 e.f1.f2]] (by rfl) rfl rfl (by (try simp only [List.map_toArray, List.map_cons, List.map_nil]); first | done | rfl) ?_
  refine (api_QKey_24.calls ((celAt bl x).xs.length + 1) Ax cx (celAt bl x).xs e.f1.f0 e.f1.f1 e.f1.f2 _ w2 HCX.out.2 HCX.out.1 (api_QKey_24_spec (celAt bl x).xs e.f1 HL.out _ (Nat.lt_succ_self _))).mono ?_
  rintro e_ w3 ⟨rfl, hb⟩
  refine ⟨_, rfl, ?_⟩
  have n1_ := Aside0.mk (blk_below BK3.out hb)
  have n2_ := Aside0.mk (below_step HB1.out hb)
  clear BK3 HB1
  have BK3 := n1_
  have HB1 := n2_
  clear n1_ n2_ hb
  refine hK.out _ _ ⟨(blk_cell (blk_below H7.out HB1.out) 0).trans rfl, (blk_cell BK3.out 0).trans rfl, (blk_cell BK3.out 1).trans rfl, (blk_cell BK3.out 2).trans rfl, (blk_cell (blk_below H12.out HB1.out) 3).trans rfl, (blk_cell (blk_below H12.out HB1.out) 4).trans rfl, (blk_cell (blk_below H12.out HB1.out) 5).trans rfl⟩ (fun hHeld => ?_)
  clear hK K
  refine norm_ (a' := ?_) ?_ ?_
  rotate_left
  · show Act.put _ (some 10) _ = _
    simp only [Act.put, List.setIfInBounds_toArray, List.set_cons_zero, List.set_cons_succ, i64_w, i32_w]
    rfl
  refine pure_ (i := 6) (N := some 4) (v := ?_) (a' := ?_) #[true, true, true, true, true, true, true] rfl rfl (by kernel_rfl) (fun _ _ _ h => h) (Or.inl ⟨by rfl, ?_⟩) ?_ ?_
  rotate_left
  · intro w'
    go_simp
    with_reducible rfl
  rotate_left
  · simp only [Act.put, List.setIfInBounds_toArray, List.set_cons_zero, List.set_cons_succ, i64_w, i32_w]
    rfl
  refine done_ (by kernel_rfl) ?_
  try clear hHeld
  go_wp2
  go_ret
  exact ⟨rfl, HB1.out⟩
def api_QEdge_16.f (l0 : List (S37)) : Option ((List (S37))) := if l0.length < 1000000 then some l0 else none
set_option maxHeartbeats 4000000 in
set_option maxRecDepth 100000 in
theorem api_QEdge_16.calls (A0 : Option Addr) (c0 : Nat) (l0 : List (S37)) (r : List (S37)) (w : World) (hr0 : Kd.C k37 w A0 l0.length l0) (hc0 : l0.length ≤ c0) (h : api_QEdge_16.f l0 = some r) :
    Calls Try.prog 16 #[.slice A0 l0.length c0] w fun e w' => ∃ v0_ : Value, e = .returned (v0_) ∧ Kd.R k37 37 w' w.heap.size (fun _ => True) v0_ r ∧ Below w.heap.size w w' := by
  have hu22 := Try.underlying22
  have hu37 := Try.underlying37
  unfold api_QEdge_16.f at h
  split at h
  case isFalse => cases h
  rename_i hl
  obtain rfl := Option.some.inj h
  have HR := Aside0.mk hr0
  have HL := Aside0.mk hl
  have HN := Aside0.mk (Kd.R_nil k37 37 w w.heap.size (fun _ => True))
  clear hr0 h hl
  go_enter Try.func16, Try.ntmps16
  go_wp2_with (at_builtin; (refine Kd.R_append_rows k37 (w0 := w) w.heap.size rfl _ (.tmp 3) 22 37 (.agg #[.int .i64 0, .int .i64 0, .int .i64 0, .int .i64 0, .int .i64 0, .int .i64 0]) 48 rfl Try.underlying22 (by kernel_rfl) rfl (by decide) (by omega) (.slice none 0 0) [] l0 _ _ _ (fun _ => True) (fun _ => False) rfl rfl HN.out HR.out (fun _ _ h => by obtain rfl := k37_open h; exact k37_mkM _ _ _ _) (fun _ h => h.elim) (fun _ _ => trivial) (Below.refl _ _) (Nat.le_refl _) (by have := HL.out; simp only [List.length_nil]; omega) ?_; rintro v1 w1 hv hb _ _; have HV := Aside0.mk hv; have HBF := Aside0.mk hb; clear hv hb))
  go_ret
  exact ⟨_, rfl, HV.out, HBF.out⟩
end Go.Proofs.Yteekdkkfegcoeaa.Dg
