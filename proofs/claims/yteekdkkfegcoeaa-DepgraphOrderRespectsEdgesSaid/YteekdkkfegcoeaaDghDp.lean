/- Dependencies and Dependents: the keys reachable along edges, sorted. Condition: at most 400 edges, well-formed keys. -/
import Derived.Test.YteekdkkfegcoeaaDghRc
namespace Go.Proofs.Yteekdkkfegcoeaa.Dg
open Go.RowKit Go.Sort Go.Lib Go.Proofs.YteekdkkfegcoeaaW.PrintWords Go.Proofs.YteekdkkfegcoeaaW.PrintLast Go.Proofs.YteekdkkfegcoeaaW.PrintMore
open Go.Proofs.Yteekdkkfegcoeaa
open Go.ChangeMaps (setBlock)
set_option linter.unusedVariables false
set_option linter.unusedSimpArgs false
attribute [local go_sem] Oper.semAt_some
theorem mem_ins (xs : List S24) (k x : S24) : x ∈ ins xs k ↔ x = k ∨ x ∈ xs := by
  unfold ins
  cases hf : fnd xs k with
  | true =>
    rw [if_pos rfl]
    unfold fnd at hf
    simp only [Bool.and_eq_true, decide_eq_true_eq] at hf
    have h1 := (cmpK_eq _ _).1 hf.2
    rw [rd_at xs _ hf.1] at h1
    constructor
    · exact .inr
    · rintro (rfl | h)
      · exact h1 ▸ List.getElem_mem hf.1
      · exact h
  | false =>
    rw [if_neg (by simp)]
    have h2 : x ∈ xs ↔ x ∈ xs.take (pos xs k) ∨ x ∈ xs.drop (pos xs k) := by
      rw [← List.mem_append, List.take_append_drop]
    rw [h2]
    simp only [List.mem_append, List.mem_cons]
    constructor
    · rintro (h | h | h)
      · exact .inr (.inl h)
      · exact .inl h
      · exact .inr (.inr h)
    · rintro (h | h | h)
      · exact .inr (.inl h)
      · exact .inl h
      · exact .inr (.inr h)
/-- the keys next to a key -/
def nxt (rev : Bool) (es : List S37) (k : S24) : List S24 := (Mp.aget (gof rev es).1 k).getD []
theorem fold_mem (rev : Bool) : ∀ (es : List S37) (s : Gs) (k x : S24), x ∈ (Mp.aget (es.foldl (gstep rev) s).1 k).getD [] ↔ x ∈ (Mp.aget s.1 k).getD [] ∨ ∃ e ∈ es, efrom rev e = k ∧ eto rev e = x
  | [], s, k, x => by simp
  | e :: r, s, k, x => by
    rw [List.foldl_cons, fold_mem rev r]
    have h1 : x ∈ (Mp.aget (gstep rev s e).1 k).getD [] ↔ x ∈ (Mp.aget s.1 k).getD [] ∨ (efrom rev e = k ∧ eto rev e = x) := by
      unfold gstep
      simp only
      rw [Mp.aget_aset]
      by_cases hk : efrom rev e = k
      · rw [if_pos hk, Option.getD_some, mem_ins, hk]
        constructor
        · rintro (h | h)
          · exact .inr ⟨rfl, h.symm⟩
          · exact .inl h
        · rintro (h | ⟨_, h⟩)
          · exact .inr h
          · exact .inl h.symm
      · rw [if_neg hk]
        simp [hk]
    rw [h1]
    simp only [List.mem_cons, exists_eq_or_imp, or_assoc]
theorem mem_nxt (rev : Bool) (es : List S37) (k x : S24) : x ∈ nxt rev es k ↔ ∃ e ∈ es, efrom rev e = k ∧ eto rev e = x := by
  unfold nxt gof
  rw [fold_mem]
  simp [Mp.aget_nil]
theorem fold_keys (rev : Bool) : ∀ (es : List S37) (s : Gs) (x : S24), x ∈ (es.foldl (gstep rev) s).2 ↔ x ∈ s.2 ∨ ∃ e ∈ es, efrom rev e = x ∨ eto rev e = x
  | [], s, x => by simp
  | e :: r, s, x => by
    rw [List.foldl_cons, fold_keys rev r]
    have h1 : x ∈ (gstep rev s e).2 ↔ x ∈ s.2 ∨ (efrom rev e = x ∨ eto rev e = x) := by
      unfold gstep
      simp only
      rw [mem_ins, mem_ins]
      constructor
      · rintro (h | h | h)
        · exact .inr (.inr h.symm)
        · exact .inr (.inl h.symm)
        · exact .inl h
      · rintro (h | h | h)
        · exact .inr (.inr h)
        · exact .inr (.inl h.symm)
        · exact .inl h.symm
    rw [h1]
    simp only [List.mem_cons, exists_eq_or_imp, or_assoc]
theorem mem_keys (rev : Bool) (es : List S37) (x : S24) : x ∈ (gof rev es).2 ↔ ∃ e ∈ es, efrom rev e = x ∨ eto rev e = x := by
  unfold gof
  rw [fold_keys]
  simp
theorem nxt_keys (rev : Bool) (es : List S37) (k x : S24) (h : x ∈ nxt rev es k) : x ∈ (gof rev es).2 := by
  obtain ⟨e, he, _, h2⟩ := (mem_nxt rev es k x).1 h
  exact (mem_keys rev es x).2 ⟨e, he, .inr h2⟩
theorem gof_wf (rev : Bool) (es : List S37) (hw : ∀ e ∈ es, wfK e.f0 ∧ wfK e.f1) (x : S24) (h : x ∈ (gof rev es).2) : wfK x := by
  obtain ⟨e, he, h1⟩ := (mem_keys rev es x).1 h
  obtain ⟨h2, h3⟩ := hw e he
  unfold efrom eto at h1
  cases rev <;> simp at h1 <;> rcases h1 with rfl | rfl <;> assumption
theorem reach_keys (rev : Bool) (es : List S37) (k x : S24) (h : Reach (nxt rev es) k x) : x ∈ (gof rev es).2 := by
  cases h with
  | one h => exact nxt_keys rev es _ _ h
  | more _ h => exact nxt_keys rev es _ _ h
open Classical in
/-- the keys that a key leads to -/
noncomputable def deps (rev : Bool) (es : List S37) (k : S24) : List S24 := (gof rev es).2.filter (fun x => decide (Reach (nxt rev es) k x))
open Classical in
theorem deps_mem (rev : Bool) (es : List S37) (k x : S24) : x ∈ deps rev es k ↔ Reach (nxt rev es) k x := by
  unfold deps
  rw [List.mem_filter, decide_eq_true_eq]
  exact ⟨fun h => h.2, fun h => ⟨reach_keys rev es k x h, h⟩⟩
theorem deps_srt (rev : Bool) (es : List S37) (k : S24) : Srt (deps rev es k) := by
  have h := gof_good rev es es.length (Nat.le_refl _)
  rw [List.take_length] at h
  exact h.keys.sublist List.filter_sublist
def Okd (l0 : List S37) (k : S24) : Prop := l0.length ≤ 400 ∧ (∀ e ∈ l0, wfK e.f0 ∧ wfK e.f1) ∧ wfK k
open Classical in
noncomputable def depgraph_Dependencies.f (l0 : List (S37)) (a1_0 : Int) (a1_1 : Int) (a1_2 : Int) : Option ((List (S24))) := if Okd l0 ⟨a1_0, a1_1, a1_2⟩ then some (deps false l0 ⟨a1_0, a1_1, a1_2⟩) else none
set_option maxHeartbeats 8000000 in
set_option maxRecDepth 100000 in
theorem depgraph_Dependencies.calls (A0 : Option Addr) (c0 : Nat) (l0 : List (S37)) (a1_0 : Int) (a1_1 : Int) (a1_2 : Int) (r : List (S24)) (w : World) (hr0 : Kd.C k37 w A0 l0.length l0) (hc0 : l0.length ≤ c0) (h : depgraph_Dependencies.f l0 a1_0 a1_1 a1_2 = some r) :
    Calls Try.prog 7 #[.slice A0 l0.length c0, .agg #[.int .i64 a1_0, .int .i64 a1_1, .int .i64 a1_2]] w fun e w' => ∃ v0_ : Value, e = .returned (v0_) ∧ Kd.R k24 24 w' w.heap.size (fun _ => True) v0_ r ∧ Below w.heap.size w w' := by
  have mixed : Try.prog.follows .mixedOrders = true := by kernel_rfl
  have hu24 := Try.underlying24
  have hu26 := Try.underlying26
  unfold depgraph_Dependencies.f at h
  split at h
  case isFalse => cases h
  rename_i hk
  have HK := Aside0.mk hk
  have HRR := Aside0.mk (Option.some.inj h)
  have HR := Aside0.mk hr0
  have HC := Aside0.mk hc0
  clear hk h hr0 hc0
  go_enter Try.func7, Try.ntmps7
  go_wp2_with (first | ((with_reducible refine gate_dst (N := 3) rfl ?_); refine box_event ?hg (N := 3) ?hd (cs := #[.int .i64 a1_0, .int .i64 a1_1, .int .i64 a1_2]) (t := 24) ?hr ?_; (case hd => rfl); (case hg => rfl); (case hr => first | (go_simp; done) | (go_simp; rfl)); intro g3 hg3 w1 hbox hb3; have BK3 := Aside0.mk hbox; have HB1 := Aside0.mk hb3; clear hbox hb3 hg3))
  refine start_ (n := 5) (S := fun w' => w'.cell? ⟨g3, 0, none⟩ = some (.int .i64 a1_0) ∧ w'.cell? ⟨g3, 1, none⟩ = some (.int .i64 a1_1) ∧ w'.cell? ⟨g3, 2, none⟩ = some (.int .i64 a1_2)) (ds := []) #[false, false, false, false, false] (by kernel_rfl) rfl rfl ⟨(blk_cell (blk_drew BK3.out) 0).trans rfl, (blk_cell (blk_drew BK3.out) 1).trans rfl, (blk_cell (blk_drew BK3.out) 2).trans rfl⟩ (fun hHeld => ?_)
  have n1_ := Aside0.mk (blk_drew BK3.out)
  have n2_ := Aside0.mk (below_drew HB1.out)
  clear BK3 HB1
  have BK3 := n1_
  have HB1 := n2_
  clear n1_ n2_
  generalize w1.drew = w2 at BK3 HB1 hHeld ⊢
  refine pure_ (i := 0) (N := some 5) (v := ?_) (a' := ?_) #[true, false, false, false, false] rfl rfl (by kernel_rfl) (fun _ _ _ h => h) (Or.inl ⟨by rfl, ?_⟩) ?_ ?_
  rotate_left
  · intro w'
    go_simp
    with_reducible rfl
  rotate_left
  · simp only [Act.put, List.setIfInBounds_toArray, List.set_cons_zero, List.set_cons_succ, i64_w, i32_w]
    rfl
  refine take_ (i := 2) (N := some 7) (v := ?_) (a' := ?_) #[true, false, true, false, false] rfl rfl (by kernel_rfl) (fun _ _ _ h => h) (Or.inl ⟨by rfl, ?_⟩) hHeld ?_ ?_
  rotate_left
  · rintro w' ⟨s0, s1, s2⟩
    go_simp
    with_reducible rfl
  rotate_left
  · simp only [Act.put, List.setIfInBounds_toArray, List.set_cons_zero, List.set_cons_succ, i64_w, i32_w]
    rfl
  refine one_ (i := 1) (N := some 6) #[true, true, true, false, false] rfl rfl (by kernel_rfl) (by decide) (fun K hK => ?_)
  refine goes_ Try.func17 (by kernel_rfl) rfl #[.slice A0 l0.length c0, .bool false] (by rfl) rfl rfl (by (try simp only [List.map_toArray, List.map_cons, List.map_nil]); first | done | rfl) ?_
  refine (ng_calls false A0 c0 l0 w2 (Kd.C_below HR.out HB1.out) HK.out.1 HC.out HK.out.2.1).mono ?_
  rintro e_ w3 ⟨gb, gm, l, kv, ks, rfl, hgr, hb2, hgf⟩
  refine ⟨_, rfl, ?_⟩
  have n1_ := Aside0.mk (blk_below BK3.out hb2)
  have n2_ := Aside0.mk (below_step HB1.out hb2)
  have SZ := Aside0.mk (show w.heap.size ≤ w2.heap.size from HB1.out.size)
  clear BK3 HB1
  have BK3 := n1_
  have HB1 := n2_
  have HG := Aside0.mk hgr
  have HGF := Aside0.mk hgf
  clear n1_ n2_ hgr hb2 hgf
  refine hK.out _ _ ⟨(blk_cell BK3.out 0).trans rfl, (blk_cell BK3.out 1).trans rfl, (blk_cell BK3.out 2).trans rfl⟩ (fun hHeld => ?_)
  clear hK K
  refine norm_ (a' := ?_) ?_ ?_
  rotate_left
  · show Act.put _ (some 6) _ = _
    simp only [Act.put, List.setIfInBounds_toArray, List.set_cons_zero, List.set_cons_succ, i64_w, i32_w]
    rfl
  refine one_ (i := 3) (N := some 8) #[true, true, true, true, false] rfl rfl (by kernel_rfl) (by decide) (fun K hK => ?_)
  refine goes_ Try.func18 (by kernel_rfl) rfl #[.pointer (some ⟨gb, 0, none⟩), .agg #[.int .i64 a1_0, .int .i64 a1_1, .int .i64 a1_2]] (by rfl) rfl rfl (by (try simp only [List.map_toArray, List.map_cons, List.map_nil]); first | done | rfl) ?_
  have hgood := gof_good false l0 l0.length (Nat.le_refl _)
  rw [List.take_length, HGF.out] at hgood
  have hks : ks = (gof false l0).2 := by rw [HGF.out]
  have hnx : (fun k => (celAt l k).xs) = nxt false l0 := by
    funext k
    rw [celAt_xs]
    unfold nxt
    rw [HGF.out]
  refine (rc_calls w2.heap.size gb gm l kv ks ⟨a1_0, a1_1, a1_2⟩ w3 HG.out HK.out.2.2 (fun x hx => gof_wf false l0 HK.out.2.1 x (hks ▸ hx)) (by have := hgood.klen; have := HK.out.1; simp only at *; omega) (fun k => ⟨by rw [celAt_xs]; exact Nat.le_trans (hgood.at k).2 HK.out.1, fun x hx => by rw [hks]; exact nxt_keys false l0 k x (by rw [← hnx]; exact hx)⟩)).mono ?_
  rw [hnx]
  rintro e_ w4 ⟨v, xs, rfl, hv, hb4, hsx, hmx⟩
  refine ⟨_, rfl, ?_⟩
  have hxr : xs = r := by
    rw [← HRR.out]
    exact hsx.ext (deps_srt false l0 _) (fun x => (hmx x).trans (deps_mem false l0 _ x).symm)
  rw [hxr] at hv
  have HV := Aside0.mk (Kd.R_lower hv HB1.out.size)
  have n1_ := Aside0.mk (blk_below BK3.out hb4)
  have n2_ := Aside0.mk (below_step HB1.out hb4)
  clear BK3 HB1 hv hb4 hsx hmx hxr hnx hks hgood
  have BK3 := n1_
  have HB1 := n2_
  clear n1_ n2_
  refine hK.out _ _ ⟨(blk_cell BK3.out 0).trans rfl, (blk_cell BK3.out 1).trans rfl, (blk_cell BK3.out 2).trans rfl⟩ (fun hHeld => ?_)
  clear hK K
  refine norm_ (a' := ?_) ?_ ?_
  rotate_left
  · show Act.put _ (some 8) _ = _
    simp only [Act.put, List.setIfInBounds_toArray, List.set_cons_zero, List.set_cons_succ, i64_w, i32_w]
    rfl
  refine pure_ (i := 4) (N := some 4) (v := ?_) (a' := ?_) #[true, true, true, true, true] rfl rfl (by kernel_rfl) (fun _ _ _ h => h) (Or.inl ⟨by rfl, ?_⟩) ?_ ?_
  rotate_left
  · intro w'
    go_simp
    with_reducible rfl
  rotate_left
  · simp only [Act.put, List.setIfInBounds_toArray, List.set_cons_zero, List.set_cons_succ, i64_w, i32_w]
    rfl
  refine done_ (by kernel_rfl) ?_
  try clear hHeld
  go_wp2
  go_ret
  exact ⟨v, rfl, HV.out, HB1.out⟩
open Classical in
noncomputable def depgraph_Dependents.f (l0 : List (S37)) (a1_0 : Int) (a1_1 : Int) (a1_2 : Int) : Option ((List (S24))) := if Okd l0 ⟨a1_0, a1_1, a1_2⟩ then some (deps true l0 ⟨a1_0, a1_1, a1_2⟩) else none
set_option maxHeartbeats 8000000 in
set_option maxRecDepth 100000 in
theorem depgraph_Dependents.calls (A0 : Option Addr) (c0 : Nat) (l0 : List (S37)) (a1_0 : Int) (a1_1 : Int) (a1_2 : Int) (r : List (S24)) (w : World) (hr0 : Kd.C k37 w A0 l0.length l0) (hc0 : l0.length ≤ c0) (h : depgraph_Dependents.f l0 a1_0 a1_1 a1_2 = some r) :
    Calls Try.prog 9 #[.slice A0 l0.length c0, .agg #[.int .i64 a1_0, .int .i64 a1_1, .int .i64 a1_2]] w fun e w' => ∃ v0_ : Value, e = .returned (v0_) ∧ Kd.R k24 24 w' w.heap.size (fun _ => True) v0_ r ∧ Below w.heap.size w w' := by
  have mixed : Try.prog.follows .mixedOrders = true := by kernel_rfl
  have hu24 := Try.underlying24
  have hu26 := Try.underlying26
  unfold depgraph_Dependents.f at h
  split at h
  case isFalse => cases h
  rename_i hk
  have HK := Aside0.mk hk
  have HRR := Aside0.mk (Option.some.inj h)
  have HR := Aside0.mk hr0
  have HC := Aside0.mk hc0
  clear hk h hr0 hc0
  go_enter Try.func9, Try.ntmps9
  go_wp2_with (first | ((with_reducible refine gate_dst (N := 3) rfl ?_); refine box_event ?hg (N := 3) ?hd (cs := #[.int .i64 a1_0, .int .i64 a1_1, .int .i64 a1_2]) (t := 24) ?hr ?_; (case hd => rfl); (case hg => rfl); (case hr => first | (go_simp; done) | (go_simp; rfl)); intro g3 hg3 w1 hbox hb3; have BK3 := Aside0.mk hbox; have HB1 := Aside0.mk hb3; clear hbox hb3 hg3))
  refine start_ (n := 5) (S := fun w' => w'.cell? ⟨g3, 0, none⟩ = some (.int .i64 a1_0) ∧ w'.cell? ⟨g3, 1, none⟩ = some (.int .i64 a1_1) ∧ w'.cell? ⟨g3, 2, none⟩ = some (.int .i64 a1_2)) (ds := []) #[false, false, false, false, false] (by kernel_rfl) rfl rfl ⟨(blk_cell (blk_drew BK3.out) 0).trans rfl, (blk_cell (blk_drew BK3.out) 1).trans rfl, (blk_cell (blk_drew BK3.out) 2).trans rfl⟩ (fun hHeld => ?_)
  have n1_ := Aside0.mk (blk_drew BK3.out)
  have n2_ := Aside0.mk (below_drew HB1.out)
  clear BK3 HB1
  have BK3 := n1_
  have HB1 := n2_
  clear n1_ n2_
  generalize w1.drew = w2 at BK3 HB1 hHeld ⊢
  refine pure_ (i := 0) (N := some 5) (v := ?_) (a' := ?_) #[true, false, false, false, false] rfl rfl (by kernel_rfl) (fun _ _ _ h => h) (Or.inl ⟨by rfl, ?_⟩) ?_ ?_
  rotate_left
  · intro w'
    go_simp
    with_reducible rfl
  rotate_left
  · simp only [Act.put, List.setIfInBounds_toArray, List.set_cons_zero, List.set_cons_succ, i64_w, i32_w]
    rfl
  refine take_ (i := 2) (N := some 7) (v := ?_) (a' := ?_) #[true, false, true, false, false] rfl rfl (by kernel_rfl) (fun _ _ _ h => h) (Or.inl ⟨by rfl, ?_⟩) hHeld ?_ ?_
  rotate_left
  · rintro w' ⟨s0, s1, s2⟩
    go_simp
    with_reducible rfl
  rotate_left
  · simp only [Act.put, List.setIfInBounds_toArray, List.set_cons_zero, List.set_cons_succ, i64_w, i32_w]
    rfl
  refine one_ (i := 1) (N := some 6) #[true, true, true, false, false] rfl rfl (by kernel_rfl) (by decide) (fun K hK => ?_)
  refine goes_ Try.func17 (by kernel_rfl) rfl #[.slice A0 l0.length c0, .bool true] (by rfl) rfl rfl (by (try simp only [List.map_toArray, List.map_cons, List.map_nil]); first | done | rfl) ?_
  refine (ng_calls true A0 c0 l0 w2 (Kd.C_below HR.out HB1.out) HK.out.1 HC.out HK.out.2.1).mono ?_
  rintro e_ w3 ⟨gb, gm, l, kv, ks, rfl, hgr, hb2, hgf⟩
  refine ⟨_, rfl, ?_⟩
  have n1_ := Aside0.mk (blk_below BK3.out hb2)
  have n2_ := Aside0.mk (below_step HB1.out hb2)
  have SZ := Aside0.mk (show w.heap.size ≤ w2.heap.size from HB1.out.size)
  clear BK3 HB1
  have BK3 := n1_
  have HB1 := n2_
  have HG := Aside0.mk hgr
  have HGF := Aside0.mk hgf
  clear n1_ n2_ hgr hb2 hgf
  refine hK.out _ _ ⟨(blk_cell BK3.out 0).trans rfl, (blk_cell BK3.out 1).trans rfl, (blk_cell BK3.out 2).trans rfl⟩ (fun hHeld => ?_)
  clear hK K
  refine norm_ (a' := ?_) ?_ ?_
  rotate_left
  · show Act.put _ (some 6) _ = _
    simp only [Act.put, List.setIfInBounds_toArray, List.set_cons_zero, List.set_cons_succ, i64_w, i32_w]
    rfl
  refine one_ (i := 3) (N := some 8) #[true, true, true, true, false] rfl rfl (by kernel_rfl) (by decide) (fun K hK => ?_)
  refine goes_ Try.func18 (by kernel_rfl) rfl #[.pointer (some ⟨gb, 0, none⟩), .agg #[.int .i64 a1_0, .int .i64 a1_1, .int .i64 a1_2]] (by rfl) rfl rfl (by (try simp only [List.map_toArray, List.map_cons, List.map_nil]); first | done | rfl) ?_
  have hgood := gof_good true l0 l0.length (Nat.le_refl _)
  rw [List.take_length, HGF.out] at hgood
  have hks : ks = (gof true l0).2 := by rw [HGF.out]
  have hnx : (fun k => (celAt l k).xs) = nxt true l0 := by
    funext k
    rw [celAt_xs]
    unfold nxt
    rw [HGF.out]
  refine (rc_calls w2.heap.size gb gm l kv ks ⟨a1_0, a1_1, a1_2⟩ w3 HG.out HK.out.2.2 (fun x hx => gof_wf true l0 HK.out.2.1 x (hks ▸ hx)) (by have := hgood.klen; have := HK.out.1; simp only at *; omega) (fun k => ⟨by rw [celAt_xs]; exact Nat.le_trans (hgood.at k).2 HK.out.1, fun x hx => by rw [hks]; exact nxt_keys true l0 k x (by rw [← hnx]; exact hx)⟩)).mono ?_
  rw [hnx]
  rintro e_ w4 ⟨v, xs, rfl, hv, hb4, hsx, hmx⟩
  refine ⟨_, rfl, ?_⟩
  have hxr : xs = r := by
    rw [← HRR.out]
    exact hsx.ext (deps_srt true l0 _) (fun x => (hmx x).trans (deps_mem true l0 _ x).symm)
  rw [hxr] at hv
  have HV := Aside0.mk (Kd.R_lower hv HB1.out.size)
  have n1_ := Aside0.mk (blk_below BK3.out hb4)
  have n2_ := Aside0.mk (below_step HB1.out hb4)
  clear BK3 HB1 hv hb4 hsx hmx hxr hnx hks hgood
  have BK3 := n1_
  have HB1 := n2_
  clear n1_ n2_
  refine hK.out _ _ ⟨(blk_cell BK3.out 0).trans rfl, (blk_cell BK3.out 1).trans rfl, (blk_cell BK3.out 2).trans rfl⟩ (fun hHeld => ?_)
  clear hK K
  refine norm_ (a' := ?_) ?_ ?_
  rotate_left
  · show Act.put _ (some 8) _ = _
    simp only [Act.put, List.setIfInBounds_toArray, List.set_cons_zero, List.set_cons_succ, i64_w, i32_w]
    rfl
  refine pure_ (i := 4) (N := some 4) (v := ?_) (a' := ?_) #[true, true, true, true, true] rfl rfl (by kernel_rfl) (fun _ _ _ h => h) (Or.inl ⟨by rfl, ?_⟩) ?_ ?_
  rotate_left
  · intro w'
    go_simp
    with_reducible rfl
  rotate_left
  · simp only [Act.put, List.setIfInBounds_toArray, List.set_cons_zero, List.set_cons_succ, i64_w, i32_w]
    rfl
  refine done_ (by kernel_rfl) ?_
  try clear hHeld
  go_wp2
  go_ret
  exact ⟨v, rfl, HV.out, HB1.out⟩
end Go.Proofs.Yteekdkkfegcoeaa.Dg
