/- newGraph: the graph of a list of edges. Condition: at most 400 edges, well-formed keys. -/
import Derived.Test.YteekdkkfegcoeaaDghGr
import Derived.Deep.LoopGhost
import Derived.Sort.CutIn
namespace Go.Proofs.Yteekdkkfegcoeaa.Dg
open Go.RowKit Go.Sort Go.Lib Go.Proofs.YteekdkkfegcoeaaW.PrintWords Go.Proofs.YteekdkkfegcoeaaW.PrintLast Go.Proofs.YteekdkkfegcoeaaW.PrintMore
open Go.Proofs.Yteekdkkfegcoeaa
open Go.ChangeMaps (setBlock)
set_option linter.unusedVariables false
set_option linter.unusedSimpArgs false
attribute [local go_sem] Oper.semAt_some
attribute [local go_sem] max2_int min2_int
abbrev Gs := List (S24 × List S24) × List S24
def efrom (rev : Bool) (e : S37) : S24 := if rev then e.f1 else e.f0
def eto (rev : Bool) (e : S37) : S24 := if rev then e.f0 else e.f1
def gstep (rev : Bool) (s : Gs) (e : S37) : Gs := (Mp.aset s.1 (efrom rev e) (ins ((Mp.aget s.1 (efrom rev e)).getD []) (eto rev e)), ins (ins s.2 (efrom rev e)) (eto rev e))
def gof (rev : Bool) (es : List S37) : Gs := es.foldl (gstep rev) ([], [])
theorem gof_zero (rev : Bool) (es : List S37) : gof rev (es.take 0) = (Mp.vals Cel.xs [], []) := by rw [List.take_zero]; rfl
theorem gof_succ (rev : Bool) (es : List S37) (j : Nat) (h : j < es.length) : gof rev (es.take (j + 1)) = gstep rev (gof rev (es.take j)) es[j] := by
  unfold gof
  rw [List.take_succ_eq_append_getElem h, List.foldl_append]
  rfl
structure Good (n : Nat) (s : Gs) : Prop where
  rows : ∀ p ∈ s.1, Srt p.2 ∧ p.2.length ≤ n
  keys : Srt s.2
  klen : s.2.length ≤ 2 * n
theorem Good.at {n : Nat} {s : Gs} (h : Good n s) (k : S24) : Srt ((Mp.aget s.1 k).getD []) ∧ ((Mp.aget s.1 k).getD []).length ≤ n := by
  cases hg : Mp.aget s.1 k with
  | none => exact ⟨List.Pairwise.nil, Nat.zero_le _⟩
  | some c => exact h.rows _ (Mp.aget_mem hg)
theorem Good.step {n : Nat} {s : Gs} (h : Good n s) (rev : Bool) (e : S37) : Good (n + 1) (gstep rev s e) := by
  obtain ⟨h1, h2⟩ := h.at (efrom rev e)
  obtain ⟨i1, i2, i3, _⟩ := h1.ins (eto rev e)
  obtain ⟨j1, j2, j3, _⟩ := h.keys.ins (efrom rev e)
  obtain ⟨k1, k2, k3, _⟩ := j1.ins (eto rev e)
  refine ⟨fun p hp => ?_, k1, ?_⟩
  · rcases mem_aset hp with ⟨hp, _⟩ | rfl
    · exact ⟨(h.rows p hp).1, Nat.le_succ_of_le (h.rows p hp).2⟩
    · exact ⟨i1, by show (ins _ _).length ≤ _; omega⟩
  · show (ins (ins s.2 _) _).length ≤ _
    have := h.klen
    omega
theorem gof_good (rev : Bool) (es : List S37) : ∀ j, j ≤ es.length → Good j (gof rev (es.take j))
  | 0, _ => ⟨by intro p hp; simp [gof] at hp, List.Pairwise.nil, Nat.le_refl _⟩
  | j + 1, h => by rw [gof_succ rev es j h]; exact (gof_good rev es j (by omega)).step rev _

theorem rd37_at (es : List S37) (j : Nat) (h : j < es.length) : rd_T37 es (j : Int) = es[j] := by simp [rd_T37, List.getD, h]
theorem rd37_mem (es : List S37) (j : Nat) (h : j < es.length) : rd_T37 es (j : Int) ∈ es := by rw [rd37_at es j h]; exact List.getElem_mem h
theorem below_setBlock {n : Nat} {w0 w : World} {g : Nat} {o : Obj} (h : Below n w0 w) (hg : n ≤ g) : Below n w0 (setBlock w g o) :=
  h.trans ⟨rfl, rfl, rfl, by simp [setBlock], fun k hk => Mp.setBlock_other o (by omega)⟩
theorem _root_.Go.RowKit.Below.trans_below {a b c : World} {n : Nat} (h : Below n a b) (hn : n ≤ b.heap.size) (k : Below b.heap.size b c) : Below n a c := h.trans ⟨k.os, k.tape, k.output, k.size, fun q hq => k.block q (by omega)⟩
theorem celAt_xs (l : List (S24 × Cel)) (k : S24) : (celAt l k).xs = (Mp.aget (Mp.vals Cel.xs l) k).getD [] := by
  unfold celAt
  rw [Mp.aget_vals]
  cases Mp.aget l k <;> rfl
set_option maxHeartbeats 8000000 in
set_option maxRecDepth 100000 in
theorem ng_calls (rev : Bool) (A : Option Addr) (c : Nat) (es : List S37) (W : World) (hC : Kd.C k37 W A es.length es) (hn : es.length ≤ 400) (hc : es.length ≤ c) (hw : ∀ e ∈ es, wfK e.f0 ∧ wfK e.f1) :
    Calls Try.prog 17 #[.slice A es.length c, .bool rev] W fun e w' => ∃ gb gm l kv ks, e = .returned (.pointer (some ⟨gb, 0, none⟩)) ∧ Gr W.heap.size gb gm l kv ks w' ∧ Below W.heap.size W w' ∧ gof rev es = (Mp.vals Cel.xs l, ks) := by
  have mixed : Try.prog.follows .mixedOrders = true := by kernel_rfl
  have hu24 := Try.underlying24
  have hu22 := Try.underlying22
  have hu26 := Try.underlying26
  have hu37 := Try.underlying37
  have hu50 := Try.underlying50
  have hu52 := Try.underlying52
  have HC := Aside0.mk hC
  have HW := Aside0.mk hw
  have HT := Aside0.mk (show es.take es.length = es from List.take_length)
  clear hC hw
  have hmin : min (es.length : Int) 400 = (es.length : Int) := by omega
  have hmax : max (es.length : Int) 0 = (es.length : Int) := by omega
  generalize hnn : es.length = n at HC HT hn hc hmin hmax ⊢
  have HN := Aside0.mk hnn
  clear hnn
  go_enter Try.func17, Try.ntmps17
  go_wp2_with (refine Mp.wp_make_at rfl 50 rfl (enc := encK) Try.underlying50 ?_; intro w1 gm hgm hat hg hb hs; have HM := Aside0.mk hat; have HB := Aside0.mk hb; have GM := Aside0.mk (show W.heap.size ≤ gm by omega); clear hat hg hb hs hgm)
  have hbx := blk_new w1 (.cells #[.map (some gm), .slice none 0 0] 52 (0, 0))
  have h1 : Gr W.heap.size w1.heap.size gm [] (.slice none 0 0) [] (w1.alloc (.cells #[.map (some gm), .slice none 0 0] 52 (0, 0))) :=
    ⟨hbx, HM.out.alloc _, by simp, own_nil _ _, List.Pairwise.nil, by simp, HB.out.size, GM.out⟩
  have HG0 := Aside0.mk h1
  have HB0 := Aside0.mk (below_alloc HB.out (.cells #[.map (some gm), .slice none 0 0] 52 (0, 0)))
  generalize w1.heap.size = gb at HG0 ⊢
  generalize w1.alloc (.cells #[.map (some gm), .slice none 0 0] 52 (0, 0)) = w2 at HG0 HB0 ⊢
  clear h1 hbx HM HB GM hmin hmax
  go_loopg [19] n (fun kx s19 wr => ∃ j : Nat, s19 = .int .i64 j ∧ j ≤ n ∧ n - j ≤ kx ∧ Aside0 (∃ l kv ks, Gr W.heap.size gb gm l kv ks wr ∧ gof rev (es.take j) = (Mp.vals Cel.xs l, ks)) ∧ Aside0 (Below W.heap.size W wr))
  case atStart =>
    have h0_ : ∃ l kv ks, Gr W.heap.size gb gm l kv ks w2 ∧ gof rev (es.take 0) = (Mp.vals Cel.xs l, ks) := ⟨[], _, [], HG0.out, gof_zero rev es⟩
    exact ⟨0, rfl, Nat.zero_le _, Nat.le_refl _, ⟨h0_⟩, HB0⟩
  case round =>
    clear HG0 HB0
    obtain ⟨j, rfl, hjn, hjk, ⟨l, kv, ks, hgr, hgf⟩, HB⟩ := hrel
    by_cases hlt : j < n
    · obtain ⟨ad, e_, q0, q1, q2, q3, q4, q5⟩ := at_T37 (Kd.C_below HC.out HB.out) (j : Int) (by omega) (by omega)
      subst e_
      rw [Int.toNat_natCast] at q0 q1 q2 q3 q4 q5
      obtain ⟨x, hx⟩ : ∃ x, x = rd_T37 es (j : Int) := ⟨_, rfl⟩
      rw [← hx] at q0 q1 q2 q3 q4 q5
      have HX := Aside0.mk (show j < es.length ∧ x = rd_T37 es (j : Int) from ⟨by have := HN.out; omega, hx⟩)
      clear hx
      have HG := Aside0.mk hgr
      have HF := Aside0.mk hgf
      clear hgr hgf
      have hj0 : (0 : Int) ≤ (j : Int) := by omega
      have hjl : (j : Int) < (n : Int) := by omega
      go_upto_region 5 with (first | ((with_reducible refine gate_dst (N := 7) rfl ?_); refine box_event ?hg (N := 7) ?hd (cs := #[.int .i64 0, .int .i64 0, .int .i64 0, .int .i64 0, .int .i64 0, .int .i64 0]) (t := 37) ?hr ?_; (case hd => rfl); (case hg => rfl); (case hr => first | (go_simp; done) | (go_simp; rfl)); intro g7 hg7 w3 hbox hb3; have c0_ : w3.cell? ⟨g7, 0, none⟩ = some (.int .i64 0) := (blk_cell hbox 0).trans rfl; have c1_ : w3.cell? ⟨g7, 1, none⟩ = some (.int .i64 0) := (blk_cell hbox 1).trans rfl; have c2_ : w3.cell? ⟨g7, 2, none⟩ = some (.int .i64 0) := (blk_cell hbox 2).trans rfl; have c3_ : w3.cell? ⟨g7, 3, none⟩ = some (.int .i64 0) := (blk_cell hbox 3).trans rfl; have c4_ : w3.cell? ⟨g7, 4, none⟩ = some (.int .i64 0) := (blk_cell hbox 4).trans rfl; have c5_ : w3.cell? ⟨g7, 5, none⟩ = some (.int .i64 0) := (blk_cell hbox 5).trans rfl; have f0_ := blk_frozen hbox 0; have f1_ := blk_frozen hbox 1; have f2_ := blk_frozen hbox 2; have f3_ := blk_frozen hbox 3; have f4_ := blk_frozen hbox 4; have f5_ := blk_frozen hbox 5; have BK7 := Aside0.mk hbox; have HB3 := Aside0.mk hb3; have HG7 := Aside0.mk hg7; clear hbox hb3 hg7))
      have n1_ := Aside0.mk (show ((((((w3.setCell ⟨g7, 0, none⟩ (.int .i64 x.f0.f0)).setCell ⟨g7, 1, none⟩ (.int .i64 x.f0.f1)).setCell ⟨g7, 2, none⟩ (.int .i64 x.f0.f2)).setCell ⟨g7, 3, none⟩ (.int .i64 x.f1.f0)).setCell ⟨g7, 4, none⟩ (.int .i64 x.f1.f1)).setCell ⟨g7, 5, none⟩ (.int .i64 x.f1.f2)).heap[g7]? = some (.cells #[.int .i64 x.f0.f0, .int .i64 x.f0.f1, .int .i64 x.f0.f2, .int .i64 x.f1.f0, .int .i64 x.f1.f1, .int .i64 x.f1.f2] 37 (0, 0)) from by refine blk_put (cs := #[(.int .i64 x.f0.f0), (.int .i64 x.f0.f1), (.int .i64 x.f0.f2), (.int .i64 x.f1.f0), (.int .i64 x.f1.f1), (.int .i64 0)]) ?_ 5 _ rfl; refine blk_put (cs := #[(.int .i64 x.f0.f0), (.int .i64 x.f0.f1), (.int .i64 x.f0.f2), (.int .i64 x.f1.f0), (.int .i64 0), (.int .i64 0)]) ?_ 4 _ rfl; refine blk_put (cs := #[(.int .i64 x.f0.f0), (.int .i64 x.f0.f1), (.int .i64 x.f0.f2), (.int .i64 0), (.int .i64 0), (.int .i64 0)]) ?_ 3 _ rfl; refine blk_put (cs := #[(.int .i64 x.f0.f0), (.int .i64 x.f0.f1), (.int .i64 0), (.int .i64 0), (.int .i64 0), (.int .i64 0)]) ?_ 2 _ rfl; refine blk_put (cs := #[(.int .i64 x.f0.f0), (.int .i64 0), (.int .i64 0), (.int .i64 0), (.int .i64 0), (.int .i64 0)]) ?_ 1 _ rfl; refine blk_put (cs := #[(.int .i64 0), (.int .i64 0), (.int .i64 0), (.int .i64 0), (.int .i64 0), (.int .i64 0)]) ?_ 0 _ rfl; exact BK7.out)
      have n2_ := Aside0.mk (show Below wr.heap.size wr ((((((w3.setCell ⟨g7, 0, none⟩ (.int .i64 x.f0.f0)).setCell ⟨g7, 1, none⟩ (.int .i64 x.f0.f1)).setCell ⟨g7, 2, none⟩ (.int .i64 x.f0.f2)).setCell ⟨g7, 3, none⟩ (.int .i64 x.f1.f0)).setCell ⟨g7, 4, none⟩ (.int .i64 x.f1.f1)).setCell ⟨g7, 5, none⟩ (.int .i64 x.f1.f2)) from by exact (below_set (below_set (below_set (below_set (below_set (below_set HB3.out (Nat.le_of_eq HG7.out.symm)) (Nat.le_of_eq HG7.out.symm)) (Nat.le_of_eq HG7.out.symm)) (Nat.le_of_eq HG7.out.symm)) (Nat.le_of_eq HG7.out.symm)) (Nat.le_of_eq HG7.out.symm)))
      clear BK7 HB3 c0_ c1_ c2_ c3_ c4_ c5_ f0_ f1_ f2_ f3_ f4_ f5_ q0 q1 q2 q3 q4 q5
      have HB3 := n2_
      have BK7 := n1_
      clear n1_ n2_
      generalize ((((((w3.setCell ⟨g7, 0, none⟩ (.int .i64 x.f0.f0)).setCell ⟨g7, 1, none⟩ (.int .i64 x.f0.f1)).setCell ⟨g7, 2, none⟩ (.int .i64 x.f0.f2)).setCell ⟨g7, 3, none⟩ (.int .i64 x.f1.f0)).setCell ⟨g7, 4, none⟩ (.int .i64 x.f1.f1)).setCell ⟨g7, 5, none⟩ (.int .i64 x.f1.f2)) = w4 at BK7 HB3 ⊢
      refine start_ (n := 8) (S := fun w' => w'.cell? ⟨g7, 0, none⟩ = some (.int .i64 x.f0.f0) ∧ w'.cell? ⟨g7, 1, none⟩ = some (.int .i64 x.f0.f1) ∧ w'.cell? ⟨g7, 2, none⟩ = some (.int .i64 x.f0.f2) ∧ w'.cell? ⟨g7, 3, none⟩ = some (.int .i64 x.f1.f0) ∧ w'.cell? ⟨g7, 4, none⟩ = some (.int .i64 x.f1.f1) ∧ w'.cell? ⟨g7, 5, none⟩ = some (.int .i64 x.f1.f2)) (ds := [7]) #[false, false, false, false, false, false, false, false] (by kernel_rfl) rfl rfl ⟨(blk_cell (blk_drew BK7.out) 0).trans rfl, (blk_cell (blk_drew BK7.out) 1).trans rfl, (blk_cell (blk_drew BK7.out) 2).trans rfl, (blk_cell (blk_drew BK7.out) 3).trans rfl, (blk_cell (blk_drew BK7.out) 4).trans rfl, (blk_cell (blk_drew BK7.out) 5).trans rfl⟩ (fun hHeld => ?_)
      have n1_ := Aside0.mk (blk_drew BK7.out)
      have n2_ := Aside0.mk (below_drew HB3.out)
      clear BK7 HB3
      have HB3 := n2_
      have BK7 := n1_
      clear n1_ n2_
      generalize w4.drew = w5 at BK7 HB3 hHeld ⊢
      refine pure_ (i := 0) (N := some 23) (v := ?_) (a' := ?_) #[true, false, false, false, false, false, false, false] rfl rfl (by kernel_rfl) (fun _ _ _ h => h) (Or.inl ⟨by rfl, ?_⟩) ?_ ?_
      rotate_left
      · intro w'
        go_simp
        with_reducible rfl
      rotate_left
      · simp only [Act.put, List.setIfInBounds_toArray, List.set_cons_zero, List.set_cons_succ, i64_w, i32_w]
        rfl
      refine pure_ (i := 2) (N := some 25) (v := ?_) (a' := ?_) #[true, false, true, false, false, false, false, false] rfl rfl (by kernel_rfl) (fun _ _ _ h => h) (Or.inl ⟨by rfl, ?_⟩) ?_ ?_
      rotate_left
      · intro w'
        go_simp
        with_reducible rfl
      rotate_left
      · simp only [Act.put, List.setIfInBounds_toArray, List.set_cons_zero, List.set_cons_succ, i64_w, i32_w]
        rfl
      refine take_ (i := 1) (N := some 24) (v := ?_) (a' := ?_) #[true, true, true, false, false, false, false, false] rfl rfl (by kernel_rfl) (fun _ _ _ h => h) (Or.inl ⟨by rfl, ?_⟩) hHeld ?_ ?_
      rotate_left
      · rintro w' ⟨s0, s1, s2, s3, s4, s5⟩
        go_simp
        with_reducible rfl
      rotate_left
      · simp only [Act.put, List.setIfInBounds_toArray, List.set_cons_zero, List.set_cons_succ, i64_w, i32_w]
        rfl
      refine take_ (i := 3) (N := some 26) (v := ?_) (a' := ?_) #[true, true, true, true, false, false, false, false] rfl rfl (by kernel_rfl) (fun _ _ _ h => h) (Or.inl ⟨by rfl, ?_⟩) hHeld ?_ ?_
      rotate_left
      · rintro w' ⟨s0, s1, s2, s3, s4, s5⟩
        go_simp
        with_reducible rfl
      rotate_left
      · simp only [Act.put, List.setIfInBounds_toArray, List.set_cons_zero, List.set_cons_succ, i64_w, i32_w]
        rfl
      refine join_ (σ := Nat × Nat) 2 #[true, true, true, true, true, true, false, false] (fun s_ => [(8, .pointer (some ⟨s_.1, 0, none⟩)), (9, .pointer (some ⟨s_.2, 0, none⟩))]) (fun s_ w' => (fun w' => w'.cell? ⟨g7, 0, none⟩ = some (.int .i64 x.f0.f0) ∧ w'.cell? ⟨g7, 1, none⟩ = some (.int .i64 x.f0.f1) ∧ w'.cell? ⟨g7, 2, none⟩ = some (.int .i64 x.f0.f2) ∧ w'.cell? ⟨g7, 3, none⟩ = some (.int .i64 x.f1.f0) ∧ w'.cell? ⟨g7, 4, none⟩ = some (.int .i64 x.f1.f1) ∧ w'.cell? ⟨g7, 5, none⟩ = some (.int .i64 x.f1.f2)) w' ∧ w'.heap[s_.1]? = some (.cells #[.int .i64 0, .int .i64 0, .int .i64 0] 24 (0, 0)) ∧ w'.heap[s_.2]? = some (.cells #[.int .i64 0, .int .i64 0, .int .i64 0] 24 (0, 0)) ∧ s_.1 ≠ s_.2 ∧ g7 ≠ s_.1 ∧ wr.heap.size ≤ s_.1 ∧ wr.heap.size ≤ s_.2 ∧ Below wr.heap.size wr w') ?_ ?_
      rotate_left
      · intro hCont
        refine two_ (i := 4) (j := 5) (Ni := some 8) (Nj := some 9) #[true, true, true, true, true, false, false, false] #[true, true, true, true, false, true, false, false] rfl rfl rfl rfl (by kernel_rfl) (by decide) (by decide) (fun K hK => ?_) (fun K hK => ?_)
        · skip
          refine value_ (w1 := w5.alloc (.cells #[.int .i64 0, .int .i64 0, .int .i64 0] 24 (0, 0))) (v := .pointer (some ⟨w5.heap.size, 0, none⟩)) (by rfl) rfl ?_ ?_
          · go_simp
            try rfl
          refine hK.out _ _ ⟨(blk_cell (blk_alloc BK7.out _) 0).trans rfl, (blk_cell (blk_alloc BK7.out _) 1).trans rfl, (blk_cell (blk_alloc BK7.out _) 2).trans rfl, (blk_cell (blk_alloc BK7.out _) 3).trans rfl, (blk_cell (blk_alloc BK7.out _) 4).trans rfl, (blk_cell (blk_alloc BK7.out _) 5).trans rfl⟩ (fun hHeld => ?_)
          clear hK K
          refine one_ (i := 5) (N := some 9) #[true, true, true, true, true, true, false, false] rfl rfl (by kernel_rfl) (by decide) (fun K hK => ?_)
          refine value_ (w1 := (w5.alloc (.cells #[.int .i64 0, .int .i64 0, .int .i64 0] 24 (0, 0))).alloc (.cells #[.int .i64 0, .int .i64 0, .int .i64 0] 24 (0, 0))) (v := .pointer (some ⟨(w5.alloc (.cells #[.int .i64 0, .int .i64 0, .int .i64 0] 24 (0, 0))).heap.size, 0, none⟩)) (by rfl) rfl ?_ ?_
          · go_simp
            try rfl
          refine hK.out _ _ ⟨(blk_cell (blk_alloc (blk_alloc BK7.out _) _) 0).trans rfl, (blk_cell (blk_alloc (blk_alloc BK7.out _) _) 1).trans rfl, (blk_cell (blk_alloc (blk_alloc BK7.out _) _) 2).trans rfl, (blk_cell (blk_alloc (blk_alloc BK7.out _) _) 3).trans rfl, (blk_cell (blk_alloc (blk_alloc BK7.out _) _) 4).trans rfl, (blk_cell (blk_alloc (blk_alloc BK7.out _) _) 5).trans rfl⟩ (fun hHeld => ?_)
          clear hK K
          have z_ : (w5.alloc (.cells #[.int .i64 0, .int .i64 0, .int .i64 0] 24 (0, 0))).heap.size = w5.heap.size + 1 := size_alloc1 _ _
          have p1 : ((w5.alloc (.cells #[.int .i64 0, .int .i64 0, .int .i64 0] 24 (0, 0))).alloc (.cells #[.int .i64 0, .int .i64 0, .int .i64 0] 24 (0, 0))).heap[w5.heap.size]? = some (.cells #[.int .i64 0, .int .i64 0, .int .i64 0] 24 (0, 0)) := blk_alloc (blk_new w5 _) _
          have p2 : ((w5.alloc (.cells #[.int .i64 0, .int .i64 0, .int .i64 0] 24 (0, 0))).alloc (.cells #[.int .i64 0, .int .i64 0, .int .i64 0] 24 (0, 0))).heap[(w5.alloc (.cells #[.int .i64 0, .int .i64 0, .int .i64 0] 24 (0, 0))).heap.size]? = some (.cells #[.int .i64 0, .int .i64 0, .int .i64 0] 24 (0, 0)) := blk_new (w5.alloc (.cells #[.int .i64 0, .int .i64 0, .int .i64 0] 24 (0, 0))) _
          have p3 : Below wr.heap.size wr ((w5.alloc (.cells #[.int .i64 0, .int .i64 0, .int .i64 0] 24 (0, 0))).alloc (.cells #[.int .i64 0, .int .i64 0, .int .i64 0] 24 (0, 0))) := below_alloc (below_alloc HB3.out _) _
          have p4 : wr.heap.size ≤ w5.heap.size := HB3.out.size
          have p5 : g7 < w5.heap.size := blk_lt BK7.out
          have hF := hCont (w5.heap.size, (w5.alloc (.cells #[.int .i64 0, .int .i64 0, .int .i64 0] 24 (0, 0))).heap.size) _ ⟨hHeld, p1, p2, (by show w5.heap.size ≠ (w5.alloc (.cells #[.int .i64 0, .int .i64 0, .int .i64 0] 24 (0, 0))).heap.size; omega), (by show g7 ≠ w5.heap.size; omega), (by show wr.heap.size ≤ w5.heap.size; omega), (by show wr.heap.size ≤ (w5.alloc (.cells #[.int .i64 0, .int .i64 0, .int .i64 0] 24 (0, 0))).heap.size; omega), p3⟩
          refine norm_ ?_ hF
          simp only [putAll, Act.put, List.setIfInBounds_toArray, List.set_cons_zero, List.set_cons_succ]
        · skip
          refine value_ (w1 := w5.alloc (.cells #[.int .i64 0, .int .i64 0, .int .i64 0] 24 (0, 0))) (v := .pointer (some ⟨w5.heap.size, 0, none⟩)) (by rfl) rfl ?_ ?_
          · go_simp
            try rfl
          refine hK.out _ _ ⟨(blk_cell (blk_alloc BK7.out _) 0).trans rfl, (blk_cell (blk_alloc BK7.out _) 1).trans rfl, (blk_cell (blk_alloc BK7.out _) 2).trans rfl, (blk_cell (blk_alloc BK7.out _) 3).trans rfl, (blk_cell (blk_alloc BK7.out _) 4).trans rfl, (blk_cell (blk_alloc BK7.out _) 5).trans rfl⟩ (fun hHeld => ?_)
          clear hK K
          refine one_ (i := 4) (N := some 8) #[true, true, true, true, true, true, false, false] rfl rfl (by kernel_rfl) (by decide) (fun K hK => ?_)
          refine value_ (w1 := (w5.alloc (.cells #[.int .i64 0, .int .i64 0, .int .i64 0] 24 (0, 0))).alloc (.cells #[.int .i64 0, .int .i64 0, .int .i64 0] 24 (0, 0))) (v := .pointer (some ⟨(w5.alloc (.cells #[.int .i64 0, .int .i64 0, .int .i64 0] 24 (0, 0))).heap.size, 0, none⟩)) (by rfl) rfl ?_ ?_
          · go_simp
            try rfl
          refine hK.out _ _ ⟨(blk_cell (blk_alloc (blk_alloc BK7.out _) _) 0).trans rfl, (blk_cell (blk_alloc (blk_alloc BK7.out _) _) 1).trans rfl, (blk_cell (blk_alloc (blk_alloc BK7.out _) _) 2).trans rfl, (blk_cell (blk_alloc (blk_alloc BK7.out _) _) 3).trans rfl, (blk_cell (blk_alloc (blk_alloc BK7.out _) _) 4).trans rfl, (blk_cell (blk_alloc (blk_alloc BK7.out _) _) 5).trans rfl⟩ (fun hHeld => ?_)
          clear hK K
          have z_ : (w5.alloc (.cells #[.int .i64 0, .int .i64 0, .int .i64 0] 24 (0, 0))).heap.size = w5.heap.size + 1 := size_alloc1 _ _
          have p1 : ((w5.alloc (.cells #[.int .i64 0, .int .i64 0, .int .i64 0] 24 (0, 0))).alloc (.cells #[.int .i64 0, .int .i64 0, .int .i64 0] 24 (0, 0))).heap[(w5.alloc (.cells #[.int .i64 0, .int .i64 0, .int .i64 0] 24 (0, 0))).heap.size]? = some (.cells #[.int .i64 0, .int .i64 0, .int .i64 0] 24 (0, 0)) := blk_new (w5.alloc (.cells #[.int .i64 0, .int .i64 0, .int .i64 0] 24 (0, 0))) _
          have p2 : ((w5.alloc (.cells #[.int .i64 0, .int .i64 0, .int .i64 0] 24 (0, 0))).alloc (.cells #[.int .i64 0, .int .i64 0, .int .i64 0] 24 (0, 0))).heap[w5.heap.size]? = some (.cells #[.int .i64 0, .int .i64 0, .int .i64 0] 24 (0, 0)) := blk_alloc (blk_new w5 _) _
          have p3 : Below wr.heap.size wr ((w5.alloc (.cells #[.int .i64 0, .int .i64 0, .int .i64 0] 24 (0, 0))).alloc (.cells #[.int .i64 0, .int .i64 0, .int .i64 0] 24 (0, 0))) := below_alloc (below_alloc HB3.out _) _
          have p4 : wr.heap.size ≤ w5.heap.size := HB3.out.size
          have p5 : g7 < w5.heap.size := blk_lt BK7.out
          have hF := hCont ((w5.alloc (.cells #[.int .i64 0, .int .i64 0, .int .i64 0] 24 (0, 0))).heap.size, w5.heap.size) _ ⟨hHeld, p1, p2, (by show (w5.alloc (.cells #[.int .i64 0, .int .i64 0, .int .i64 0] 24 (0, 0))).heap.size ≠ w5.heap.size; omega), (by show g7 ≠ (w5.alloc (.cells #[.int .i64 0, .int .i64 0, .int .i64 0] 24 (0, 0))).heap.size; omega), (by show wr.heap.size ≤ (w5.alloc (.cells #[.int .i64 0, .int .i64 0, .int .i64 0] 24 (0, 0))).heap.size; omega), (by show wr.heap.size ≤ w5.heap.size; omega), p3⟩
          refine norm_ ?_ hF
          simp only [putAll, Act.put, List.setIfInBounds_toArray, List.set_cons_zero, List.set_cons_succ]
      rintro ⟨g8, g9⟩ w6 ⟨hHeld, hb8, hb9, hne89, hn7, hge8, hge9, hbw⟩
      have BK8 := Aside0.mk hb8
      have BK9 := Aside0.mk hb9
      have HN89 := Aside0.mk hne89
      have HN7 := Aside0.mk hn7
      have GE8 := Aside0.mk hge8
      have GE9 := Aside0.mk hge9
      have HB6 := Aside0.mk hbw
      clear hn7 hb8 hb9 hne89 hge8 hge9 hbw HB3 BK7
      dsimp only at BK8 BK9 HN89 HN7 GE8 GE9
      refine norm_ (a' := ?_) ?_ ?_
      rotate_left
      · show putAll _ [(8, .pointer (some ⟨g8, 0, none⟩)), (9, .pointer (some ⟨g9, 0, none⟩))] = _
        simp only [putAll, Act.put, List.setIfInBounds_toArray, List.set_cons_zero, List.set_cons_succ]
        rfl
      refine one_ (i := 6) (N := none) #[true, true, true, true, true, true, true, false] rfl rfl (by kernel_rfl) (by decide) (fun K hK => ?_)
      have hk7_ : (((w6.setCell ⟨g8, 0, none⟩ (.int .i64 x.f0.f0)).setCell ⟨g8, 1, none⟩ (.int .i64 x.f0.f1)).setCell ⟨g8, 2, none⟩ (.int .i64 x.f0.f2)).heap[g7]? = w6.heap[g7]? := by rw [Below.heap_setCell _ _ _ _ (show g7 ≠ _ from HN7.out), Below.heap_setCell _ _ _ _ (show g7 ≠ _ from HN7.out), Below.heap_setCell _ _ _ _ (show g7 ≠ _ from HN7.out)]
      have hS_ := hHeld
      have e0_ : w6.cell? ⟨g8, 0, none⟩ = some (.int .i64 0) := (blk_cell BK8.out 0).trans rfl
      have e1_ : w6.cell? ⟨g8, 1, none⟩ = some (.int .i64 0) := (blk_cell BK8.out 1).trans rfl
      have e2_ : w6.cell? ⟨g8, 2, none⟩ = some (.int .i64 0) := (blk_cell BK8.out 2).trans rfl
      have f0_ := blk_frozen BK8.out 0
      have f1_ := blk_frozen BK8.out 1
      have f2_ := blk_frozen BK8.out 2
      refine skip_ (w1 := (((w6.setCell ⟨g8, 0, none⟩ (.int .i64 x.f0.f0)).setCell ⟨g8, 1, none⟩ (.int .i64 x.f0.f1)).setCell ⟨g8, 2, none⟩ (.int .i64 x.f0.f2))) (by rfl) rfl ?_ ?_
      · go_simp
        try rfl
      have n1_ := Aside0.mk (show (((w6.setCell ⟨g8, 0, none⟩ (.int .i64 x.f0.f0)).setCell ⟨g8, 1, none⟩ (.int .i64 x.f0.f1)).setCell ⟨g8, 2, none⟩ (.int .i64 x.f0.f2)).heap[g8]? = some (.cells #[.int .i64 x.f0.f0, .int .i64 x.f0.f1, .int .i64 x.f0.f2] 24 (0, 0)) from by refine blk_put (cs := #[(.int .i64 x.f0.f0), (.int .i64 x.f0.f1), (.int .i64 0)]) ?_ 2 _ rfl; refine blk_put (cs := #[(.int .i64 x.f0.f0), (.int .i64 0), (.int .i64 0)]) ?_ 1 _ rfl; refine blk_put (cs := #[(.int .i64 0), (.int .i64 0), (.int .i64 0)]) ?_ 0 _ rfl; exact BK8.out)
      have n2_ := Aside0.mk (show Below wr.heap.size wr (((w6.setCell ⟨g8, 0, none⟩ (.int .i64 x.f0.f0)).setCell ⟨g8, 1, none⟩ (.int .i64 x.f0.f1)).setCell ⟨g8, 2, none⟩ (.int .i64 x.f0.f2)) from by exact (below_set (below_set (below_set HB6.out GE8.out) GE8.out) GE8.out))
      have n3_ := Aside0.mk (show (((w6.setCell ⟨g8, 0, none⟩ (.int .i64 x.f0.f0)).setCell ⟨g8, 1, none⟩ (.int .i64 x.f0.f1)).setCell ⟨g8, 2, none⟩ (.int .i64 x.f0.f2)).heap[g9]? = some (.cells #[.int .i64 0, .int .i64 0, .int .i64 0] 24 (0, 0)) from by
        rw [Below.heap_setCell _ _ _ _ (show g9 ≠ _ from HN89.out.symm), Below.heap_setCell _ _ _ _ (show g9 ≠ _ from HN89.out.symm), Below.heap_setCell _ _ _ _ (show g9 ≠ _ from HN89.out.symm)]
        exact BK9.out)
      clear BK8 BK9 HB6 e0_ e1_ e2_ f0_ f1_ f2_
      try clear hHeld
      have BK8 := n1_
      have HB6 := n2_
      have BK9 := n3_
      clear n1_ n2_ n3_
      refine hK.out _ _ ⟨(World.cell?_of_block (a := ⟨g7, 0, none⟩) hk7_).trans hS_.1, (World.cell?_of_block (a := ⟨g7, 1, none⟩) hk7_).trans hS_.2.1, (World.cell?_of_block (a := ⟨g7, 2, none⟩) hk7_).trans hS_.2.2.1, (World.cell?_of_block (a := ⟨g7, 3, none⟩) hk7_).trans hS_.2.2.2.1, (World.cell?_of_block (a := ⟨g7, 4, none⟩) hk7_).trans hS_.2.2.2.2.1, (World.cell?_of_block (a := ⟨g7, 5, none⟩) hk7_).trans hS_.2.2.2.2.2⟩ (fun hHeld => ?_)
      clear hK K
      clear hk7_ hS_ hHeld
      generalize (((w6.setCell ⟨g8, 0, none⟩ (.int .i64 x.f0.f0)).setCell ⟨g8, 1, none⟩ (.int .i64 x.f0.f1)).setCell ⟨g8, 2, none⟩ (.int .i64 x.f0.f2)) = w7 at BK8 BK9 HB6 ⊢
      refine last_ (i := 7) (N := none) #[true, true, true, true, true, true, true, true] rfl rfl (by kernel_rfl) (by decide) (fun K hK => ?_)
      have e0_ : w7.cell? ⟨g9, 0, none⟩ = some (.int .i64 0) := (blk_cell BK9.out 0).trans rfl
      have e1_ : w7.cell? ⟨g9, 1, none⟩ = some (.int .i64 0) := (blk_cell BK9.out 1).trans rfl
      have e2_ : w7.cell? ⟨g9, 2, none⟩ = some (.int .i64 0) := (blk_cell BK9.out 2).trans rfl
      have f0_ := blk_frozen BK9.out 0
      have f1_ := blk_frozen BK9.out 1
      have f2_ := blk_frozen BK9.out 2
      refine skip_ (w1 := (((w7.setCell ⟨g9, 0, none⟩ (.int .i64 x.f1.f0)).setCell ⟨g9, 1, none⟩ (.int .i64 x.f1.f1)).setCell ⟨g9, 2, none⟩ (.int .i64 x.f1.f2))) (by rfl) rfl ?_ ?_
      · go_simp
        try rfl
      have n1_ := Aside0.mk (show (((w7.setCell ⟨g9, 0, none⟩ (.int .i64 x.f1.f0)).setCell ⟨g9, 1, none⟩ (.int .i64 x.f1.f1)).setCell ⟨g9, 2, none⟩ (.int .i64 x.f1.f2)).heap[g9]? = some (.cells #[.int .i64 x.f1.f0, .int .i64 x.f1.f1, .int .i64 x.f1.f2] 24 (0, 0)) from by refine blk_put (cs := #[(.int .i64 x.f1.f0), (.int .i64 x.f1.f1), (.int .i64 0)]) ?_ 2 _ rfl; refine blk_put (cs := #[(.int .i64 x.f1.f0), (.int .i64 0), (.int .i64 0)]) ?_ 1 _ rfl; refine blk_put (cs := #[(.int .i64 0), (.int .i64 0), (.int .i64 0)]) ?_ 0 _ rfl; exact BK9.out)
      have n2_ := Aside0.mk (show Below wr.heap.size wr (((w7.setCell ⟨g9, 0, none⟩ (.int .i64 x.f1.f0)).setCell ⟨g9, 1, none⟩ (.int .i64 x.f1.f1)).setCell ⟨g9, 2, none⟩ (.int .i64 x.f1.f2)) from by exact (below_set (below_set (below_set HB6.out GE9.out) GE9.out) GE9.out))
      have n3_ := Aside0.mk (show (((w7.setCell ⟨g9, 0, none⟩ (.int .i64 x.f1.f0)).setCell ⟨g9, 1, none⟩ (.int .i64 x.f1.f1)).setCell ⟨g9, 2, none⟩ (.int .i64 x.f1.f2)).heap[g8]? = some (.cells #[.int .i64 x.f0.f0, .int .i64 x.f0.f1, .int .i64 x.f0.f2] 24 (0, 0)) from by
        rw [Below.heap_setCell _ _ _ _ (show g8 ≠ _ from HN89.out), Below.heap_setCell _ _ _ _ (show g8 ≠ _ from HN89.out), Below.heap_setCell _ _ _ _ (show g8 ≠ _ from HN89.out)]
        exact BK8.out)
      clear BK9 BK8 HB6 e0_ e1_ e2_ f0_ f1_ f2_
      try clear hHeld
      have BK9 := n1_
      have HB6 := n2_
      have BK8 := n3_
      clear n1_ n2_ n3_
      refine hK.out _ _ ?_
      clear hK K
      generalize (((w7.setCell ⟨g9, 0, none⟩ (.int .i64 x.f1.f0)).setCell ⟨g9, 1, none⟩ (.int .i64 x.f1.f1)).setCell ⟨g9, 2, none⟩ (.int .i64 x.f1.f2)) = w8 at BK8 BK9 HB6 ⊢
      refine done_ (by kernel_rfl) ?_
      cases hrev : rev
      · skip
        subst hrev
        have a0_ : w8.cell? ⟨g8, 0, none⟩ = some (.int .i64 x.f0.f0) := (blk_cell BK8.out 0).trans rfl
        have a1_ : w8.cell? ⟨g8, 1, none⟩ = some (.int .i64 x.f0.f1) := (blk_cell BK8.out 1).trans rfl
        have a2_ : w8.cell? ⟨g8, 2, none⟩ = some (.int .i64 x.f0.f2) := (blk_cell BK8.out 2).trans rfl
        have b0_ : w8.cell? ⟨g9, 0, none⟩ = some (.int .i64 x.f1.f0) := (blk_cell BK9.out 0).trans rfl
        have b1_ : w8.cell? ⟨g9, 1, none⟩ = some (.int .i64 x.f1.f1) := (blk_cell BK9.out 1).trans rfl
        have b2_ : w8.cell? ⟨g9, 2, none⟩ = some (.int .i64 x.f1.f2) := (blk_cell BK9.out 2).trans rfl
        have fa0_ := blk_frozen BK8.out 0
        have fa1_ := blk_frozen BK8.out 1
        have fa2_ := blk_frozen BK8.out 2
        have fb0_ := blk_frozen BK9.out 0
        have fb1_ := blk_frozen BK9.out 1
        have fb2_ := blk_frozen BK9.out 2
        have ne_ := HN89.out
        have ne2_ := HN89.out.symm
        go_wp2_with fail
        clear a0_ a1_ a2_ b0_ b1_ b2_ fa0_ fa1_ fa2_ fb0_ fb1_ fb2_ ne_ ne2_
        generalize w8 = w9 at BK8 BK9 HB6 ⊢
        obtain ⟨fr, hfr⟩ : ∃ q : S24, q = x.f0 := ⟨_, rfl⟩
        obtain ⟨tq, hto⟩ : ∃ q : S24, q = x.f1 := ⟨_, rfl⟩
        rw [← hfr] at BK8
        rw [← hto] at BK9
        have HFT := Aside0.mk (And.intro hfr hto)
        have hwx := HW.out x (by rw [HX.out.2]; exact rd37_mem es j HX.out.1)
        obtain ⟨lkf, hkf⟩ := keyK fr (by rw [hfr]; exact hwx.1)
        have HKF := Aside0.mk hkf
        have hgood := gof_good false es j (Nat.le_of_lt HX.out.1)
        rw [HF.out] at hgood
        have HCL := Aside0.mk (show Srt (celAt l fr).xs ∧ (celAt l fr).xs.length ≤ 400 from by rw [celAt_xs]; exact ⟨(hgood.at fr).1, Nat.le_trans (hgood.at fr).2 (by omega)⟩)
        have HKS := Aside0.mk (show Srt ks ∧ ks.length ≤ 800 ∧ (ins ks fr).length ≤ 801 from ⟨hgood.keys, by have := hgood.klen; simp only at this; omega, by have := hgood.klen; have := (hgood.keys.ins fr).2.2.1; simp only at *; omega⟩)
        clear hfr hto hkf hgood hwx
        refine start_ (n := 14) (S := fun w' => w'.cell? ⟨gb, 0, none⟩ = some (.map (some gm)) ∧ w'.cell? ⟨g8, 0, none⟩ = some (.int .i64 fr.f0) ∧ w'.cell? ⟨g8, 1, none⟩ = some (.int .i64 fr.f1) ∧ w'.cell? ⟨g8, 2, none⟩ = some (.int .i64 fr.f2) ∧ w'.cell? ⟨g9, 0, none⟩ = some (.int .i64 tq.f0) ∧ w'.cell? ⟨g9, 1, none⟩ = some (.int .i64 tq.f1) ∧ w'.cell? ⟨g9, 2, none⟩ = some (.int .i64 tq.f2)) (ds := [13]) #[false, false, false, false, false, false, false, false, false, false, false, false, false, false] (by kernel_rfl) rfl rfl ⟨(blk_cell (blk_drew (HG.out.below HB6.out).box) 0).trans rfl, (blk_cell (blk_drew BK8.out) 0).trans rfl, (blk_cell (blk_drew BK8.out) 1).trans rfl, (blk_cell (blk_drew BK8.out) 2).trans rfl, (blk_cell (blk_drew BK9.out) 0).trans rfl, (blk_cell (blk_drew BK9.out) 1).trans rfl, (blk_cell (blk_drew BK9.out) 2).trans rfl⟩ (fun hHeld => ?_)
        have n1_ := Aside0.mk (blk_drew BK8.out)
        have n2_ := Aside0.mk (blk_drew BK9.out)
        have n3_ := Aside0.mk (below_drew HB6.out)
        clear BK8 BK9 HB6
        have BK8 := n1_
        have BK9 := n2_
        have HB6 := n3_
        clear n1_ n2_ n3_
        generalize w9.drew = wa at BK8 BK9 HB6 hHeld ⊢
        have HGa := Aside0.mk (HG.out.below HB6.out)
        refine pure_ (i := 0) (N := some 30) (v := ?_) (a' := ?_) #[true, false, false, false, false, false, false, false, false, false, false, false, false, false] rfl rfl (by kernel_rfl) (fun _ _ _ h => h) (Or.inl ⟨by rfl, ?_⟩) ?_ ?_
        rotate_left
        · intro w'
          go_simp
          with_reducible rfl
        rotate_left
        · simp only [Act.put, List.setIfInBounds_toArray, List.set_cons_zero, List.set_cons_succ, i64_w, i32_w]
          rfl
        refine pure_ (i := 1) (N := some 31) (v := ?_) (a' := ?_) #[true, true, false, false, false, false, false, false, false, false, false, false, false, false] rfl rfl (by kernel_rfl) (fun _ _ _ h => h) (Or.inl ⟨by rfl, ?_⟩) ?_ ?_
        rotate_left
        · intro w'
          go_simp
          with_reducible rfl
        rotate_left
        · simp only [Act.put, List.setIfInBounds_toArray, List.set_cons_zero, List.set_cons_succ, i64_w, i32_w]
          rfl
        refine pure_ (i := 2) (N := some 32) (v := ?_) (a' := ?_) #[true, true, true, false, false, false, false, false, false, false, false, false, false, false] rfl rfl (by kernel_rfl) (fun _ _ _ h => h) (Or.inl ⟨by rfl, ?_⟩) ?_ ?_
        rotate_left
        · intro w'
          go_simp
          with_reducible rfl
        rotate_left
        · simp only [Act.put, List.setIfInBounds_toArray, List.set_cons_zero, List.set_cons_succ, i64_w, i32_w]
          rfl
        refine pure_ (i := 5) (N := some 35) (v := ?_) (a' := ?_) #[true, true, true, false, false, true, false, false, false, false, false, false, false, false] rfl rfl (by kernel_rfl) (fun _ _ _ h => h) (Or.inl ⟨by rfl, ?_⟩) ?_ ?_
        rotate_left
        · intro w'
          go_simp
          with_reducible rfl
        rotate_left
        · simp only [Act.put, List.setIfInBounds_toArray, List.set_cons_zero, List.set_cons_succ, i64_w, i32_w]
          rfl
        refine pure_ (i := 6) (N := some 36) (v := ?_) (a' := ?_) #[true, true, true, false, false, true, true, false, false, false, false, false, false, false] rfl rfl (by kernel_rfl) (fun _ _ _ h => h) (Or.inl ⟨by rfl, ?_⟩) ?_ ?_
        rotate_left
        · intro w'
          go_simp
          with_reducible rfl
        rotate_left
        · simp only [Act.put, List.setIfInBounds_toArray, List.set_cons_zero, List.set_cons_succ, i64_w, i32_w]
          rfl
        refine pure_ (i := 7) (N := some 37) (v := ?_) (a' := ?_) #[true, true, true, false, false, true, true, true, false, false, false, false, false, false] rfl rfl (by kernel_rfl) (fun _ _ _ h => h) (Or.inl ⟨by rfl, ?_⟩) ?_ ?_
        rotate_left
        · intro w'
          go_simp
          with_reducible rfl
        rotate_left
        · simp only [Act.put, List.setIfInBounds_toArray, List.set_cons_zero, List.set_cons_succ, i64_w, i32_w]
          rfl
        refine take_ (i := 3) (N := some 33) (v := ?_) (a' := ?_) #[true, true, true, true, false, true, true, true, false, false, false, false, false, false] rfl rfl (by kernel_rfl) (fun _ _ _ h => h) (Or.inl ⟨by rfl, ?_⟩) hHeld ?_ ?_
        rotate_left
        · rintro w' ⟨s0, s1, s2, s3, s4, s5, s6⟩
          go_simp
          with_reducible rfl
        rotate_left
        · simp only [Act.put, List.setIfInBounds_toArray, List.set_cons_zero, List.set_cons_succ, i64_w, i32_w]
          rfl
        refine take_ (i := 8) (N := some 38) (v := ?_) (a' := ?_) #[true, true, true, true, false, true, true, true, true, false, false, false, false, false] rfl rfl (by kernel_rfl) (fun _ _ _ h => h) (Or.inl ⟨by rfl, ?_⟩) hHeld ?_ ?_
        rotate_left
        · rintro w' ⟨s0, s1, s2, s3, s4, s5, s6⟩
          go_simp
          with_reducible rfl
        rotate_left
        · simp only [Act.put, List.setIfInBounds_toArray, List.set_cons_zero, List.set_cons_succ, i64_w, i32_w]
          rfl
        refine take_ (i := 4) (N := some 34) (v := ?_) (a' := ?_) #[true, true, true, true, true, true, true, true, true, false, false, false, false, false] rfl rfl (by kernel_rfl) (fun _ _ _ h => h) (Or.inl ⟨by rfl, ?_⟩) hHeld ?_ ?_
        rotate_left
        · rintro w' ⟨s0, s1, s2, s3, s4, s5, s6⟩
          go_simp
          with_reducible rfl
        rotate_left
        · simp only [Act.put, List.setIfInBounds_toArray, List.set_cons_zero, List.set_cons_succ, i64_w, i32_w]
          rfl
        refine take_ (i := 9) (N := some 39) (v := ?_) (a' := ?_) #[true, true, true, true, true, true, true, true, true, true, false, false, false, false] rfl rfl (by kernel_rfl) (fun _ _ _ h => h) (Or.inl ⟨by rfl, ?_⟩) hHeld ?_ ?_
        rotate_left
        · rintro w' ⟨s0, s1, s2, s3, s4, s5, s6⟩
          go_simp
          with_reducible rfl
        rotate_left
        · simp only [Act.put, List.setIfInBounds_toArray, List.set_cons_zero, List.set_cons_succ, i64_w, i32_w]
          rfl
        refine take_ (i := 11) (N := some 41) (v := ?_) (a' := ?_) #[true, true, true, true, true, true, true, true, true, true, false, true, false, false] rfl rfl (by kernel_rfl) (fun _ _ _ h => h) (Or.inl ⟨by rfl, ?_⟩) hHeld ?_ ?_
        rotate_left
        · rintro w' ⟨s0, s1, s2, s3, s4, s5, s6⟩
          go_simp
          with_reducible rfl
        rotate_left
        · simp only [Act.put, List.setIfInBounds_toArray, List.set_cons_zero, List.set_cons_succ, i64_w, i32_w]
          rfl
        refine one_ (i := 10) (N := some 40) #[true, true, true, true, true, true, true, true, true, true, true, true, false, false] rfl rfl (by kernel_rfl) (by decide) (fun K hK => ?_)
        have hrun := HGa.out.look fr HKF.out
        refine value_ (w1 := wa) (v := (celAt l fr).v) (by rfl) rfl ?_ ?_
        · unfold encK at hrun
          go_simp
          all_goals first | (rw [hrun]; done) | (rw [hrun]; rfl) | (simp [hrun]; done) | exact hrun
        clear hrun
        refine hK.out _ _ ⟨(blk_cell HGa.out.box 0).trans rfl, (blk_cell BK8.out 0).trans rfl, (blk_cell BK8.out 1).trans rfl, (blk_cell BK8.out 2).trans rfl, (blk_cell BK9.out 0).trans rfl, (blk_cell BK9.out 1).trans rfl, (blk_cell BK9.out 2).trans rfl⟩ (fun hHeld => ?_)
        clear hK K
        refine norm_ (a' := ?_) ?_ ?_
        rotate_left
        · show Act.put _ (some 40) _ = _
          simp only [Act.put, List.setIfInBounds_toArray, List.set_cons_zero, List.set_cons_succ, i64_w, i32_w]
          rfl
        refine one_ (i := 12) (N := some 42) #[true, true, true, true, true, true, true, true, true, true, true, true, true, false] rfl rfl (by kernel_rfl) (by decide) (fun K hK => ?_)
        have hcl := HGa.out.cel fr
        have hlt_ := own_lt (HG.out.cel fr)
        refine goes_ Try.func26 (by kernel_rfl) rfl #[(celAt l fr).v, .agg #[.int .i64 tq.f0, .int .i64 tq.f1, .int .i64 tq.f2]] (by rfl) rfl rfl (by (try simp only [List.map_toArray, List.map_cons, List.map_nil]); first | done | rfl) ?_
        refine (insert_calls W.heap.size (celAt l fr).v (celAt l fr).xs tq wa hcl (Nat.le_trans HB.out.size HB6.out.size) (by have := HCL.out.2; omega) (HCL.out.1.mono tq)).mono ?_
        rintro e_ wb ⟨v1, rfl, ho1, hg1, hat1⟩
        refine ⟨_, rfl, ?_⟩
        have kgb := (hg1.block gb HGa.out.lt.1 (own_not_cells hcl HGa.out.box (by decide))).trans HGa.out.box
        have kg8 := (hg1.block g8 (blk_lt BK8.out) (fun e => by have := hlt_ g8 e.symm; have := GE8.out; omega)).trans BK8.out
        have kg9 := (hg1.block g9 (blk_lt BK9.out) (fun e => by have := hlt_ g9 e.symm; have := GE9.out; omega)).trans BK9.out
        have K8 := Aside0.mk kg8
        have K9 := Aside0.mk kg9
        have KB := Aside0.mk kgb
        have HO1 := Aside0.mk ho1
        have HG1 := Aside0.mk hg1
        have HAT1 := Aside0.mk hat1
        clear ho1 hg1 hat1 hcl hlt_ kgb kg8 kg9
        refine hK.out _ _ ⟨(blk_cell KB.out 0).trans rfl, (blk_cell K8.out 0).trans rfl, (blk_cell K8.out 1).trans rfl, (blk_cell K8.out 2).trans rfl, (blk_cell K9.out 0).trans rfl, (blk_cell K9.out 1).trans rfl, (blk_cell K9.out 2).trans rfl⟩ (fun hHeld => ?_)
        clear hK K
        refine norm_ (a' := ?_) ?_ ?_
        rotate_left
        · show Act.put _ (some 42) _ = _
          simp only [Act.put, List.setIfInBounds_toArray, List.set_cons_zero, List.set_cons_succ, i64_w, i32_w]
          rfl
        refine last_ (i := 13) (N := none) #[true, true, true, true, true, true, true, true, true, true, true, true, true, true] rfl rfl (by kernel_rfl) (by decide) (fun K hK => ?_)
        obtain ⟨es_, ck_, hes_⟩ := HGa.out.tab
        have hnm_ := own_not_map (HGa.out.cel fr) hes_.blk
        have hatm := HGa.out.tab.keep (HG1.out.block gm HGa.out.lt.2 hnm_)
        obtain ⟨lf, hlf⟩ : ∃ lf, keyOf Try.prog 24 (encK fr) = some lf := ⟨_, HKF.out⟩
        obtain ⟨o9, hrun, hat3⟩ := Mp.At.store (T := 50) KK injK Try.underlying50 hatm hlf v1
        have hnew := HGa.out.put fr HG1.out v1 _ HO1.out HAT1.out o9 hat3
        have kp8 : (setBlock wb gm o9).heap[g8]? = some (.cells #[.int .i64 fr.f0, .int .i64 fr.f1, .int .i64 fr.f2] 24 (0, 0)) := (Mp.setBlock_other _ (fun e => by have := HG.out.lt.2; have := GE8.out; omega)).trans K8.out
        have kp9 : (setBlock wb gm o9).heap[g9]? = some (.cells #[.int .i64 tq.f0, .int .i64 tq.f1, .int .i64 tq.f2] 24 (0, 0)) := (Mp.setBlock_other _ (fun e => by have := HG.out.lt.2; have := GE9.out; omega)).trans K9.out
        have kbl : Below W.heap.size W (setBlock wb gm o9) := below_setBlock (Below.grown (Below.trans_below HB.out HB.out.size HB6.out) HG1.out (Nat.le_trans HB.out.size HB6.out.size) (own_base (HGa.out.cel fr))) HG.out.lo.2
        have ksz : wr.heap.size ≤ (setBlock wb gm o9).heap.size := by rw [Mp.setBlock_size]; exact Nat.le_trans HB6.out.size HG1.out.size
        have NG := Aside0.mk hnew
        have NB := Aside0.mk kbl
        have N8 := Aside0.mk kp8
        have N9 := Aside0.mk kp9
        have NS := Aside0.mk ksz
        clear hnew kp8 kp9 kbl hat3 hatm hes_ hnm_ hlf ksz
        refine skip_ (w1 := setBlock wb gm o9) (by rfl) rfl ?_ ?_
        · unfold encK at hrun
          go_simp
          all_goals first | (rw [hrun]; done) | (rw [hrun]; rfl) | (simp [hrun]; done) | exact hrun
        clear hrun hHeld
        generalize setBlock wb gm o9 = wc at NG NB N8 N9 NS ⊢
        refine hK.out _ _ ?_
        clear hK K
        refine done_ (by kernel_rfl) ?_
        go_wp2_with fail
        refine start_ (n := 12) (S := fun w' => w'.cell? ⟨gb, 1, none⟩ = some kv ∧ w'.cell? ⟨g8, 0, none⟩ = some (.int .i64 fr.f0) ∧ w'.cell? ⟨g8, 1, none⟩ = some (.int .i64 fr.f1) ∧ w'.cell? ⟨g8, 2, none⟩ = some (.int .i64 fr.f2) ∧ w'.cell? ⟨g9, 0, none⟩ = some (.int .i64 tq.f0) ∧ w'.cell? ⟨g9, 1, none⟩ = some (.int .i64 tq.f1) ∧ w'.cell? ⟨g9, 2, none⟩ = some (.int .i64 tq.f2)) (ds := [11]) #[false, false, false, false, false, false, false, false, false, false, false, false] (by kernel_rfl) rfl rfl ⟨(blk_cell (blk_drew NG.out.box) 1).trans rfl, (blk_cell (blk_drew N8.out) 0).trans rfl, (blk_cell (blk_drew N8.out) 1).trans rfl, (blk_cell (blk_drew N8.out) 2).trans rfl, (blk_cell (blk_drew N9.out) 0).trans rfl, (blk_cell (blk_drew N9.out) 1).trans rfl, (blk_cell (blk_drew N9.out) 2).trans rfl⟩ (fun hHeld => ?_)
        have n1_ := Aside0.mk (blk_drew N8.out)
        have n2_ := Aside0.mk (blk_drew N9.out)
        have n3_ := Aside0.mk (below_drew NB.out)
        have n4_ := Aside0.mk (NG.out.below (below_drew (Below.refl _ _)))
        have n5_ := Aside0.mk (show wr.heap.size ≤ wc.drew.heap.size from NS.out)
        clear N8 N9 NB NG NS
        have N8 := n1_
        have N9 := n2_
        have NB := n3_
        have NG := n4_
        have NS := n5_
        clear n1_ n2_ n3_ n4_ n5_
        generalize wc.drew = wd at N8 N9 NB NG NS hHeld ⊢
        refine pure_ (i := 0) (N := some 43) (v := ?_) (a' := ?_) #[true, false, false, false, false, false, false, false, false, false, false, false] rfl rfl (by kernel_rfl) (fun _ _ _ h => h) (Or.inl ⟨by rfl, ?_⟩) ?_ ?_
        rotate_left
        · intro w'
          go_simp
          with_reducible rfl
        rotate_left
        · simp only [Act.put, List.setIfInBounds_toArray, List.set_cons_zero, List.set_cons_succ, i64_w, i32_w]
          rfl
        refine pure_ (i := 1) (N := some 44) (v := ?_) (a' := ?_) #[true, true, false, false, false, false, false, false, false, false, false, false] rfl rfl (by kernel_rfl) (fun _ _ _ h => h) (Or.inl ⟨by rfl, ?_⟩) ?_ ?_
        rotate_left
        · intro w'
          go_simp
          with_reducible rfl
        rotate_left
        · simp only [Act.put, List.setIfInBounds_toArray, List.set_cons_zero, List.set_cons_succ, i64_w, i32_w]
          rfl
        refine pure_ (i := 2) (N := some 45) (v := ?_) (a' := ?_) #[true, true, true, false, false, false, false, false, false, false, false, false] rfl rfl (by kernel_rfl) (fun _ _ _ h => h) (Or.inl ⟨by rfl, ?_⟩) ?_ ?_
        rotate_left
        · intro w'
          go_simp
          with_reducible rfl
        rotate_left
        · simp only [Act.put, List.setIfInBounds_toArray, List.set_cons_zero, List.set_cons_succ, i64_w, i32_w]
          rfl
        refine pure_ (i := 3) (N := some 46) (v := ?_) (a' := ?_) #[true, true, true, true, false, false, false, false, false, false, false, false] rfl rfl (by kernel_rfl) (fun _ _ _ h => h) (Or.inl ⟨by rfl, ?_⟩) ?_ ?_
        rotate_left
        · intro w'
          go_simp
          with_reducible rfl
        rotate_left
        · simp only [Act.put, List.setIfInBounds_toArray, List.set_cons_zero, List.set_cons_succ, i64_w, i32_w]
          rfl
        refine take_ (i := 4) (N := some 47) (v := ?_) (a' := ?_) #[true, true, true, true, true, false, false, false, false, false, false, false] rfl rfl (by kernel_rfl) (fun _ _ _ h => h) (Or.inl ⟨by rfl, ?_⟩) hHeld ?_ ?_
        rotate_left
        · rintro w' ⟨s0, s1, s2, s3, s4, s5, s6⟩
          go_simp
          with_reducible rfl
        rotate_left
        · simp only [Act.put, List.setIfInBounds_toArray, List.set_cons_zero, List.set_cons_succ, i64_w, i32_w]
          rfl
        refine take_ (i := 5) (N := some 48) (v := ?_) (a' := ?_) #[true, true, true, true, true, true, false, false, false, false, false, false] rfl rfl (by kernel_rfl) (fun _ _ _ h => h) (Or.inl ⟨by rfl, ?_⟩) hHeld ?_ ?_
        rotate_left
        · rintro w' ⟨s0, s1, s2, s3, s4, s5, s6⟩
          go_simp
          with_reducible rfl
        rotate_left
        · simp only [Act.put, List.setIfInBounds_toArray, List.set_cons_zero, List.set_cons_succ, i64_w, i32_w]
          rfl
        refine take_ (i := 7) (N := some 50) (v := ?_) (a' := ?_) #[true, true, true, true, true, true, false, true, false, false, false, false] rfl rfl (by kernel_rfl) (fun _ _ _ h => h) (Or.inl ⟨by rfl, ?_⟩) hHeld ?_ ?_
        rotate_left
        · rintro w' ⟨s0, s1, s2, s3, s4, s5, s6⟩
          go_simp
          with_reducible rfl
        rotate_left
        · simp only [Act.put, List.setIfInBounds_toArray, List.set_cons_zero, List.set_cons_succ, i64_w, i32_w]
          rfl
        refine one_ (i := 6) (N := some 49) #[true, true, true, true, true, true, true, true, false, false, false, false] rfl rfl (by kernel_rfl) (by decide) (fun K hK => ?_)
        have hlt_ := own_lt HG.out.krow
        refine goes_ Try.func26 (by kernel_rfl) rfl #[kv, .agg #[.int .i64 fr.f0, .int .i64 fr.f1, .int .i64 fr.f2]] (by rfl) rfl rfl (by (try simp only [List.map_toArray, List.map_cons, List.map_nil]); first | done | rfl) ?_
        refine (insert_calls W.heap.size kv ks fr wd NG.out.krow NB.out.size (by have := HKS.out.2.1; omega) (HKS.out.1.mono fr)).mono ?_
        rintro e_ we ⟨v2, rfl, ho2, hg2, hat2⟩
        refine ⟨_, rfl, ?_⟩
        have kgb := (hg2.block gb NG.out.lt.1 (own_not_cells NG.out.krow NG.out.box (by decide))).trans NG.out.box
        have kg8 := (hg2.block g8 (blk_lt N8.out) (fun e => by have := hlt_ g8 e.symm; have := GE8.out; omega)).trans N8.out
        have kg9 := (hg2.block g9 (blk_lt N9.out) (fun e => by have := hlt_ g9 e.symm; have := GE9.out; omega)).trans N9.out
        have K8 := Aside0.mk kg8
        have K9 := Aside0.mk kg9
        have KB := Aside0.mk kgb
        have HO2 := Aside0.mk ho2
        have HG2 := Aside0.mk hg2
        have HAT2 := Aside0.mk hat2
        clear ho2 hg2 hat2 hlt_ kgb kg8 kg9
        refine hK.out _ _ ⟨(blk_cell KB.out 1).trans rfl, (blk_cell K8.out 0).trans rfl, (blk_cell K8.out 1).trans rfl, (blk_cell K8.out 2).trans rfl, (blk_cell K9.out 0).trans rfl, (blk_cell K9.out 1).trans rfl, (blk_cell K9.out 2).trans rfl⟩ (fun hHeld => ?_)
        clear hK K
        refine norm_ (a' := ?_) ?_ ?_
        rotate_left
        · show Act.put _ (some 49) _ = _
          simp only [Act.put, List.setIfInBounds_toArray, List.set_cons_zero, List.set_cons_succ, i64_w, i32_w]
          rfl
        refine one_ (i := 8) (N := some 51) #[true, true, true, true, true, true, true, true, true, false, false, false] rfl rfl (by kernel_rfl) (by decide) (fun K hK => ?_)
        refine goes_ Try.func26 (by kernel_rfl) rfl #[v2, .agg #[.int .i64 tq.f0, .int .i64 tq.f1, .int .i64 tq.f2]] (by rfl) rfl rfl (by (try simp only [List.map_toArray, List.map_cons, List.map_nil]); first | done | rfl) ?_
        refine (insert_calls W.heap.size v2 (ins ks fr) tq we HO2.out (Nat.le_trans NB.out.size HG2.out.size) (by have := HKS.out.2.2; omega) ((HKS.out.1.ins fr).1.mono tq)).mono ?_
        rintro e_ wf ⟨v3, rfl, ho3, hg3, hat3⟩
        refine ⟨_, rfl, ?_⟩
        have HO3 := Aside0.mk ho3
        have HG3 := Aside0.mk (grown_two HG2.out hg3 HAT2.out)
        have HAT3 := Aside0.mk (show v3.ownBlock = kv.ownBlock ∨ ∃ b, v3.ownBlock = some b ∧ wd.heap.size ≤ b from by
          rcases hat3 with h1_ | ⟨b, h1_, h2_⟩
          · rw [h1_]; exact HAT2.out
          · exact .inr ⟨b, h1_, Nat.le_trans HG2.out.size h2_⟩)
        clear ho3 hg3 hat3
        have hlt_ := own_lt HG.out.krow
        have kgb := (HG3.out.block gb NG.out.lt.1 (own_not_cells NG.out.krow NG.out.box (by decide))).trans NG.out.box
        have kg8 := (HG3.out.block g8 (blk_lt N8.out) (fun e => by have := hlt_ g8 e.symm; have := GE8.out; omega)).trans N8.out
        have kg9 := (HG3.out.block g9 (blk_lt N9.out) (fun e => by have := hlt_ g9 e.symm; have := GE9.out; omega)).trans N9.out
        clear K8 K9 KB
        have K8 := Aside0.mk kg8
        have K9 := Aside0.mk kg9
        have KB := Aside0.mk kgb
        clear hlt_ kgb kg8 kg9
        refine hK.out _ _ ⟨(blk_cell KB.out 1).trans rfl, (blk_cell K8.out 0).trans rfl, (blk_cell K8.out 1).trans rfl, (blk_cell K8.out 2).trans rfl, (blk_cell K9.out 0).trans rfl, (blk_cell K9.out 1).trans rfl, (blk_cell K9.out 2).trans rfl⟩ (fun hHeld => ?_)
        clear hK K
        refine norm_ (a' := ?_) ?_ ?_
        rotate_left
        · show Act.put _ (some 51) _ = _
          simp only [Act.put, List.setIfInBounds_toArray, List.set_cons_zero, List.set_cons_succ, i64_w, i32_w]
          rfl
        refine pure_ (i := 9) (N := some 52) (v := ?_) (a' := ?_) #[true, true, true, true, true, true, true, true, true, true, false, false] rfl rfl (by kernel_rfl) (fun _ _ _ h => h) (Or.inl ⟨by rfl, ?_⟩) ?_ ?_
        rotate_left
        · intro w'
          go_simp
          with_reducible rfl
        rotate_left
        · simp only [Act.put, List.setIfInBounds_toArray, List.set_cons_zero, List.set_cons_succ, i64_w, i32_w]
          rfl
        refine pure_ (i := 10) (N := some 53) (v := ?_) (a' := ?_) #[true, true, true, true, true, true, true, true, true, true, true, false] rfl rfl (by kernel_rfl) (fun _ _ _ h => h) (Or.inl ⟨by rfl, ?_⟩) ?_ ?_
        rotate_left
        · intro w'
          go_simp
          with_reducible rfl
        rotate_left
        · simp only [Act.put, List.setIfInBounds_toArray, List.set_cons_zero, List.set_cons_succ, i64_w, i32_w]
          rfl
        refine last_ (i := 11) (N := none) #[true, true, true, true, true, true, true, true, true, true, true, true] rfl rfl (by kernel_rfl) (by decide) (fun K hK => ?_)
        have e0_ : wf.cell? ⟨gb, 1, none⟩ = some kv := (blk_cell KB.out 1).trans rfl
        have f0_ := blk_frozen KB.out 1
        have hnew := NG.out.keys HG3.out v3 _ HO3.out HAT3.out
        have kbl : Below W.heap.size W (wf.setCell ⟨gb, 1, none⟩ v3) := below_set (Below.grown NB.out HG3.out NB.out.size (own_base NG.out.krow)) HG.out.lo.1
        have NG2 := Aside0.mk hnew
        have NB2 := Aside0.mk kbl
        obtain ⟨A3, c3, he3, _⟩ := own24_reads HO3.out
        clear hnew kbl
        refine skip_ (w1 := wf.setCell ⟨gb, 1, none⟩ v3) (by rfl) rfl ?_ ?_
        · rw [he3]
          go_simp
          try rfl
        clear hHeld
        generalize wf.setCell ⟨gb, 1, none⟩ v3 = wg at NG2 NB2 ⊢
        refine hK.out _ _ ?_
        clear hK K
        refine done_ (by kernel_rfl) ?_
        go_wp2
        go_roundg (n - (j + 1))
        case measure => omega
        case rel =>
          have hf_ : gof false (es.take (j + 1)) = (Mp.vals Cel.xs (Mp.aset l fr ⟨v1, ins (celAt l fr).xs tq⟩), ins (ins ks fr) tq) := by
            rw [gof_succ false es j HX.out.1, HF.out, ← rd37_at es j HX.out.1, ← HX.out.2]
            unfold gstep
            rw [celAt_xs, ← Mp.aset_vals Cel.xs l fr ⟨v1, _⟩]
            simp only [efrom, eto, if_true, if_false, Bool.false_eq_true]
            rw [← HFT.out.1, ← HFT.out.2]
          have hr_ : ∃ l' kv' ks', Gr W.heap.size gb gm l' kv' ks' wg ∧ gof false (es.take (j + 1)) = (Mp.vals Cel.xs l', ks') := ⟨_, _, _, NG2.out, hf_⟩
          refine ⟨j + 1, ?_, by omega, Nat.le_refl _, ⟨hr_⟩, NB2⟩
          first | rfl | go_num
      · skip
        subst hrev
        have a0_ : w8.cell? ⟨g8, 0, none⟩ = some (.int .i64 x.f0.f0) := (blk_cell BK8.out 0).trans rfl
        have a1_ : w8.cell? ⟨g8, 1, none⟩ = some (.int .i64 x.f0.f1) := (blk_cell BK8.out 1).trans rfl
        have a2_ : w8.cell? ⟨g8, 2, none⟩ = some (.int .i64 x.f0.f2) := (blk_cell BK8.out 2).trans rfl
        have b0_ : w8.cell? ⟨g9, 0, none⟩ = some (.int .i64 x.f1.f0) := (blk_cell BK9.out 0).trans rfl
        have b1_ : w8.cell? ⟨g9, 1, none⟩ = some (.int .i64 x.f1.f1) := (blk_cell BK9.out 1).trans rfl
        have b2_ : w8.cell? ⟨g9, 2, none⟩ = some (.int .i64 x.f1.f2) := (blk_cell BK9.out 2).trans rfl
        have fa0_ := blk_frozen BK8.out 0
        have fa1_ := blk_frozen BK8.out 1
        have fa2_ := blk_frozen BK8.out 2
        have fb0_ := blk_frozen BK9.out 0
        have fb1_ := blk_frozen BK9.out 1
        have fb2_ := blk_frozen BK9.out 2
        have ne_ := HN89.out
        have ne2_ := HN89.out.symm
        go_wp2_with fail
        clear a0_ a1_ a2_ b0_ b1_ b2_ fa0_ fa1_ fa2_ fb0_ fb1_ fb2_ ne_ ne2_
        have n1_ := Aside0.mk (show ((((((w8.setCell ⟨g8, 0, none⟩ (.int .i64 x.f1.f0)).setCell ⟨g8, 1, none⟩ (.int .i64 x.f1.f1)).setCell ⟨g8, 2, none⟩ (.int .i64 x.f1.f2)).setCell ⟨g9, 0, none⟩ (.int .i64 x.f0.f0)).setCell ⟨g9, 1, none⟩ (.int .i64 x.f0.f1)).setCell ⟨g9, 2, none⟩ (.int .i64 x.f0.f2)).heap[g8]? = some (.cells #[.int .i64 x.f1.f0, .int .i64 x.f1.f1, .int .i64 x.f1.f2] 24 (0, 0)) from by
          rw [Below.heap_setCell _ _ _ _ (show g8 ≠ _ from HN89.out), Below.heap_setCell _ _ _ _ (show g8 ≠ _ from HN89.out), Below.heap_setCell _ _ _ _ (show g8 ≠ _ from HN89.out)]
          refine blk_put (cs := #[(.int .i64 x.f1.f0), (.int .i64 x.f1.f1), (.int .i64 x.f0.f2)]) ?_ 2 _ rfl; refine blk_put (cs := #[(.int .i64 x.f1.f0), (.int .i64 x.f0.f1), (.int .i64 x.f0.f2)]) ?_ 1 _ rfl; refine blk_put (cs := #[(.int .i64 x.f0.f0), (.int .i64 x.f0.f1), (.int .i64 x.f0.f2)]) ?_ 0 _ rfl; exact BK8.out)
        have n2_ := Aside0.mk (show ((((((w8.setCell ⟨g8, 0, none⟩ (.int .i64 x.f1.f0)).setCell ⟨g8, 1, none⟩ (.int .i64 x.f1.f1)).setCell ⟨g8, 2, none⟩ (.int .i64 x.f1.f2)).setCell ⟨g9, 0, none⟩ (.int .i64 x.f0.f0)).setCell ⟨g9, 1, none⟩ (.int .i64 x.f0.f1)).setCell ⟨g9, 2, none⟩ (.int .i64 x.f0.f2)).heap[g9]? = some (.cells #[.int .i64 x.f0.f0, .int .i64 x.f0.f1, .int .i64 x.f0.f2] 24 (0, 0)) from by
          have k_ : (((w8.setCell ⟨g8, 0, none⟩ (.int .i64 x.f1.f0)).setCell ⟨g8, 1, none⟩ (.int .i64 x.f1.f1)).setCell ⟨g8, 2, none⟩ (.int .i64 x.f1.f2)).heap[g9]? = some (.cells #[.int .i64 x.f1.f0, .int .i64 x.f1.f1, .int .i64 x.f1.f2] 24 (0, 0)) := by
            rw [Below.heap_setCell _ _ _ _ (show g9 ≠ _ from HN89.out.symm), Below.heap_setCell _ _ _ _ (show g9 ≠ _ from HN89.out.symm), Below.heap_setCell _ _ _ _ (show g9 ≠ _ from HN89.out.symm)]
            exact BK9.out
          refine blk_put (cs := #[(.int .i64 x.f0.f0), (.int .i64 x.f0.f1), (.int .i64 x.f1.f2)]) ?_ 2 _ rfl; refine blk_put (cs := #[(.int .i64 x.f0.f0), (.int .i64 x.f1.f1), (.int .i64 x.f1.f2)]) ?_ 1 _ rfl; refine blk_put (cs := #[(.int .i64 x.f1.f0), (.int .i64 x.f1.f1), (.int .i64 x.f1.f2)]) ?_ 0 _ rfl; exact k_)
        have n3_ := Aside0.mk (show Below wr.heap.size wr ((((((w8.setCell ⟨g8, 0, none⟩ (.int .i64 x.f1.f0)).setCell ⟨g8, 1, none⟩ (.int .i64 x.f1.f1)).setCell ⟨g8, 2, none⟩ (.int .i64 x.f1.f2)).setCell ⟨g9, 0, none⟩ (.int .i64 x.f0.f0)).setCell ⟨g9, 1, none⟩ (.int .i64 x.f0.f1)).setCell ⟨g9, 2, none⟩ (.int .i64 x.f0.f2)) from below_set (below_set (below_set (below_set (below_set (below_set HB6.out GE8.out) GE8.out) GE8.out) GE9.out) GE9.out) GE9.out)
        clear BK8 BK9 HB6
        have BK8 := n1_
        have BK9 := n2_
        have HB6 := n3_
        clear n1_ n2_ n3_
        generalize ((((((w8.setCell ⟨g8, 0, none⟩ (.int .i64 x.f1.f0)).setCell ⟨g8, 1, none⟩ (.int .i64 x.f1.f1)).setCell ⟨g8, 2, none⟩ (.int .i64 x.f1.f2)).setCell ⟨g9, 0, none⟩ (.int .i64 x.f0.f0)).setCell ⟨g9, 1, none⟩ (.int .i64 x.f0.f1)).setCell ⟨g9, 2, none⟩ (.int .i64 x.f0.f2)) = w9 at BK8 BK9 HB6 ⊢
        obtain ⟨fr, hfr⟩ : ∃ q : S24, q = x.f1 := ⟨_, rfl⟩
        obtain ⟨tq, hto⟩ : ∃ q : S24, q = x.f0 := ⟨_, rfl⟩
        rw [← hfr] at BK8
        rw [← hto] at BK9
        have HFT := Aside0.mk (And.intro hfr hto)
        have hwx := HW.out x (by rw [HX.out.2]; exact rd37_mem es j HX.out.1)
        obtain ⟨lkf, hkf⟩ := keyK fr (by rw [hfr]; exact hwx.2)
        have HKF := Aside0.mk hkf
        have hgood := gof_good true es j (Nat.le_of_lt HX.out.1)
        rw [HF.out] at hgood
        have HCL := Aside0.mk (show Srt (celAt l fr).xs ∧ (celAt l fr).xs.length ≤ 400 from by rw [celAt_xs]; exact ⟨(hgood.at fr).1, Nat.le_trans (hgood.at fr).2 (by omega)⟩)
        have HKS := Aside0.mk (show Srt ks ∧ ks.length ≤ 800 ∧ (ins ks fr).length ≤ 801 from ⟨hgood.keys, by have := hgood.klen; simp only at this; omega, by have := hgood.klen; have := (hgood.keys.ins fr).2.2.1; simp only at *; omega⟩)
        clear hfr hto hkf hgood hwx
        refine start_ (n := 14) (S := fun w' => w'.cell? ⟨gb, 0, none⟩ = some (.map (some gm)) ∧ w'.cell? ⟨g8, 0, none⟩ = some (.int .i64 fr.f0) ∧ w'.cell? ⟨g8, 1, none⟩ = some (.int .i64 fr.f1) ∧ w'.cell? ⟨g8, 2, none⟩ = some (.int .i64 fr.f2) ∧ w'.cell? ⟨g9, 0, none⟩ = some (.int .i64 tq.f0) ∧ w'.cell? ⟨g9, 1, none⟩ = some (.int .i64 tq.f1) ∧ w'.cell? ⟨g9, 2, none⟩ = some (.int .i64 tq.f2)) (ds := [13]) #[false, false, false, false, false, false, false, false, false, false, false, false, false, false] (by kernel_rfl) rfl rfl ⟨(blk_cell (blk_drew (HG.out.below HB6.out).box) 0).trans rfl, (blk_cell (blk_drew BK8.out) 0).trans rfl, (blk_cell (blk_drew BK8.out) 1).trans rfl, (blk_cell (blk_drew BK8.out) 2).trans rfl, (blk_cell (blk_drew BK9.out) 0).trans rfl, (blk_cell (blk_drew BK9.out) 1).trans rfl, (blk_cell (blk_drew BK9.out) 2).trans rfl⟩ (fun hHeld => ?_)
        have n1_ := Aside0.mk (blk_drew BK8.out)
        have n2_ := Aside0.mk (blk_drew BK9.out)
        have n3_ := Aside0.mk (below_drew HB6.out)
        clear BK8 BK9 HB6
        have BK8 := n1_
        have BK9 := n2_
        have HB6 := n3_
        clear n1_ n2_ n3_
        generalize w9.drew = wa at BK8 BK9 HB6 hHeld ⊢
        have HGa := Aside0.mk (HG.out.below HB6.out)
        refine pure_ (i := 0) (N := some 30) (v := ?_) (a' := ?_) #[true, false, false, false, false, false, false, false, false, false, false, false, false, false] rfl rfl (by kernel_rfl) (fun _ _ _ h => h) (Or.inl ⟨by rfl, ?_⟩) ?_ ?_
        rotate_left
        · intro w'
          go_simp
          with_reducible rfl
        rotate_left
        · simp only [Act.put, List.setIfInBounds_toArray, List.set_cons_zero, List.set_cons_succ, i64_w, i32_w]
          rfl
        refine pure_ (i := 1) (N := some 31) (v := ?_) (a' := ?_) #[true, true, false, false, false, false, false, false, false, false, false, false, false, false] rfl rfl (by kernel_rfl) (fun _ _ _ h => h) (Or.inl ⟨by rfl, ?_⟩) ?_ ?_
        rotate_left
        · intro w'
          go_simp
          with_reducible rfl
        rotate_left
        · simp only [Act.put, List.setIfInBounds_toArray, List.set_cons_zero, List.set_cons_succ, i64_w, i32_w]
          rfl
        refine pure_ (i := 2) (N := some 32) (v := ?_) (a' := ?_) #[true, true, true, false, false, false, false, false, false, false, false, false, false, false] rfl rfl (by kernel_rfl) (fun _ _ _ h => h) (Or.inl ⟨by rfl, ?_⟩) ?_ ?_
        rotate_left
        · intro w'
          go_simp
          with_reducible rfl
        rotate_left
        · simp only [Act.put, List.setIfInBounds_toArray, List.set_cons_zero, List.set_cons_succ, i64_w, i32_w]
          rfl
        refine pure_ (i := 5) (N := some 35) (v := ?_) (a' := ?_) #[true, true, true, false, false, true, false, false, false, false, false, false, false, false] rfl rfl (by kernel_rfl) (fun _ _ _ h => h) (Or.inl ⟨by rfl, ?_⟩) ?_ ?_
        rotate_left
        · intro w'
          go_simp
          with_reducible rfl
        rotate_left
        · simp only [Act.put, List.setIfInBounds_toArray, List.set_cons_zero, List.set_cons_succ, i64_w, i32_w]
          rfl
        refine pure_ (i := 6) (N := some 36) (v := ?_) (a' := ?_) #[true, true, true, false, false, true, true, false, false, false, false, false, false, false] rfl rfl (by kernel_rfl) (fun _ _ _ h => h) (Or.inl ⟨by rfl, ?_⟩) ?_ ?_
        rotate_left
        · intro w'
          go_simp
          with_reducible rfl
        rotate_left
        · simp only [Act.put, List.setIfInBounds_toArray, List.set_cons_zero, List.set_cons_succ, i64_w, i32_w]
          rfl
        refine pure_ (i := 7) (N := some 37) (v := ?_) (a' := ?_) #[true, true, true, false, false, true, true, true, false, false, false, false, false, false] rfl rfl (by kernel_rfl) (fun _ _ _ h => h) (Or.inl ⟨by rfl, ?_⟩) ?_ ?_
        rotate_left
        · intro w'
          go_simp
          with_reducible rfl
        rotate_left
        · simp only [Act.put, List.setIfInBounds_toArray, List.set_cons_zero, List.set_cons_succ, i64_w, i32_w]
          rfl
        refine take_ (i := 3) (N := some 33) (v := ?_) (a' := ?_) #[true, true, true, true, false, true, true, true, false, false, false, false, false, false] rfl rfl (by kernel_rfl) (fun _ _ _ h => h) (Or.inl ⟨by rfl, ?_⟩) hHeld ?_ ?_
        rotate_left
        · rintro w' ⟨s0, s1, s2, s3, s4, s5, s6⟩
          go_simp
          with_reducible rfl
        rotate_left
        · simp only [Act.put, List.setIfInBounds_toArray, List.set_cons_zero, List.set_cons_succ, i64_w, i32_w]
          rfl
        refine take_ (i := 8) (N := some 38) (v := ?_) (a' := ?_) #[true, true, true, true, false, true, true, true, true, false, false, false, false, false] rfl rfl (by kernel_rfl) (fun _ _ _ h => h) (Or.inl ⟨by rfl, ?_⟩) hHeld ?_ ?_
        rotate_left
        · rintro w' ⟨s0, s1, s2, s3, s4, s5, s6⟩
          go_simp
          with_reducible rfl
        rotate_left
        · simp only [Act.put, List.setIfInBounds_toArray, List.set_cons_zero, List.set_cons_succ, i64_w, i32_w]
          rfl
        refine take_ (i := 4) (N := some 34) (v := ?_) (a' := ?_) #[true, true, true, true, true, true, true, true, true, false, false, false, false, false] rfl rfl (by kernel_rfl) (fun _ _ _ h => h) (Or.inl ⟨by rfl, ?_⟩) hHeld ?_ ?_
        rotate_left
        · rintro w' ⟨s0, s1, s2, s3, s4, s5, s6⟩
          go_simp
          with_reducible rfl
        rotate_left
        · simp only [Act.put, List.setIfInBounds_toArray, List.set_cons_zero, List.set_cons_succ, i64_w, i32_w]
          rfl
        refine take_ (i := 9) (N := some 39) (v := ?_) (a' := ?_) #[true, true, true, true, true, true, true, true, true, true, false, false, false, false] rfl rfl (by kernel_rfl) (fun _ _ _ h => h) (Or.inl ⟨by rfl, ?_⟩) hHeld ?_ ?_
        rotate_left
        · rintro w' ⟨s0, s1, s2, s3, s4, s5, s6⟩
          go_simp
          with_reducible rfl
        rotate_left
        · simp only [Act.put, List.setIfInBounds_toArray, List.set_cons_zero, List.set_cons_succ, i64_w, i32_w]
          rfl
        refine take_ (i := 11) (N := some 41) (v := ?_) (a' := ?_) #[true, true, true, true, true, true, true, true, true, true, false, true, false, false] rfl rfl (by kernel_rfl) (fun _ _ _ h => h) (Or.inl ⟨by rfl, ?_⟩) hHeld ?_ ?_
        rotate_left
        · rintro w' ⟨s0, s1, s2, s3, s4, s5, s6⟩
          go_simp
          with_reducible rfl
        rotate_left
        · simp only [Act.put, List.setIfInBounds_toArray, List.set_cons_zero, List.set_cons_succ, i64_w, i32_w]
          rfl
        refine one_ (i := 10) (N := some 40) #[true, true, true, true, true, true, true, true, true, true, true, true, false, false] rfl rfl (by kernel_rfl) (by decide) (fun K hK => ?_)
        have hrun := HGa.out.look fr HKF.out
        refine value_ (w1 := wa) (v := (celAt l fr).v) (by rfl) rfl ?_ ?_
        · unfold encK at hrun
          go_simp
          all_goals first | (rw [hrun]; done) | (rw [hrun]; rfl) | (simp [hrun]; done) | exact hrun
        clear hrun
        refine hK.out _ _ ⟨(blk_cell HGa.out.box 0).trans rfl, (blk_cell BK8.out 0).trans rfl, (blk_cell BK8.out 1).trans rfl, (blk_cell BK8.out 2).trans rfl, (blk_cell BK9.out 0).trans rfl, (blk_cell BK9.out 1).trans rfl, (blk_cell BK9.out 2).trans rfl⟩ (fun hHeld => ?_)
        clear hK K
        refine norm_ (a' := ?_) ?_ ?_
        rotate_left
        · show Act.put _ (some 40) _ = _
          simp only [Act.put, List.setIfInBounds_toArray, List.set_cons_zero, List.set_cons_succ, i64_w, i32_w]
          rfl
        refine one_ (i := 12) (N := some 42) #[true, true, true, true, true, true, true, true, true, true, true, true, true, false] rfl rfl (by kernel_rfl) (by decide) (fun K hK => ?_)
        have hcl := HGa.out.cel fr
        have hlt_ := own_lt (HG.out.cel fr)
        refine goes_ Try.func26 (by kernel_rfl) rfl #[(celAt l fr).v, .agg #[.int .i64 tq.f0, .int .i64 tq.f1, .int .i64 tq.f2]] (by rfl) rfl rfl (by (try simp only [List.map_toArray, List.map_cons, List.map_nil]); first | done | rfl) ?_
        refine (insert_calls W.heap.size (celAt l fr).v (celAt l fr).xs tq wa hcl (Nat.le_trans HB.out.size HB6.out.size) (by have := HCL.out.2; omega) (HCL.out.1.mono tq)).mono ?_
        rintro e_ wb ⟨v1, rfl, ho1, hg1, hat1⟩
        refine ⟨_, rfl, ?_⟩
        have kgb := (hg1.block gb HGa.out.lt.1 (own_not_cells hcl HGa.out.box (by decide))).trans HGa.out.box
        have kg8 := (hg1.block g8 (blk_lt BK8.out) (fun e => by have := hlt_ g8 e.symm; have := GE8.out; omega)).trans BK8.out
        have kg9 := (hg1.block g9 (blk_lt BK9.out) (fun e => by have := hlt_ g9 e.symm; have := GE9.out; omega)).trans BK9.out
        have K8 := Aside0.mk kg8
        have K9 := Aside0.mk kg9
        have KB := Aside0.mk kgb
        have HO1 := Aside0.mk ho1
        have HG1 := Aside0.mk hg1
        have HAT1 := Aside0.mk hat1
        clear ho1 hg1 hat1 hcl hlt_ kgb kg8 kg9
        refine hK.out _ _ ⟨(blk_cell KB.out 0).trans rfl, (blk_cell K8.out 0).trans rfl, (blk_cell K8.out 1).trans rfl, (blk_cell K8.out 2).trans rfl, (blk_cell K9.out 0).trans rfl, (blk_cell K9.out 1).trans rfl, (blk_cell K9.out 2).trans rfl⟩ (fun hHeld => ?_)
        clear hK K
        refine norm_ (a' := ?_) ?_ ?_
        rotate_left
        · show Act.put _ (some 42) _ = _
          simp only [Act.put, List.setIfInBounds_toArray, List.set_cons_zero, List.set_cons_succ, i64_w, i32_w]
          rfl
        refine last_ (i := 13) (N := none) #[true, true, true, true, true, true, true, true, true, true, true, true, true, true] rfl rfl (by kernel_rfl) (by decide) (fun K hK => ?_)
        obtain ⟨es_, ck_, hes_⟩ := HGa.out.tab
        have hnm_ := own_not_map (HGa.out.cel fr) hes_.blk
        have hatm := HGa.out.tab.keep (HG1.out.block gm HGa.out.lt.2 hnm_)
        obtain ⟨lf, hlf⟩ : ∃ lf, keyOf Try.prog 24 (encK fr) = some lf := ⟨_, HKF.out⟩
        obtain ⟨o9, hrun, hat3⟩ := Mp.At.store (T := 50) KK injK Try.underlying50 hatm hlf v1
        have hnew := HGa.out.put fr HG1.out v1 _ HO1.out HAT1.out o9 hat3
        have kp8 : (setBlock wb gm o9).heap[g8]? = some (.cells #[.int .i64 fr.f0, .int .i64 fr.f1, .int .i64 fr.f2] 24 (0, 0)) := (Mp.setBlock_other _ (fun e => by have := HG.out.lt.2; have := GE8.out; omega)).trans K8.out
        have kp9 : (setBlock wb gm o9).heap[g9]? = some (.cells #[.int .i64 tq.f0, .int .i64 tq.f1, .int .i64 tq.f2] 24 (0, 0)) := (Mp.setBlock_other _ (fun e => by have := HG.out.lt.2; have := GE9.out; omega)).trans K9.out
        have kbl : Below W.heap.size W (setBlock wb gm o9) := below_setBlock (Below.grown (Below.trans_below HB.out HB.out.size HB6.out) HG1.out (Nat.le_trans HB.out.size HB6.out.size) (own_base (HGa.out.cel fr))) HG.out.lo.2
        have ksz : wr.heap.size ≤ (setBlock wb gm o9).heap.size := by rw [Mp.setBlock_size]; exact Nat.le_trans HB6.out.size HG1.out.size
        have NG := Aside0.mk hnew
        have NB := Aside0.mk kbl
        have N8 := Aside0.mk kp8
        have N9 := Aside0.mk kp9
        have NS := Aside0.mk ksz
        clear hnew kp8 kp9 kbl hat3 hatm hes_ hnm_ hlf ksz
        refine skip_ (w1 := setBlock wb gm o9) (by rfl) rfl ?_ ?_
        · unfold encK at hrun
          go_simp
          all_goals first | (rw [hrun]; done) | (rw [hrun]; rfl) | (simp [hrun]; done) | exact hrun
        clear hrun hHeld
        generalize setBlock wb gm o9 = wc at NG NB N8 N9 NS ⊢
        refine hK.out _ _ ?_
        clear hK K
        refine done_ (by kernel_rfl) ?_
        go_wp2_with fail
        refine start_ (n := 12) (S := fun w' => w'.cell? ⟨gb, 1, none⟩ = some kv ∧ w'.cell? ⟨g8, 0, none⟩ = some (.int .i64 fr.f0) ∧ w'.cell? ⟨g8, 1, none⟩ = some (.int .i64 fr.f1) ∧ w'.cell? ⟨g8, 2, none⟩ = some (.int .i64 fr.f2) ∧ w'.cell? ⟨g9, 0, none⟩ = some (.int .i64 tq.f0) ∧ w'.cell? ⟨g9, 1, none⟩ = some (.int .i64 tq.f1) ∧ w'.cell? ⟨g9, 2, none⟩ = some (.int .i64 tq.f2)) (ds := [11]) #[false, false, false, false, false, false, false, false, false, false, false, false] (by kernel_rfl) rfl rfl ⟨(blk_cell (blk_drew NG.out.box) 1).trans rfl, (blk_cell (blk_drew N8.out) 0).trans rfl, (blk_cell (blk_drew N8.out) 1).trans rfl, (blk_cell (blk_drew N8.out) 2).trans rfl, (blk_cell (blk_drew N9.out) 0).trans rfl, (blk_cell (blk_drew N9.out) 1).trans rfl, (blk_cell (blk_drew N9.out) 2).trans rfl⟩ (fun hHeld => ?_)
        have n1_ := Aside0.mk (blk_drew N8.out)
        have n2_ := Aside0.mk (blk_drew N9.out)
        have n3_ := Aside0.mk (below_drew NB.out)
        have n4_ := Aside0.mk (NG.out.below (below_drew (Below.refl _ _)))
        have n5_ := Aside0.mk (show wr.heap.size ≤ wc.drew.heap.size from NS.out)
        clear N8 N9 NB NG NS
        have N8 := n1_
        have N9 := n2_
        have NB := n3_
        have NG := n4_
        have NS := n5_
        clear n1_ n2_ n3_ n4_ n5_
        generalize wc.drew = wd at N8 N9 NB NG NS hHeld ⊢
        refine pure_ (i := 0) (N := some 43) (v := ?_) (a' := ?_) #[true, false, false, false, false, false, false, false, false, false, false, false] rfl rfl (by kernel_rfl) (fun _ _ _ h => h) (Or.inl ⟨by rfl, ?_⟩) ?_ ?_
        rotate_left
        · intro w'
          go_simp
          with_reducible rfl
        rotate_left
        · simp only [Act.put, List.setIfInBounds_toArray, List.set_cons_zero, List.set_cons_succ, i64_w, i32_w]
          rfl
        refine pure_ (i := 1) (N := some 44) (v := ?_) (a' := ?_) #[true, true, false, false, false, false, false, false, false, false, false, false] rfl rfl (by kernel_rfl) (fun _ _ _ h => h) (Or.inl ⟨by rfl, ?_⟩) ?_ ?_
        rotate_left
        · intro w'
          go_simp
          with_reducible rfl
        rotate_left
        · simp only [Act.put, List.setIfInBounds_toArray, List.set_cons_zero, List.set_cons_succ, i64_w, i32_w]
          rfl
        refine pure_ (i := 2) (N := some 45) (v := ?_) (a' := ?_) #[true, true, true, false, false, false, false, false, false, false, false, false] rfl rfl (by kernel_rfl) (fun _ _ _ h => h) (Or.inl ⟨by rfl, ?_⟩) ?_ ?_
        rotate_left
        · intro w'
          go_simp
          with_reducible rfl
        rotate_left
        · simp only [Act.put, List.setIfInBounds_toArray, List.set_cons_zero, List.set_cons_succ, i64_w, i32_w]
          rfl
        refine pure_ (i := 3) (N := some 46) (v := ?_) (a' := ?_) #[true, true, true, true, false, false, false, false, false, false, false, false] rfl rfl (by kernel_rfl) (fun _ _ _ h => h) (Or.inl ⟨by rfl, ?_⟩) ?_ ?_
        rotate_left
        · intro w'
          go_simp
          with_reducible rfl
        rotate_left
        · simp only [Act.put, List.setIfInBounds_toArray, List.set_cons_zero, List.set_cons_succ, i64_w, i32_w]
          rfl
        refine take_ (i := 4) (N := some 47) (v := ?_) (a' := ?_) #[true, true, true, true, true, false, false, false, false, false, false, false] rfl rfl (by kernel_rfl) (fun _ _ _ h => h) (Or.inl ⟨by rfl, ?_⟩) hHeld ?_ ?_
        rotate_left
        · rintro w' ⟨s0, s1, s2, s3, s4, s5, s6⟩
          go_simp
          with_reducible rfl
        rotate_left
        · simp only [Act.put, List.setIfInBounds_toArray, List.set_cons_zero, List.set_cons_succ, i64_w, i32_w]
          rfl
        refine take_ (i := 5) (N := some 48) (v := ?_) (a' := ?_) #[true, true, true, true, true, true, false, false, false, false, false, false] rfl rfl (by kernel_rfl) (fun _ _ _ h => h) (Or.inl ⟨by rfl, ?_⟩) hHeld ?_ ?_
        rotate_left
        · rintro w' ⟨s0, s1, s2, s3, s4, s5, s6⟩
          go_simp
          with_reducible rfl
        rotate_left
        · simp only [Act.put, List.setIfInBounds_toArray, List.set_cons_zero, List.set_cons_succ, i64_w, i32_w]
          rfl
        refine take_ (i := 7) (N := some 50) (v := ?_) (a' := ?_) #[true, true, true, true, true, true, false, true, false, false, false, false] rfl rfl (by kernel_rfl) (fun _ _ _ h => h) (Or.inl ⟨by rfl, ?_⟩) hHeld ?_ ?_
        rotate_left
        · rintro w' ⟨s0, s1, s2, s3, s4, s5, s6⟩
          go_simp
          with_reducible rfl
        rotate_left
        · simp only [Act.put, List.setIfInBounds_toArray, List.set_cons_zero, List.set_cons_succ, i64_w, i32_w]
          rfl
        refine one_ (i := 6) (N := some 49) #[true, true, true, true, true, true, true, true, false, false, false, false] rfl rfl (by kernel_rfl) (by decide) (fun K hK => ?_)
        have hlt_ := own_lt HG.out.krow
        refine goes_ Try.func26 (by kernel_rfl) rfl #[kv, .agg #[.int .i64 fr.f0, .int .i64 fr.f1, .int .i64 fr.f2]] (by rfl) rfl rfl (by (try simp only [List.map_toArray, List.map_cons, List.map_nil]); first | done | rfl) ?_
        refine (insert_calls W.heap.size kv ks fr wd NG.out.krow NB.out.size (by have := HKS.out.2.1; omega) (HKS.out.1.mono fr)).mono ?_
        rintro e_ we ⟨v2, rfl, ho2, hg2, hat2⟩
        refine ⟨_, rfl, ?_⟩
        have kgb := (hg2.block gb NG.out.lt.1 (own_not_cells NG.out.krow NG.out.box (by decide))).trans NG.out.box
        have kg8 := (hg2.block g8 (blk_lt N8.out) (fun e => by have := hlt_ g8 e.symm; have := GE8.out; omega)).trans N8.out
        have kg9 := (hg2.block g9 (blk_lt N9.out) (fun e => by have := hlt_ g9 e.symm; have := GE9.out; omega)).trans N9.out
        have K8 := Aside0.mk kg8
        have K9 := Aside0.mk kg9
        have KB := Aside0.mk kgb
        have HO2 := Aside0.mk ho2
        have HG2 := Aside0.mk hg2
        have HAT2 := Aside0.mk hat2
        clear ho2 hg2 hat2 hlt_ kgb kg8 kg9
        refine hK.out _ _ ⟨(blk_cell KB.out 1).trans rfl, (blk_cell K8.out 0).trans rfl, (blk_cell K8.out 1).trans rfl, (blk_cell K8.out 2).trans rfl, (blk_cell K9.out 0).trans rfl, (blk_cell K9.out 1).trans rfl, (blk_cell K9.out 2).trans rfl⟩ (fun hHeld => ?_)
        clear hK K
        refine norm_ (a' := ?_) ?_ ?_
        rotate_left
        · show Act.put _ (some 49) _ = _
          simp only [Act.put, List.setIfInBounds_toArray, List.set_cons_zero, List.set_cons_succ, i64_w, i32_w]
          rfl
        refine one_ (i := 8) (N := some 51) #[true, true, true, true, true, true, true, true, true, false, false, false] rfl rfl (by kernel_rfl) (by decide) (fun K hK => ?_)
        refine goes_ Try.func26 (by kernel_rfl) rfl #[v2, .agg #[.int .i64 tq.f0, .int .i64 tq.f1, .int .i64 tq.f2]] (by rfl) rfl rfl (by (try simp only [List.map_toArray, List.map_cons, List.map_nil]); first | done | rfl) ?_
        refine (insert_calls W.heap.size v2 (ins ks fr) tq we HO2.out (Nat.le_trans NB.out.size HG2.out.size) (by have := HKS.out.2.2; omega) ((HKS.out.1.ins fr).1.mono tq)).mono ?_
        rintro e_ wf ⟨v3, rfl, ho3, hg3, hat3⟩
        refine ⟨_, rfl, ?_⟩
        have HO3 := Aside0.mk ho3
        have HG3 := Aside0.mk (grown_two HG2.out hg3 HAT2.out)
        have HAT3 := Aside0.mk (show v3.ownBlock = kv.ownBlock ∨ ∃ b, v3.ownBlock = some b ∧ wd.heap.size ≤ b from by
          rcases hat3 with h1_ | ⟨b, h1_, h2_⟩
          · rw [h1_]; exact HAT2.out
          · exact .inr ⟨b, h1_, Nat.le_trans HG2.out.size h2_⟩)
        clear ho3 hg3 hat3
        have hlt_ := own_lt HG.out.krow
        have kgb := (HG3.out.block gb NG.out.lt.1 (own_not_cells NG.out.krow NG.out.box (by decide))).trans NG.out.box
        have kg8 := (HG3.out.block g8 (blk_lt N8.out) (fun e => by have := hlt_ g8 e.symm; have := GE8.out; omega)).trans N8.out
        have kg9 := (HG3.out.block g9 (blk_lt N9.out) (fun e => by have := hlt_ g9 e.symm; have := GE9.out; omega)).trans N9.out
        clear K8 K9 KB
        have K8 := Aside0.mk kg8
        have K9 := Aside0.mk kg9
        have KB := Aside0.mk kgb
        clear hlt_ kgb kg8 kg9
        refine hK.out _ _ ⟨(blk_cell KB.out 1).trans rfl, (blk_cell K8.out 0).trans rfl, (blk_cell K8.out 1).trans rfl, (blk_cell K8.out 2).trans rfl, (blk_cell K9.out 0).trans rfl, (blk_cell K9.out 1).trans rfl, (blk_cell K9.out 2).trans rfl⟩ (fun hHeld => ?_)
        clear hK K
        refine norm_ (a' := ?_) ?_ ?_
        rotate_left
        · show Act.put _ (some 51) _ = _
          simp only [Act.put, List.setIfInBounds_toArray, List.set_cons_zero, List.set_cons_succ, i64_w, i32_w]
          rfl
        refine pure_ (i := 9) (N := some 52) (v := ?_) (a' := ?_) #[true, true, true, true, true, true, true, true, true, true, false, false] rfl rfl (by kernel_rfl) (fun _ _ _ h => h) (Or.inl ⟨by rfl, ?_⟩) ?_ ?_
        rotate_left
        · intro w'
          go_simp
          with_reducible rfl
        rotate_left
        · simp only [Act.put, List.setIfInBounds_toArray, List.set_cons_zero, List.set_cons_succ, i64_w, i32_w]
          rfl
        refine pure_ (i := 10) (N := some 53) (v := ?_) (a' := ?_) #[true, true, true, true, true, true, true, true, true, true, true, false] rfl rfl (by kernel_rfl) (fun _ _ _ h => h) (Or.inl ⟨by rfl, ?_⟩) ?_ ?_
        rotate_left
        · intro w'
          go_simp
          with_reducible rfl
        rotate_left
        · simp only [Act.put, List.setIfInBounds_toArray, List.set_cons_zero, List.set_cons_succ, i64_w, i32_w]
          rfl
        refine last_ (i := 11) (N := none) #[true, true, true, true, true, true, true, true, true, true, true, true] rfl rfl (by kernel_rfl) (by decide) (fun K hK => ?_)
        have e0_ : wf.cell? ⟨gb, 1, none⟩ = some kv := (blk_cell KB.out 1).trans rfl
        have f0_ := blk_frozen KB.out 1
        have hnew := NG.out.keys HG3.out v3 _ HO3.out HAT3.out
        have kbl : Below W.heap.size W (wf.setCell ⟨gb, 1, none⟩ v3) := below_set (Below.grown NB.out HG3.out NB.out.size (own_base NG.out.krow)) HG.out.lo.1
        have NG2 := Aside0.mk hnew
        have NB2 := Aside0.mk kbl
        obtain ⟨A3, c3, he3, _⟩ := own24_reads HO3.out
        clear hnew kbl
        refine skip_ (w1 := wf.setCell ⟨gb, 1, none⟩ v3) (by rfl) rfl ?_ ?_
        · rw [he3]
          go_simp
          try rfl
        clear hHeld
        generalize wf.setCell ⟨gb, 1, none⟩ v3 = wg at NG2 NB2 ⊢
        refine hK.out _ _ ?_
        clear hK K
        refine done_ (by kernel_rfl) ?_
        go_wp2
        go_roundg (n - (j + 1))
        case measure => omega
        case rel =>
          have hf_ : gof true (es.take (j + 1)) = (Mp.vals Cel.xs (Mp.aset l fr ⟨v1, ins (celAt l fr).xs tq⟩), ins (ins ks fr) tq) := by
            rw [gof_succ true es j HX.out.1, HF.out, ← rd37_at es j HX.out.1, ← HX.out.2]
            unfold gstep
            rw [celAt_xs, ← Mp.aset_vals Cel.xs l fr ⟨v1, _⟩]
            simp only [efrom, eto, if_true, if_false, Bool.false_eq_true]
            rw [← HFT.out.1, ← HFT.out.2]
          have hr_ : ∃ l' kv' ks', Gr W.heap.size gb gm l' kv' ks' wg ∧ gof true (es.take (j + 1)) = (Mp.vals Cel.xs l', ks') := ⟨_, _, _, NG2.out, hf_⟩
          refine ⟨j + 1, ?_, by omega, Nat.le_refl _, ⟨hr_⟩, NB2⟩
          first | rfl | go_num
    · obtain rfl : j = n := by omega
      have hjl : decide ((j : Int) < (j : Int)) = false := decide_eq_false (by omega)
      go_wp2
      go_ret
      rw [HT.out] at hgf
      have hfin : Gr W.heap.size gb gm l kv ks wr ∧ Below W.heap.size W wr ∧ gof rev es = (Mp.vals Cel.xs l, ks) := ⟨hgr, HB.out, hgf⟩
      refine ⟨gb, gm, l, kv, ks, ?_, hfin⟩
      rfl
end Go.Proofs.Yteekdkkfegcoeaa.Dg
