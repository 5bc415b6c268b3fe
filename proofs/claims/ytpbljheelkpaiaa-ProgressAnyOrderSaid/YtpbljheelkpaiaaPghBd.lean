/- progress.Assembler: bounds. -/
import Derived.Test.YtpbljheelkpaiaaPghTb
import Derived.Test.YtpbljheelkpaiaaPgx1
import Derived.Test.YtpbljheelkpaiaaMp
import Derived.Laws.IdiomRangeMap
namespace Go.Proofs.Ytpbljheelkpaiaa.Pg
open Go.RowKit Go.Proofs.YtpbljheelkpaiaaW.PrintWords Go.Proofs.YtpbljheelkpaiaaW.PrintLast Go.Proofs.YtpbljheelkpaiaaW.PrintMore
open Go.Proofs.Ytpbljheelkpaiaa
set_option linter.unusedVariables false
set_option linter.unusedSimpArgs false
attribute [local go_sem] Oper.semAt_some max2_int min2_int max_two min_two
/-- every entry is a chunk of a result of n chunks -/
def Fit (n : Nat) (m : List (Int × S39)) : Prop := ∀ p ∈ m, ∃ i : Nat, i < n ∧ p.1 = (i : Int) ∧ p.2.f2 = decide (i + 1 = n)
/-- what bounds says -/
def finalOf (n : Nat) (m : List (Int × S39)) : Int := if (Mp.aget m ((n - 1 : Nat) : Int)).isSome then ((n - 1 : Nat) : Int) else -1
def Tops (n : Nat) (m : List (Int × S39)) (L : Int) : Prop := -1 ≤ L ∧ L ≤ ((n - 1 : Nat) : Int) ∧ ((Mp.aget m ((n - 1 : Nat) : Int)).isSome = true → L = ((n - 1 : Nat) : Int))
set_option maxHeartbeats 4000000 in
set_option maxRecDepth 100000 in
theorem bounds_nil (gs ob : Nat) (t : Int) (w : World) (h : As gs ob t none [] w) (ht : (Lit.int .i64 t).wf = true) :
    Calls Try.prog 17 #[.pointer (some ⟨gs, 0, none⟩), .int .i64 t] w fun e w' => e = .returned (.tuple #[.int .i64 (-1), .int .i64 (-1)]) ∧ Below w.heap.size w w' := by
  have hlk := outer_look w h.out ht
  have c0 : w.cell? ⟨gs, 0, none⟩ = some (.map (some ob)) := (blk_cell h.box 0).trans rfl
  have hrg := run_range_nilMap (P := Try.prog) w 53 3 39 Try.underlying53
  have hnx : ∀ ty, (Instr.next (.pointer (some ⟨w.heap.size, 0, none⟩)) false ty).run Try.prog (w.alloc (.mapIter none 0 #[] 0)) = _ := fun ty => run_next_nilMap _ ty 0 0 #[]
  go_enter Try.func17, Try.ntmps17
  go_wp2
  go_loopg [4, 5] 1 (fun kq v4 v5 w' => v4 = .int .i64 (-1) ∧ v5 = .int .i64 (-1) ∧ w' = w.alloc (.mapIter none 0 #[] 0))
  case atStart => exact ⟨rfl, rfl, rfl⟩
  case round =>
    obtain ⟨rfl, rfl, rfl⟩ := hrel
    go_wp2
    go_ret2
    exact ⟨rfl, below_alloc (Below.refl _ _) _⟩
set_option maxHeartbeats 8000000 in
set_option maxRecDepth 100000 in
theorem bounds_some (gs ob ib : Nat) (t : Int) (n : Nat) (m : List (Int × S39)) (w : World) (h : As gs ob t (some ib) m w) (ht : (Lit.int .i64 t).wf = true) (hf : Fit n m) (hn : 0 < n) (hn2 : n < 1000000) :
    Calls Try.prog 17 #[.pointer (some ⟨gs, 0, none⟩), .int .i64 t] w fun e w' => ∃ L : Int, e = .returned (.tuple #[.int .i64 (finalOf n m), .int .i64 L]) ∧ Tops n m L ∧ Below w.heap.size w w' := by
  have hlk := outer_look w h.out ht
  have c0 : w.cell? ⟨gs, 0, none⟩ = some (.map (some ob)) := (blk_cell h.box 0).trans rfl
  obtain ⟨l, hl, hat, hrw⟩ := h.tab
  have HROW := Aside0.mk (show ∀ q ∈ l, ∃ A c, q.2.v = .slice A q.2.p.f3.length c from fun q hq => Kd.R_slice (hrw q hq))
  have HL := Aside0.mk hl
  have HAT := Aside0.mk hat
  have HF := Aside0.mk hf
  have HN := Aside0.mk (And.intro hn hn2)
  have HB := Aside0.mk (Below.refl w.heap.size w)
  clear hl hat hf hn hn2 h hrw
  go_enter Try.func17, Try.ntmps17
  go_wp2_with (at_range; refine Mp.wp_range rfl (.tmp 13) 53 rfl Try.underlying53 HAT.out rfl ?_; intro w3 ri hri hit hg hb hlt; have HRI := Aside0.mk (show w.heap.size ≤ ri from by omega); have HI := Aside0.mk hit; have n1_ := Aside0.mk (HB.out.trans (hb.mono HB.out.size)); have HBS := Aside0.mk (show w.heap.size ≤ w3.heap.size from hb.size); clear HB; have HB := n1_; clear n1_ hri hit hg hb hlt HAT)
  go_frame
  go_loopg [4, 5] l.length (fun kq v4 v5 w' => ∃ (x4 x5 : Int) (td : List (Int × Cel)), v4 = .int .i64 x4 ∧ v5 = .int .i64 x5 ∧ Aside0 (kq = td.length ∧ (-1 ≤ x5 ∧ x5 ≤ ((n - 1 : Nat) : Int)) ∧ (x4 = -1 ∨ (x4 = ((n - 1 : Nat) : Int) ∧ ∃ p ∈ m, p.2.f2 = true)) ∧ (∀ q ∈ l, q ∈ td ∨ (q.1 ≤ x5 ∧ (q.2.p.f2 = true → x4 = ((n - 1 : Nat) : Int))))) ∧ Aside0 (Mp.Iter Try.prog 3 encI w' ib ri (Mp.vals encC l) (Mp.vals encC td)) ∧ Aside0 (Below w.heap.size w w') ∧ Aside0 (w.heap.size ≤ w'.heap.size) ∧ Aside0 (∀ q ∈ td, q ∈ l))
  case atStart => exact ⟨-1, -1, l, rfl, rfl, ⟨rfl, ⟨by omega, by omega⟩, .inl rfl, fun q hq => .inl hq⟩, HI, HB, HBS, ⟨fun _ h_ => h_⟩⟩
  case round =>
    clear HI HB HBS
    obtain ⟨x4, x5, td, rfl, rfl, HT, HI, HB, HBS, HTS⟩ := hrel
    by_cases hne : td = []
    · subst hne
      replace HI := Aside0.mk (show Mp.Iter Try.prog 3 encI wr ib ri (Mp.vals encC l) [] from HI.out)
      go_wp2_with (first | (at_next; refine Mp.wp_next_nil (κ := Int) (P := Try.prog) (kt := 3) (enc := encI) (b := ib) (r := ri) (l := Mp.vals encC l) rfl (.tmp 14) rfl injI HI.out rfl ?_))
      go_ret2
      have key : (Mp.aget m (((n - 1 : Nat)) : Int)).isSome = true → x4 = ((n - 1 : Nat) : Int) ∧ x5 = ((n - 1 : Nat) : Int) := by
        intro hs
        obtain ⟨c, hc⟩ := Option.isSome_iff_exists.1 hs
        have hm := Mp.aget_mem hc
        obtain ⟨i, hi, e1, e2⟩ := HF.out _ hm
        have hi2 : i = n - 1 := by have h_ : ((n - 1 : Nat) : Int) = (i : Int) := e1; omega
        rw [← HL.out] at hm
        obtain ⟨q, hq, e3⟩ := List.mem_map.1 hm
        injection e3 with e4 e5
        have h_ := HT.out.2.2.2 q hq
        rcases h_ with h_ | ⟨h5, h6⟩
        · cases h_
        · have h7 := HT.out.2.1.2
          rw [e4] at h5
          have hn_ := HN.out.1
          exact ⟨h6 (by rw [e5]; rw [e2]; exact decide_eq_true (by omega)), by omega⟩
      refine ⟨x5, ?_, ⟨HT.out.2.1.1, HT.out.2.1.2, fun hs => (key hs).2⟩, HB.out⟩
      have hfin : x4 = finalOf n m := ?_
      · rw [← hfin]; rfl
      unfold finalOf
      by_cases hs : (Mp.aget m (((n - 1 : Nat)) : Int)).isSome = true
      · rw [if_pos hs, (key hs).1]
      · rw [if_neg hs]
        rcases HT.out.2.2.1 with h4 | ⟨h4, p, hp, hp2⟩
        · rw [h4]
        · exfalso
          obtain ⟨i, hi, e1, e2⟩ := HF.out p hp
          rw [e2] at hp2
          have h8 := of_decide_eq_true hp2
          refine hs ?_
          cases hg : Mp.aget m (((n - 1 : Nat)) : Int) with
          | some c => rfl
          | none => exact absurd (by rw [e1]; have : i = n - 1 := by omega
                                     rw [this]) (Mp.aget_none.1 hg p hp)
    · have HNE := Aside0.mk hne
      clear hne
      obtain ⟨k1, rfl⟩ : ∃ k1, gk = k1 + 1 := ⟨gk - 1, by have h_ := HT.out.1; have := List.length_pos_iff.2 HNE.out; omega⟩
      go_upto_region 5 with (first | (at_next; refine Mp.wp_next_vals (κ := Int) (P := Try.prog) (kt := 3) (enc := encI) (b := ib) (r := ri) (l := Mp.vals encC l) (g := encC) rfl (.tmp 14) rfl injI HI.out HNE.out rfl ?_; intro xk u l1 l2 w4 htd hit hgr hsz hen; have n1_ := Aside0.mk (HB.out.grown hgr HBS.out (fun k hk => by injection hk with hk; rw [← hk]; exact HRI.out)); have n2_ := Aside0.mk (show Mp.Iter Try.prog 3 encI w4 ib ri (Mp.vals encC l) (Mp.vals encC (l1 ++ l2)) from hit); have n4_ := Aside0.mk (show w.heap.size ≤ w4.heap.size from by rw [hsz]; exact HBS.out); clear HB; clear HI; clear HBS; have HB := n1_; have HI := n2_; have HBS := n4_; have HTD := Aside0.mk htd; have htd2 := htd; clear n1_ n2_ n4_ hit hgr hsz htd; obtain ⟨Au, cu, ev_⟩ := HROW.out _ (HTS.out _ (by rw [htd2]; exact List.mem_append_right _ (List.mem_cons_self)) : (xk, u) ∈ l); unfold encI encC at hen ⊢; simp only at ev_; rw [ev_] at hen ⊢; have EV := Aside0.mk ev_; clear ev_ htd2) | ((with_reducible refine gate_dst (N := 7) rfl ?_); refine box_event ?hg (N := 7) ?hd (cs := #[.int .i64 0, .int .i64 0, .bool false, .slice none 0 0]) (t := 39) ?hr ?_; (case hd => rfl); (case hg => rfl); (case hr => first | (go_simp; done) | (go_simp; rfl)); intro g7 hg w5 hbox hb; have n1_ := Aside0.mk (below_step HB.out hb); have BK := Aside0.mk hbox; have GE := Aside0.mk (show w.heap.size ≤ g7 from by rw [hg]; exact HBS.out); have n2_ := Aside0.mk (HI.out.below hb); have NE := Aside0.mk (show ib ≠ g7 ∧ ri ≠ g7 from by have h_ := HI.out.lt; omega); have n3_ := Aside0.mk (show w.heap.size ≤ w5.heap.size from Nat.le_trans HBS.out hb.size); clear HB HI HBS; have HB := n1_; have HI := n2_; have HBS := n3_; clear n1_ n2_ n3_ hb hbox hg; have c0_ : w5.cell? ⟨g7, 0, none⟩ = some (.int .i64 0) := (blk_cell BK.out 0).trans rfl; have c1_ : w5.cell? ⟨g7, 1, none⟩ = some (.int .i64 0) := (blk_cell BK.out 1).trans rfl; have c2_ : w5.cell? ⟨g7, 2, none⟩ = some (.bool false) := (blk_cell BK.out 2).trans rfl; have c3_ : w5.cell? ⟨g7, 3, none⟩ = some (.slice none 0 0) := (blk_cell BK.out 3).trans rfl; have d0_ := blk_frozen BK.out 0; have d1_ := blk_frozen BK.out 1; have d2_ := blk_frozen BK.out 2; have d3_ := blk_frozen BK.out 3))
      have n1_ := Aside0.mk (show ((((w5.setCell ⟨g7, 0, none⟩ (.int .i64 u.p.f0)).setCell ⟨g7, 1, none⟩ (.int .i64 u.p.f1)).setCell ⟨g7, 2, none⟩ (.bool u.p.f2)).setCell ⟨g7, 3, none⟩ (.slice Au u.p.f3.length cu)).heap[g7]? = some (.cells #[.int .i64 u.p.f0, .int .i64 u.p.f1, .bool u.p.f2, .slice Au u.p.f3.length cu] 39 (0, 0)) from (by refine blk_put (cs := #[.int .i64 u.p.f0, .int .i64 u.p.f1, .bool u.p.f2, .slice none 0 0]) ?_ 3 _ rfl; refine blk_put (cs := #[.int .i64 u.p.f0, .int .i64 u.p.f1, .bool false, .slice none 0 0]) ?_ 2 _ rfl; refine blk_put (cs := #[.int .i64 u.p.f0, .int .i64 0, .bool false, .slice none 0 0]) ?_ 1 _ rfl; refine blk_put (cs := #[.int .i64 0, .int .i64 0, .bool false, .slice none 0 0]) ?_ 0 _ rfl; exact BK.out))
      have n2_ := Aside0.mk ((((HI.out.set (p := ⟨g7, 0, none⟩) NE.out.1 NE.out.2 (.int .i64 u.p.f0)).set (p := ⟨g7, 1, none⟩) NE.out.1 NE.out.2 (.int .i64 u.p.f1)).set (p := ⟨g7, 2, none⟩) NE.out.1 NE.out.2 (.bool u.p.f2)).set (p := ⟨g7, 3, none⟩) NE.out.1 NE.out.2 (.slice Au u.p.f3.length cu))
      have n3_ := Aside0.mk (show Below w.heap.size w ((((w5.setCell ⟨g7, 0, none⟩ (.int .i64 u.p.f0)).setCell ⟨g7, 1, none⟩ (.int .i64 u.p.f1)).setCell ⟨g7, 2, none⟩ (.bool u.p.f2)).setCell ⟨g7, 3, none⟩ (.slice Au u.p.f3.length cu)) from below_set (below_set (below_set (below_set HB.out GE.out) GE.out) GE.out) GE.out)
      have n4_ := Aside0.mk (show w.heap.size ≤ ((((w5.setCell ⟨g7, 0, none⟩ (.int .i64 u.p.f0)).setCell ⟨g7, 1, none⟩ (.int .i64 u.p.f1)).setCell ⟨g7, 2, none⟩ (.bool u.p.f2)).setCell ⟨g7, 3, none⟩ (.slice Au u.p.f3.length cu)).heap.size from n3_.out.size)
      clear HI HB HBS BK c0_ c1_ c2_ c3_ d0_ d1_ d2_ d3_
      generalize ((((w5.setCell ⟨g7, 0, none⟩ (.int .i64 u.p.f0)).setCell ⟨g7, 1, none⟩ (.int .i64 u.p.f1)).setCell ⟨g7, 2, none⟩ (.bool u.p.f2)).setCell ⟨g7, 3, none⟩ (.slice Au u.p.f3.length cu)) = w6 at n1_ n2_ n3_ n4_ ⊢
      have c2_ : w6.cell? ⟨g7, 2, none⟩ = some (.bool u.p.f2) := (blk_cell n1_.out 2).trans rfl
      have hmem : (xk, u) ∈ l := HTS.out _ (by rw [HTD.out]; exact List.mem_append_right _ List.mem_cons_self)
      obtain ⟨i, hi, e1, e2⟩ := HF.out (xk, u.p) (by rw [← HL.out]; exact List.mem_map.2 ⟨_, hmem, rfl⟩)
      have hxk : xk = (i : Int) := e1
      have e2' : u.p.f2 = decide (i + 1 = n) := e2
      have X := Aside0.mk (show (xk = (i : Int) ∧ i < n) ∧ u.p.f2 = decide (i + 1 = n) ∧ (xk, u) ∈ l from ⟨⟨hxk, hi⟩, e2', hmem⟩)
      clear hxk e1 e2 e2' hi hmem
      have last_ : ∀ (y4 y5 : Int), -1 ≤ y5 → y5 ≤ ((n - 1 : Nat) : Int) → x5 ≤ y5 → xk ≤ y5 → (y4 = if u.p.f2 = true then xk else x4) → (k1 = (l1 ++ l2).length ∧ (-1 ≤ y5 ∧ y5 ≤ ((n - 1 : Nat) : Int)) ∧ (y4 = -1 ∨ (y4 = ((n - 1 : Nat) : Int) ∧ ∃ p ∈ m, p.2.f2 = true)) ∧ (∀ q ∈ l, q ∈ l1 ++ l2 ∨ (q.1 ≤ y5 ∧ (q.2.p.f2 = true → y4 = ((n - 1 : Nat) : Int))))) := by
        intro y4 y5 h1 h2 h3 h4 h5
        obtain ⟨hk_, _, hx4, hq⟩ := HT.out
        obtain ⟨⟨hxk, hin⟩, hf2, hmem⟩ := X.out
        refine ⟨by rw [HTD.out] at hk_; simp only [List.length_append, List.length_cons] at hk_ ⊢; omega, ⟨h1, h2⟩, ?_, ?_⟩
        · by_cases hu : u.p.f2 = true
          · rw [if_pos hu] at h5
            refine .inr ⟨?_, (xk, u.p), by rw [← HL.out]; exact List.mem_map.2 ⟨_, hmem, rfl⟩, hu⟩
            rw [hf2] at hu
            have := of_decide_eq_true hu
            omega
          · rw [if_neg hu] at h5
            rw [h5]; exact hx4
        · intro q hql
          rcases hq q hql with hq | ⟨hq1, hq2⟩
          · rw [HTD.out] at hq
            rcases List.mem_append.1 hq with hq | hq
            · exact .inl (List.mem_append_left _ hq)
            · rcases List.mem_cons.1 hq with rfl | hq
              · right
                refine ⟨h4, fun hu => ?_⟩
                rw [if_pos hu] at h5
                have hu2 : u.p.f2 = true := hu
                rw [hf2] at hu2
                have := of_decide_eq_true hu2
                omega
              · exact .inl (List.mem_append_right _ hq)
          · right
            refine ⟨by omega, fun hu => ?_⟩
            by_cases hu2 : u.p.f2 = true
            · rw [if_pos hu2] at h5
              rw [hf2] at hu2
              have := of_decide_eq_true hu2
              omega
            · rw [if_neg hu2] at h5
              rw [h5]; exact hq2 hu
      have LAST := Aside0.mk last_
      have LTS := Aside0.mk (show ∀ q ∈ l1 ++ l2, q ∈ l from fun q hq => HTS.out q (by rw [HTD.out]; rcases List.mem_append.1 hq with h_ | h_; exact List.mem_append_left _ h_; exact List.mem_append_right _ (List.mem_cons_of_mem _ h_)))
      clear last_
      have B5 := Aside0.mk HT.out.2.1
      have B6 := Aside0.mk (show 0 ≤ xk ∧ xk ≤ ((n - 1 : Nat) : Int) from by have h_ := X.out.1; omega)
      clear HT HTS X HTD EV
      by_cases hmx : x5 < xk
      · have hm1 : decide (x5 < xk) = true := decide_eq_true hmx
        have B7 := Aside0.mk hmx
        cases hf2 : u.p.f2 with
        | true =>
          rw [hf2] at c2_
          go_wp2

          go_roundg k1
          case measure => omega
          case rel => exact ⟨xk, xk, l1 ++ l2, rfl, rfl, ⟨LAST.out xk xk (by have h_ := B6.out; omega) B6.out.2 (by have h_ := B7.out; omega) (by omega) (by rw [if_pos hf2])⟩, n2_, n3_, n4_, LTS⟩
        | false =>
          rw [hf2] at c2_
          go_wp2
          go_roundg k1
          case measure => omega
          case rel => exact ⟨x4, xk, l1 ++ l2, rfl, rfl, ⟨LAST.out x4 xk (by have h_ := B6.out; omega) B6.out.2 (by have h_ := B7.out; omega) (by omega) (by rw [if_neg (by rw [hf2]; decide)])⟩, n2_, n3_, n4_, LTS⟩
      · have hm1 : decide (x5 < xk) = false := decide_eq_false hmx
        have B7 := Aside0.mk hmx
        cases hf2 : u.p.f2 with
        | true =>
          rw [hf2] at c2_
          go_wp2
          go_roundg k1
          case measure => omega
          case rel => exact ⟨xk, x5, l1 ++ l2, rfl, rfl, ⟨LAST.out xk x5 B5.out.1 B5.out.2 (by omega) (by have h_ := B7.out; omega) (by rw [if_pos hf2])⟩, n2_, n3_, n4_, LTS⟩
        | false =>
          rw [hf2] at c2_
          go_wp2
          go_roundg k1
          case measure => omega
          case rel => exact ⟨x4, x5, l1 ++ l2, rfl, rfl, ⟨LAST.out x4 x5 B5.out.1 B5.out.2 (by omega) (by have h_ := B7.out; omega) (by rw [if_neg (by rw [hf2]; decide)])⟩, n2_, n3_, n4_, LTS⟩
end Go.Proofs.Ytpbljheelkpaiaa.Pg
