/- wordindex.Update. Condition: the index is valid, in order, of at most 20 entries; the document is within the limits; its name is that of an entry. -/
import Derived.Test.YtngolmiegfgmmaaWfhBu
import Derived.Test.YtngolmiegfgmmaaWfhBs
import Derived.Test.YtngolmiegfgmmaaWfhCe
import Derived.Test.YtngolmiegfgmmaaWfx5
import Derived.BigQuiet
namespace Go.Proofs.Ytngolmiegfgmmaa.Wf
open Go.RowKit Go.Sort Go.Proofs.YtngolmiegfgmmaaW.PrintWords Go.Proofs.YtngolmiegfgmmaaW.PrintLast Go.Proofs.YtngolmiegfgmmaaW.PrintMore
open Go.Proofs.Ytngolmiegfgmmaa
set_option linter.unusedVariables false
set_option linter.unusedSimpArgs false
attribute [local go_sem] Oper.semAt_some
theorem q9 : ∀ q, q ∈ 9 :: Kd.string.E → q ≠ 43 := by decide
theorem R_set3 {W : World} {g base : Nat} {ok : Nat → Prop} {v a b c c0 c1 c2 : Value} {xs : List ByteArray} (h : Kd.R Kd.string 9 W base ok v xs) (hb : W.heap[g]? = some (.cells #[c0, c1, c2] 43 (0, 0))) :
    Kd.R Kd.string 9 (((W.setCell ⟨g, 0, none⟩ a).setCell ⟨g, 1, none⟩ b).setCell ⟨g, 2, none⟩ c) base ok v xs :=
  Kd.R_mono (Kd.R_far (p := ⟨g, 2, none⟩) (Kd.R_far (p := ⟨g, 1, none⟩) (Kd.R_far (p := ⟨g, 0, none⟩) (Kd.R_types h hb q9) (fun _ hk => hk.2) a) (fun _ hk => hk.2) b) (fun _ hk => hk.2) c) (fun _ hk => hk.1)
theorem three_of {cc : List Value} (h : cc.length = 3) : ∃ a b c, cc = [a, b, c] := by
  match cc, h with
  | [a, b, c], _ => exact ⟨a, b, c, rfl⟩
set_option maxHeartbeats 8000000 in
set_option maxRecDepth 100000 in
theorem update11 (kk : Nat) (A0 : Option Addr) (c0 : Nat) (l0 : List S43) (a1 : ByteArray) (a2 : Int) (a3 : ByteArray) (p : Nat) (w : World) (hr0 : Kd.C k43 w A0 l0.length l0) (hc0 : l0.length ≤ c0) (hl0 : l0.length ≤ 20) (hw0 : ∀ x ∈ l0, x.f2.length < 1000000)
    (hv : wordindex_valid.f kk l0 = some true) (hd : okD ⟨a1, a2, a3⟩) (hp : p < l0.length) (hlo : ∀ t : Nat, t < p → cmpN (rd_T43 l0 t) (entF ⟨a1, a2, a3⟩) < 0) (hhi : ∀ t : Nat, p ≤ t → t < l0.length → 0 ≤ cmpN (rd_T43 l0 t) (entF ⟨a1, a2, a3⟩)) (heq : cmpN (rd_T43 l0 p) (entF ⟨a1, a2, a3⟩) = 0) :
    Calls Try.prog 11 #[.slice A0 l0.length c0, .agg #[.string a1, .int .i64 a2, .string a3]] w fun e w' => ∃ v, e = .returned (.tuple #[v, .int .i64 0]) ∧ Kd.S k43 43 w' w.heap.size (fun _ => True) v (l0.set p (entF ⟨a1, a2, a3⟩)) ∧ Below w.heap.size w w' := by
  have hu29 := Try.underlying29
  have hu27 := Try.underlying27
  have hu35 := Try.underlying35
  have hu43 := Try.underlying43
  have HR0 := Aside0.mk hr0
  have HC0 := Aside0.mk hc0
  have HL := Aside0.mk (show l0.length < 1000000 from by omega)
  have HL2 := Aside0.mk (show l0.length < 1000 from by omega)
  have HLP := Aside0.mk (show 0 < l0.length from by omega)
  have HW0 := Aside0.mk hw0
  have HV := Aside0.mk hv
  have OD := Aside0.mk hd
  have HP := Aside0.mk hp
  have HLO := Aside0.mk hlo
  have HHI := Aside0.mk hhi
  have HEQ := Aside0.mk heq
  have HB := Aside0.mk (Below.refl w.heap.size w)
  have hpi : (0 : Int) ≤ (p : Int) := by omega
  have hpl : (p : Int) < (l0.length : Int) := by omega
  clear hr0 hc0 hl0 hw0 hv hd hp hlo hhi heq
  go_enter Try.func11, Try.ntmps11
  go_wp2_with fail
  have hbk0 := blk_new w (.cells #[.string a1, .int .i64 a2, .string a3] 35 (0, 0))
  have hb0 : Below w.heap.size w (w.alloc (.cells #[.string a1, .int .i64 a2, .string a3] 35 (0, 0))) := below_alloc (Below.refl _ _) _
  generalize hw3 : w.alloc (.cells #[.string a1, .int .i64 a2, .string a3] 35 (0, 0)) = w3 at hbk0 hb0 ⊢
  clear hw3 HB
  have HB := Aside0.mk hb0
  clear hb0
  generalize hg3 : w.heap.size = g3 at hbk0 ⊢
  have GE3 := Aside0.mk (Nat.le_of_eq hg3)
  have BK3 := Aside0.mk hbk0
  clear hg3 hbk0
  refine (wordindex_valid.calls kk _ _ l0 true _ (Kd.C_below HR0.out HB.out) HC0.out HV.out).mono ?_
  rintro e_ w4 ⟨rfl, hb⟩
  have n2_ := Aside0.mk (blk_below BK3.out hb)
  have n1_ := Aside0.mk (below_step HB.out hb)
  clear BK3 HB hb
  have HB := n1_
  have BK3 := n2_
  clear n1_ n2_
  have hc3_0 : w4.cell? ⟨g3, 0, none⟩ = some (.string a1) := (blk_cell BK3.out 0).trans rfl
  have hf3_0 := blk_frozen BK3.out 0
  have hc3_1 : w4.cell? ⟨g3, 1, none⟩ = some (.int .i64 a2) := (blk_cell BK3.out 1).trans rfl
  have hf3_1 := blk_frozen BK3.out 1
  have hc3_2 : w4.cell? ⟨g3, 2, none⟩ = some (.string a3) := (blk_cell BK3.out 2).trans rfl
  have hf3_2 := blk_frozen BK3.out 2
  go_wp2_with (first
    | ((with_reducible refine gate_dst (N := 14) rfl ?_); refine Kd.R_lit k35 (w0 := w) w.heap.size 35 ?hg (N := 14) ?hd (xs := [(⟨a1, a2, a3⟩ : S35)]) (inner := [.string a1, .int .i64 a2, .string a3]) (ok := fun _ => True) (okp := fun _ => True) ?hr ?hp (fun _ hk => hk) trivial HB.out HB.out.size (by simp) ?_; (case hd => rfl); (case hg => rfl); (case hr => first | (go_simp; done) | (go_simp; rfl)); (case hp => exact (Reps.c3 (show Kd.M k35 _ _ _ (⟨a1, a2, a3⟩ : S35) [.string a1, .int .i64 a2, .string a3] from (k35_mkM _ _ _ (⟨a1, a2, a3⟩ : S35))) (Reps.none _ _))); intro v14 w14 ho hb0 hgr hnew; obtain ⟨A14, c14, rfl⟩ := Kd.R_slice ho; have HO14 := Aside0.mk ho; have n2_ := Aside0.mk (blk_grown BK3.out hgr (by simp)); have n1_ := Aside0.mk hb0; clear HB BK3; have HB := n1_; have BK3 := n2_; clear n1_ n2_; clear hc3_0 hc3_1 hc3_2 hf3_0 hf3_1 hf3_2; have hc3_0 : w14.cell? ⟨g3, 0, none⟩ = some (.string a1) := (blk_cell BK3.out 0).trans rfl; have hf3_0 := blk_frozen BK3.out 0; have hc3_1 : w14.cell? ⟨g3, 1, none⟩ = some (.int .i64 a2) := (blk_cell BK3.out 1).trans rfl; have hf3_1 := blk_frozen BK3.out 1; have hc3_2 : w14.cell? ⟨g3, 2, none⟩ = some (.string a3) := (blk_cell BK3.out 2).trans rfl; have hf3_2 := blk_frozen BK3.out 2; clear ho hb0 hgr hnew)
    | (go_at_call 20; refine (validate20 _ _ [(⟨a1, a2, a3⟩ : S35)] _ (Kd.R_reads' HO14.out).2.2 (Kd.R_reads' HO14.out).2.1 (by simp) (by simp [OD.out.1]) (by simp [OD.out.2.1]) (by intro i hi; obtain rfl : i = 0 := (by simpa using hi); rfl)).mono ?_; rintro e_ w5 ⟨rfl, hb⟩; have n2_ := Aside0.mk (blk_below BK3.out hb); clear BK3; have BK3 := n2_; clear n2_; (try clear hc3_0); (try clear hc3_1); (try clear hc3_2); (try clear hf3_0); (try clear hf3_1); (try clear hf3_2); have hc3_0 : w5.cell? ⟨g3, 0, none⟩ = some (.string a1) := (blk_cell BK3.out 0).trans rfl; have hf3_0 := blk_frozen BK3.out 0; have hc3_1 : w5.cell? ⟨g3, 1, none⟩ = some (.int .i64 a2) := (blk_cell BK3.out 1).trans rfl; have hf3_1 := blk_frozen BK3.out 1; have hc3_2 : w5.cell? ⟨g3, 2, none⟩ = some (.string a3) := (blk_cell BK3.out 2).trans rfl; have hf3_2 := blk_frozen BK3.out 2; have n1_ := Aside0.mk (below_step HB.out hb); clear HB; have HB := n1_; clear n1_; clear hb HO14)
    | (go_at_call 21; refine (entry21 ⟨a1, a2, a3⟩ (a3.size + 1) (sumF a3) (wordsF a3) _ OD.out.2.2.1 OD.out.2.2.2).mono ?_; rintro e_ w6 ⟨vw, rfl, hvw, hb⟩; obtain ⟨Aw, nw, cw, rfl⟩ : ∃ A n c, vw = .slice A n c := (by obtain ⟨A, c, e_⟩ := Kd.R_slice hvw; exact ⟨A, _, c, e_⟩); have HVW := Aside0.mk (Kd.R_tight rfl (Kd.R_lower hvw HB.out.size)); clear BK3 hvw hc3_0 hc3_1 hc3_2 hf3_0 hf3_1 hf3_2; have n1_ := Aside0.mk (below_step HB.out hb); clear HB; have HB := n1_; clear n1_; clear hb)
    | ((with_reducible refine gate_dst (N := 7) rfl ?_); refine box_event ?hg (N := 7) ?hd (cs := #[.string ByteArray.empty, .int .u32 0, .slice none 0 0]) (t := 43) ?hr ?_; (case hd => rfl); (case hg => rfl); (case hr => first | (go_simp; done) | (go_simp; rfl)); intro g7 hg w7 hbox hb; have BK7 := Aside0.mk hbox; have GE7 := Aside0.mk (show w.heap.size ≤ g7 from by rw [hg]; exact HB.out.size); have n2_ := Aside0.mk (Kd.R_below HVW.out hb); clear HVW; have HVW := n2_; clear n2_; have hc7_0 : w7.cell? ⟨g7, 0, none⟩ = some (.string ByteArray.empty) := (blk_cell BK7.out 0).trans rfl; have hf7_0 := blk_frozen BK7.out 0; have hc7_1 : w7.cell? ⟨g7, 1, none⟩ = some (.int .u32 0) := (blk_cell BK7.out 1).trans rfl; have hf7_1 := blk_frozen BK7.out 1; have hc7_2 : w7.cell? ⟨g7, 2, none⟩ = some (.slice none 0 0) := (blk_cell BK7.out 2).trans rfl; have hf7_2 := blk_frozen BK7.out 2; have n1_ := Aside0.mk (below_step HB.out hb); clear HB; have HB := n1_; clear n1_; clear hbox hb hg)
    | (go_at_call 25; have hbs : Below w.heap.size w (((w7.setCell ⟨g7, 0, none⟩ (.string a1)).setCell ⟨g7, 1, none⟩ (.int .u32 (sumF a3))).setCell ⟨g7, 2, none⟩ (.slice Aw nw cw)) := below_set (below_set (below_set HB.out GE7.out) GE7.out) GE7.out; have hbk : (((w7.setCell ⟨g7, 0, none⟩ (.string a1)).setCell ⟨g7, 1, none⟩ (.int .u32 (sumF a3))).setCell ⟨g7, 2, none⟩ (.slice Aw nw cw)).heap[g7]? = some (.cells #[.string a1, .int .u32 (sumF a3), .slice Aw nw cw] 43 (0, 0)) := (by refine blk_put (cs := #[.string a1, .int .u32 (sumF a3), .slice none 0 0]) ?_ 2 _ rfl; refine blk_put (cs := #[.string a1, .int .u32 0, .slice none 0 0]) ?_ 1 _ rfl; refine blk_put (cs := #[.string ByteArray.empty, .int .u32 0, .slice none 0 0]) ?_ 0 _ rfl; exact BK7.out); have hv25 := R_set3 (a := .string a1) (b := .int .u32 (sumF a3)) (c := .slice Aw nw cw) HVW.out BK7.out; refine (bs25 A0 c0 l0 (entF ⟨a1, a2, a3⟩) Aw nw cw p (((w7.setCell ⟨g7, 0, none⟩ (.string a1)).setCell ⟨g7, 1, none⟩ (.int .u32 (sumF a3))).setCell ⟨g7, 2, none⟩ (.slice Aw nw cw)) (Kd.C_below HR0.out hbs) HL.out HP.out HLO.out HHI.out HEQ.out).mono ?_; rintro e_ w8 ⟨rfl, hb⟩; have n1_ := Aside0.mk (below_step hbs hb); have n2_ := Aside0.mk (blk_below hbk hb); have n3_ := Aside0.mk (Kd.R_below hv25 hb); clear HB BK7 HVW hbs hbk hv25 hb hc7_0 hc7_1 hc7_2 hf7_0 hf7_1 hf7_2; have HB := n1_; have BK7 := n2_; have HVW := n3_; clear n1_ n2_ n3_; have hc7_0 : w8.cell? ⟨g7, 0, none⟩ = some (.string a1) := (blk_cell BK7.out 0).trans rfl; have hf7_0 := blk_frozen BK7.out 0; have hc7_1 : w8.cell? ⟨g7, 1, none⟩ = some (.int .u32 (sumF a3)) := (blk_cell BK7.out 1).trans rfl; have hf7_1 := blk_frozen BK7.out 1; have hc7_2 : w8.cell? ⟨g7, 2, none⟩ = some (.slice Aw nw cw) := (blk_cell BK7.out 2).trans rfl; have hf7_2 := blk_frozen BK7.out 2)
    | (go_at_call 26; refine (clone26 A0 c0 l0 _ (Kd.C_below HR0.out HB.out) HC0.out HL2.out HW0.out).mono ?_; rintro e_ w9 ⟨v9, rfl, hv9, hb⟩; obtain ⟨g9, c9, rfl, hg9, hl9, _⟩ := Kd.S_form hv9 HLP.out; have GE9 := Aside0.mk (Nat.le_trans HB.out.size hg9); have n1_ := Aside0.mk (below_step HB.out hb); have n2_ := Aside0.mk (blk_below BK7.out hb); have n3_ := Aside0.mk (Kd.R_below HVW.out hb); have hlt := blk_lt BK7.out; have hvl := Kd.R_lt HVW.out; have hs1 := Kd.S_mono (ok' := fun k => True ∧ ¬ some k = (Value.slice Aw nw cw).ownBlock) (Kd.S_bound hv9) (fun k hk => ⟨trivial, fun h2 => by have a := hvl k h2.symm; have b := hk.2.1; omega⟩); have HNE := Aside0.mk (show ∀ k, some k = (Value.slice Aw nw cw).ownBlock → True ∧ k ≠ g9 from fun k hk => ⟨trivial, by have a := hvl k hk.symm; omega⟩); have hs2 := Kd.S_lower hs1 HB.out.size; clear HB BK7 HVW hc7_0 hc7_1 hc7_2 hf7_0 hf7_1 hf7_2; have HB := n1_; have BK7 := n2_; have HVW := n3_; clear n1_ n2_ n3_; have hc7_0 : w9.cell? ⟨g7, 0, none⟩ = some (.string a1) := (blk_cell BK7.out 0).trans rfl; have hf7_0 := blk_frozen BK7.out 0; have hc7_1 : w9.cell? ⟨g7, 1, none⟩ = some (.int .u32 (sumF a3)) := (blk_cell BK7.out 1).trans rfl; have hf7_1 := blk_frozen BK7.out 1; have hc7_2 : w9.cell? ⟨g7, 2, none⟩ = some (.slice Aw nw cw) := (blk_cell BK7.out 2).trans rfl; have hf7_2 := blk_frozen BK7.out 2; obtain ⟨oki, cc, hcl, hM, hcc, hfr, hoki, hH⟩ := Kd.S_elem hs2 z43 (p : Int) (by omega) (by have := HP.out; omega); have hcl3 : cc.length = 3 := hcl; obtain ⟨cx0, cx1, cx2, rfl⟩ : ∃ a b c, cc = [a, b, c] := three_of hcl3; have HP9 := Kd.S_seg hH (by omega) (by have := HP.out; omega) (seg := [.string a1, .int .u32 (sumF a3), .slice Aw nw cw]) (j := 0) (show 3 ≤ 3 from by decide) (okp := fun k => some k = (Value.slice Aw nw cw).ownBlock) (x' := entF ⟨a1, a2, a3⟩) (k43_mkM _ _ _ (entF ⟨a1, a2, a3⟩) HVW.out) (fun _ hk => Or.inr hk) HNE.out; have SG := Aside0.mk HP9.1; have hx9_0 := hcc 0 _ rfl; (try simp only [show (k43).sz = 3 from rfl, Nat.mul_one, Nat.add_zero, Int.toNat_natCast] at hx9_0); have hf9_0 := hfr 0; (try simp only [show (k43).sz = 3 from rfl, Nat.mul_one, Nat.add_zero, Int.toNat_natCast] at hf9_0); have hx9_1 := hcc 1 _ rfl; (try simp only [show (k43).sz = 3 from rfl, Nat.mul_one, Nat.add_zero, Int.toNat_natCast] at hx9_1); have hf9_1 := hfr 1; (try simp only [show (k43).sz = 3 from rfl, Nat.mul_one, Nat.add_zero, Int.toNat_natCast] at hf9_1); have hx9_2 := hcc 2 _ rfl; (try simp only [show (k43).sz = 3 from rfl, Nat.mul_one, Nat.add_zero, Int.toNat_natCast] at hx9_2); have hf9_2 := hfr 2; (try simp only [show (k43).sz = 3 from rfl, Nat.mul_one, Nat.add_zero, Int.toNat_natCast] at hf9_2); clear HP9 hs1 hs2 hM hcc hfr hoki hH hcl hcl3 hv9 hb hg9 hl9 hlt hvl))
  go_ret2
  exact ⟨_, rfl, SG.out, by first | exact below_set (below_set (below_set HB.out GE9.out) GE9.out) GE9.out⟩
open Classical in
noncomputable def posU (l0 : List S43) (a1 : ByteArray) : Nat := l0.findIdx fun x => decide (x.f0 = a1)
def okU (l0 : List S43) (a1 : ByteArray) (a2 : Int) (a3 : ByteArray) : Prop := l0.length ≤ 20 ∧ (∀ x ∈ l0, x.f2.length < 1000000) ∧ (∃ kk, wordindex_valid.f kk l0 = some true) ∧ okD ⟨a1, a2, a3⟩ ∧ l0.Pairwise (fun x y => Cb.key S43.f0 x y < 0) ∧ posU l0 a1 < l0.length
theorem rd43_at (l : List S43) (t : Nat) (h : t < l.length) : rd_T43 l (t : Int) = l[t] := by
  simp [rd_T43, List.getD, h]
open Classical in
noncomputable def wordindex_Update.f (l0 : List S43) (a1 : ByteArray) (a2 : Int) (a3 : ByteArray) : Option (List S43 × Int) := if okU l0 a1 a2 a3 then some (l0.set (posU l0 a1) (entF ⟨a1, a2, a3⟩), 0) else none
theorem wordindex_Update.calls (A0 : Option Addr) (c0 : Nat) (l0 : List S43) (a1 : ByteArray) (a2 : Int) (a3 : ByteArray) (r1 : List S43) (r2 : Int) (w : World) (hr0 : Kd.C k43 w A0 l0.length l0) (hc0 : l0.length ≤ c0) (h : wordindex_Update.f l0 a1 a2 a3 = some (r1, r2)) :
    Calls Try.prog 11 #[.slice A0 l0.length c0, .agg #[.string a1, .int .i64 a2, .string a3]] w fun e w' => ∃ v0_ : Value, e = .returned (.tuple #[v0_, .int .i64 r2]) ∧ Kd.S k43 43 w' w.heap.size (fun _ => True) v0_ r1 ∧ Below w.heap.size w w' := by
  unfold wordindex_Update.f at h
  split at h
  · rename_i ho
    cases h
    obtain ⟨h1, h2, ⟨kk, h3⟩, h4, h5, h6⟩ := ho
    have he : l0[posU l0 a1].f0 = a1 := by
      have := List.findIdx_getElem (w := h6)
      exact of_decide_eq_true this
    have pw := List.pairwise_iff_getElem.1 h5
    refine update11 kk A0 c0 l0 a1 a2 a3 (posU l0 a1) w hr0 hc0 h1 h2 h3 h4 h6 (fun t ht => ?_) (fun t ht htl => ?_) ?_
    · have := pw t (posU l0 a1) (by omega) h6 ht
      rw [rd43_at _ _ (by omega)]
      unfold Cb.key at this
      rw [he] at this
      exact this
    · rw [rd43_at _ _ htl]
      rcases Nat.lt_or_eq_of_le ht with h7 | h7
      · have := pw (posU l0 a1) t h6 htl h7
        unfold Cb.key at this
        rw [he] at this
        have e2 := Cb.swap a1.data.toList l0[t].f0.data.toList
        have e3 : cmpN l0[t] (entF ⟨a1, a2, a3⟩) = Lib.compareBytes l0[t].f0.data.toList a1.data.toList := rfl
        omega
      · have e1 : l0[t].f0 = a1 := by
          rw [← he]
          congr 1
          simp [h7]
        have e3 : cmpN l0[t] (entF ⟨a1, a2, a3⟩) = Lib.compareBytes l0[t].f0.data.toList a1.data.toList := rfl
        rw [e3, e1, Cb.refl]
        omega
    · rw [rd43_at _ _ h6]
      have e3 : cmpN l0[posU l0 a1] (entF ⟨a1, a2, a3⟩) = Lib.compareBytes l0[posU l0 a1].f0.data.toList a1.data.toList := rfl
      rw [e3, he, Cb.refl]
  · cases h
end Go.Proofs.Ytngolmiegfgmmaa.Wf
