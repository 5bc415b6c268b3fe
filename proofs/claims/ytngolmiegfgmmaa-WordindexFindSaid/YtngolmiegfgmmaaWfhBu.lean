/- wordindex.Build. Condition: at most 20 documents within the limits whose names increase strictly. -/
import Derived.Test.YtngolmiegfgmmaaWfhBd
import Derived.Test.YtngolmiegfgmmaaWfhSo
import Derived.Test.YtngolmiegfgmmaaWfx1
import Derived.Test.YtngolmiegfgmmaaSo
import Derived.Test.YtngolmiegfgmmaaCb
import Derived.BigQuiet
namespace Go.Proofs.Ytngolmiegfgmmaa.Wf
open Go.RowKit Go.Sort Go.Proofs.YtngolmiegfgmmaaW.PrintWords Go.Proofs.YtngolmiegfgmmaaW.PrintLast Go.Proofs.YtngolmiegfgmmaaW.PrintMore
open Go.Proofs.Ytngolmiegfgmmaa
set_option linter.unusedVariables false
set_option linter.unusedSimpArgs false
attribute [local go_sem] Oper.semAt_some
def sumF (t : ByteArray) : Int := (journal_Checksum.f (t.size + 1) t).getD 0
noncomputable def wordsF (t : ByteArray) : List ByteArray := (wordindex_Words.f t).getD []
noncomputable def entF (d : S35) : S43 := ⟨d.f0, sumF d.f2, wordsF d.f2⟩
def okD (d : S35) : Prop := longF d = false ∧ emptyF d = false ∧ journal_Checksum.f (d.f2.size + 1) d.f2 = some (sumF d.f2) ∧ wordindex_Words.f d.f2 = some (wordsF d.f2)
def okB (l : List S35) : Prop := l.length ≤ 20 ∧ (∀ d ∈ l, okD d) ∧ l.Pairwise (fun x y => Cb.key S35.f0 x y < 0)
theorem entF_f0 (d : S35) : (entF d).f0 = d.f0 := rfl
theorem pw_ent {l : List S35} (h : l.Pairwise (fun x y => Cb.key S35.f0 x y < 0)) : (l.map entF).Pairwise fun x y => Cb.key S43.f0 x y < 0 := List.pairwise_map.2 h
theorem rd_mem {l : List S35} {i : Nat} (h : i < l.length) : rd_T35 l (i : Int) = l[i] := by unfold rd_T35; simp [h]
theorem none_same {l : List S35} (h : l.Pairwise (fun x y => Cb.key S35.f0 x y < 0)) (i : Nat) (hi : i < l.length) : (l.take i).any (sameF (rd_T35 l (i : Int)).f0) = false := by
  rw [rd_mem hi, List.any_eq_false]
  intro x hx
  obtain ⟨j, hj, rfl⟩ := List.getElem_of_mem hx
  rw [List.getElem_take]
  have hj' : j < i := by rw [List.length_take] at hj; omega
  have := List.pairwise_iff_getElem.1 h j i (by omega) hi hj'
  intro he
  unfold sameF at he
  have he2 : l[j].f0.toList = l[i].f0.toList := by simpa using he
  unfold Cb.key at this
  rw [ByteArray.toList_eq, ByteArray.toList_eq] at he2
  rw [he2, Cb.refl] at this
  omega
theorem take_snoc {l : List S35} {i : Nat} (h : i < l.length) : (l.take i).map entF ++ [entF (rd_T35 l (i : Int))] = (l.take (i + 1)).map entF := by
  rw [rd_mem h, List.take_succ_eq_append_getElem h, List.map_append]; rfl
theorem q43 : ∀ q, q ∈ 43 :: k43.E → q ≠ 35 := by decide
theorem S_set3 {W : World} {g base : Nat} {ok : Nat → Prop} {v a b c c0 c1 c2 : Value} {xs : List S43} (h : Kd.S k43 43 W base ok v xs) (hb : W.heap[g]? = some (.cells #[c0, c1, c2] 35 (0, 0))) :
    Kd.S k43 43 (((W.setCell ⟨g, 0, none⟩ a).setCell ⟨g, 1, none⟩ b).setCell ⟨g, 2, none⟩ c) base ok v xs :=
  Kd.S_set (Kd.S_set (Kd.S_set h hb q43 0 a) (blk_put hb 0 a rfl) q43 1 b) (blk_put (blk_put hb 0 a rfl) 1 b rfl) q43 2 c
theorem info43 : (Try.prog.info? 43).map (fun i => (i.zero, i.size, i.bytes)) = some (some (.agg #[.string ByteArray.empty, .int .u32 0, .slice none 0 0]), 3, 48) := by kernel_rfl
set_option maxHeartbeats 8000000 in
set_option maxRecDepth 100000 in
theorem build9 (A0 : Option Addr) (c0 : Nat) (l0 : List S35) (w : World) (hr0 : Kd.C k35 w A0 l0.length l0) (hc0 : l0.length ≤ c0) (hok : okB l0) :
    Calls Try.prog 9 #[.slice A0 l0.length c0] w fun e w' => ∃ v, e = .returned (.tuple #[v, .int .i64 0]) ∧ Kd.S k43 43 w' w.heap.size (fun _ => True) v (l0.map entF) ∧ Below w.heap.size w w' := by
  have hu35 := Try.underlying35
  have hu29 := Try.underlying29
  have HR0 := Aside0.mk hr0
  have HC0 := Aside0.mk hc0
  have HL := Aside0.mk hok.1
  have H1 := Aside0.mk (show l0.any longF = false from List.any_eq_false.2 fun d hd => by rw [(hok.2.1 d hd).1]; simp)
  have H2 := Aside0.mk (show l0.any emptyF = false from List.any_eq_false.2 fun d hd => by rw [(hok.2.1 d hd).2.1]; simp)
  have H3 := Aside0.mk (none_same hok.2.2)
  have HO := Aside0.mk hok
  have HB := Aside0.mk (Below.refl w.heap.size w)
  clear hr0 hc0 hok
  go_enter Try.func9, Try.ntmps9
  go_upto_region 6 with ((go_at_call 20; refine (validate20 _ _ l0 _ (Kd.C_below HR0.out HB.out) HC0.out HL.out H1.out H2.out H3.out).mono ?_; rintro e_ w3 ⟨rfl, hb⟩; have n1_ := Aside0.mk (below_step HB.out hb); clear HB hb; have HB := n1_; clear n1_))
  go_loopg [5, 15] l0.length (fun kq v5 v15 w' => ∃ x : Int, v15 = .int .i64 x ∧ Aside0 (∃ i : Nat, x = i ∧ i + kq = l0.length ∧ Kd.S k43 43 w' w.heap.size (fun _ => True) v5 ((l0.take i).map entF)) ∧ Aside0 (Below w.heap.size w w'))
  case atStart => exact ⟨0, rfl, ⟨⟨0, rfl, by omega, Kd.S_nil _ _ _ _ _⟩⟩, HB⟩
  case round =>
    clear HB
    obtain ⟨x, rfl, HX, HB⟩ := hrel
    obtain ⟨i, e1, e2, hS⟩ := HX.out
    clear HX
    obtain ⟨A5, n5, c5, rfl⟩ : ∃ A n c, u5 = .slice A n c := (by obtain ⟨A, c, e_⟩ := Kd.S_slice hS; exact ⟨A, _, c, e_⟩)
    have HE := Aside0.mk hS
    clear hS
    have LN := Aside0.mk (show ((l0.take i).map entF).length ≤ 20 from by have h_ := HL.out; rw [List.length_map, List.length_take]; omega)
    by_cases c : x < (l0.length : Int)
    · have c1 : decide (x < (l0.length : Int)) = true := decide_eq_true c
      obtain ⟨k1, rfl⟩ : ∃ k1, gk = k1 + 1 := ⟨gk - 1, by omega⟩
      have E1 := Aside0.mk (And.intro e1 e2)
      have p1 : 0 ≤ (x : Int) := by omega
      have OD := Aside0.mk (show okD (rd_T35 l0 x) from by rw [e1, rd_mem (show i < l0.length by omega)]; exact HO.out.2.1 _ (List.getElem_mem _))
      have TS := Aside0.mk (show (l0.take i).map entF ++ [entF (rd_T35 l0 x)] = (l0.take (i + 1)).map entF from by rw [e1]; exact take_snoc (by omega))
      obtain ⟨ad, ea, hx0, hx1, hx2⟩ := at_T35 HR0.out x p1 c
      cases ea
      replace hx0 := (HB.out.cell (World.block_lt_of_cell? w _ hx0)).trans hx0
      replace hx1 := (HB.out.cell (World.block_lt_of_cell? w _ hx1)).trans hx1
      replace hx2 := (HB.out.cell (World.block_lt_of_cell? w _ hx2)).trans hx2
      replace p1 := eq_true p1
      have q1 := eq_true c
      clear e1 e2 c
      go_wp2_with (first | ((with_reducible refine gate_dst (N := 7) rfl ?_); refine box_event ?hg (N := 7) ?hd (cs := #[.string ByteArray.empty, .int .i64 0, .string ByteArray.empty]) (t := 35) ?hr ?_; (case hd => rfl); (case hg => rfl); (case hr => first | (go_simp; done) | (go_simp; rfl)); intro g7 hg w7 hbox hb; have BKg7 := Aside0.mk hbox; have GE7 := Aside0.mk (show w.heap.size ≤ g7 from by rw [hg]; exact HB.out.size); have n1_ := Aside0.mk (below_step HB.out hb); have n2_ := Aside0.mk (Kd.S_below HE.out hb); clear HB HE; have HB := n1_; have HE := n2_; clear n1_ n2_; replace hx0 := (hb.cell (World.block_lt_of_cell? _ _ hx0)).trans hx0; replace hx1 := (hb.cell (World.block_lt_of_cell? _ _ hx1)).trans hx1; replace hx2 := (hb.cell (World.block_lt_of_cell? _ _ hx2)).trans hx2; have hc7_0 : w7.cell? ⟨g7, 0, none⟩ = some (.string ByteArray.empty) := (blk_cell BKg7.out 0).trans rfl; have hf7_0 := blk_frozen BKg7.out 0; have hc7_1 : w7.cell? ⟨g7, 1, none⟩ = some (.int .i64 0) := (blk_cell BKg7.out 1).trans rfl; have hf7_1 := blk_frozen BKg7.out 1; have hc7_2 : w7.cell? ⟨g7, 2, none⟩ = some (.string ByteArray.empty) := (blk_cell BKg7.out 2).trans rfl; have hf7_2 := blk_frozen BKg7.out 2; clear hbox hb hg) | (go_at_call 21; have hS7 := S_set3 (a := .string (rd_T35 l0 x).f0) (b := .int .i64 (rd_T35 l0 x).f1) (c := .string (rd_T35 l0 x).f2) HE.out BKg7.out; have hbs : Below w.heap.size w (((w7.setCell ⟨g7, 0, none⟩ (.string (rd_T35 l0 x).f0)).setCell ⟨g7, 1, none⟩ (.int .i64 (rd_T35 l0 x).f1)).setCell ⟨g7, 2, none⟩ (.string (rd_T35 l0 x).f2)) := below_set (below_set (below_set HB.out GE7.out) GE7.out) GE7.out; refine (entry21 (rd_T35 l0 x) ((rd_T35 l0 x).f2.size + 1) (sumF (rd_T35 l0 x).f2) (wordsF (rd_T35 l0 x).f2) _ OD.out.2.2.1 OD.out.2.2.2).mono ?_; rintro e_ w8 ⟨vw, rfl, hvw, hb⟩; have hvb : ∀ k, some k = vw.ownBlock → ((((w7.setCell ⟨g7, 0, none⟩ (.string (rd_T35 l0 x).f0)).setCell ⟨g7, 1, none⟩ (.int .i64 (rd_T35 l0 x).f1)).setCell ⟨g7, 2, none⟩ (.string (rd_T35 l0 x).f2))).heap.size ≤ k := fun k hk => Kd.R_base hvw k hk.symm; have NE := Aside0.mk (show ∀ k, some k = vw.ownBlock → True ∧ some k ≠ ((.slice A5 n5 c5) : Value).ownBlock from fun k hk => ⟨trivial, fun h2 => by have a := hvb k hk; have b := Kd.S_lt hS7 k h2.symm; omega⟩); have HE8 := Aside0.mk (Kd.S_mono (ok' := fun k => True ∧ ¬ some k = vw.ownBlock) (Kd.S_old hS7 hb) (fun k hk => ⟨trivial, fun h2 => by have a := hvb k h2; have b := hk.2; omega⟩)); have n1_ := Aside0.mk (below_step hbs hb); have HVW := Aside0.mk (Kd.R_tight rfl (Kd.R_lower hvw hbs.size)); clear HB hb hvw HE hS7 hbs hvb; have HB := n1_; clear n1_) | (at_builtin; refine Kd.S_append k43 (w0 := w) w.heap.size rfl (.tmp 19) (.tmp 22) 29 43 (.agg #[.string ByteArray.empty, .int .u32 0, .slice none 0 0]) 48 rfl Try.underlying29 info43 rfl (by decide) (by omega) (.slice A5 n5 c5) ((l0.take i).map entF) (entF (rd_T35 l0 x)) [.string (rd_T35 l0 x).f0, .int .u32 (sumF (rd_T35 l0 x).f2), vw] (fun _ => True) (fun k => some k = vw.ownBlock) rfl (by first | (go_simp; done) | (go_simp; rfl)) (k43_mkM _ _ _ (entF (rd_T35 l0 x)) HVW.out) NE.out (fun _ _ => trivial) HE8.out HB.out HB.out.size (by have h1_ := LN.out; have h2_ := HL.out; omega) ?_; intro v1 w9 ho hb hg hat; obtain ⟨A9, n9, c9, rfl⟩ : ∃ A n c, v1 = .slice A n c := (by obtain ⟨A, c, e_⟩ := Kd.S_slice ho; exact ⟨A, _, c, e_⟩); have HE := Aside0.mk ho; have HB9 := Aside0.mk hb; clear ho hb hg hat))
      go_roundg k1
      case measure => have := E1.out; omega
      case rel => exact ⟨wrap64 (x + 1), rfl, ⟨⟨i + 1, by have := E1.out; rw [w64_id' (by omega) (by have := HL.out; omega)]; omega, by have := E1.out; omega, by rw [← TS.out]; exact HE.out⟩⟩, HB9⟩
    · have c1 : decide (x < (l0.length : Int)) = false := decide_eq_false c
      have PW := Aside0.mk (show ((l0.take i).map entF).Pairwise fun x y => Cb.key S43.f0 x y < 0 from pw_ent (HO.out.2.2.sublist (List.take_sublist _ _)))
      have TK := Aside0.mk (show (l0.take i).map entF = l0.map entF from by rw [List.take_of_length_le (by omega)])
      clear c e1 e2
      go_wp2_with (go_at_call 22; refine (sortN (Kd.S_R HE.out) LN.out PW.out).mono ?_; rintro e_ w10 ⟨rfl, hb⟩; have n1_ := Aside0.mk (Kd.S_below HE.out hb); have n2_ := Aside0.mk (below_step HB.out hb); clear HE HB hb; have HE := n1_; have HB := n2_; clear n1_ n2_)
      go_ret2
      exact ⟨_, rfl, TK.out ▸ HE.out, HB.out⟩
open Classical in
noncomputable def wordindex_Build.f (l0 : List (S35)) : Option ((List (S43)) × Int) := if okB l0 then some (l0.map entF, 0) else none
theorem wordindex_Build.calls (A0 : Option Addr) (c0 : Nat) (l0 : List (S35)) (r1 : List (S43)) (r2 : Int) (w : World) (hr0 : Kd.C k35 w A0 l0.length l0) (hc0 : l0.length ≤ c0) (h : wordindex_Build.f l0 = some (r1, r2)) :
    Calls Try.prog 9 #[.slice A0 l0.length c0] w fun e w' => ∃ v0_ : Value, e = .returned (.tuple #[v0_, .int .i64 r2]) ∧ Kd.S k43 43 w' w.heap.size (fun _ => True) v0_ r1 ∧ Below w.heap.size w w' := by
  unfold wordindex_Build.f at h
  split at h
  · rename_i hok
    cases h
    exact build9 A0 c0 l0 w hr0 hc0 hok
  · cases h
end Go.Proofs.Ytngolmiegfgmmaa.Wf
