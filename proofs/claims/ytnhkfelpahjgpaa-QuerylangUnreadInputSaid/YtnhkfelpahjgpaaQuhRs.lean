/- querylang.Reads. Condition: fewer than 1000000000 queries and instructions. -/
import Derived.Test.YtnhkfelpahjgpaaQux0
import Derived.BigQuiet
import Derived.Test.YtnhkfelpahjgpaaQuhEv
import Derived.Test.YtnhkfelpahjgpaaQux5
namespace Go.Proofs.Ytnhkfelpahjgpaa.Qu
open Go.RowKit Go.Proofs.YtnhkfelpahjgpaaW.PrintWords Go.Proofs.YtnhkfelpahjgpaaW.PrintLast Go.Proofs.YtnhkfelpahjgpaaW.PrintMore
open Go.Proofs.Ytnhkfelpahjgpaa
set_option linter.unusedVariables false
set_option linter.unusedSimpArgs false

theorem info40 : (Try.prog.info? 40).map (fun i => (i.zero, i.size, i.bytes)) = some (some (.agg #[(.int .i64 0), (.int .i64 0), (.int .i64 0)]), 3, 24) := by kernel_rfl
/-- a key asked is kept once -/
def sameK (t : K3) (x : S40) : Bool := (t.1 == x.f0) && ((t.2.1 == x.f1) && (t.2.2 == x.f2))
def addK (ks : List S40) (t : K3) : List S40 := if ks.any (sameK t) = true then ks else ks ++ [⟨t.1, t.2.1, t.2.2⟩]
def keysOf (tr : List K3) : List S40 := tr.foldl addK []
theorem keysOf_snoc (tr : List K3) (t : K3) : keysOf (tr ++ [t]) = addK (keysOf tr) t := by unfold keysOf; rw [List.foldl_append]; rfl
theorem addK_len (ks : List S40) (t : K3) : (addK ks t).length ≤ ks.length + 1 := by
  unfold addK
  split
  · omega
  · simp
theorem take40 (l : List S40) (i : Nat) (h : i < l.length) : l.drop i = rd_T40 l (i : Int) :: l.drop (i + 1) := by
  rw [List.drop_eq_getElem_cons h]
  unfold rd_T40
  simp [h]
theorem index_is (l : List S40) (hl : l.length < 1000000000) (a b c : Int) : ∀ (m i k : Nat), i + m = l.length → m < k → ∃ r, api_QKey_31.l0 k l (l.length : Int) (i : Int) a b c = some r ∧ decide (r ≥ 0) = (l.drop i).any (sameK (a, b, c))
  | 0, i, k, hi, hk => by
    obtain ⟨k, rfl⟩ : ∃ j, k = j + 1 := ⟨k - 1, by omega⟩
    unfold api_QKey_31.l0
    rw [if_neg (by omega), List.drop_eq_nil_of_le (by omega)]
    exact ⟨-1, rfl, rfl⟩
  | m + 1, i, k, hi, hk => by
    obtain ⟨k, rfl⟩ : ∃ j, k = j + 1 := ⟨k - 1, by omega⟩
    unfold api_QKey_31.l0
    rw [if_pos (by omega), if_pos (by omega), if_pos (by omega), take40 l i (by omega), List.any_cons]
    cases hs : sameK (a, b, c) (rd_T40 l (i : Int)) with
    | true =>
      unfold sameK at hs
      rw [if_pos hs]
      exact ⟨i, rfl, by simp⟩
    | false =>
      unfold sameK at hs
      rw [if_neg (by rw [hs]; simp), w64_id _ (by omega) (by omega)]
      obtain ⟨r, h1, h2⟩ := index_is l hl a b c m (i + 1) k (by omega) (by omega)
      exact ⟨r, by rw [← h1]; norm_cast, by rw [h2]; simp⟩
theorem contains_is (l : List S40) (hl : l.length < 1000000000) (a b c : Int) : api_QKey_22.f (l.length + 1) l a b c = some (l.any (sameK (a, b, c))) := by
  unfold api_QKey_22.f api_QKey_31.f
  obtain ⟨r, h1, h2⟩ := index_is l hl a b c l.length 0 (l.length + 1) (by omega) (by omega)
  rw [show ((0 : Nat) : Int) = 0 from rfl] at h1
  rw [h1, Option.bind_some, h2, List.drop_zero]
/-- the state that the closure of Reads keeps -/
structure Rv (wb : World) (n : Int) (qs : List (List S43)) (ins : List Int) (Aq : Option Addr) (cq : Nat) (Ai : Option Addr) (ci ge gm g8 g10 : Nat) (tr : List K3) (B : Nat → Prop) (W : World) : Prop where
  ev : Ev wb n qs ins Aq cq Ai ci ge gm W
  l8 : wb.heap.size ≤ g8
  l10 : wb.heap.size ≤ g10
  b8 : W.heap[g8]? = some (.cells #[.pointer (some ⟨ge, 0, none⟩)] 46 (0, 0))
  b10 : ∃ v, W.heap[g10]? = some (.cells #[v] 35 (0, 0)) ∧ Kd.R k40 40 W wb.heap.size (fun k => some k = v.ownBlock) v (keysOf tr) ∧ ∀ k, B k ↔ (k = gm ∨ k = g10 ∨ some k = v.ownBlock)
section
variable {wb : World} {n : Int} {qs : List (List S43)} {ins : List Int} {Aq : Option Addr} {cq : Nat} {Ai : Option Addr} {ci : Nat} {ge gm g8 g10 : Nat} {tr : List K3} {B : Nat → Prop} {W W' : World}
theorem Ev.not_gm (h : Ev wb n qs ins Aq cq Ai ci ge gm W) {g t : Nat} {cs : Array Value} (hb : W.heap[g]? = some (.cells cs t (0, 0))) : g ≠ gm := by
  rintro rfl
  obtain ⟨C, ⟨es, clock, h1⟩, _⟩ := h.cache
  rw [h1.blk] at hb
  cases hb
theorem Rv.move (h : Rv wb n qs ins Aq cq Ai ci ge gm g8 g10 tr B W) (he : Ev wb n qs ins Aq cq Ai ci ge gm W') (hk : ∀ k, k < W.heap.size → k ≠ gm → (k = g8 ∨ B k) → W'.heap[k]? = W.heap[k]?) : Rv wb n qs ins Aq cq Ai ci ge gm g8 g10 tr B W' := by
  obtain ⟨v, h1, h2, h3⟩ := h.b10
  have n8 := h.ev.not_gm h.b8
  have n10 := h.ev.not_gm h1
  refine ⟨he, h.l8, h.l10, (hk g8 (blk_lt h.b8) n8 (.inl rfl)).trans h.b8, v, (hk g10 (blk_lt h1) n10 (.inr ((h3 g10).2 (.inr (.inl rfl))))).trans h1, ?_, h3⟩
  refine Kd.R_step h2 (fun k ho hlt => hk k hlt ?_ (.inr ((h3 k).2 (.inr (.inr ho)))))
  obtain ⟨cells, hc⟩ := Kd.R_typed h2 k ho.symm
  exact h.ev.not_gm hc
theorem Rv.below (h : Rv wb n qs ins Aq cq Ai ci ge gm g8 g10 tr B W) (hb : Below W.heap.size W W') : Rv wb n qs ins Aq cq Ai ci ge gm g8 g10 tr B W' := h.move (h.ev.below hb) (fun k hk _ _ => hb.block k hk)
theorem Rv.got (h : Rv wb n qs ins Aq cq Ai ci ge gm g8 g10 tr B W) (hk : Kp W W' (fun k => k = gm)) (he : Ev wb n qs ins Aq cq Ai ci ge gm W') : Rv wb n qs ins Aq cq Ai ci ge gm g8 g10 tr B W' := h.move he (fun k hlt hne _ => hk.block k hlt hne)
theorem Rv.blt (h : Rv wb n qs ins Aq cq Ai ci ge gm g8 g10 tr B W) (k : Nat) (hB : B k) : k < W.heap.size ∧ wb.heap.size ≤ k := by
  obtain ⟨v, h1, h2, h3⟩ := h.b10
  rcases (h3 k).1 hB with rfl | rfl | e
  · exact ⟨h.ev.lt.2, h.ev.gm1⟩
  · exact ⟨blk_lt h1, h.l10⟩
  · exact ⟨Kd.R_lt h2 k e.symm, Kd.R_base h2 k e.symm⟩
theorem Rv.ne_ge (h : Rv wb n qs ins Aq cq Ai ci ge gm g8 g10 tr B W) (hB : B ge) : False := by
  obtain ⟨v, h1, h2, h3⟩ := h.b10
  rcases (h3 ge).1 hB with e | e | e
  · exact h.ev.ne e
  · exact blk_ne h.ev.box h1 (by decide) e
  · exact Kd.R_ne h2 h.ev.box (by decide) e
theorem Rv.ne_8 (h : Rv wb n qs ins Aq cq Ai ci ge gm g8 g10 tr B W) (hB : B g8) : False := by
  obtain ⟨v, h1, h2, h3⟩ := h.b10
  rcases (h3 g8).1 hB with e | e | e
  · exact h.ev.not_gm h.b8 e
  · exact blk_ne h.b8 h1 (by decide) e
  · exact Kd.R_ne h2 h.b8 (by decide) e
theorem Rv.clo (W0 : World) : Clo W0 (fun W tr B => Rv wb n qs ins Aq cq Ai ci ge gm g8 g10 tr B W ∧ ge < W0.heap.size ∧ g8 < W0.heap.size) := by
  refine ⟨fun W tr B k h hk => (h.1.blt k hk).1, fun W W' tr B h hk => ⟨?_, h.2⟩⟩
  have hgm : B gm := by
    obtain ⟨v, h1, h2, h3⟩ := h.1.b10
    exact (h3 gm).2 (.inl rfl)
  refine h.1.move (h.1.ev.keep (S := fun k => ¬ (k < W0.heap.size ∨ B k) ∧ wb.heap.size ≤ k) ⟨hk.os, hk.tape, hk.output, hk.size, fun k h1 h2 => ?_⟩ (fun k h2 => ⟨h2.2, fun e => h2.1 (.inl (e ▸ h.2.1)), fun e => h2.1 (.inr (e ▸ hgm))⟩)) (fun k hlt _ h4 => hk.block k hlt (fun h5 => h5 (h4.elim (fun e => Or.inl (by rw [e]; exact h.2.2)) Or.inr)))
  refine hk.block k h1 (fun h3 => h2 ⟨h3, ?_⟩)
  have h4 := h.1.ev.ge1
  have h5 := h.2.1
  rcases Nat.lt_or_ge k W0.heap.size with h6 | h6
  · exact absurd (Or.inl h6) h3
  · omega
/-- one key more -/
theorem Rv.add (h : Rv wb n qs ins Aq cq Ai ci ge gm g8 g10 tr B W) {v v1 : Value} {t : K3} (hv : W.heap[g10]? = some (.cells #[v] 35 (0, 0))) (hB : ∀ k, B k ↔ (k = gm ∨ k = g10 ∨ some k = v.ownBlock)) (hr : Kd.R k40 40 W wb.heap.size (fun k => some k = v.ownBlock) v (keysOf tr)) (hg : W.grownBy W' v.ownBlock) {ok : Nat → Prop} (hR : Kd.R k40 40 W' wb.heap.size ok v1 (keysOf (tr ++ [t]))) (hat : v1.ownBlock = v.ownBlock ∨ ∃ b, v1.ownBlock = some b ∧ W.heap.size ≤ b) :
    ∃ B', Rv wb n qs ins Aq cq Ai ci ge gm g8 g10 (tr ++ [t]) B' (W'.setCell ⟨g10, 0, none⟩ v1) ∧ Kp W (W'.setCell ⟨g10, 0, none⟩ v1) B ∧ ∀ k, B' k → B k ∨ W.heap.size ≤ k := by
  have hkp : Kp W (W'.setCell ⟨g10, 0, none⟩ v1) (fun k => some k = v.ownBlock ∨ k = g10) :=
    ⟨hg.os, hg.tape, hg.output, by simpa [World.setCell] using hg.size, fun k hk hn => ((Kp.of_set W' g10 0 v1).block k (Nat.lt_of_lt_of_le hk hg.size) (fun e => hn (.inr e))).trans (hg.block k hk (fun e => hn (.inl e)))⟩
  have hb10 : W'.heap[g10]? = some (.cells #[v] 35 (0, 0)) := blk_grown hv hg (Kd.R_ne hr hv (by decide))
  have n8 : g8 ≠ g10 := fun e => h.ne_8 ((hB g8).2 (.inr (.inl e)))
  have hS : ∀ k, (some k = v.ownBlock ∨ k = g10) → wb.heap.size ≤ k ∧ k ≠ ge ∧ k ≠ gm := fun k hk => by
    rcases hk with e | rfl
    · refine ⟨Kd.R_base hr k e.symm, fun e2 => Kd.R_ne hr h.ev.box (by decide) (e2 ▸ e), ?_⟩
      obtain ⟨cells, hc⟩ := Kd.R_typed hr k e.symm
      exact h.ev.not_gm hc
    · exact ⟨h.l10, fun e2 => h.ne_ge ((hB ge).2 (.inr (.inl e2.symm))), h.ev.not_gm hv⟩
  refine ⟨fun k => k = gm ∨ k = g10 ∨ some k = v1.ownBlock, ⟨h.ev.keep hkp hS, h.l8, h.l10, (hkp.block g8 (blk_lt h.b8) (fun e => e.elim (fun e => Kd.R_ne hr h.b8 (by decide) e) n8)).trans h.b8, v1, blk_put (cs := #[v]) hb10 0 v1 rfl, ?_, fun k => Iff.rfl⟩, hkp.mono (fun k hk => (hB k).2 (.inr (hk.elim .inr .inl))), fun k hk => ?_⟩
  · refine Kd.R_far (Kd.R_tight rfl hR) (fun k hk => ?_) v1
    intro e
    have e' : k = g10 := e
    have : some g10 = v1.ownBlock := by rw [← e']; exact hk
    exact Kd.R_ne hR hb10 (by decide) this
  · rcases hk with e | e | e
    · exact .inl ((hB k).2 (.inl e))
    · exact .inl ((hB k).2 (.inr (.inl e)))
    · rcases hat with h1 | ⟨b, h1, h2⟩
      · exact .inl ((hB k).2 (.inr (.inr (e.trans h1))))
      · rw [h1] at e; injection e with e; exact .inr (e ▸ h2)
end
theorem Kp.then_' {W W1 W2 : World} {S S2 : Nat → Prop} (h : Kp W W1 (fun _ => False)) (k : Kp W1 W2 S2) (hs : ∀ k, S2 k → S k) : Kp W W2 S := (h.mono (fun _ hk => hk.elim)).then_ k (fun k hk => .inl (hs k hk))
set_option maxHeartbeats 8000000 in
set_option maxRecDepth 100000 in
theorem reads1_calls (wb : World) (n : Int) (qs : List (List S43)) (ins : List Int) (Aq : Option Addr) (cq : Nat) (Ai : Option Addr) (ci ge gm g8 g10 : Nat) (hq : Kd.C (Kd.slice 43 k43) wb Aq qs.length qs) (hi : Kd.C (Kd.int .i64) wb Ai ins.length ins) (W : World) (tr : List K3) (B : Nat → Prop) (a b r : Int) (hv : Rv wb n qs ins Aq cq Ai ci ge gm g8 g10 tr B W) (hlen : (keysOf tr).length < 1000000000) (hg : G qs ins 50 a b = some r) :
    Calls Try.prog 21 #[.agg #[.int .i64 a, .int .i64 b, .int .i64 0], .pointer (some ⟨g10, 0, none⟩), .pointer (some ⟨g8, 0, none⟩)] W fun e W' => e = .returned (.int .i64 r) ∧ ∃ B', Kp W W' B ∧ Rv wb n qs ins Aq cq Ai ci ge gm g8 g10 (tr ++ [(a, b, 0)]) B' W' ∧ ∀ k, B' k → B k ∨ W.heap.size ≤ k := by
  have hu40 := Try.underlying40
  obtain ⟨v, hb10, hr10, hBq⟩ := hv.b10
  obtain ⟨Ak, ck, rfl⟩ := Kd.R_slice hr10
  obtain ⟨ks, hks⟩ : ∃ ks, ks = keysOf tr := ⟨_, rfl⟩
  rw [← hks] at hb10 hr10 hBq hlen
  have HV := Aside0.mk hv
  have HQ := Aside0.mk hq
  have HI := Aside0.mk hi
  have HL := Aside0.mk hlen
  have HG := Aside0.mk hg
  have HKS := Aside0.mk hks
  have BX := Aside0.mk hb10
  have HR := Aside0.mk hr10
  have HBQ := Aside0.mk hBq
  have NR := Aside0.mk (Kd.R_lt hr10)
  have hx10 : W.cell? ⟨g10, 0, none⟩ = some (.slice Ak ks.length ck) := (blk_cell BX.out 0).trans rfl
  have hx8 : W.cell? ⟨g8, 0, none⟩ = some (.pointer (some ⟨ge, 0, none⟩)) := (blk_cell HV.out.b8 0).trans rfl
  clear hv hq hi hlen hg hks hb10 hr10 hBq
  cases hc : ks.any (sameK (a, b, 0)) with
  | true =>
    have HC := Aside0.mk hc
    clear hc
    go_enter Try.func21, Try.ntmps21
    go_wp2_with (first | ((with_reducible refine gate_dst (N := 3) rfl ?_); refine box_event ?hg (N := 3) ?hd (cs := #[.int .i64 a, .int .i64 b, .int .i64 0]) (t := 40) ?hr ?_; (case hd => rfl); (case hg => rfl); (case hr => first | (go_simp; done) | (go_simp; rfl)); intro g3 hg w3 hbox hb; have HB := Aside0.mk hb; have BK3 := Aside0.mk hbox; have n1_ := Aside0.mk (HV.out.below hb); have NE3 := Aside0.mk (show W.heap.size ≤ g3 from Nat.le_of_eq hg.symm); have n2_ := Aside0.mk (Kd.R_below HR.out hb); have n3_ := Aside0.mk (blk_below BX.out hb); clear HR BX hx10 hx8; have HR := n2_; have BX := n3_; have HV1 := n1_; clear n1_ n2_ n3_ hb hbox hg; have hc3_0 : w3.cell? ⟨g3, 0, none⟩ = some (.int .i64 a) := (blk_cell BK3.out 0).trans rfl; have hc3_1 : w3.cell? ⟨g3, 1, none⟩ = some (.int .i64 b) := (blk_cell BK3.out 1).trans rfl; have hc3_2 : w3.cell? ⟨g3, 2, none⟩ = some (.int .i64 0) := (blk_cell BK3.out 2).trans rfl; have hx10 : w3.cell? ⟨g10, 0, none⟩ = some (.slice Ak ks.length ck) := (blk_cell BX.out 0).trans rfl) | (go_at_call 22; refine (api_QKey_22.calls (ks.length + 1) Ak ck ks a b 0 _ _ (Kd.R_reads' HR.out).2.2 (Kd.R_reads' HR.out).2.1 (contains_is ks HL.out a b 0)).mono ?_; rw [HC.out]; rintro e w5 ⟨rfl, hb⟩; have n1_ := Aside0.mk (below_step HB.out hb); have n2_ := Aside0.mk (blk_below BK3.out hb); have n3_ := Aside0.mk (HV1.out.below hb); have n4_ := Aside0.mk (Kd.R_below HR.out hb); have n5_ := Aside0.mk (blk_below BX.out hb); clear HB BK3 HV1 HR BX hb hc3_0 hc3_1 hc3_2 hx10; have HB := n1_; have BK3 := n2_; have HV1 := n3_; have HR := n4_; have BX := n5_; clear n1_ n2_ n3_ n4_ n5_; have hc3_0 : w5.cell? ⟨g3, 0, none⟩ = some (.int .i64 a) := (blk_cell BK3.out 0).trans rfl; have hc3_1 : w5.cell? ⟨g3, 1, none⟩ = some (.int .i64 b) := (blk_cell BK3.out 1).trans rfl; have hc3_2 : w5.cell? ⟨g3, 2, none⟩ = some (.int .i64 0) := (blk_cell BK3.out 2).trans rfl; have hx10 : w5.cell? ⟨g10, 0, none⟩ = some (.slice Ak ks.length ck) := (blk_cell BX.out 0).trans rfl; have hf10 := blk_frozen BX.out 0; have hx8 : w5.cell? ⟨g8, 0, none⟩ = some (.pointer (some ⟨ge, 0, none⟩)) := (blk_cell HV1.out.b8 0).trans rfl) | (go_at_call 17; refine (get_calls wb n qs ins Aq cq Ai ci ge gm HQ.out HI.out 50 _ a b 0 r HV1.out.ev HG.out).mono ?_; rintro e w9 ⟨rfl, hk1, he1⟩; have HV2 := Aside0.mk (HV1.out.got hk1 he1); have HK2 := Aside0.mk hk1; clear hk1 he1))
    go_ret
    exact ⟨rfl, B, (Kp.of_below HB.out (fun _ => False)).then_' HK2.out (fun k hk => (HBQ.out k).2 (.inl hk)), by
      have h_ := HV2.out
      have e_ : keysOf (tr ++ [(a, b, 0)]) = keysOf tr := by rw [keysOf_snoc, ← HKS.out]; unfold addK; rw [if_pos HC.out]
      exact ⟨h_.ev, h_.l8, h_.l10, h_.b8, by rw [e_]; exact h_.b10⟩, fun k hk => .inl hk⟩
  | false =>
    have HC := Aside0.mk hc
    clear hc
    go_enter Try.func21, Try.ntmps21
    go_wp2_with (first | ((with_reducible refine gate_dst (N := 3) rfl ?_); refine box_event ?hg (N := 3) ?hd (cs := #[.int .i64 a, .int .i64 b, .int .i64 0]) (t := 40) ?hr ?_; (case hd => rfl); (case hg => rfl); (case hr => first | (go_simp; done) | (go_simp; rfl)); intro g3 hg w3 hbox hb; have HB := Aside0.mk hb; have BK3 := Aside0.mk hbox; have n1_ := Aside0.mk (HV.out.below hb); have NE3 := Aside0.mk (show W.heap.size ≤ g3 from Nat.le_of_eq hg.symm); have n2_ := Aside0.mk (Kd.R_below HR.out hb); have n3_ := Aside0.mk (blk_below BX.out hb); clear HR BX hx10 hx8; have HR := n2_; have BX := n3_; have HV1 := n1_; clear n1_ n2_ n3_ hb hbox hg; have hc3_0 : w3.cell? ⟨g3, 0, none⟩ = some (.int .i64 a) := (blk_cell BK3.out 0).trans rfl; have hc3_1 : w3.cell? ⟨g3, 1, none⟩ = some (.int .i64 b) := (blk_cell BK3.out 1).trans rfl; have hc3_2 : w3.cell? ⟨g3, 2, none⟩ = some (.int .i64 0) := (blk_cell BK3.out 2).trans rfl; have hx10 : w3.cell? ⟨g10, 0, none⟩ = some (.slice Ak ks.length ck) := (blk_cell BX.out 0).trans rfl) | (go_at_call 22; refine (api_QKey_22.calls (ks.length + 1) Ak ck ks a b 0 _ _ (Kd.R_reads' HR.out).2.2 (Kd.R_reads' HR.out).2.1 (contains_is ks HL.out a b 0)).mono ?_; rw [HC.out]; rintro e w5 ⟨rfl, hb⟩; have n1_ := Aside0.mk (below_step HB.out hb); have n2_ := Aside0.mk (blk_below BK3.out hb); have n3_ := Aside0.mk (HV1.out.below hb); have n4_ := Aside0.mk (Kd.R_below HR.out hb); have n5_ := Aside0.mk (blk_below BX.out hb); clear HB BK3 HV1 HR BX hb hc3_0 hc3_1 hc3_2 hx10; have HB := n1_; have BK3 := n2_; have HV1 := n3_; have HR := n4_; have BX := n5_; clear n1_ n2_ n3_ n4_ n5_; have hc3_0 : w5.cell? ⟨g3, 0, none⟩ = some (.int .i64 a) := (blk_cell BK3.out 0).trans rfl; have hc3_1 : w5.cell? ⟨g3, 1, none⟩ = some (.int .i64 b) := (blk_cell BK3.out 1).trans rfl; have hc3_2 : w5.cell? ⟨g3, 2, none⟩ = some (.int .i64 0) := (blk_cell BK3.out 2).trans rfl; have hx10 : w5.cell? ⟨g10, 0, none⟩ = some (.slice Ak ks.length ck) := (blk_cell BX.out 0).trans rfl; have hf10 := blk_frozen BX.out 0; have hx8 : w5.cell? ⟨g8, 0, none⟩ = some (.pointer (some ⟨ge, 0, none⟩)) := (blk_cell HV1.out.b8 0).trans rfl) | (at_builtin; refine Kd.R_append k40 (w0 := w5) wb.heap.size rfl (.tmp 9) (.tmp 11) 35 40 (.agg #[.int .i64 0, .int .i64 0, .int .i64 0]) 24 rfl Try.underlying35 info40 rfl (by decide) (by omega) (.slice Ak ks.length ck) ks (⟨a, b, 0⟩ : S40) [.int .i64 a, .int .i64 b, .int .i64 0] (fun _ => True) (fun _ => False) rfl (by first | (go_simp; done) | (go_simp; rfl)) (k40_mkM _ _ _ (⟨a, b, 0⟩ : S40)) (fun _ hk => hk.elim) (fun _ _ => trivial) (Kd.R_mono HR.out (fun _ _ => trivial)) (Below.refl _ _) HV1.out.ev.wbl.size (by have := HL.out; omega) ?_; intro v1 w6 ho hb hg hat; obtain ⟨A9, n9, c9, rfl⟩ : ∃ A n c, v1 = .slice A n c := (by obtain ⟨A, c, e⟩ := Kd.R_slice ho; exact ⟨A, _, c, e⟩); have HAT := Aside0.mk hat; have HGR := Aside0.mk hg; have HO := Aside0.mk (show Kd.R k40 40 w6 wb.heap.size (fun _ => True) (.slice A9 n9 c9) (keysOf (tr ++ [(a, b, 0)])) from by rw [keysOf_snoc, ← HKS.out]; unfold addK; rw [if_neg (by rw [HC.out]; simp)]; exact ho); have BX6 := Aside0.mk (blk_grown BX.out hg (Kd.R_ne HR.out BX.out (by decide))); have BK6 := Aside0.mk (blk_grown BK3.out hg (fun e => by have h1_ := NR.out g3 e.symm; have h2_ := NE3.out; omega)); have NE310 := Aside0.mk (show g3 ≠ g10 from fun e => blk_ne BK6.out BX6.out (by decide) e); have BE6 := Aside0.mk (blk_grown HV1.out.b8 hg (Kd.R_ne HR.out HV1.out.b8 (by decide))); have NE810 := Aside0.mk (show g8 ≠ g10 from fun e => blk_ne BE6.out BX6.out (by decide) e); clear ho hb hg hat hc3_0 hc3_1 hc3_2 hx10 hf10 hx8; have hx10 : w6.cell? ⟨g10, 0, none⟩ = some (.slice Ak ks.length ck) := (blk_cell BX6.out 0).trans rfl; have hf10 := blk_frozen BX6.out 0; have ne1 : (g3 = g10) = False := eq_false NE310.out; have ne2 : (g8 = g10) = False := eq_false NE810.out; have ne3 : (g10 = g3) = False := eq_false NE310.out.symm; have ne4 : (g10 = g8) = False := eq_false NE810.out.symm; have hc3_0 : w6.cell? ⟨g3, 0, none⟩ = some (.int .i64 a) := (blk_cell BK6.out 0).trans rfl; have hc3_1 : w6.cell? ⟨g3, 1, none⟩ = some (.int .i64 b) := (blk_cell BK6.out 1).trans rfl; have hc3_2 : w6.cell? ⟨g3, 2, none⟩ = some (.int .i64 0) := (blk_cell BK6.out 2).trans rfl; have hx8 : w6.cell? ⟨g8, 0, none⟩ = some (.pointer (some ⟨ge, 0, none⟩)) := (blk_cell BE6.out 0).trans rfl) | (go_at_call 17; obtain ⟨B', hv3, hk3, hb3⟩ := HV1.out.add (t := (a, b, 0)) BX.out HBQ.out (HKS.out ▸ HR.out) HGR.out HO.out HAT.out; refine (get_calls wb n qs ins Aq cq Ai ci ge gm HQ.out HI.out 50 _ a b 0 r hv3.ev HG.out).mono ?_; rintro e w9 ⟨rfl, hk1, he1⟩; have HV2 := Aside0.mk (hv3.got hk1 he1); have HK2 := Aside0.mk (hk3.then_ hk1 (fun k hk => .inl ((HBQ.out k).2 (.inl hk)))); have HB3 := Aside0.mk hb3; clear hk1 he1 hv3 hk3 hb3))
    go_ret
    exact ⟨rfl, B', (Kp.of_below HB.out (fun _ => False)).then_' HK2.out (fun k hk => hk), HV2.out, fun k hk => (HB3.out k hk).imp_right (fun e => Nat.le_trans HB.out.size e)⟩
set_option maxHeartbeats 8000000 in
set_option maxRecDepth 100000 in
theorem reads_bad (n : Int) (A : Option Addr) (c : Nat) (qs : List (List S43)) (Ai : Option Addr) (ci : Nat) (ins : List Int) (q : Int) (w : World) (hq : Kd.C (Kd.slice 43 k43) w A qs.length qs) (hc : qs.length ≤ c) (hi : Kd.C (Kd.int .i64) w Ai ins.length ins) (hci : ins.length ≤ ci) (e : Int) (h : pre_ n qs ins q = some e) (he : e ≠ 0) :
    Calls Try.prog 13 #[.agg #[.int .i64 n, .slice A qs.length c], .slice Ai ins.length ci, .int .i64 q] w fun E w' => E = .returned (.tuple #[.slice none 0 0, .int .i64 e]) ∧ Below w.heap.size w w' := by
  have hu24 := Try.underlying24
  have hu59 := Try.underlying59
  have hu40 := Try.underlying40
  have HQ := Aside0.mk hq
  have HC := Aside0.mk hc
  have HI := Aside0.mk hi
  clear hq hc hi
  have HCI := Aside0.mk hci
  have HP := Aside0.mk h
  clear hci h
  have f0 : (e != 0) = true := bne_iff_ne.mpr he
  go_enter Try.func13, Try.ntmps13
  go_wp2_with (first | ((with_reducible refine gate_dst (N := 3) rfl ?_); refine box_event ?hg (N := 3) ?hd (cs := #[.int .i64 n, .slice A qs.length c]) (t := 24) ?hr ?_; (case hd => rfl); (case hg => rfl); (case hr => first | (go_simp; done) | (go_simp; rfl)); intro g3 hg w3 hbox hb; have HB := Aside0.mk hb; have BK3 := Aside0.mk hbox; clear hb hbox hg; have hc3_0 : w3.cell? ⟨g3, 0, none⟩ = some (.int .i64 n) := (blk_cell BK3.out 0).trans rfl; have hc3_1 : w3.cell? ⟨g3, 1, none⟩ = some (.slice A qs.length c) := (blk_cell BK3.out 1).trans rfl) | (go_at_call 16; refine (nev_bad n A c qs Ai ci ins q _ (Kd.C_below HQ.out HB.out) HC.out (Kd.C_below HI.out HB.out) HCI.out e HP.out he).mono ?_; rintro e_ w5 ⟨rfl, hb⟩; have n1_ := Aside0.mk (below_step HB.out hb); clear HB hb; have HB := n1_; clear n1_) | ((with_reducible refine gate_dst (N := 8) rfl ?_); refine box_event ?hg (N := 8) ?hd (cs := #[.pointer none]) (t := 46) ?hr ?_; (case hd => rfl); (case hg => rfl); (case hr => first | (go_simp; done) | (go_simp; rfl)); intro g8 hg w8 hbox hb; have n1_ := Aside0.mk (below_step HB.out hb); have BK8 := Aside0.mk hbox; have GE8 := Aside0.mk (show w.heap.size ≤ g8 from by have := HB.out.size; omega); clear HB hb hbox hg; have HB := n1_; clear n1_; have HBS := Aside0.mk (show Below w.heap.size w (w8.setCell ⟨g8, 0, none⟩ (.pointer none)) from below_set HB.out GE8.out); have hc8 : w8.cell? ⟨g8, 0, none⟩ = some (.pointer none) := (blk_cell BK8.out 0).trans rfl; have hf8 := blk_frozen BK8.out 0))
  go_ret2
  exact ⟨rfl, HBS.out⟩
theorem keysOf_len (tr : List K3) : (keysOf tr).length ≤ tr.length := by
  have : ∀ (l : List K3) (ks : List S40), (l.foldl addK ks).length ≤ ks.length + l.length := by
    intro l
    induction l with
    | nil => intro ks; simp
    | cons t l ih => intro ks; have h1 := ih (addK ks t); have h2 := addK_len ks t; rw [List.foldl_cons, List.length_cons]; omega
  have h := this tr []
  unfold keysOf
  simpa using h
set_option maxHeartbeats 8000000 in
set_option maxRecDepth 100000 in
theorem reads_good (n : Int) (A : Option Addr) (c : Nat) (qs : List (List S43)) (Ai : Option Addr) (ci : Nat) (ins : List Int) (q : Int) (w : World) (hq : Kd.C (Kd.slice 43 k43) w A qs.length qs) (hc : qs.length ≤ c) (hi : Kd.C (Kd.int .i64) w Ai ins.length ins) (hci : ins.length ≤ ci) (x0 : Int) (st0 : List Int) (tr0 : List K3) (h : pre_ n qs ins q = some 0) (h0 : 0 ≤ q) (h1 : q < (qs.length : Int)) (hll : (rd_L2 qs q).length < 1000000000) (hg : goT (G qs ins 50) q (rd_L2 qs q) [] [] = some (x0 :: st0, tr0)) :
    Calls Try.prog 13 #[.agg #[.int .i64 n, .slice A qs.length c], .slice Ai ins.length ci, .int .i64 q] w fun E w' => ∃ v0_ : Value, E = .returned (.tuple #[v0_, .int .i64 0]) ∧ Kd.R k40 40 w' w.heap.size (fun _ => True) v0_ (keysOf tr0) ∧ Below w.heap.size w w' := by
  have hu24 := Try.underlying24
  have hu59 := Try.underlying59
  have hu40 := Try.underlying40
  have HQ := Aside0.mk hq
  have HC := Aside0.mk hc
  have HI := Aside0.mk hi
  clear hq hc hi
  have HCI := Aside0.mk hci
  have HP := Aside0.mk h
  have HG := Aside0.mk hg
  have HLEN := Aside0.mk hll
  have z0 : ((0 : Int) != 0) = false := rfl
  obtain ⟨adq, A2, c2, ea, hx, hl2, hc2⟩ := at_L2 HQ.out q h0 h1
  cases ea
  have HX3 : ∀ w' : World, Below w.heap.size w w' → w'.cell? (adq.add q.toNat) = some (.slice A2 (rd_L2 qs q).length c2) := fun w' hb => (hb.cell (World.block_lt_of_cell? w _ hx)).trans hx
  have HCQ := Aside0.mk hc2
  have HLQ := Aside0.mk hl2
  have p1 := eq_true h0
  have q1 := eq_true h1
  clear hci h hg h0 h1 hll hx hc2 hl2
  go_enter Try.func13, Try.ntmps13
  go_wp2_with (first | ((with_reducible refine gate_dst (N := 3) rfl ?_); refine box_event ?hg (N := 3) ?hd (cs := #[.int .i64 n, .slice (some adq) qs.length c]) (t := 24) ?hr ?_; (case hd => rfl); (case hg => rfl); (case hr => first | (go_simp; done) | (go_simp; rfl)); intro g3 hg w3 hbox hb; have HB := Aside0.mk hb; have BK3 := Aside0.mk hbox; clear hb hbox hg; have hc3_0 : w3.cell? ⟨g3, 0, none⟩ = some (.int .i64 n) := (blk_cell BK3.out 0).trans rfl; have hc3_1 : w3.cell? ⟨g3, 1, none⟩ = some (.slice (some adq) qs.length c) := (blk_cell BK3.out 1).trans rfl) | (go_at_call 16; refine (nev_good n (some adq) c qs Ai ci ins q _ (Kd.C_below HQ.out HB.out) HC.out (Kd.C_below HI.out HB.out) HCI.out HP.out).mono ?_; rintro e_ w5 ⟨ge, gm, rfl, hb, hev⟩; have n1_ := Aside0.mk (below_step HB.out hb); have n2_ := Aside0.mk (blk_below BK3.out hb); have HEV := Aside0.mk hev; have HB3 := HB; clear HB BK3 hb hev hc3_0 hc3_1; have HB := n1_; have BK3 := n2_; clear n1_ n2_) | ((with_reducible refine gate_dst (N := 8) rfl ?_); refine box_event ?hg (N := 8) ?hd (cs := #[.pointer none]) (t := 46) ?hr ?_; (case hd => rfl); (case hg => rfl); (case hr => first | (go_simp; done) | (go_simp; rfl)); intro g8 hg w8 hbox hb; have HB8 := Aside0.mk (show Below w5.heap.size w5 w8 from hb); have BK8 := Aside0.mk hbox; have GE8 := Aside0.mk (show w5.heap.size ≤ g8 from Nat.le_of_eq hg.symm); have n2_ := Aside0.mk (blk_below BK3.out hb); clear BK3 hb hbox hg; have BK3 := n2_; clear n2_; have hc8 : w8.cell? ⟨g8, 0, none⟩ = some (.pointer none) := (blk_cell BK8.out 0).trans rfl; have hf8 := blk_frozen BK8.out 0; have NE38 := Aside0.mk (show g3 ≠ g8 from fun e => blk_ne BK3.out BK8.out (by decide) e)) | ((with_reducible refine gate_dst (N := 10) rfl ?_); refine box_event ?hg (N := 10) ?hd (cs := #[.slice none 0 0]) (t := 35) ?hr ?_; (case hd => rfl); (case hg => rfl); (case hr => first | (go_simp; done) | (go_simp; rfl)); intro g10 hg w10 hbox hb; have BK10 := Aside0.mk hbox; have n1_ := Aside0.mk (show Below w5.heap.size w5 w10 from below_step (below_set HB8.out GE8.out) hb); have n2_ := Aside0.mk (blk_below (show ((w8.setCell ⟨g8, 0, none⟩ (.pointer (some ⟨ge, 0, none⟩)))).heap[g3]? = _ from (Below.heap_setCell _ _ _ g3 NE38.out).trans BK3.out) hb); have n3_ := Aside0.mk (blk_below (show ((w8.setCell ⟨g8, 0, none⟩ (.pointer (some ⟨ge, 0, none⟩)))).heap[g8]? = some (.cells #[.pointer (some ⟨ge, 0, none⟩)] 46 (0, 0)) from blk_put BK8.out 0 _ rfl) hb); have GE10 := Aside0.mk (show w5.heap.size ≤ g10 from by rw [hg]; exact (below_size (below_set HB8.out GE8.out))); clear BK3 BK8 HB8 hb hbox hg hc8 hf8; have HB8 := n1_; have BK3 := n2_; have BK8 := n3_; clear n1_ n2_ n3_; have HEV2 := Aside0.mk (HEV.out.below HB8.out); have hc3_1 : w10.cell? ⟨g3, 1, none⟩ = some (.slice (some adq) qs.length c) := (blk_cell BK3.out 1).trans rfl; have hxq : w10.cell? (adq.add q.toNat) = some (.slice A2 (rd_L2 qs q).length c2) := (HEV2.out.wbl.cell (World.block_lt_of_cell? _ _ (HX3 _ HB3.out))).trans (HX3 _ HB3.out)) | (go_at_call 20; refine (run_calls 21 Try.f21 Try.func21 (by kernel_rfl) rfl #[] #[.pointer (some ⟨g10, 0, none⟩), .pointer (some ⟨g8, 0, none⟩)] (G qs ins 50) (fun W tr B => Rv w3 n qs ins (some adq) c Ai ci ge gm g8 g10 tr B W ∧ ge < w10.heap.size ∧ g8 < w10.heap.size) (fun k => k = gm ∨ k = g10 ∨ some k = (Value.slice none 0 0).ownBlock) w3 w10 A2 c2 (rd_L2 qs q) q (Kd.C_below HCQ.out HB3.out) HLQ.out HLEN.out HEV2.out.wbl (fun k hk => by rcases hk with rfl | rfl | e; exact HEV2.out.gm1; exact Nat.le_trans HEV.out.wbl.size GE10.out; cases e) (Rv.clo w10) (fun W tr B a b v htl _ hinv hgt => by refine (reads1_calls w3 n qs ins (some adq) c Ai ci ge gm g8 g10 (Kd.C_below HQ.out HB3.out) (Kd.C_below HI.out HB3.out) W tr B a b v hinv.1 (by have h_ := keysOf_len tr; omega) hgt).mono ?_; rintro e W' ⟨rfl, B', hk, hr, hb⟩; exact ⟨rfl, B', hk, ⟨hr, hinv.2⟩, hb⟩) ⟨⟨HEV2.out, Nat.le_trans HEV.out.wbl.size GE8.out, Nat.le_trans HEV.out.wbl.size GE10.out, BK8.out, _, BK10.out, Kd.R_nil _ _ _ _ _, fun k => Iff.rfl⟩, blk_lt HEV2.out.box, blk_lt BK8.out⟩ x0 st0 tr0 HG.out).mono ?_; rintro e_ w12 ⟨rfl, B', hk, hi, hb⟩; have HK := Aside0.mk hk; have HV := Aside0.mk hi.1; clear hk hi hb; obtain ⟨v_, hv1, hv2, hv3⟩ := HV.out.b10; have HR := Aside0.mk hv2; have hx10 : w12.cell? ⟨g10, 0, none⟩ = some v_ := (blk_cell hv1 0).trans rfl; clear hv1 hv2 hv3))
  go_ret2
  have HBW := Aside0.mk (HK.out.below (below_step HB.out HB8.out) (below_size (below_step HB.out HB8.out)) (fun k hk => by rcases hk with rfl | rfl | e; exact Nat.le_trans (below_size HB3.out) HEV2.out.gm1; exact Nat.le_trans (below_size HB.out) GE10.out; cases e))
  exact ⟨_, rfl, Kd.R_lower (Kd.R_mono HR.out (fun _ _ => trivial)) (below_size HB3.out), HBW.out⟩
def querylang_Reads.f (a0_0 : Int) (l0_1 : List (List (S43))) (l1 : List Int) (a2 : Int) : Option ((List (S40)) × Int) := (pre_ a0_0 l0_1 l1 a2).bind fun e => if e ≠ 0 then some ([], e) else if (0 ≤ a2 ∧ a2 < (l0_1.length : Int)) ∧ (rd_L2 l0_1 a2).length < 1000000000 then (goT (G l0_1 l1 50) a2 (rd_L2 l0_1 a2) [] []).bind fun p => if p.1 = [] then none else some (keysOf p.2, 0) else none
theorem querylang_Reads.calls (a0_0 : Int) (A0_1 : Option Addr) (c0_1 : Nat) (l0_1 : List (List (S43))) (A1 : Option Addr) (c1 : Nat) (l1 : List Int) (a2 : Int) (r1 : List (S40)) (r2 : Int) (w : World) (hr0_1 : Kd.C (Kd.slice 43 k43) w A0_1 l0_1.length l0_1) (hc0_1 : l0_1.length ≤ c0_1) (hr1 : Kd.C (Kd.int .i64) w A1 l1.length l1) (hc1 : l1.length ≤ c1) (h : querylang_Reads.f a0_0 l0_1 l1 a2 = some (r1, r2)) :
    Calls Try.prog 13 #[.agg #[.int .i64 a0_0, .slice A0_1 l0_1.length c0_1], .slice A1 l1.length c1, .int .i64 a2] w fun e w' => ∃ v0_ : Value, e = .returned (.tuple #[v0_, .int .i64 r2]) ∧ Kd.R k40 40 w' w.heap.size (fun _ => True) v0_ r1 ∧ Below w.heap.size w w' := by
  unfold querylang_Reads.f at h
  obtain ⟨e, hp, h⟩ := Option.bind_eq_some_iff.1 h
  split at h
  · rename_i he
    simp only [Option.some.injEq, Prod.mk.injEq] at h
    obtain ⟨rfl, rfl⟩ := h
    refine (reads_bad a0_0 A0_1 c0_1 l0_1 A1 c1 l1 a2 w hr0_1 hc0_1 hr1 hc1 e hp he).mono ?_
    rintro E w' ⟨rfl, hb⟩
    exact ⟨_, rfl, Kd.R_nil _ _ _ _ _, hb⟩
  · rename_i he
    obtain rfl : e = 0 := by omega
    split at h
    case isFalse => cases h
    rename_i hin
    obtain ⟨⟨st, tr⟩, hg, h⟩ := Option.bind_eq_some_iff.1 h
    cases st with
    | nil => rw [if_pos rfl] at h; cases h
    | cons x st =>
      rw [if_neg (by simp)] at h
      simp only [Option.some.injEq, Prod.mk.injEq] at h
      obtain ⟨rfl, rfl⟩ := h
      exact reads_good a0_0 A0_1 c0_1 l0_1 A1 c1 l1 a2 w hr0_1 hc0_1 hr1 hc1 x st tr hp hin.1.1 hin.1.2 hin.2 hg
end Go.Proofs.Ytnhkfelpahjgpaa.Qu
