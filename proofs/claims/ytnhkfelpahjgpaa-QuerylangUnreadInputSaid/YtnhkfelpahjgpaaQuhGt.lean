/- querylang.Eval: the evaluator. -/
import Derived.Test.YtnhkfelpahjgpaaQux0
import Derived.BigQuiet
import Derived.Test.YtnhkfelpahjgpaaQuhRn
import Derived.Test.YtnhkfelpahjgpaaMp
namespace Go.Proofs.Ytnhkfelpahjgpaa.Qu
open Go.RowKit Go.Proofs.YtnhkfelpahjgpaaW.PrintWords Go.Proofs.YtnhkfelpahjgpaaW.PrintLast Go.Proofs.YtnhkfelpahjgpaaW.PrintMore
open Go.Proofs.Ytnhkfelpahjgpaa
set_option linter.unusedVariables false
set_option linter.unusedSimpArgs false

open Go.ChangeMaps (setBlock)
theorem KI : Go.Maps.Keyed Try.prog 3 := Go.Maps.int_keyed Try.underlying3
theorem keyI (x : Int) (h0 : 0 ≤ x) (h1 : x < 1000000000) : ∃ l, keyOf Try.prog 3 (.int .i64 x) = some l := ⟨.int .i64 x, by simp [keyOf, mapKey, Try.underlying3, Lit.wf, IntKind.wrap]; rw [show IntKind.i64.min = -9223372036854775808 from rfl]; omega⟩
theorem iinj : ∀ a b : Int, Value.int .i64 a = Value.int .i64 b → a = b := fun _ _ h => by injection h
theorem setBlock_kp (W : World) (g : Nat) (o : Obj) : Kp W (setBlock W g o) (fun k => k = g) :=
  have h := Mp.grown_set (w := W) (b := g) o
  ⟨h.os, h.tape, h.output, h.size, fun k hk hn => h.block k hk (fun e => hn (by injection e))⟩
theorem Kp.mono {W W' : World} {S S' : Nat → Prop} (h : Kp W W' S) (hs : ∀ k, S k → S' k) : Kp W W' S' := ⟨h.os, h.tape, h.output, h.size, fun k hk hn => h.block k hk (fun e => hn (hs k e))⟩
/-- the value of a key: an input, reduced, or a query, run -/
def G (qs : List (List S43)) (ins : List Int) : Nat → Int → Int → Option Int
  | 0, kind, a => if kind = 0 then (if 0 ≤ a ∧ a < (ins.length : Int) then querylang_reduce.f (rd ins a) else none) else none
  | k + 1, kind, a => if kind = 0 then (if 0 ≤ a ∧ a < (ins.length : Int) then querylang_reduce.f (rd ins a) else none)
      else if (0 ≤ a ∧ a < (qs.length : Int)) ∧ (rd_L2 qs a).length < 1000000000 ∧ a < 1000000000 then (goT (G qs ins k) a (rd_L2 qs a) [] []).bind fun p => p.1.head? else none
theorem G_0 (qs : List (List S43)) (ins : List Int) (k : Nat) (a : Int) : G qs ins k 0 a = if 0 ≤ a ∧ a < (ins.length : Int) then querylang_reduce.f (rd ins a) else none := by cases k <;> rfl
theorem G_1 (qs : List (List S43)) (ins : List Int) (k : Nat) (kind a : Int) (h : kind ≠ 0) : G qs ins (k + 1) kind a = if (0 ≤ a ∧ a < (qs.length : Int)) ∧ (rd_L2 qs a).length < 1000000000 ∧ a < 1000000000 then (goT (G qs ins k) a (rd_L2 qs a) [] []).bind fun p => p.1.head? else none := by
  show (if kind = 0 then _ else _) = _
  rw [if_neg h]
theorem goT_mono {gt gt' : Int → Int → Option Int} (hg : ∀ a b v, gt a b = some v → gt' a b = some v) (idx : Int) : ∀ (l : List S43) (st : List Int) (tr : List K3) (r : List Int × List K3), goT gt idx l st tr = some r → goT gt' idx l st tr = some r
  | [], st, tr, r, h => h
  | op :: l, st, tr, r, h => by
    rw [goT_cons] at h ⊢
    obtain ⟨⟨s1, t1⟩, h1, h2⟩ := Option.bind_eq_some_iff.1 h
    refine Option.bind_eq_some_iff.2 ⟨(s1, t1), ?_, goT_mono hg idx l s1 t1 r h2⟩
    unfold stepT at h1 ⊢
    split at h1
    · rename_i c
      rw [if_pos c]
      obtain ⟨p, e1, h1⟩ := Option.bind_eq_some_iff.1 h1
      obtain ⟨q, e2, h1⟩ := Option.bind_eq_some_iff.1 h1
      obtain ⟨v, e3, h1⟩ := Option.bind_eq_some_iff.1 h1
      exact Option.bind_eq_some_iff.2 ⟨p, e1, Option.bind_eq_some_iff.2 ⟨q, e2, Option.bind_eq_some_iff.2 ⟨v, hg _ _ _ e3, h1⟩⟩⟩
    · rename_i c
      rw [if_neg c]
      split at h1
      · rename_i c2
        rw [if_pos c2]
        obtain ⟨q, e2, h1⟩ := Option.bind_eq_some_iff.1 h1
        obtain ⟨v, e3, h1⟩ := Option.bind_eq_some_iff.1 h1
        exact Option.bind_eq_some_iff.2 ⟨q, e2, Option.bind_eq_some_iff.2 ⟨v, hg _ _ _ e3, h1⟩⟩
      · rename_i c2
        rw [if_neg c2]
        exact h1
theorem G_mono (qs : List (List S43)) (ins : List Int) : ∀ k kind a r, G qs ins k kind a = some r → G qs ins (k + 1) kind a = some r
  | k, kind, a, r, h => by
    by_cases hk : kind = 0
    · subst hk; rw [G_0] at h ⊢; exact h
    · cases k with
      | zero => exact absurd h (by show ¬ (if kind = 0 then _ else none) = some r; rw [if_neg hk]; simp)
      | succ k =>
        rw [G_1 _ _ _ _ _ hk] at h ⊢
        split at h
        · rename_i c
          rw [if_pos c]
          obtain ⟨p, h1, h2⟩ := Option.bind_eq_some_iff.1 h
          exact Option.bind_eq_some_iff.2 ⟨p, goT_mono (fun x y v hv => G_mono qs ins k x y v hv) a _ _ _ _ h1, h2⟩
        · cases h
theorem G_le (qs : List (List S43)) (ins : List Int) {k K : Nat} (h : k ≤ K) {kind a r : Int} (hg : G qs ins k kind a = some r) : G qs ins K kind a = some r := by
  induction h with
  | refl => exact hg
  | step _ ih => exact G_mono _ _ _ _ _ _ ih
theorem G_same (qs : List (List S43)) (ins : List Int) {k K : Nat} {kind a r s : Int} (h1 : G qs ins k kind a = some r) (h2 : G qs ins K kind a = some s) : r = s := by
  have e1 := G_le qs ins (Nat.le_max_left k K) h1
  have e2 := G_le qs ins (Nat.le_max_right k K) h2
  rw [e1] at e2; exact Option.some.inj e2
theorem G_kind (qs : List (List S43)) (ins : List Int) (k : Nat) {kind : Int} (h : kind ≠ 0) (a : Int) : G qs ins k kind a = G qs ins k 1 a := by
  cases k with
  | zero => show (if kind = 0 then _ else none) = (if (1 : Int) = 0 then _ else none); rw [if_neg h, if_neg (by decide)]
  | succ k => rw [G_1 _ _ _ _ _ h, G_1 _ _ _ _ _ (by decide)]
/-- the evaluator in memory -/
structure Ev (wb : World) (n : Int) (qs : List (List S43)) (ins : List Int) (Aq : Option Addr) (cq : Nat) (Ai : Option Addr) (ci : Nat) (ge gm : Nat) (W : World) : Prop where
  wbl : Below wb.heap.size wb W
  ge1 : wb.heap.size ≤ ge
  gm1 : wb.heap.size ≤ gm
  box : W.heap[ge]? = some (.cells #[.int .i64 n, .slice Aq qs.length cq, .slice Ai ins.length ci, .map (some gm)] 59 (0, 0))
  cache : ∃ C : List (Int × Int), Mp.At Try.prog 3 (Value.int .i64) W gm (Mp.vals (Value.int .i64) C) ∧ ∀ p ∈ C, ∃ K, G qs ins K 1 p.1 = some p.2
section
variable {wb : World} {n : Int} {qs : List (List S43)} {ins : List Int} {Aq : Option Addr} {cq : Nat} {Ai : Option Addr} {ci : Nat} {ge gm : Nat} {W W' : World}
theorem Ev.ne (h : Ev wb n qs ins Aq cq Ai ci ge gm W) : ge ≠ gm := by
  rintro rfl
  obtain ⟨C, ⟨es, clock, h1⟩, _⟩ := h.cache
  have h2 := h.box
  rw [h1.blk] at h2
  cases h2
theorem Ev.lt (h : Ev wb n qs ins Aq cq Ai ci ge gm W) : ge < W.heap.size ∧ gm < W.heap.size := by
  obtain ⟨C, h1, _⟩ := h.cache
  exact ⟨blk_lt h.box, h1.lt⟩
theorem Ev.keep (h : Ev wb n qs ins Aq cq Ai ci ge gm W) {S : Nat → Prop} (hk : Kp W W' S) (hS : ∀ k, S k → wb.heap.size ≤ k ∧ k ≠ ge ∧ k ≠ gm) : Ev wb n qs ins Aq cq Ai ci ge gm W' := by
  obtain ⟨C, h1, h2⟩ := h.cache
  exact ⟨hk.below h.wbl h.wbl.size (fun k hk => (hS k hk).1), h.ge1, h.gm1, (hk.block ge h.lt.1 (fun e => (hS _ e).2.1 rfl)).trans h.box, C, h1.keep (hk.block gm h.lt.2 (fun e => (hS _ e).2.2 rfl)), h2⟩
theorem Ev.below (h : Ev wb n qs ins Aq cq Ai ci ge gm W) (hb : Below W.heap.size W W') : Ev wb n qs ins Aq cq Ai ci ge gm W' := h.keep (Kp.of_below hb (fun _ => False)) (fun _ hk => hk.elim)
theorem aset_sub {l : List (Int × Int)} {x v : Int} {p : Int × Int} (h : p ∈ Mp.aset l x v) : p ∈ l ∨ p = (x, v) := by
  unfold Mp.aset at h
  split at h
  · obtain ⟨q, hq, rfl⟩ := List.mem_map.1 h
    by_cases hx : q.1 = x
    · right; rw [if_pos hx]
    · left; rw [if_neg hx]; exact hq
  · rcases List.mem_append.1 h with h | h
    · exact .inl h
    · rw [List.mem_singleton] at h; exact .inr h
/-- the cache has one more -/
theorem Ev.store (h : Ev wb n qs ins Aq cq Ai ci ge gm W) {C : List (Int × Int)} {o : Obj} {a r : Int} (hat : Mp.At Try.prog 3 (Value.int .i64) (setBlock W gm o) gm (Mp.vals (Value.int .i64) (Mp.aset C a r))) (hC : ∀ p ∈ C, ∃ K, G qs ins K 1 p.1 = some p.2) (hr : ∃ K, G qs ins K 1 a = some r) : Ev wb n qs ins Aq cq Ai ci ge gm (setBlock W gm o) := by
  have hk := setBlock_kp W gm o
  exact ⟨hk.below h.wbl h.wbl.size (fun k hk => hk ▸ h.gm1), h.ge1, h.gm1, (hk.block ge h.lt.1 h.ne).trans h.box, _, hat, fun p hp => (aset_sub hp).elim (hC p) (fun e => by rw [e]; exact hr)⟩
/-- the evaluator is what its own closure keeps -/
theorem Ev.clo (W0 : World) : Clo W0 (fun W tr B => (Ev wb n qs ins Aq cq Ai ci ge gm W ∧ ge < W0.heap.size) ∧ ∀ k, B k ↔ k = gm) := by
  refine ⟨fun W tr B k h hk => ?_, fun W W' tr B h hk => ⟨⟨h.1.1.keep (S := fun k => ¬ (k < W0.heap.size ∨ B k) ∧ wb.heap.size ≤ k) ⟨hk.os, hk.tape, hk.output, hk.size, fun k h1 h2 => ?_⟩ (fun k h2 => ⟨h2.2, fun e => h2.1 (.inl (e ▸ h.1.2)), fun e => h2.1 (.inr ((h.2 k).2 e))⟩), h.1.2⟩, h.2⟩⟩
  · rw [(h.2 k).1 hk]; exact h.1.1.lt.2
  · refine hk.block k h1 (fun h3 => h2 ⟨h3, ?_⟩)
    have h4 := h.1.1.ge1
    have h5 := h.1.2
    rcases Nat.lt_or_ge k W0.heap.size with h6 | h6
    · exact absurd (Or.inl h6) h3
    · omega
end
set_option maxHeartbeats 16000000 in
set_option maxRecDepth 100000 in
theorem get_step (wb : World) (n : Int) (qs : List (List S43)) (ins : List Int) (Aq : Option Addr) (cq : Nat) (Ai : Option Addr) (ci ge gm : Nat) (hq : Kd.C (Kd.slice 43 k43) wb Aq qs.length qs) (hi : Kd.C (Kd.int .i64) wb Ai ins.length ins) (k : Nat)
    (ih : ∀ j, j < k → ∀ (W : World) (kind a b r : Int), Ev wb n qs ins Aq cq Ai ci ge gm W → G qs ins j kind a = some r → Calls Try.prog 17 #[.pointer (some ⟨ge, 0, none⟩), .agg #[.int .i64 kind, .int .i64 a, .int .i64 b]] W fun e W' => e = .returned (.int .i64 r) ∧ Kp W W' (fun k => k = gm) ∧ Ev wb n qs ins Aq cq Ai ci ge gm W')
    (W : World) (kind a b r : Int) (hE : Ev wb n qs ins Aq cq Ai ci ge gm W) (h : G qs ins k kind a = some r) :
    Calls Try.prog 17 #[.pointer (some ⟨ge, 0, none⟩), .agg #[.int .i64 kind, .int .i64 a, .int .i64 b]] W fun e W' => e = .returned (.int .i64 r) ∧ Kp W W' (fun k => k = gm) ∧ Ev wb n qs ins Aq cq Ai ci ge gm W' := by
  have hu40 := Try.underlying40
  have hu59 := Try.underlying59
  have hu24 := Try.underlying24
  have HE := Aside0.mk hE
  have HQ := Aside0.mk hq
  have HI := Aside0.mk hi
  clear hq hi
  by_cases hk : kind = 0
  · subst hk
    rw [G_0] at h
    split at h
    case isFalse => cases h
    rename_i hin
    have HV := Aside0.mk h
    obtain ⟨p1, q1⟩ := hin
    obtain ⟨ad, ea, hx⟩ := Kd.at_int HI.out a p1 q1
    cases ea
    have HX := Aside0.mk hx
    have p1 := eq_true p1
    have q1 := eq_true q1
    clear h hx
    have z0 : ((0 : Int) == 0) = true := rfl
    go_enter Try.func17, Try.ntmps17
    go_wp2_with (((with_reducible refine gate_dst (N := 3) rfl ?_); refine box_event ?hg (N := 3) ?hd (cs := #[.int .i64 0, .int .i64 a, .int .i64 b]) (t := 40) ?hr ?_; (case hd => rfl); (case hg => rfl); (case hr => first | (go_simp; done) | (go_simp; rfl)); intro g3 hg w3 hbox hb; have HB := Aside0.mk hb; have BK3 := Aside0.mk hbox; have HE3 := Aside0.mk (HE.out.below hb); have NE3 := Aside0.mk (show W.heap.size ≤ g3 from Nat.le_of_eq hg.symm); clear hb hbox hg; have hc3_0 : w3.cell? ⟨g3, 0, none⟩ = some (.int .i64 0) := (blk_cell BK3.out 0).trans rfl))
    refine start_ (n := 10) (S := fun w' => w'.cell? ⟨ge, 2, none⟩ = some (.slice (some ad) ins.length ci) ∧ w'.cell? ⟨g3, 1, none⟩ = some (.int .i64 a) ∧ w'.cell? (ad.add a.toNat) = some (.int .i64 (rd ins a))) (ds := []) #[false, false, false, false, false, false, false, false, false, false] (by kernel_rfl) rfl rfl ⟨(blk_cell HE3.out.box 2).trans rfl, (blk_cell BK3.out 1).trans rfl, (HE3.out.wbl.cell (World.block_lt_of_cell? wb _ HX.out)).trans HX.out⟩ (fun hHeld => ?_)
    generalize hw15 : w3.drew = w15 at hHeld ⊢
    have n1_ := Aside0.mk (show Below W.heap.size W w15 from hw15 ▸ below_drew1 HB.out)
    clear HB hw15
    have HB := n1_
    clear n1_ BK3 HE3
    refine pure_ (i := 0) (N := some 10) (v := ?_) (a' := ?_) #[true, false, false, false, false, false, false, false, false, false] rfl rfl (by kernel_rfl) (fun _ _ _ h => h) (Or.inl ⟨by rfl, ?_⟩) ?_ ?_
    rotate_left
    · intro w'
      go_simp
      with_reducible rfl
    rotate_left
    · simp only [Act.put, List.setIfInBounds_toArray, List.set_cons_zero, List.set_cons_succ, i64_w, i32_w]
      rfl
    refine pure_ (i := 1) (N := some 11) (v := ?_) (a' := ?_) #[true, true, false, false, false, false, false, false, false, false] rfl rfl (by kernel_rfl) (fun _ _ _ h => h) (Or.inl ⟨by rfl, ?_⟩) ?_ ?_
    rotate_left
    · intro w'
      go_simp
      with_reducible rfl
    rotate_left
    · simp only [Act.put, List.setIfInBounds_toArray, List.set_cons_zero, List.set_cons_succ, i64_w, i32_w]
      rfl
    refine pure_ (i := 2) (N := some 12) (v := ?_) (a' := ?_) #[true, true, true, false, false, false, false, false, false, false] rfl rfl (by kernel_rfl) (fun _ _ _ h => h) (Or.inl ⟨by rfl, ?_⟩) ?_ ?_
    rotate_left
    · intro w'
      go_simp
      with_reducible rfl
    rotate_left
    · simp only [Act.put, List.setIfInBounds_toArray, List.set_cons_zero, List.set_cons_succ, i64_w, i32_w]
      rfl
    refine pure_ (i := 4) (N := some 14) (v := ?_) (a' := ?_) #[true, true, true, false, true, false, false, false, false, false] rfl rfl (by kernel_rfl) (fun _ _ _ h => h) (Or.inl ⟨by rfl, ?_⟩) ?_ ?_
    rotate_left
    · intro w'
      go_simp
      with_reducible rfl
    rotate_left
    · simp only [Act.put, List.setIfInBounds_toArray, List.set_cons_zero, List.set_cons_succ, i64_w, i32_w]
      rfl
    refine take_ (i := 3) (N := some 13) (v := ?_) (a' := ?_) #[true, true, true, true, true, false, false, false, false, false] rfl rfl (by kernel_rfl) (fun _ _ _ h => h) (Or.inl ⟨by rfl, ?_⟩) hHeld ?_ ?_
    rotate_left
    · rintro w' ⟨s0, s1, s2⟩
      go_simp
      with_reducible rfl
    rotate_left
    · simp only [Act.put, List.setIfInBounds_toArray, List.set_cons_zero, List.set_cons_succ, i64_w, i32_w]
      rfl
    refine take_ (i := 5) (N := some 15) (v := ?_) (a' := ?_) #[true, true, true, true, true, true, false, false, false, false] rfl rfl (by kernel_rfl) (fun _ _ _ h => h) (Or.inl ⟨by rfl, ?_⟩) hHeld ?_ ?_
    rotate_left
    · rintro w' ⟨s0, s1, s2⟩
      go_simp
      with_reducible rfl
    rotate_left
    · simp only [Act.put, List.setIfInBounds_toArray, List.set_cons_zero, List.set_cons_succ, i64_w, i32_w]
      rfl
    refine pure_ (i := 6) (N := some 16) (v := ?_) (a' := ?_) #[true, true, true, true, true, true, true, false, false, false] rfl rfl (by kernel_rfl) (fun _ _ _ h => h) (Or.inl ⟨by rfl, ?_⟩) ?_ ?_
    rotate_left
    · intro w'
      go_simp
      with_reducible rfl
    rotate_left
    · simp only [Act.put, List.setIfInBounds_toArray, List.set_cons_zero, List.set_cons_succ, i64_w, i32_w]
      rfl
    refine take_ (i := 7) (N := some 17) (v := ?_) (a' := ?_) #[true, true, true, true, true, true, true, true, false, false] rfl rfl (by kernel_rfl) (fun _ _ _ h => h) (Or.inl ⟨by rfl, ?_⟩) hHeld ?_ ?_
    rotate_left
    · rintro w' ⟨s0, s1, s2⟩
      go_simp
      with_reducible rfl
    rotate_left
    · simp only [Act.put, List.setIfInBounds_toArray, List.set_cons_zero, List.set_cons_succ, i64_w, i32_w]
      rfl
    refine one_ (i := 8) (N := some 18) #[true, true, true, true, true, true, true, true, true, false] rfl rfl (by kernel_rfl) (by decide) (fun K hK => ?_)
    refine goes_ Try.func26 (by kernel_rfl) rfl #[.int .i64 (rd ins a)] (by rfl) rfl rfl (by (try simp only [List.map_toArray, List.map_cons, List.map_nil]); first | done | rfl) ?_
    refine (querylang_reduce.calls _ _ _ HV.out).mono ?_
    rintro e w13 ⟨rfl, hd⟩
    have hb := hd.below
    have hdc := hd
    refine ⟨_, rfl, ?_⟩
    have n1_ := Aside0.mk (below_step HB.out hb)
    clear HB
    have HB := n1_
    clear n1_
    refine hK.out _ _ ⟨(hb.cell (World.block_lt_of_cell? _ _ hHeld.1)).trans hHeld.1, (hb.cell (World.block_lt_of_cell? _ _ hHeld.2.1)).trans hHeld.2.1, (hb.cell (World.block_lt_of_cell? _ _ hHeld.2.2)).trans hHeld.2.2⟩ (fun hHeld => ?_)
    clear hK K
    refine norm_ (a' := ?_) ?_ ?_
    rotate_left
    · show Act.put _ (some 18) _ = _
      simp only [Act.put, List.setIfInBounds_toArray, List.set_cons_zero, List.set_cons_succ, i64_w, i32_w]
      rfl
    refine pure_ (i := 9) (N := some 4) (v := ?_) (a' := ?_) #[true, true, true, true, true, true, true, true, true, true] rfl rfl (by kernel_rfl) (fun _ _ _ h => h) (Or.inl ⟨by rfl, ?_⟩) ?_ ?_
    rotate_left
    · intro w'
      go_simp
      with_reducible rfl
    rotate_left
    · simp only [Act.put, List.setIfInBounds_toArray, List.set_cons_zero, List.set_cons_succ, i64_w, i32_w]
      rfl
    refine done_ (by kernel_rfl) ?_
    try go_wp2
    go_ret
    exact ⟨rfl, Kp.of_below HB.out _, HE.out.below HB.out⟩

  · cases k with
    | zero => exact absurd h (by show ¬ (if kind = 0 then _ else none) = some r; rw [if_neg hk]; simp)
    | succ k =>
      obtain ⟨C, hat, hC⟩ := hE.cache
      have HAT := Aside0.mk hat
      have z0 : (kind == 0) = false := beq_eq_false_iff_ne.mpr hk
      have hk1 : G qs ins (k + 1) 1 a = some r := by rw [← G_kind qs ins (k + 1) hk]; exact h
      have HAB : Aside0 (0 ≤ a ∧ a < 1000000000) := ⟨by
        have h_ := hk1
        rw [G_1 _ _ _ _ _ (by decide)] at h_
        split at h_
        · rename_i hin_; exact ⟨hin_.1.1, hin_.2.2⟩
        · cases h_⟩
      cases hg : Mp.aget C a with
      | some v =>
        obtain ⟨K, hK⟩ := hC _ (Mp.aget_mem hg)
        obtain rfl := G_same qs ins hk1 hK
        have HGET := Aside0.mk hg
        clear hg hC hat h hk1 hK
        go_enter Try.func17, Try.ntmps17
        go_wp2_with (((with_reducible refine gate_dst (N := 3) rfl ?_); refine box_event ?hg (N := 3) ?hd (cs := #[.int .i64 kind, .int .i64 a, .int .i64 b]) (t := 40) ?hr ?_; (case hd => rfl); (case hg => rfl); (case hr => first | (go_simp; done) | (go_simp; rfl)); intro g3 hg w3 hbox hb; have HB := Aside0.mk hb; have BK3 := Aside0.mk hbox; have HE3 := Aside0.mk (HE.out.below hb); have NE3 := Aside0.mk (show W.heap.size ≤ g3 from Nat.le_of_eq hg.symm); clear hb hbox hg; have hc3_0 : w3.cell? ⟨g3, 0, none⟩ = some (.int .i64 kind) := (blk_cell BK3.out 0).trans rfl))
        refine start_ (n := 12) (S := fun w' => w'.cell? ⟨ge, 3, none⟩ = some (.map (some gm)) ∧ w'.cell? ⟨g3, 1, none⟩ = some (.int .i64 a) ∧ Mp.At Try.prog 3 (Value.int .i64) w' gm (Mp.vals (Value.int .i64) C)) (ds := []) #[false, false, false, false, false, false, false, false, false, false, false, false] (by kernel_rfl) rfl rfl ⟨(blk_cell HE3.out.box 3).trans rfl, (blk_cell BK3.out 1).trans rfl, HAT.out.below (below_drew1 HB.out)⟩ (fun hHeld => ?_)
        generalize hw15 : w3.drew = w15 at hHeld ⊢
        have n1_ := Aside0.mk (show Below W.heap.size W w15 from hw15 ▸ below_drew1 HB.out)
        have n2_ := Aside0.mk (show w15.heap[g3]? = some (.cells #[.int .i64 kind, .int .i64 a, .int .i64 b] 40 (0, 0)) from hw15 ▸ blk_drew BK3.out)
        clear HB hw15 BK3 HE3
        have HB := n1_
        have BK3 := n2_
        clear n1_ n2_
        refine pure_ (i := 0) (N := some 20) (v := ?_) (a' := ?_) #[true, false, false, false, false, false, false, false, false, false, false, false] rfl rfl (by kernel_rfl) (fun _ _ _ h => h) (Or.inl ⟨by rfl, ?_⟩) ?_ ?_
        rotate_left
        · intro w'
          go_simp
          with_reducible rfl
        rotate_left
        · simp only [Act.put, List.setIfInBounds_toArray, List.set_cons_zero, List.set_cons_succ, i64_w, i32_w]
          rfl
        refine pure_ (i := 1) (N := some 21) (v := ?_) (a' := ?_) #[true, true, false, false, false, false, false, false, false, false, false, false] rfl rfl (by kernel_rfl) (fun _ _ _ h => h) (Or.inl ⟨by rfl, ?_⟩) ?_ ?_
        rotate_left
        · intro w'
          go_simp
          with_reducible rfl
        rotate_left
        · simp only [Act.put, List.setIfInBounds_toArray, List.set_cons_zero, List.set_cons_succ, i64_w, i32_w]
          rfl
        refine pure_ (i := 2) (N := some 22) (v := ?_) (a' := ?_) #[true, true, true, false, false, false, false, false, false, false, false, false] rfl rfl (by kernel_rfl) (fun _ _ _ h => h) (Or.inl ⟨by rfl, ?_⟩) ?_ ?_
        rotate_left
        · intro w'
          go_simp
          with_reducible rfl
        rotate_left
        · simp only [Act.put, List.setIfInBounds_toArray, List.set_cons_zero, List.set_cons_succ, i64_w, i32_w]
          rfl
        refine pure_ (i := 4) (N := some 24) (v := ?_) (a' := ?_) #[true, true, true, false, true, false, false, false, false, false, false, false] rfl rfl (by kernel_rfl) (fun _ _ _ h => h) (Or.inl ⟨by rfl, ?_⟩) ?_ ?_
        rotate_left
        · intro w'
          go_simp
          with_reducible rfl
        rotate_left
        · simp only [Act.put, List.setIfInBounds_toArray, List.set_cons_zero, List.set_cons_succ, i64_w, i32_w]
          rfl
        refine take_ (i := 3) (N := some 23) (v := ?_) (a' := ?_) #[true, true, true, true, true, false, false, false, false, false, false, false] rfl rfl (by kernel_rfl) (fun _ _ _ h => h) (Or.inl ⟨by rfl, ?_⟩) hHeld ?_ ?_
        rotate_left
        · rintro w' ⟨s0, s1, s2⟩
          go_simp
          with_reducible rfl
        rotate_left
        · simp only [Act.put, List.setIfInBounds_toArray, List.set_cons_zero, List.set_cons_succ, i64_w, i32_w]
          rfl
        refine take_ (i := 5) (N := some 25) (v := ?_) (a' := ?_) #[true, true, true, true, true, true, false, false, false, false, false, false] rfl rfl (by kernel_rfl) (fun _ _ _ h => h) (Or.inl ⟨by rfl, ?_⟩) hHeld ?_ ?_
        rotate_left
        · rintro w' ⟨s0, s1, s2⟩
          go_simp
          with_reducible rfl
        rotate_left
        · simp only [Act.put, List.setIfInBounds_toArray, List.set_cons_zero, List.set_cons_succ, i64_w, i32_w]
          rfl
        refine take_ (i := 6) (N := some 26) (v := .tuple #[.int .i64 r, .bool true]) (a' := ?_) #[true, true, true, true, true, true, true, false, false, false, false, false] rfl rfl (by kernel_rfl) (fun _ _ _ h => h) (Or.inl ⟨by rfl, ?_⟩) hHeld ?_ ?_
        · rintro w' ⟨s0, s1, s2⟩
          obtain ⟨li, hli⟩ := keyI a HAB.out.1 HAB.out.2
          have hrun := Mp.At.look (T := 57) true KI iinj Try.underlying57 (Try.zeroValue3 w') s2 hli
          rw [Mp.aget_vals, HGET.out] at hrun
          go_simp
          all_goals first | (rw [hrun]; done) | (rw [hrun]; rfl) | (simp [hrun]; done) | exact hrun
        rotate_left
        · simp only [Act.put, List.setIfInBounds_toArray, List.set_cons_zero, List.set_cons_succ, i64_w, i32_w]
          rfl
        refine pure_ (i := 7) (N := some 19) (v := ?_) (a' := ?_) #[true, true, true, true, true, true, true, true, false, false, false, false] rfl rfl (by kernel_rfl) (fun _ _ _ h => h) (Or.inl ⟨by rfl, ?_⟩) ?_ ?_
        rotate_left
        · intro w'
          go_simp
          with_reducible rfl
        rotate_left
        · simp only [Act.put, List.setIfInBounds_toArray, List.set_cons_zero, List.set_cons_succ, i64_w, i32_w]
          rfl
        refine pure_ (i := 8) (N := some 27) (v := ?_) (a' := ?_) #[true, true, true, true, true, true, true, true, true, false, false, false] rfl rfl (by kernel_rfl) (fun _ _ _ h => h) (Or.inl ⟨by rfl, ?_⟩) ?_ ?_
        rotate_left
        · intro w'
          go_simp
          with_reducible rfl
        rotate_left
        · simp only [Act.put, List.setIfInBounds_toArray, List.set_cons_zero, List.set_cons_succ, i64_w, i32_w]
          rfl
        refine pure_ (i := 9) (N := some 28) (v := ?_) (a' := ?_) #[true, true, true, true, true, true, true, true, true, true, false, false] rfl rfl (by kernel_rfl) (fun _ _ _ h => h) (Or.inl ⟨by rfl, ?_⟩) ?_ ?_
        rotate_left
        · intro w'
          go_simp
          with_reducible rfl
        rotate_left
        · simp only [Act.put, List.setIfInBounds_toArray, List.set_cons_zero, List.set_cons_succ, i64_w, i32_w]
          rfl
        refine pure_ (i := 10) (N := some 5) (v := ?_) (a' := ?_) #[true, true, true, true, true, true, true, true, true, true, true, false] rfl rfl (by kernel_rfl) (fun _ _ _ h => h) (Or.inl ⟨by rfl, ?_⟩) ?_ ?_
        rotate_left
        · intro w'
          go_simp
          with_reducible rfl
        rotate_left
        · simp only [Act.put, List.setIfInBounds_toArray, List.set_cons_zero, List.set_cons_succ, i64_w, i32_w]
          rfl
        refine pure_ (i := 11) (N := some 6) (v := ?_) (a' := ?_) #[true, true, true, true, true, true, true, true, true, true, true, true] rfl rfl (by kernel_rfl) (fun _ _ _ h => h) (Or.inl ⟨by rfl, ?_⟩) ?_ ?_
        rotate_left
        · intro w'
          go_simp
          with_reducible rfl
        rotate_left
        · simp only [Act.put, List.setIfInBounds_toArray, List.set_cons_zero, List.set_cons_succ, i64_w, i32_w]
          rfl
        refine done_ (by kernel_rfl) ?_
        try go_wp2
        go_ret
        exact ⟨rfl, Kp.of_below HB.out _, HE.out.below HB.out⟩

      | none =>
        have HGET := Aside0.mk hg
        rw [G_1 _ _ _ _ _ (by decide)] at hk1
        split at hk1
        case isFalse => cases hk1
        rename_i hin
        obtain ⟨⟨p1, q1⟩, hlen, hab⟩ := hin
        obtain ⟨⟨st, tr0⟩, hv, hhd⟩ := Option.bind_eq_some_iff.1 hk1
        obtain ⟨x, st0, rfl⟩ : ∃ x st0, st = x :: st0 := by cases st with | nil => cases hhd | cons x s => exact ⟨x, s, rfl⟩
        obtain rfl : x = r := Option.some.inj hhd
        have HV := Aside0.mk hv
        have HLEN := Aside0.mk hlen
        have HR := Aside0.mk (show G qs ins (k + 1) 1 a = some x from by rw [← G_kind qs ins (k + 1) hk]; exact h)
        obtain ⟨ad, A2, c2, ea, hx, hl2, hc2⟩ := at_L2 HQ.out a p1 q1
        cases ea
        have HX := Aside0.mk hx
        have HCQ := Aside0.mk hc2
        have HLQ := Aside0.mk hl2
        have IH := Aside0.mk (ih k (Nat.lt_succ_self k))
        have p1 := eq_true p1
        have q1 := eq_true q1
        clear hg hC hat h hk1 hv hhd hlen hx hc2 hl2
        go_enter Try.func17, Try.ntmps17
        go_wp2_with (((with_reducible refine gate_dst (N := 3) rfl ?_); refine box_event ?hg (N := 3) ?hd (cs := #[.int .i64 kind, .int .i64 a, .int .i64 b]) (t := 40) ?hr ?_; (case hd => rfl); (case hg => rfl); (case hr => first | (go_simp; done) | (go_simp; rfl)); intro g3 hg w3 hbox hb; have HB := Aside0.mk hb; have BK3 := Aside0.mk hbox; have HE3 := Aside0.mk (HE.out.below hb); have NE3 := Aside0.mk (show W.heap.size ≤ g3 from Nat.le_of_eq hg.symm); clear hb hbox hg; have hc3_0 : w3.cell? ⟨g3, 0, none⟩ = some (.int .i64 kind) := (blk_cell BK3.out 0).trans rfl))
        refine start_ (n := 12) (S := fun w' => w'.cell? ⟨ge, 3, none⟩ = some (.map (some gm)) ∧ w'.cell? ⟨g3, 1, none⟩ = some (.int .i64 a) ∧ Mp.At Try.prog 3 (Value.int .i64) w' gm (Mp.vals (Value.int .i64) C)) (ds := []) #[false, false, false, false, false, false, false, false, false, false, false, false] (by kernel_rfl) rfl rfl ⟨(blk_cell HE3.out.box 3).trans rfl, (blk_cell BK3.out 1).trans rfl, HAT.out.below (below_drew1 HB.out)⟩ (fun hHeld => ?_)
        generalize hw15 : w3.drew = w15 at hHeld ⊢
        have n1_ := Aside0.mk (show Below W.heap.size W w15 from hw15 ▸ below_drew1 HB.out)
        have n2_ := Aside0.mk (show w15.heap[g3]? = some (.cells #[.int .i64 kind, .int .i64 a, .int .i64 b] 40 (0, 0)) from hw15 ▸ blk_drew BK3.out)
        clear HB hw15 BK3 HE3
        have HB := n1_
        have BK3 := n2_
        clear n1_ n2_
        refine pure_ (i := 0) (N := some 20) (v := ?_) (a' := ?_) #[true, false, false, false, false, false, false, false, false, false, false, false] rfl rfl (by kernel_rfl) (fun _ _ _ h => h) (Or.inl ⟨by rfl, ?_⟩) ?_ ?_
        rotate_left
        · intro w'
          go_simp
          with_reducible rfl
        rotate_left
        · simp only [Act.put, List.setIfInBounds_toArray, List.set_cons_zero, List.set_cons_succ, i64_w, i32_w]
          rfl
        refine pure_ (i := 1) (N := some 21) (v := ?_) (a' := ?_) #[true, true, false, false, false, false, false, false, false, false, false, false] rfl rfl (by kernel_rfl) (fun _ _ _ h => h) (Or.inl ⟨by rfl, ?_⟩) ?_ ?_
        rotate_left
        · intro w'
          go_simp
          with_reducible rfl
        rotate_left
        · simp only [Act.put, List.setIfInBounds_toArray, List.set_cons_zero, List.set_cons_succ, i64_w, i32_w]
          rfl
        refine pure_ (i := 2) (N := some 22) (v := ?_) (a' := ?_) #[true, true, true, false, false, false, false, false, false, false, false, false] rfl rfl (by kernel_rfl) (fun _ _ _ h => h) (Or.inl ⟨by rfl, ?_⟩) ?_ ?_
        rotate_left
        · intro w'
          go_simp
          with_reducible rfl
        rotate_left
        · simp only [Act.put, List.setIfInBounds_toArray, List.set_cons_zero, List.set_cons_succ, i64_w, i32_w]
          rfl
        refine pure_ (i := 4) (N := some 24) (v := ?_) (a' := ?_) #[true, true, true, false, true, false, false, false, false, false, false, false] rfl rfl (by kernel_rfl) (fun _ _ _ h => h) (Or.inl ⟨by rfl, ?_⟩) ?_ ?_
        rotate_left
        · intro w'
          go_simp
          with_reducible rfl
        rotate_left
        · simp only [Act.put, List.setIfInBounds_toArray, List.set_cons_zero, List.set_cons_succ, i64_w, i32_w]
          rfl
        refine take_ (i := 3) (N := some 23) (v := ?_) (a' := ?_) #[true, true, true, true, true, false, false, false, false, false, false, false] rfl rfl (by kernel_rfl) (fun _ _ _ h => h) (Or.inl ⟨by rfl, ?_⟩) hHeld ?_ ?_
        rotate_left
        · rintro w' ⟨s0, s1, s2⟩
          go_simp
          with_reducible rfl
        rotate_left
        · simp only [Act.put, List.setIfInBounds_toArray, List.set_cons_zero, List.set_cons_succ, i64_w, i32_w]
          rfl
        refine take_ (i := 5) (N := some 25) (v := ?_) (a' := ?_) #[true, true, true, true, true, true, false, false, false, false, false, false] rfl rfl (by kernel_rfl) (fun _ _ _ h => h) (Or.inl ⟨by rfl, ?_⟩) hHeld ?_ ?_
        rotate_left
        · rintro w' ⟨s0, s1, s2⟩
          go_simp
          with_reducible rfl
        rotate_left
        · simp only [Act.put, List.setIfInBounds_toArray, List.set_cons_zero, List.set_cons_succ, i64_w, i32_w]
          rfl
        refine take_ (i := 6) (N := some 26) (v := .tuple #[.int .i64 0, .bool false]) (a' := ?_) #[true, true, true, true, true, true, true, false, false, false, false, false] rfl rfl (by kernel_rfl) (fun _ _ _ h => h) (Or.inl ⟨by rfl, ?_⟩) hHeld ?_ ?_
        · rintro w' ⟨s0, s1, s2⟩
          obtain ⟨li, hli⟩ := keyI a HAB.out.1 HAB.out.2
          have hrun := Mp.At.look (T := 57) true KI iinj Try.underlying57 (Try.zeroValue3 w') s2 hli
          rw [Mp.aget_vals, HGET.out] at hrun
          go_simp
          all_goals first | (rw [hrun]; done) | (rw [hrun]; rfl) | (simp [hrun]; done) | exact hrun
        rotate_left
        · simp only [Act.put, List.setIfInBounds_toArray, List.set_cons_zero, List.set_cons_succ, i64_w, i32_w]
          rfl
        refine pure_ (i := 7) (N := some 19) (v := ?_) (a' := ?_) #[true, true, true, true, true, true, true, true, false, false, false, false] rfl rfl (by kernel_rfl) (fun _ _ _ h => h) (Or.inl ⟨by rfl, ?_⟩) ?_ ?_
        rotate_left
        · intro w'
          go_simp
          with_reducible rfl
        rotate_left
        · simp only [Act.put, List.setIfInBounds_toArray, List.set_cons_zero, List.set_cons_succ, i64_w, i32_w]
          rfl
        refine pure_ (i := 8) (N := some 27) (v := ?_) (a' := ?_) #[true, true, true, true, true, true, true, true, true, false, false, false] rfl rfl (by kernel_rfl) (fun _ _ _ h => h) (Or.inl ⟨by rfl, ?_⟩) ?_ ?_
        rotate_left
        · intro w'
          go_simp
          with_reducible rfl
        rotate_left
        · simp only [Act.put, List.setIfInBounds_toArray, List.set_cons_zero, List.set_cons_succ, i64_w, i32_w]
          rfl
        refine pure_ (i := 9) (N := some 28) (v := ?_) (a' := ?_) #[true, true, true, true, true, true, true, true, true, true, false, false] rfl rfl (by kernel_rfl) (fun _ _ _ h => h) (Or.inl ⟨by rfl, ?_⟩) ?_ ?_
        rotate_left
        · intro w'
          go_simp
          with_reducible rfl
        rotate_left
        · simp only [Act.put, List.setIfInBounds_toArray, List.set_cons_zero, List.set_cons_succ, i64_w, i32_w]
          rfl
        refine pure_ (i := 10) (N := some 5) (v := ?_) (a' := ?_) #[true, true, true, true, true, true, true, true, true, true, true, false] rfl rfl (by kernel_rfl) (fun _ _ _ h => h) (Or.inl ⟨by rfl, ?_⟩) ?_ ?_
        rotate_left
        · intro w'
          go_simp
          with_reducible rfl
        rotate_left
        · simp only [Act.put, List.setIfInBounds_toArray, List.set_cons_zero, List.set_cons_succ, i64_w, i32_w]
          rfl
        refine pure_ (i := 11) (N := some 6) (v := ?_) (a' := ?_) #[true, true, true, true, true, true, true, true, true, true, true, true] rfl rfl (by kernel_rfl) (fun _ _ _ h => h) (Or.inl ⟨by rfl, ?_⟩) ?_ ?_
        rotate_left
        · intro w'
          go_simp
          with_reducible rfl
        rotate_left
        · simp only [Act.put, List.setIfInBounds_toArray, List.set_cons_zero, List.set_cons_succ, i64_w, i32_w]
          rfl
        refine done_ (by kernel_rfl) ?_
        try go_wp2
        have HE5 := Aside0.mk (HE.out.below HB.out)
        refine start_ (n := 15) (S := fun w' => w'.cell? ⟨ge, 1, none⟩ = some (.slice (some ad) qs.length cq) ∧ w'.cell? ⟨g3, 1, none⟩ = some (.int .i64 a) ∧ w'.cell? (ad.add a.toNat) = some (.slice A2 (rd_L2 qs a).length c2)) (ds := []) #[false, false, false, false, false, false, false, false, false, false, false, false, false, false, false] (by kernel_rfl) rfl rfl ⟨(blk_cell HE5.out.box 1).trans rfl, (blk_cell BK3.out 1).trans rfl, (HE5.out.wbl.cell (World.block_lt_of_cell? wb _ HX.out)).trans HX.out⟩ (fun hHeld => ?_)
        have n1_ := Aside0.mk (show Kp W w15.drew (fun k => k = gm) from Kp.of_below (below_drew1 HB.out) _)
        have n2_ := Aside0.mk (show Ev wb n qs ins (some ad) cq Ai ci ge gm w15.drew from HE5.out.below (below_drew1 (Below.refl _ _)))
        have n3_ := Aside0.mk (show w15.drew.heap[g3]? = some (.cells #[.int .i64 kind, .int .i64 a, .int .i64 b] 40 (0, 0)) from blk_drew BK3.out)
        clear HB HE5 BK3
        generalize w15.drew = w16 at hHeld n1_ n2_ n3_ ⊢
        have HK := n1_
        have HE6 := n2_
        have BK3 := n3_
        clear n1_ n2_ n3_
        refine pure_ (i := 0) (N := some 31) (v := ?_) (a' := ?_) #[true, false, false, false, false, false, false, false, false, false, false, false, false, false, false] rfl rfl (by kernel_rfl) (fun _ _ _ h => h) (Or.inl ⟨by rfl, ?_⟩) ?_ ?_
        rotate_left
        · intro w'
          go_simp
          with_reducible rfl
        rotate_left
        · simp only [Act.put, List.setIfInBounds_toArray, List.set_cons_zero, List.set_cons_succ, i64_w, i32_w]
          rfl
        refine pure_ (i := 1) (N := some 32) (v := ?_) (a' := ?_) #[true, true, false, false, false, false, false, false, false, false, false, false, false, false, false] rfl rfl (by kernel_rfl) (fun _ _ _ h => h) (Or.inl ⟨by rfl, ?_⟩) ?_ ?_
        rotate_left
        · intro w'
          go_simp
          with_reducible rfl
        rotate_left
        · simp only [Act.put, List.setIfInBounds_toArray, List.set_cons_zero, List.set_cons_succ, i64_w, i32_w]
          rfl
        refine pure_ (i := 2) (N := some 33) (v := ?_) (a' := ?_) #[true, true, true, false, false, false, false, false, false, false, false, false, false, false, false] rfl rfl (by kernel_rfl) (fun _ _ _ h => h) (Or.inl ⟨by rfl, ?_⟩) ?_ ?_
        rotate_left
        · intro w'
          go_simp
          with_reducible rfl
        rotate_left
        · simp only [Act.put, List.setIfInBounds_toArray, List.set_cons_zero, List.set_cons_succ, i64_w, i32_w]
          rfl
        refine pure_ (i := 3) (N := some 34) (v := ?_) (a' := ?_) #[true, true, true, true, false, false, false, false, false, false, false, false, false, false, false] rfl rfl (by kernel_rfl) (fun _ _ _ h => h) (Or.inl ⟨by rfl, ?_⟩) ?_ ?_
        rotate_left
        · intro w'
          go_simp
          with_reducible rfl
        rotate_left
        · simp only [Act.put, List.setIfInBounds_toArray, List.set_cons_zero, List.set_cons_succ, i64_w, i32_w]
          rfl
        refine pure_ (i := 5) (N := some 36) (v := ?_) (a' := ?_) #[true, true, true, true, false, true, false, false, false, false, false, false, false, false, false] rfl rfl (by kernel_rfl) (fun _ _ _ h => h) (Or.inl ⟨by rfl, ?_⟩) ?_ ?_
        rotate_left
        · intro w'
          go_simp
          with_reducible rfl
        rotate_left
        · simp only [Act.put, List.setIfInBounds_toArray, List.set_cons_zero, List.set_cons_succ, i64_w, i32_w]
          rfl
        refine pure_ (i := 9) (N := some 40) (v := ?_) (a' := ?_) #[true, true, true, true, false, true, false, false, false, true, false, false, false, false, false] rfl rfl (by kernel_rfl) (fun _ _ _ h => h) (Or.inl ⟨by rfl, ?_⟩) ?_ ?_
        rotate_left
        · intro w'
          go_simp
          with_reducible rfl
        rotate_left
        · simp only [Act.put, List.setIfInBounds_toArray, List.set_cons_zero, List.set_cons_succ, i64_w, i32_w]
          rfl
        refine pure_ (i := 11) (N := some 42) (v := ?_) (a' := ?_) #[true, true, true, true, false, true, false, false, false, true, false, true, false, false, false] rfl rfl (by kernel_rfl) (fun _ _ _ h => h) (Or.inl ⟨by rfl, ?_⟩) ?_ ?_
        rotate_left
        · intro w'
          go_simp
          with_reducible rfl
        rotate_left
        · simp only [Act.put, List.setIfInBounds_toArray, List.set_cons_zero, List.set_cons_succ, i64_w, i32_w]
          rfl
        refine pure_ (i := 12) (N := some 43) (v := ?_) (a' := ?_) #[true, true, true, true, false, true, false, false, false, true, false, true, true, false, false] rfl rfl (by kernel_rfl) (fun _ _ _ h => h) (Or.inl ⟨by rfl, ?_⟩) ?_ ?_
        rotate_left
        · intro w'
          go_simp
          with_reducible rfl
        rotate_left
        · simp only [Act.put, List.setIfInBounds_toArray, List.set_cons_zero, List.set_cons_succ, i64_w, i32_w]
          rfl
        refine take_ (i := 4) (N := some 35) (v := ?_) (a' := ?_) #[true, true, true, true, true, true, false, false, false, true, false, true, true, false, false] rfl rfl (by kernel_rfl) (fun _ _ _ h => h) (Or.inl ⟨by rfl, ?_⟩) hHeld ?_ ?_
        rotate_left
        · rintro w' ⟨s0, s1, s2⟩
          go_simp
          with_reducible rfl
        rotate_left
        · simp only [Act.put, List.setIfInBounds_toArray, List.set_cons_zero, List.set_cons_succ, i64_w, i32_w]
          rfl
        refine take_ (i := 6) (N := some 37) (v := ?_) (a' := ?_) #[true, true, true, true, true, true, true, false, false, true, false, true, true, false, false] rfl rfl (by kernel_rfl) (fun _ _ _ h => h) (Or.inl ⟨by rfl, ?_⟩) hHeld ?_ ?_
        rotate_left
        · rintro w' ⟨s0, s1, s2⟩
          go_simp
          with_reducible rfl
        rotate_left
        · simp only [Act.put, List.setIfInBounds_toArray, List.set_cons_zero, List.set_cons_succ, i64_w, i32_w]
          rfl
        refine take_ (i := 10) (N := some 41) (v := ?_) (a' := ?_) #[true, true, true, true, true, true, true, false, false, true, true, true, true, false, false] rfl rfl (by kernel_rfl) (fun _ _ _ h => h) (Or.inl ⟨by rfl, ?_⟩) hHeld ?_ ?_
        rotate_left
        · rintro w' ⟨s0, s1, s2⟩
          go_simp
          with_reducible rfl
        rotate_left
        · simp only [Act.put, List.setIfInBounds_toArray, List.set_cons_zero, List.set_cons_succ, i64_w, i32_w]
          rfl
        refine pure_ (i := 7) (N := some 38) (v := ?_) (a' := ?_) #[true, true, true, true, true, true, true, true, false, true, true, true, true, false, false] rfl rfl (by kernel_rfl) (fun _ _ _ h => h) (Or.inl ⟨by rfl, ?_⟩) ?_ ?_
        rotate_left
        · intro w'
          go_simp
          with_reducible rfl
        rotate_left
        · simp only [Act.put, List.setIfInBounds_toArray, List.set_cons_zero, List.set_cons_succ, i64_w, i32_w]
          rfl
        refine take_ (i := 8) (N := some 39) (v := ?_) (a' := ?_) #[true, true, true, true, true, true, true, true, true, true, true, true, true, false, false] rfl rfl (by kernel_rfl) (fun _ _ _ h => h) (Or.inl ⟨by rfl, ?_⟩) hHeld ?_ ?_
        rotate_left
        · rintro w' ⟨s0, s1, s2⟩
          go_simp
          with_reducible rfl
        rotate_left
        · simp only [Act.put, List.setIfInBounds_toArray, List.set_cons_zero, List.set_cons_succ, i64_w, i32_w]
          rfl
        refine one_ (i := 13) (N := some 44) #[true, true, true, true, true, true, true, true, true, true, true, true, true, true, false] rfl rfl (by kernel_rfl) (by decide) (fun K hK => ?_)
        refine goes_ Try.func20 (by kernel_rfl) rfl #[.slice A2 (rd_L2 qs a).length c2, .int .i64 a, .func (.func 17) #[.pointer (some ⟨ge, 0, none⟩)] #[]] (by rfl) rfl rfl (by (try simp only [List.map_toArray, List.map_cons, List.map_nil]); first | done | rfl) ?_
        refine (run_calls 17 Try.f17 Try.func17 (by kernel_rfl) rfl #[.pointer (some ⟨ge, 0, none⟩)] #[] (G qs ins k) (fun W tr B => (Ev wb n qs ins (some ad) cq Ai ci ge gm W ∧ ge < w16.heap.size) ∧ ∀ k, B k ↔ k = gm) (fun k => k = gm) wb w16 A2 c2 _ a HCQ.out HLQ.out HLEN.out HE6.out.wbl (fun k hk => hk ▸ HE6.out.gm1) (Ev.clo w16) ?hget ⟨⟨HE6.out, HE6.out.lt.1⟩, fun k => Iff.rfl⟩ x st0 tr0 HV.out).mono ?_
        case hget =>
          intro Wx tr B a1 b1 v1 _ hsz hinv hgt
          refine (IH.out Wx a1 b1 0 v1 hinv.1.1 hgt).mono ?_
          rintro e Wy ⟨rfl, hk1, he1⟩
          exact ⟨rfl, B, hk1.mono (fun k hk => (hinv.2 k).2 hk), ⟨⟨he1, hinv.1.2⟩, hinv.2⟩, fun k hk => .inl hk⟩
        rintro e w17 ⟨rfl, B', hk1, hi1, hB1⟩
        refine ⟨_, rfl, ?_⟩
        have NE3 := Aside0.mk (show g3 ≠ gm from by have h1_ := NE3.out; have h2_ := HE.out.lt.2; omega)
        have n1_ := Aside0.mk (HK.out.then_ hk1 (fun k hk => .inl hk))
        have n2_ := Aside0.mk hi1.1.1
        have n3_ := Aside0.mk ((hk1.block g3 (blk_lt BK3.out) NE3.out).trans BK3.out)
        clear HK HE6 BK3 hk1 hi1 hB1
        have HK := n1_
        have HE5 := n2_
        have BK3 := n3_
        clear n1_ n2_ n3_
        refine hK.out _ _ ⟨(blk_cell HE5.out.box 1).trans rfl, (blk_cell BK3.out 1).trans rfl, (HE5.out.wbl.cell (World.block_lt_of_cell? wb _ HX.out)).trans HX.out⟩ (fun hHeld => ?_)
        clear hK K
        refine norm_ (a' := ?_) ?_ ?_
        rotate_left
        · show Act.put _ (some 44) _ = _
          simp only [Act.put, List.setIfInBounds_toArray, List.set_cons_zero, List.set_cons_succ, i64_w, i32_w]
          rfl
        refine pure_ (i := 14) (N := some 5) (v := ?_) (a' := ?_) #[true, true, true, true, true, true, true, true, true, true, true, true, true, true, true] rfl rfl (by kernel_rfl) (fun _ _ _ h => h) (Or.inl ⟨by rfl, ?_⟩) ?_ ?_
        rotate_left
        · intro w'
          go_simp
          with_reducible rfl
        rotate_left
        · simp only [Act.put, List.setIfInBounds_toArray, List.set_cons_zero, List.set_cons_succ, i64_w, i32_w]
          rfl
        refine done_ (by kernel_rfl) ?_
        try go_wp2
        refine start_ (n := 8) (S := fun w' => w'.cell? ⟨ge, 3, none⟩ = some (.map (some gm)) ∧ w'.cell? ⟨g3, 1, none⟩ = some (.int .i64 a)) (ds := [7]) #[false, false, false, false, false, false, false, false] (by kernel_rfl) rfl rfl ⟨(blk_cell HE5.out.box 3).trans rfl, (blk_cell BK3.out 1).trans rfl⟩ (fun hHeld => ?_)
        have n1_ := Aside0.mk (show Kp W w17.drew (fun k => k = gm) from HK.out.then_ (Kp.of_below (below_drew1 (Below.refl _ _)) (fun _ => False)) (fun _ hk => hk.elim))
        have n2_ := Aside0.mk (show Ev wb n qs ins (some ad) cq Ai ci ge gm w17.drew from HE5.out.below (below_drew1 (Below.refl _ _)))
        clear HK HE5 BK3
        generalize w17.drew = w18 at hHeld n1_ n2_ ⊢
        have HK := n1_
        have HE5 := n2_
        clear n1_ n2_
        refine pure_ (i := 0) (N := some 45) (v := ?_) (a' := ?_) #[true, false, false, false, false, false, false, false] rfl rfl (by kernel_rfl) (fun _ _ _ h => h) (Or.inl ⟨by rfl, ?_⟩) ?_ ?_
        rotate_left
        · intro w'
          go_simp
          with_reducible rfl
        rotate_left
        · simp only [Act.put, List.setIfInBounds_toArray, List.set_cons_zero, List.set_cons_succ, i64_w, i32_w]
          rfl
        refine pure_ (i := 1) (N := some 46) (v := ?_) (a' := ?_) #[true, true, false, false, false, false, false, false] rfl rfl (by kernel_rfl) (fun _ _ _ h => h) (Or.inl ⟨by rfl, ?_⟩) ?_ ?_
        rotate_left
        · intro w'
          go_simp
          with_reducible rfl
        rotate_left
        · simp only [Act.put, List.setIfInBounds_toArray, List.set_cons_zero, List.set_cons_succ, i64_w, i32_w]
          rfl
        refine pure_ (i := 2) (N := some 47) (v := ?_) (a' := ?_) #[true, true, true, false, false, false, false, false] rfl rfl (by kernel_rfl) (fun _ _ _ h => h) (Or.inl ⟨by rfl, ?_⟩) ?_ ?_
        rotate_left
        · intro w'
          go_simp
          with_reducible rfl
        rotate_left
        · simp only [Act.put, List.setIfInBounds_toArray, List.set_cons_zero, List.set_cons_succ, i64_w, i32_w]
          rfl
        refine pure_ (i := 4) (N := some 49) (v := ?_) (a' := ?_) #[true, true, true, false, true, false, false, false] rfl rfl (by kernel_rfl) (fun _ _ _ h => h) (Or.inl ⟨by rfl, ?_⟩) ?_ ?_
        rotate_left
        · intro w'
          go_simp
          with_reducible rfl
        rotate_left
        · simp only [Act.put, List.setIfInBounds_toArray, List.set_cons_zero, List.set_cons_succ, i64_w, i32_w]
          rfl
        refine pure_ (i := 6) (N := some 51) (v := ?_) (a' := ?_) #[true, true, true, false, true, false, true, false] rfl rfl (by kernel_rfl) (fun _ _ _ h => h) (Or.inl ⟨by rfl, ?_⟩) ?_ ?_
        rotate_left
        · intro w'
          go_simp
          with_reducible rfl
        rotate_left
        · simp only [Act.put, List.setIfInBounds_toArray, List.set_cons_zero, List.set_cons_succ, i64_w, i32_w]
          rfl
        refine take_ (i := 3) (N := some 48) (v := ?_) (a' := ?_) #[true, true, true, true, true, false, true, false] rfl rfl (by kernel_rfl) (fun _ _ _ h => h) (Or.inl ⟨by rfl, ?_⟩) hHeld ?_ ?_
        rotate_left
        · rintro w' ⟨s0, s1⟩
          go_simp
          with_reducible rfl
        rotate_left
        · simp only [Act.put, List.setIfInBounds_toArray, List.set_cons_zero, List.set_cons_succ, i64_w, i32_w]
          rfl
        refine take_ (i := 5) (N := some 50) (v := ?_) (a' := ?_) #[true, true, true, true, true, true, true, false] rfl rfl (by kernel_rfl) (fun _ _ _ h => h) (Or.inl ⟨by rfl, ?_⟩) hHeld ?_ ?_
        rotate_left
        · rintro w' ⟨s0, s1⟩
          go_simp
          with_reducible rfl
        rotate_left
        · simp only [Act.put, List.setIfInBounds_toArray, List.set_cons_zero, List.set_cons_succ, i64_w, i32_w]
          rfl
        refine last_ (i := 7) (N := none) #[true, true, true, true, true, true, true, true] rfl rfl (by kernel_rfl) (by decide) (fun K hK => ?_)
        obtain ⟨C2, hat2, hC2⟩ := HE5.out.cache
        obtain ⟨li, hli⟩ := keyI a HAB.out.1 HAB.out.2
        obtain ⟨ob, hrun, hat3⟩ := Mp.At.store (T := 57) KI iinj Try.underlying57 hat2 hli (Value.int .i64 x)
        rw [Mp.aset_vals] at hat3
        have n1_ := Aside0.mk (HK.out.then_ (setBlock_kp w18 gm ob) (fun k hk => .inl hk))
        have n2_ := Aside0.mk (HE5.out.store hat3 hC2 ⟨k + 1, HR.out⟩)
        refine skip_ (w1 := setBlock w18 gm ob) (by rfl) rfl ?_ ?_
        · go_simp
          all_goals first | (rw [hrun]; done) | (rw [hrun]; rfl) | (simp [hrun]; done) | exact hrun
        refine hK.out _ _ ?_
        clear hK K
        refine done_ (by kernel_rfl) ?_
        try go_wp2
        go_ret
        exact ⟨rfl, n1_.out, n2_.out⟩


end Go.Proofs.Ytnhkfelpahjgpaa.Qu
