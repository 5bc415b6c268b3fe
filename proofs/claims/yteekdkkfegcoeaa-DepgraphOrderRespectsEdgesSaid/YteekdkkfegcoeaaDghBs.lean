/- slices.BinarySearchFunc over a sorted row of keys. No condition beyond being sorted. -/
import Derived.Test.YteekdkkfegcoeaaDghKy
import Derived.Deep.LoopGhost
import Derived.Shelf.SlSortCmp.QuietGrown
import Derived.Shelf.SlSortCmp.InsertionK
namespace Go.Proofs.Yteekdkkfegcoeaa.Dg
open Go.RowKit Go.Sort Go.Proofs.YteekdkkfegcoeaaW.PrintWords Go.Proofs.YteekdkkfegcoeaaW.PrintLast Go.Proofs.YteekdkkfegcoeaaW.PrintMore
open Go.Proofs.Yteekdkkfegcoeaa
set_option linter.unusedVariables false
set_option linter.unusedSimpArgs false
attribute [local go_sem] Oper.semAt_some
theorem Gw.trans {a b c : World} (h : Gw a b) (k : Gw b c) : Gw a c := by
  obtain ⟨q, os, rfl⟩ := h
  obtain ⟨p, ps, rfl⟩ := k
  exact ⟨q + p, os ++ ps, by simp [grow, World.drewN, Array.append_assoc, Nat.add_assoc]⟩
/-- where a key stands, or would stand, in a sorted list -/
def pos (xs : List S24) (k : S24) : Nat := xs.countP (fun x => decide (cmpK x k < 0))
def fnd (xs : List S24) (k : S24) : Bool := decide (pos xs k < xs.length) && decide (cmpK (rd_T24 xs (pos xs k)) k = 0)
theorem countP_at {α : Type} (p : α → Bool) : ∀ (l : List α) (i : Nat), i ≤ l.length → (∀ t (h : t < l.length), t < i → p l[t] = true) → (∀ t (h : t < l.length), i ≤ t → p l[t] = false) → l.countP p = i
  | [], i, hi, _, _ => by simp at hi; simp [hi]
  | a :: r, 0, _, _, h2 => by
    rw [List.countP_eq_zero]
    intro x hx
    obtain ⟨t, ht, rfl⟩ := List.getElem_of_mem hx
    simp [h2 t ht (Nat.zero_le _)]
  | a :: r, i + 1, hi, h1, h2 => by
    have ha : p a = true := h1 0 (Nat.succ_pos _) (Nat.succ_pos _)
    rw [List.countP_cons_of_pos ha, countP_at p r i (by simpa using hi) (fun t h ht => h1 (t + 1) (Nat.succ_lt_succ h) (by omega)) (fun t h ht => h2 (t + 1) (Nat.succ_lt_succ h) (by omega))]
/-- what stands ahead of the key stands in front -/
def Mono (xs : List S24) (k : S24) : Prop := ∀ a b (ha : a < xs.length) (hb : b < xs.length), a ≤ b → cmpK xs[b] k < 0 → cmpK xs[a] k < 0
theorem rd_at (xs : List S24) (m : Nat) (h : m < xs.length) : rd_T24 xs (m : Int) = xs[m] := by
  simp [rd_T24, List.getD, h]
theorem elem24 {w w' : World} {A : Option Addr} {n : Nat} {xs : List S24} (h : Kd.C k24 w A n xs) (hb : Below w.heap.size w w') (j : Nat) (hj : j < n) : ∃ ad, A = some ad ∧ w'.cell? (ad.add (j * 3)) = some (.int .i64 (rd_T24 xs j).f0) ∧ w'.cell? ⟨(ad.add (j * 3)).block, (ad.add (j * 3)).off + 1, none⟩ = some (.int .i64 (rd_T24 xs j).f1) ∧ w'.cell? ⟨(ad.add (j * 3)).block, (ad.add (j * 3)).off + 2, none⟩ = some (.int .i64 (rd_T24 xs j).f2) := by
  have := at_T24 (Kd.C_below h hb) (j : Int) (by omega) (by omega)
  rw [Int.toNat_natCast] at this
  exact this
set_option maxHeartbeats 8000000 in
set_option maxRecDepth 100000 in
theorem bs_calls (A : Option Addr) (c : Nat) (xs : List S24) (k : S24) (w : World) (hC : Kd.C k24 w A xs.length xs) (hl : xs.length < 1000000) (hmono : Mono xs k) :
    Calls Try.prog 33 #[.slice A xs.length c, encK k, .func (.func 29) #[] #[]] w fun e w' => e = .returned (.tuple #[.int .i64 (pos xs k : Int), .bool (fnd xs k)]) ∧ Gw w w' := by
  have mixed : Try.prog.follows .mixedOrders = true := by kernel_rfl
  have eg : ∀ args w, (callFunc 29 args).run Try.prog w = .ok (.enter 29 args) w := enters_of Try.func29 (by kernel_rfl) rfl
  have hu24 := Try.underlying24
  have hu26 := Try.underlying26
  have M := Aside0.mk hmono
  have HC := Aside0.mk (Kd.C_below (w1 := w.alloc (.cells #[.int .i64 k.f0, .int .i64 k.f1, .int .i64 k.f2] 24 (0, 0))) hC (below_alloc (Below.refl _ _) _))
  have FR := Aside0.mk (show pos xs k = pos xs k ∧ fnd xs k = fnd xs k from ⟨rfl, rfl⟩)
  clear hC hmono
  generalize hn : xs.length = n at HC hl ⊢
  generalize hp : pos xs k = p at FR ⊢
  generalize hf : fnd xs k = f at FR ⊢
  have HP := Aside0.mk hp
  have HF := Aside0.mk hf
  have HN := Aside0.mk hn
  clear FR hp hf hn
  unfold encK
  go_enter Try.func33, Try.ntmps33
  go_wp2
  have HB1 := Aside0.mk (show (w.alloc (.cells #[.int .i64 k.f0, .int .i64 k.f1, .int .i64 k.f2] 24 (0, 0))).heap[w.heap.size]? = some (.cells #[.int .i64 k.f0, .int .i64 k.f1, .int .i64 k.f2] 24 (0, 0)) from blk_new w _)
  have GW := Aside0.mk ((Gw.refl w).alloc (.cells #[.int .i64 k.f0, .int .i64 k.f1, .int .i64 k.f2] 24 (0, 0)))
  generalize w.heap.size = gb0 at HB1 ⊢
  generalize w.alloc (.cells #[.int .i64 k.f0, .int .i64 k.f1, .int .i64 k.f2] 24 (0, 0)) = w1 at HC GW HB1 ⊢
  go_loopg [9, 10] n (fun kx s9 s10 wr => ∃ lo hi : Nat, s9 = .int .i64 lo ∧ s10 = .int .i64 hi ∧ lo ≤ hi ∧ hi ≤ n ∧ hi - lo ≤ kx ∧ Aside0 (Gw w1 wr) ∧
    Aside0 ((∀ t (h : t < xs.length), t < lo → cmpK xs[t] k < 0) ∧ (∀ t (h : t < xs.length), hi ≤ t → ¬ cmpK xs[t] k < 0)))
  case atStart => exact ⟨0, n, rfl, rfl, Nat.zero_le _, Nat.le_refl _, by omega, ⟨Gw.refl _⟩, ⟨⟨fun t h ht => absurd ht (Nat.not_lt_zero _), fun t h h1 => absurd (HN.out ▸ h) (by omega)⟩⟩⟩
  case round =>
    obtain ⟨lo, hi, rfl, rfl, hlh, hin, hg, GR, I⟩ := hrel
    by_cases hlt : lo < hi
    · obtain ⟨ad, e_, q0, q1, q2⟩ := elem24 HC.out (Below.refl _ _) ((lo + hi) / 2) (by omega)
      subst e_
      obtain ⟨m, hm⟩ : ∃ m, m = (lo + hi) / 2 := ⟨_, rfl⟩
      rw [← hm] at q0 q1 q2
      have HM := Aside0.mk (show m = (lo + hi) / 2 ∧ lo ≤ m ∧ m < hi from ⟨hm, by omega, by omega⟩)
      have hm2 : (((lo : Int) + (hi : Int)) / 2) = (m : Int) := by omega
      clear hm
      obtain ⟨y, hy⟩ : ∃ y, y = rd_T24 xs m := ⟨_, rfl⟩
      rw [← hy] at q0 q1 q2
      have Y := Aside0.mk hy
      clear hy
      have hcl : ∀ nn os, Gw w1 (grow (wr.drewN nn) os) := fun nn os => GR.out.trans ⟨nn, os, rfl⟩
      have lt0 := World.block_lt_of_cell? _ _ q0
      have lt1 := World.block_lt_of_cell? _ _ q1
      have lt2 := World.block_lt_of_cell? _ _ q2
      have c0 : ∀ nn os, (grow (wr.drewN nn) os).cell? (ad.add (m * 3)) = some (.int .i64 y.f0) := fun nn os => ((hcl nn os).below.cell lt0).trans q0
      have c1 : ∀ nn os, (grow (wr.drewN nn) os).cell? ⟨(ad.add (m * 3)).block, (ad.add (m * 3)).off + 1, none⟩ = some (.int .i64 y.f1) := fun nn os => ((hcl nn os).below.cell lt1).trans q1
      have c2 : ∀ nn os, (grow (wr.drewN nn) os).cell? ⟨(ad.add (m * 3)).block, (ad.add (m * 3)).off + 2, none⟩ = some (.int .i64 y.f2) := fun nn os => ((hcl nn os).below.cell lt2).trans q2
      have b0 : ∀ nn os, (grow (wr.drewN nn) os).cell? ⟨gb0, 0, none⟩ = some (.int .i64 k.f0) := fun nn os => ((hcl nn os).below.cell (blk_lt HB1.out)).trans ((blk_cell HB1.out 0).trans rfl)
      have b1 : ∀ nn os, (grow (wr.drewN nn) os).cell? ⟨gb0, 1, none⟩ = some (.int .i64 k.f1) := fun nn os => ((hcl nn os).below.cell (blk_lt HB1.out)).trans ((blk_cell HB1.out 1).trans rfl)
      have b2 : ∀ nn os, (grow (wr.drewN nn) os).cell? ⟨gb0, 2, none⟩ = some (.int .i64 k.f2) := fun nn os => ((hcl nn os).below.cell (blk_lt HB1.out)).trans ((blk_cell HB1.out 2).trans rfl)
      have HCL := Aside0.mk hcl
      have hc : ∀ nn os, Calls Try.prog 29 #[.agg #[.int .i64 y.f0, .int .i64 y.f1, .int .i64 y.f2], .agg #[.int .i64 k.f0, .int .i64 k.f1, .int .i64 k.f2]] (grow (wr.drewN nn) os) fun e w' => e = .returned (.int .i64 (cmpK y k)) ∧ ∃ q os', w' = grow ((grow (wr.drewN nn) os).drewN q) os' := fun nn os => cmp_calls y k _
      have hmn : (m : Int) < (n : Int) := by have := HM.out; omega
      have hm0 : (0 : Int) ≤ (m : Int) := by omega
      clear q0 q1 q2 lt0 lt1 lt2 hcl
      generalize hcy : cmpK y k = cy at hc
      have CY := Aside0.mk hcy
      clear hcy
      by_cases hyx : cy < 0
      · go_wp2_with fail
        go_quiet_grown (first | (go_at_fn 29; refine Calls.grown_of (hc _ _)))
        go_wp2
        go_roundg (hi - (m + 1))
        case measure => have := HM.out; omega
        case rel =>
          have h1 := HM.out
          refine ⟨m + 1, hi, rfl, rfl, by omega, hin, Nat.le_refl _, ⟨HCL.out nq osq⟩, ⟨⟨fun t h ht => ?_, I.out.2⟩⟩⟩
          refine M.out t m h (by have := HN.out; omega) (by omega) ?_
          rw [← rd_at xs m (by have := HN.out; omega), ← Y.out, CY.out]
          exact hyx
      · go_wp2_with fail
        go_quiet_grown (first | (go_at_fn 29; refine Calls.grown_of (hc _ _)))
        go_wp2
        go_roundg (m - lo)
        case measure => have := HM.out; omega
        case rel =>
          have h1 := HM.out
          refine ⟨lo, m, rfl, rfl, by omega, by omega, Nat.le_refl _, ⟨HCL.out nq osq⟩, ⟨⟨I.out.1, fun t h ht => Int.not_lt.1 fun hlt2 => ?_⟩⟩⟩
          have := M.out m t (by have := HN.out; omega) h ht hlt2
          rw [← rd_at xs m (by have := HN.out; omega), ← Y.out, CY.out] at this
          exact absurd this (Int.not_lt.2 hyx)
    · obtain rfl : hi = lo := by omega
      have hpp : hi = p := by
        rw [← HP.out]
        refine (countP_at _ xs hi (by have := HN.out; omega) (fun t h ht => decide_eq_true (I.out.1 t h ht)) (fun t h ht => decide_eq_false (I.out.2 t h ht))).symm
      subst hpp
      by_cases hn2 : hi < n
      · obtain ⟨ad, e_, q0, q1, q2⟩ := elem24 HC.out (Below.refl _ _) hi hn2
        subst e_
        obtain ⟨y, hy⟩ : ∃ y, y = rd_T24 xs hi := ⟨_, rfl⟩
        rw [← hy] at q0 q1 q2
        have Y := Aside0.mk hy
        clear hy
        have hcl : ∀ nn os, Gw w1 (grow (wr.drewN nn) os) := fun nn os => GR.out.trans ⟨nn, os, rfl⟩
        have lt0 := World.block_lt_of_cell? _ _ q0
        have lt1 := World.block_lt_of_cell? _ _ q1
        have lt2 := World.block_lt_of_cell? _ _ q2
        have c0 : ∀ nn os, (grow (wr.drewN nn) os).cell? (ad.add (hi * 3)) = some (.int .i64 y.f0) := fun nn os => ((hcl nn os).below.cell lt0).trans q0
        have c1 : ∀ nn os, (grow (wr.drewN nn) os).cell? ⟨(ad.add (hi * 3)).block, (ad.add (hi * 3)).off + 1, none⟩ = some (.int .i64 y.f1) := fun nn os => ((hcl nn os).below.cell lt1).trans q1
        have c2 : ∀ nn os, (grow (wr.drewN nn) os).cell? ⟨(ad.add (hi * 3)).block, (ad.add (hi * 3)).off + 2, none⟩ = some (.int .i64 y.f2) := fun nn os => ((hcl nn os).below.cell lt2).trans q2
        have b0 : ∀ nn os, (grow (wr.drewN nn) os).cell? ⟨gb0, 0, none⟩ = some (.int .i64 k.f0) := fun nn os => ((hcl nn os).below.cell (blk_lt HB1.out)).trans ((blk_cell HB1.out 0).trans rfl)
        have b1 : ∀ nn os, (grow (wr.drewN nn) os).cell? ⟨gb0, 1, none⟩ = some (.int .i64 k.f1) := fun nn os => ((hcl nn os).below.cell (blk_lt HB1.out)).trans ((blk_cell HB1.out 1).trans rfl)
        have b2 : ∀ nn os, (grow (wr.drewN nn) os).cell? ⟨gb0, 2, none⟩ = some (.int .i64 k.f2) := fun nn os => ((hcl nn os).below.cell (blk_lt HB1.out)).trans ((blk_cell HB1.out 2).trans rfl)
        have HCL := Aside0.mk hcl
        have hc : ∀ nn os, Calls Try.prog 29 #[.agg #[.int .i64 y.f0, .int .i64 y.f1, .int .i64 y.f2], .agg #[.int .i64 k.f0, .int .i64 k.f1, .int .i64 k.f2]] (grow (wr.drewN nn) os) fun e w' => e = .returned (.int .i64 (cmpK y k)) ∧ ∃ q os', w' = grow ((grow (wr.drewN nn) os).drewN q) os' := fun nn os => cmp_calls y k _
        have hmn : (hi : Int) < (n : Int) := by omega
        have hm0 : (0 : Int) ≤ (hi : Int) := by omega
        clear q0 q1 q2 lt0 lt1 lt2 hcl
        generalize hcy : cmpK y k = cy at hc
        have CY := Aside0.mk hcy
        clear hcy
        by_cases hz : cy = 0
        · subst hz
          go_wp2_with fail
          go_quiet_grown (first | (go_at_fn 29; refine Calls.grown_of (hc _ _)))
          go_wp2
          go_ret2
          refine ⟨?_, GW.out.trans (HCL.out nq osq)⟩
          rw [← HF.out]
          unfold fnd
          rw [HP.out, HN.out, ← Y.out, CY.out]
          simp [hn2]
        · go_wp2_with fail
          go_quiet_grown (first | (go_at_fn 29; refine Calls.grown_of (hc _ _)))
          go_wp2
          go_ret2
          refine ⟨?_, GW.out.trans (HCL.out nq osq)⟩
          rw [← HF.out]
          unfold fnd
          rw [HP.out, HN.out, ← Y.out, CY.out]
          simp [hn2, hz]
      · obtain rfl : hi = n := by omega
        have hmn : decide ((hi : Int) < (hi : Int)) = false := decide_eq_false (by omega)
        go_wp2_with fail
        go_big_region_o
        all_goals go_wp2
        go_ret2
        refine ⟨?_, GW.out.trans (GR.out.trans ?_)⟩
        · rw [← HF.out]
          unfold fnd
          rw [HP.out, HN.out]
          simp
        · first | exact ⟨nq, osq, rfl⟩ | exact Gw.refl _ | exact (Gw.refl _).drew | exact (Gw.refl _).drewN _ | exact ⟨_, #[], by simp [grow]; rfl⟩
end Go.Proofs.Yteekdkkfegcoeaa.Dg
