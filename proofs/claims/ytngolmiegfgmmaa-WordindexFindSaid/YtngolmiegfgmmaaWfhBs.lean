/- slices.BinarySearchFunc over entries whose names increase. Condition: the name is that of entry p. -/
import Derived.Test.YtngolmiegfgmmaaWfx0
import Derived.Test.YtngolmiegfgmmaaWfhSo
import Derived.Test.YtngolmiegfgmmaaCb
import Derived.Deep.LoopGhost
import Derived.Shelf.SlSortCmp.QuietGrown
import Derived.Shelf.SlSortCmp.InsertionK
namespace Go.Proofs.Ytngolmiegfgmmaa.Wf
open Go.RowKit Go.Sort Go.Proofs.YtngolmiegfgmmaaW.PrintWords Go.Proofs.YtngolmiegfgmmaaW.PrintLast Go.Proofs.YtngolmiegfgmmaaW.PrintMore
open Go.Proofs.Ytngolmiegfgmmaa
set_option linter.unusedVariables false
set_option linter.unusedSimpArgs false
attribute [local go_sem] Oper.semAt_some
def Gw (W W' : World) : Prop := ∃ q os, W' = grow (W.drewN q) os
theorem Gw.refl (W : World) : Gw W W := ⟨0, #[], by simp [World.drewN]⟩
theorem Gw.drewN {W W' : World} (h : Gw W W') (n : Nat) : Gw W (W'.drewN n) := by
  obtain ⟨q, os, rfl⟩ := h
  exact ⟨q + n, os, by simp [World.drewN, grow, Nat.add_assoc]⟩
theorem Gw.drew {W W' : World} (h : Gw W W') : Gw W W'.drew := h.drewN 1
theorem Gw.alloc {W W' : World} (h : Gw W W') (o : Obj) : Gw W (W'.alloc o) := by
  obtain ⟨q, os, rfl⟩ := h
  exact ⟨q, os ++ #[o], by rw [alloc_eq_grow, grow_grow]⟩
theorem Gw.below {W W' : World} (h : Gw W W') : Below W.heap.size W W' := by
  obtain ⟨q, os, rfl⟩ := h
  refine ⟨rfl, rfl, rfl, by simp [grow, World.drewN], fun k hk => ?_⟩
  show (W.heap ++ os)[k]? = _
  rw [Array.getElem?_append_left hk]
theorem Gw.trans {a b c : World} (h : Gw a b) (k : Gw b c) : Gw a c := by
  obtain ⟨q, os, rfl⟩ := h
  obtain ⟨p, ps, rfl⟩ := k
  exact ⟨q + p, os ++ ps, by simp [grow, World.drewN, Array.append_assoc, Nat.add_assoc]⟩
def cmpN (x y : S43) : Int := Lib.compareBytes x.f0.data.toList y.f0.data.toList
theorem cmp_at (x y : S43) (A B : Option Addr) (n m c d : Nat) (W : World) : Calls Try.prog 23 #[.agg #[.string x.f0, .int .u32 x.f1, .slice A n c], .agg #[.string y.f0, .int .u32 y.f1, .slice B m d]] W fun e w' => e = .returned (.int .i64 (cmpN x y)) ∧ ∃ q os', w' = grow (W.drewN q) os' :=
  cmp23 ⟨x.f0, x.f1, .slice A n c, rfl⟩ ⟨y.f0, y.f1, .slice B m d, rfl⟩ W
theorem elem43 {w w' : World} {A : Option Addr} {n : Nat} {xs : List S43} (h : Kd.C k43 w A n xs) (hb : Below w.heap.size w w') (j : Nat) (hj : j < n) : ∃ ad A2 c2, A = some ad ∧ w'.cell? (ad.add (j * 3)) = some (.string (rd_T43 xs j).f0) ∧ w'.cell? ⟨(ad.add (j * 3)).block, (ad.add (j * 3)).off + 1, none⟩ = some (.int .u32 (rd_T43 xs j).f1) ∧ w'.cell? ⟨(ad.add (j * 3)).block, (ad.add (j * 3)).off + 2, none⟩ = some (.slice A2 (rd_T43 xs j).f2.length c2) := by
  obtain ⟨ad, A2, c2, e, q0, q1, q2, _, _⟩ := at_T43 (Kd.C_below h hb) (j : Int) (by omega) (by omega)
  rw [Int.toNat_natCast] at q0 q1 q2
  exact ⟨ad, A2, c2, e, q0, q1, q2⟩
set_option maxHeartbeats 8000000 in
set_option maxRecDepth 100000 in
theorem bs25 (A : Option Addr) (c : Nat) (xs : List S43) (k : S43) (Ak : Option Addr) (nk ck p : Nat) (w : World) (hC : Kd.C k43 w A xs.length xs) (hl : xs.length < 1000000)
    (hp : p < xs.length) (hlo : ∀ t : Nat, t < p → cmpN (rd_T43 xs t) k < 0) (hhi : ∀ t : Nat, p ≤ t → t < xs.length → 0 ≤ cmpN (rd_T43 xs t) k) (heq : cmpN (rd_T43 xs p) k = 0) :
    Calls Try.prog 25 #[.slice A xs.length c, .agg #[.string k.f0, .int .u32 k.f1, .slice Ak nk ck], .func (.func 23) #[] #[]] w fun e w' => e = .returned (.tuple #[.int .i64 (p : Int), .bool true]) ∧ Below w.heap.size w w' := by
  have mixed : Try.prog.follows .mixedOrders = true := by kernel_rfl
  have eg : ∀ args w, (callFunc 23 args).run Try.prog w = .ok (.enter 23 args) w := enters_of Try.func23 (by kernel_rfl) rfl
  have hu43 := Try.underlying43
  have hu29 := Try.underlying29
  have HC := Aside0.mk (Kd.C_below (w1 := w.alloc (.cells #[.string k.f0, .int .u32 k.f1, .slice Ak nk ck] 43 (0, 0))) hC (below_alloc (Below.refl _ _) _))
  have HLO := Aside0.mk hlo
  have HHI := Aside0.mk hhi
  have HEQ := Aside0.mk heq
  clear hC hlo hhi heq
  generalize hn : xs.length = n at HC hl hp HHI ⊢
  have HN := Aside0.mk hn
  clear hn
  go_enter Try.func25, Try.ntmps25
  go_wp2
  have HB1 := Aside0.mk (show (w.alloc (.cells #[.string k.f0, .int .u32 k.f1, .slice Ak nk ck] 43 (0, 0))).heap[w.heap.size]? = some (.cells #[.string k.f0, .int .u32 k.f1, .slice Ak nk ck] 43 (0, 0)) from blk_new w _)
  have GW := Aside0.mk ((Gw.refl w).alloc (.cells #[.string k.f0, .int .u32 k.f1, .slice Ak nk ck] 43 (0, 0)))
  generalize w.heap.size = gb0 at HB1 ⊢
  generalize w.alloc (.cells #[.string k.f0, .int .u32 k.f1, .slice Ak nk ck] 43 (0, 0)) = w1 at HC GW HB1 ⊢
  go_loopg [9, 10] n (fun kx s9 s10 wr => ∃ lo hi : Nat, s9 = .int .i64 lo ∧ s10 = .int .i64 hi ∧ lo ≤ p ∧ p ≤ hi ∧ hi ≤ n ∧ hi - lo ≤ kx ∧ Aside0 (Gw w1 wr))
  case atStart => exact ⟨0, n, rfl, rfl, Nat.zero_le _, Nat.le_of_lt hp, Nat.le_refl _, by omega, ⟨Gw.refl _⟩⟩
  case round =>
    obtain ⟨lo, hi, rfl, rfl, hlp, hph, hin, hg, GR⟩ := hrel
    by_cases hlt : lo < hi
    · obtain ⟨ad, A2, c2, e_, q0, q1, q2⟩ := elem43 HC.out (Below.refl _ _) ((lo + hi) / 2) (by omega)
      subst e_
      obtain ⟨m, hm⟩ : ∃ m, m = (lo + hi) / 2 := ⟨_, rfl⟩
      rw [← hm] at q0 q1 q2
      have HM := Aside0.mk (show m = (lo + hi) / 2 ∧ lo ≤ m ∧ m < hi from ⟨hm, by omega, by omega⟩)
      have hm2 : (((lo : Int) + (hi : Int)) / 2) = (m : Int) := by omega
      clear hm
      obtain ⟨y, hy⟩ : ∃ y, y = rd_T43 xs m := ⟨_, rfl⟩
      rw [← hy] at q0 q1 q2
      have Y := Aside0.mk hy
      clear hy
      have hcl : ∀ nn os, Gw w1 (grow (wr.drewN nn) os) := fun nn os => GR.out.trans ⟨nn, os, rfl⟩
      have lt0 := World.block_lt_of_cell? _ _ q0
      have lt1 := World.block_lt_of_cell? _ _ q1
      have lt2 := World.block_lt_of_cell? _ _ q2
      have c0 : ∀ nn os, (grow (wr.drewN nn) os).cell? (ad.add (m * 3)) = some (.string y.f0) := fun nn os => ((hcl nn os).below.cell lt0).trans q0
      have c1 : ∀ nn os, (grow (wr.drewN nn) os).cell? ⟨(ad.add (m * 3)).block, (ad.add (m * 3)).off + 1, none⟩ = some (.int .u32 y.f1) := fun nn os => ((hcl nn os).below.cell lt1).trans q1
      have cc2 : ∀ nn os, (grow (wr.drewN nn) os).cell? ⟨(ad.add (m * 3)).block, (ad.add (m * 3)).off + 2, none⟩ = some (.slice A2 y.f2.length c2) := fun nn os => ((hcl nn os).below.cell lt2).trans q2
      have b0 : ∀ nn os, (grow (wr.drewN nn) os).cell? ⟨gb0, 0, none⟩ = some (.string k.f0) := fun nn os => ((hcl nn os).below.cell (blk_lt HB1.out)).trans ((blk_cell HB1.out 0).trans rfl)
      have b1 : ∀ nn os, (grow (wr.drewN nn) os).cell? ⟨gb0, 1, none⟩ = some (.int .u32 k.f1) := fun nn os => ((hcl nn os).below.cell (blk_lt HB1.out)).trans ((blk_cell HB1.out 1).trans rfl)
      have b2 : ∀ nn os, (grow (wr.drewN nn) os).cell? ⟨gb0, 2, none⟩ = some (.slice Ak nk ck) := fun nn os => ((hcl nn os).below.cell (blk_lt HB1.out)).trans ((blk_cell HB1.out 2).trans rfl)
      have HCL := Aside0.mk hcl
      have hc : ∀ nn os, Calls Try.prog 23 #[.agg #[.string y.f0, .int .u32 y.f1, .slice A2 y.f2.length c2], .agg #[.string k.f0, .int .u32 k.f1, .slice Ak nk ck]] (grow (wr.drewN nn) os) fun e w' => e = .returned (.int .i64 (cmpN y k)) ∧ ∃ q os', w' = grow ((grow (wr.drewN nn) os).drewN q) os' := fun nn os => cmp_at y k _ _ _ _ _ _ _
      have hmn : (m : Int) < (n : Int) := by have := HM.out; omega
      have hm0 : (0 : Int) ≤ (m : Int) := by omega
      clear q0 q1 q2 lt0 lt1 lt2 hcl
      generalize hcy : cmpN y k = cy at hc
      have CY := Aside0.mk hcy
      clear hcy
      by_cases hyx : cy < 0
      · go_wp2_with fail
        go_quiet_grown (first | (go_at_fn 23; refine Calls.grown_of (hc _ _)))
        go_wp2
        go_roundg (hi - (m + 1))
        case measure => have := HM.out; omega
        case rel =>
          have h1 := HM.out
          refine ⟨m + 1, hi, rfl, rfl, ?_, hph, hin, Nat.le_refl _, ⟨HCL.out nq osq⟩⟩
          refine Nat.lt_of_not_le fun h => ?_
          have h2 := HHI.out m h (by omega)
          rw [← Y.out, CY.out] at h2
          omega
      · go_wp2_with fail
        go_quiet_grown (first | (go_at_fn 23; refine Calls.grown_of (hc _ _)))
        go_wp2
        go_roundg (m - lo)
        case measure => have := HM.out; omega
        case rel =>
          have h1 := HM.out
          refine ⟨lo, m, rfl, rfl, hlp, ?_, by omega, Nat.le_refl _, ⟨HCL.out nq osq⟩⟩
          refine Nat.le_of_not_lt fun h => ?_
          have h2 := HLO.out m h
          rw [← Y.out, CY.out] at h2
          omega
    · obtain rfl : hi = lo := by omega
      obtain rfl : hi = p := by omega
      obtain ⟨ad, A2, c2, e_, q0, q1, q2⟩ := elem43 HC.out (Below.refl _ _) hi hp
      subst e_
      obtain ⟨y, hy⟩ : ∃ y, y = rd_T43 xs hi := ⟨_, rfl⟩
      rw [← hy] at q0 q1 q2
      have Y := Aside0.mk hy
      clear hy
      have hcl : ∀ nn os, Gw w1 (grow (wr.drewN nn) os) := fun nn os => GR.out.trans ⟨nn, os, rfl⟩
      have lt0 := World.block_lt_of_cell? _ _ q0
      have lt1 := World.block_lt_of_cell? _ _ q1
      have lt2 := World.block_lt_of_cell? _ _ q2
      have c0 : ∀ nn os, (grow (wr.drewN nn) os).cell? (ad.add (hi * 3)) = some (.string y.f0) := fun nn os => ((hcl nn os).below.cell lt0).trans q0
      have c1 : ∀ nn os, (grow (wr.drewN nn) os).cell? ⟨(ad.add (hi * 3)).block, (ad.add (hi * 3)).off + 1, none⟩ = some (.int .u32 y.f1) := fun nn os => ((hcl nn os).below.cell lt1).trans q1
      have cc2 : ∀ nn os, (grow (wr.drewN nn) os).cell? ⟨(ad.add (hi * 3)).block, (ad.add (hi * 3)).off + 2, none⟩ = some (.slice A2 y.f2.length c2) := fun nn os => ((hcl nn os).below.cell lt2).trans q2
      have b0 : ∀ nn os, (grow (wr.drewN nn) os).cell? ⟨gb0, 0, none⟩ = some (.string k.f0) := fun nn os => ((hcl nn os).below.cell (blk_lt HB1.out)).trans ((blk_cell HB1.out 0).trans rfl)
      have b1 : ∀ nn os, (grow (wr.drewN nn) os).cell? ⟨gb0, 1, none⟩ = some (.int .u32 k.f1) := fun nn os => ((hcl nn os).below.cell (blk_lt HB1.out)).trans ((blk_cell HB1.out 1).trans rfl)
      have b2 : ∀ nn os, (grow (wr.drewN nn) os).cell? ⟨gb0, 2, none⟩ = some (.slice Ak nk ck) := fun nn os => ((hcl nn os).below.cell (blk_lt HB1.out)).trans ((blk_cell HB1.out 2).trans rfl)
      have HCL := Aside0.mk hcl
      have hc : ∀ nn os, Calls Try.prog 23 #[.agg #[.string y.f0, .int .u32 y.f1, .slice A2 y.f2.length c2], .agg #[.string k.f0, .int .u32 k.f1, .slice Ak nk ck]] (grow (wr.drewN nn) os) fun e w' => e = .returned (.int .i64 (cmpN y k)) ∧ ∃ q os', w' = grow ((grow (wr.drewN nn) os).drewN q) os' := fun nn os => cmp_at y k _ _ _ _ _ _ _
      have hmn : (hi : Int) < (n : Int) := by omega
      have hm0 : (0 : Int) ≤ (hi : Int) := by omega
      clear q0 q1 q2 lt0 lt1 lt2 hcl
      have hcy : cmpN y k = 0 := by rw [Y.out]; exact HEQ.out
      rw [hcy] at hc
      clear hcy
      go_wp2_with fail
      go_quiet_grown (first | (go_at_fn 23; refine Calls.grown_of (hc _ _)))
      go_wp2
      go_ret2
      exact ⟨rfl, (GW.out.trans (HCL.out nq osq)).below⟩
end Go.Proofs.Ytngolmiegfgmmaa.Wf
