/- slices.IndexFunc and ContainsFunc over a row of keys, with a closure that only reads and lays boxes; ready. Condition: what the closures' contracts ask. -/
import Derived.Test.YteekdkkfegcoeaaDghDp
namespace Go.Proofs.Yteekdkkfegcoeaa.Dg
open Go.RowKit Go.Sort Go.Lib Go.Proofs.YteekdkkfegcoeaaW.PrintWords Go.Proofs.YteekdkkfegcoeaaW.PrintLast Go.Proofs.YteekdkkfegcoeaaW.PrintMore
open Go.Proofs.Yteekdkkfegcoeaa
open Go.ChangeMaps (setBlock)
set_option linter.unusedVariables false
set_option linter.unusedSimpArgs false
attribute [local go_sem] Oper.semAt_some
/-- a closure's contract -/
def Cl (g : Nat) (cb : Array Value) (p : S24 → Bool) (xs : List S24) (W : World) : Prop :=
  ∀ W', Gw W W' → ∀ x ∈ xs, Calls Try.prog g (#[encK x] ++ cb) W' fun e w' => e = .returned (.bool (p x)) ∧ Gw W' w'
def ixf (p : S24 → Bool) (xs : List S24) : Int := match xs.findIdx? p with
  | some i => (i : Int)
  | none => -1
theorem ixf_at (p : S24 → Bool) (xs : List S24) (j : Nat) (hj : j < xs.length) (h : p xs[j] = true) (hb : ∀ t (h : t < xs.length), t < j → p xs[t] = false) : ixf p xs = (j : Int) := by
  unfold ixf
  have : xs.findIdx? p = some j := by
    rw [List.findIdx?_eq_some_iff_getElem]
    exact ⟨hj, h, fun t ht => by rw [hb t (by omega) ht]; simp⟩
  rw [this]
theorem ixf_none (p : S24 → Bool) (xs : List S24) (hb : ∀ t (h : t < xs.length), p xs[t] = false) : ixf p xs = -1 := by
  unfold ixf
  have : xs.findIdx? p = none := by
    rw [List.findIdx?_eq_none_iff]
    intro x hx
    obtain ⟨t, ht, rfl⟩ := List.getElem_of_mem hx
    exact hb t ht
  rw [this]
theorem ixf_ge (p : S24 → Bool) (xs : List S24) : decide (ixf p xs ≥ 0) = xs.any p := by
  unfold ixf
  cases h : xs.findIdx? p with
  | none =>
    rw [List.findIdx?_eq_none_iff] at h
    have : xs.any p = false := by rw [List.any_eq_false]; intro x hx; rw [h x hx]; simp
    rw [this]; rfl
  | some i =>
    rw [List.findIdx?_eq_some_iff_getElem] at h
    obtain ⟨hi, hp, _⟩ := h
    have : xs.any p = true := List.any_eq_true.2 ⟨_, List.getElem_mem hi, hp⟩
    rw [this]
    exact decide_eq_true (show (i : Int) ≥ 0 by omega)
set_option maxHeartbeats 8000000 in
set_option maxRecDepth 100000 in
theorem ixf_calls (g : Nat) (cb : Array Value) (p : S24 → Bool) (A : Option Addr) (c : Nat) (xs : List S24) (W : World) (eg : ∀ args w, (callFunc g args).run Try.prog w = .ok (.enter g args) w) (hC : Kd.C k24 W A xs.length xs) (hl : xs.length < 1000000) (hcl : Cl g cb p xs W) :
    Calls Try.prog 19 #[.slice A xs.length c, .func (.func g) #[] cb] W fun e w' => e = .returned (.int .i64 (ixf p xs)) ∧ Gw W w' := by
  have hu24 := Try.underlying24
  have hu26 := Try.underlying26
  have HC := Aside0.mk hC
  have HCL := Aside0.mk hcl
  clear hC hcl
  generalize hn : xs.length = n at HC hl ⊢
  generalize hr : ixf p xs = r
  have HN := Aside0.mk hn
  have HR := Aside0.mk hr
  clear hn hr
  go_enter Try.func19, Try.ntmps19
  go_wp2
  go_loopg [8] n (fun kx s8 wr => ∃ j : Nat, s8 = .int .i64 j ∧ j ≤ n ∧ n - j ≤ kx ∧ Aside0 (Gw W wr) ∧ Aside0 (∀ t (h : t < xs.length), t < j → p xs[t] = false))
  case atStart => exact ⟨0, rfl, Nat.zero_le _, Nat.le_refl _, ⟨Gw.refl _⟩, ⟨fun t h ht => absurd ht (Nat.not_lt_zero _)⟩⟩
  case round =>
    obtain ⟨j, rfl, hjn, hjk, GR, HF⟩ := hrel
    by_cases hlt : j < n
    · obtain ⟨ad, e_, q0, q1, q2⟩ := elem24 HC.out GR.out.below j hlt
      subst e_
      have hjx : j < xs.length := by rw [HN.out]; exact hlt
      have hxm : rd_T24 xs (j : Int) ∈ xs := by rw [rd_at xs j hjx]; exact List.getElem_mem hjx
      have hcall := HCL.out wr GR.out _ hxm
      have Y := Aside0.mk (show j < xs.length ∧ ∀ h : j < xs.length, rd_T24 xs (j : Int) = xs[j] from ⟨hjx, fun h => rd_at xs j h⟩)
      generalize rd_T24 xs (j : Int) = y at q0 q1 q2 hcall Y
      unfold encK at hcall
      have HY := Aside0.mk hcall
      clear hcall hxm hjx
      have p0 : (0 : Int) ≤ (j : Int) := by omega
      have p1 : (j : Int) < (n : Int) := by omega
      cases hp : p y with
      | true =>
        go_wp2_with (go_at_fn g; refine HY.out.mono ?_; rintro e_ w' ⟨rfl, hgw⟩; rw [hp])
        go_ret
        exact ⟨by rw [← HR.out, ixf_at p xs j Y.out.1 (by rw [← Y.out.2 Y.out.1]; exact hp) HF.out]; rfl, GR.out.trans hgw⟩
      | false =>
        go_wp2_with (go_at_fn g; refine HY.out.mono ?_; rintro e_ w' ⟨rfl, hgw⟩; rw [hp])
        go_roundg (n - (j + 1))
        case measure => omega
        case rel =>
          refine ⟨j + 1, ?_, by omega, Nat.le_refl _, ⟨GR.out.trans hgw⟩, ⟨fun t h ht => ?_⟩⟩
          · first | rfl | go_num
          · rcases Nat.lt_or_ge t j with h1 | h1
            · exact HF.out t h h1
            · obtain rfl : t = j := by omega
              rw [← Y.out.2 h]; exact hp
    · obtain rfl : j = n := by omega
      have p1 : decide ((j : Int) < (j : Int)) = false := decide_eq_false (by omega)
      go_wp2
      go_ret
      exact ⟨by rw [← HR.out, ixf_none p xs (fun t h => HF.out t h (by have := HN.out; omega))]; rfl, GR.out⟩
set_option maxHeartbeats 1000000 in
theorem ctf_calls (g : Nat) (cb : Array Value) (p : S24 → Bool) (A : Option Addr) (c : Nat) (xs : List S24) (W : World) (eg : ∀ args w, (callFunc g args).run Try.prog w = .ok (.enter g args) w) (hC : Kd.C k24 W A xs.length xs) (hl : xs.length < 1000000) (hcl : Cl g cb p xs W) :
    Calls Try.prog 22 #[.slice A xs.length c, .func (.func g) #[] cb] W fun e w' => e = .returned (.bool (xs.any p)) ∧ Gw W w' := by
  have h := Aside0.mk (ixf_calls g cb p A c xs W eg hC hl hcl)
  have hg := ixf_ge p xs
  clear hC hcl
  generalize ixf p xs = r at h hg
  have HGE := Aside0.mk hg
  clear hg
  go_enter Try.func22, Try.ntmps22
  go_wp2_with (go_at_call 19; refine h.out.mono ?_; rintro e_ w' ⟨rfl, hgw⟩)
  go_ret
  exact ⟨by rw [← HGE.out]; rfl, hgw⟩
set_option maxHeartbeats 8000000 in
set_option maxRecDepth 100000 in
theorem unp_calls (g5 pm : Nat) (ord : List S24) (x : S24) (W : World) (hb : W.heap[g5]? = some (.cells #[.map (some pm)] 49 (0, 0))) (hm : Mp.At Try.prog 24 encK W pm (seenL ord)) (hw : wfK x) :
    Calls Try.prog 30 #[encK x, .pointer (some ⟨g5, 0, none⟩)] W fun e w' => e = .returned (.bool (decide (x ∉ ord))) ∧ Gw W w' := by
  have hu24 := Try.underlying24
  have hu49 := Try.underlying49
  obtain ⟨lk, hlk⟩ := keyK x hw
  have HB := Aside0.mk (below_alloc (Below.refl W.heap.size W) (.cells #[.int .i64 x.f0, .int .i64 x.f1, .int .i64 x.f2] 24 (0, 0)))
  have b1 := (blk_cell (blk_alloc hb (.cells #[.int .i64 x.f0, .int .i64 x.f1, .int .i64 x.f2] 24 (0, 0))) 0).trans rfl
  have GW := Aside0.mk ((Gw.refl W).alloc (.cells #[.int .i64 x.f0, .int .i64 x.f1, .int .i64 x.f2] 24 (0, 0)))
  have hrd : ∃ r : Int, r = if x ∈ ord then 1 else 0 := ⟨_, rfl⟩
  obtain ⟨r, hr⟩ := hrd
  have hrun := seen_look (hm.alloc (.cells #[.int .i64 x.f0, .int .i64 x.f1, .int .i64 x.f2] 24 (0, 0))) hlk hr
  have hres : decide (x ∉ ord) = decide (r = 0) := by
    rw [hr]; by_cases h : x ∈ ord <;> simp [h]
  rw [hres]
  unfold encK at hrun ⊢
  clear hm hlk hb hr hres
  have HRUN := Aside0.mk hrun
  clear hrun
  go_enter Try.func30, Try.ntmps30
  go_wp2_with (first | ((with_reducible refine gate_dst (N := 6) rfl ?_); refine wp_seen rfl (.tmp 4) (.tmp 5) rfl pm x r rfl rfl HRUN.out ?_))
  go_ret
  exact ⟨rfl, GW.out⟩
def rdyF (xs ord : List S24) (key : S24) : Bool := decide (key ∉ ord) && !(xs.any fun x => decide (x ∉ ord))
set_option maxHeartbeats 8000000 in
set_option maxRecDepth 100000 in
theorem rdy_calls (base gb gm : Nat) (l : List (S24 × Cel)) (kv : Value) (ks : List S24) (pm : Nat) (ord : List S24) (key : S24) (W : World) (hG : Gr base gb gm l kv ks W) (hm : Mp.At Try.prog 24 encK W pm (seenL ord)) (hw : wfK key) (hwx : ∀ x ∈ (celAt l key).xs, wfK x) (hl : (celAt l key).xs.length < 1000000) :
    Calls Try.prog 21 #[.pointer (some ⟨gb, 0, none⟩), encK key, .map (some pm)] W fun e w' => e = .returned (.bool (rdyF (celAt l key).xs ord key)) ∧ Gw W w' := by
  have mixed : Try.prog.follows .mixedOrders = true := by kernel_rfl
  have eg : ∀ args w, (callFunc 30 args).run Try.prog w = .ok (.enter 30 args) w := enters_of Try.func30 (by kernel_rfl) rfl
  have hu24 := Try.underlying24
  have hu26 := Try.underlying26
  have hu49 := Try.underlying49
  have hu50 := Try.underlying50
  have hu52 := Try.underlying52
  obtain ⟨lk, hlk⟩ := keyK key hw
  obtain ⟨W1, hW1⟩ : ∃ W1, W1 = W.alloc (.cells #[.int .i64 key.f0, .int .i64 key.f1, .int .i64 key.f2] 24 (0, 0)) := ⟨_, rfl⟩
  obtain ⟨W2, hW2⟩ : ∃ W2, W2 = W1.alloc (.cells #[.map (some pm)] 49 (0, 0)) := ⟨_, rfl⟩
  have GW := Aside0.mk (show Gw W W2 from by rw [hW2, hW1]; exact ((Gw.refl W).alloc _).alloc _)
  have hbk : W2.heap[W.heap.size]? = some (.cells #[.int .i64 key.f0, .int .i64 key.f1, .int .i64 key.f2] 24 (0, 0)) := by rw [hW2]; exact blk_alloc (by rw [hW1]; exact blk_new W _) _
  have hs1 : W1.heap.size = W.heap.size + 1 := by rw [hW1]; exact size_alloc1 _ _
  have hbm : W2.heap[W.heap.size + 1]? = some (.cells #[.map (some pm)] 49 (0, 0)) := by rw [hW2, ← hs1]; exact blk_new W1 _
  have hG2 := hG.below GW.out.below
  have hm2 := hm.below GW.out.below
  obtain ⟨g4, hg4⟩ : ∃ g, g = W.heap.size := ⟨_, rfl⟩
  obtain ⟨g5, hg5⟩ : ∃ g, g = W.heap.size + 1 := ⟨_, rfl⟩
  rw [← hg4] at hbk
  rw [← hg5] at hbm
  obtain ⟨Ax, cx, hex, hcx, _⟩ := own24_reads (hG2.cel key)
  have hcl : ∀ nn os, Gw W2 (grow (W2.drewN nn) os) := fun nn os => ⟨nn, os, rfl⟩
  have a0 : ∀ nn os, (grow (W2.drewN nn) os).cell? ⟨g4, 0, none⟩ = some (.int .i64 key.f0) := fun nn os => (blk_cell (blk_below hbk (hcl nn os).below) 0).trans rfl
  have a1 : ∀ nn os, (grow (W2.drewN nn) os).cell? ⟨g4, 1, none⟩ = some (.int .i64 key.f1) := fun nn os => (blk_cell (blk_below hbk (hcl nn os).below) 1).trans rfl
  have a2 : ∀ nn os, (grow (W2.drewN nn) os).cell? ⟨g4, 2, none⟩ = some (.int .i64 key.f2) := fun nn os => (blk_cell (blk_below hbk (hcl nn os).below) 2).trans rfl
  have b0 : ∀ nn os, (grow (W2.drewN nn) os).cell? ⟨g5, 0, none⟩ = some (.map (some pm)) := fun nn os => (blk_cell (blk_below hbm (hcl nn os).below) 0).trans rfl
  have c0 : ∀ nn os, (grow (W2.drewN nn) os).cell? ⟨gb, 0, none⟩ = some (.map (some gm)) := fun nn os => (blk_cell (hG2.below (hcl nn os).below).box 0).trans rfl
  have hfz : W2.drew.cell? ⟨g5, 0, none⟩ = some (.map (some pm)) := b0 1 #[]
  obtain ⟨r, hr⟩ : ∃ r : Int, r = if key ∈ ord then 1 else 0 := ⟨_, rfl⟩
  have hr1 : ∀ nn os, (Instr.lookup 49 (.map (some pm)) (encK key) false).run Try.prog (grow (W2.drewN nn) os) = .ok (.int .i64 r) (grow (W2.drewN nn) os) := fun nn os => seen_look (hm2.below (hcl nn os).below) hlk hr
  have hr2 : ∀ nn os, (Instr.lookup 50 (.map (some gm)) (encK key) false).run Try.prog (grow (W2.drewN nn) os) = .ok (.slice Ax (celAt l key).xs.length cx) (grow (W2.drewN nn) os) := fun nn os => by
    have h := (hG2.below (hcl nn os).below).look key hlk
    rw [hex] at h
    exact h
  have hc : ∀ nn os, Calls Try.prog 22 #[.slice Ax (celAt l key).xs.length cx, .func (.func 30) #[] #[.pointer (some ⟨g5, 0, none⟩)]] (grow (W2.drewN nn) os) fun e w' => e = .returned (.bool ((celAt l key).xs.any fun x => decide (x ∉ ord))) ∧ ∃ q os', w' = grow ((grow (W2.drewN nn) os).drewN q) os' := fun nn os => by
    have hG3 := hG2.below (hcl nn os).below
    obtain ⟨Ay, cy, hey, hcy, hCy⟩ := own24_reads (hG3.cel key)
    rw [hex] at hey
    injection hey with h1 h2 h3
    rw [← h1] at hCy
    refine ctf_calls 30 #[.pointer (some ⟨g5, 0, none⟩)] (fun x => decide (x ∉ ord)) Ax cx (celAt l key).xs (grow (W2.drewN nn) os) eg hCy hl (fun W' hgw x hx => ?_)
    exact unp_calls g5 pm ord x W' (blk_below (blk_below hbm (hcl nn os).below) hgw.below) ((hm2.below (hcl nn os).below).below hgw.below) (hwx x hx)
  unfold encK at hr1 hr2 ⊢
  have hres : rdyF (celAt l key).xs ord key = (decide (r = 0) && !((celAt l key).xs.any fun x => decide (x ∉ ord))) := by
    unfold rdyF
    congr 1
    rw [hr]; by_cases h : key ∈ ord <;> simp [h]
  rw [hres]
  have hr01 : r = 0 ∨ r = 1 := by rw [hr]; split <;> simp
  have HW1 := Aside0.mk hW1
  have HW2 := Aside0.mk hW2
  have HG4 := Aside0.mk hg4
  have HG5 := Aside0.mk hg5
  have HR := Aside0.mk hr
  clear hW1 hW2 hg4 hg5 hr hres hG hm hw hwx hl hlk hbk hbm hG2 hm2 hex hcx hs1 hcl
  generalize ((celAt l key).xs.any fun x => decide (x ∉ ord)) = bb at hc ⊢
  generalize (celAt l key).xs.length = nx at hc hr2
  go_enter Try.func21, Try.ntmps21
  go_wp2_with fail
  rw [← HW1.out, ← HW2.out, ← HG5.out, ← HG4.out]
  rcases hr01 with h0 | h0
  · subst h0
    go_quiet_grown (first | (go_at_call 22; refine Calls.grown_of (hc _ _)))
    go_wp2
    go_ret
    exact ⟨by simp, GW.out.trans ⟨nq, osq, rfl⟩⟩
  · subst h0
    have hr1d : (Instr.lookup 49 (.map (some pm)) (.agg #[.int .i64 key.f0, .int .i64 key.f1, .int .i64 key.f2]) false).run Try.prog W2.drew = .ok (.int .i64 1) W2.drew := hr1 1 #[]
    have a0d : W2.drew.cell? ⟨g4, 0, none⟩ = some (.int .i64 key.f0) := a0 1 #[]
    have a1d : W2.drew.cell? ⟨g4, 1, none⟩ = some (.int .i64 key.f1) := a1 1 #[]
    have a2d : W2.drew.cell? ⟨g4, 2, none⟩ = some (.int .i64 key.f2) := a2 1 #[]
    clear hr1 hr2 hc a0 a1 a2 b0 c0
    go_big_region_o
    all_goals go_wp2
    go_ret
    exact ⟨by simp, GW.out.trans ⟨1, #[], by simp [grow]; rfl⟩⟩
set_option maxHeartbeats 4000000 in
set_option maxRecDepth 100000 in
theorem top1_calls (base gb gm : Nat) (l : List (S24 × Cel)) (kv : Value) (ks : List S24) (pm g1 g2 : Nat) (ord : List S24) (key : S24) (W : World) (hG : Gr base gb gm l kv ks W) (hm : Mp.At Try.prog 24 encK W pm (seenL ord)) (hw : wfK key) (hwx : ∀ x ∈ (celAt l key).xs, wfK x) (hl : (celAt l key).xs.length < 1000000)
    (hb1 : W.heap[g1]? = some (.cells #[.pointer (some ⟨gb, 0, none⟩)] 46 (0, 0))) (hb2 : W.heap[g2]? = some (.cells #[.map (some pm)] 49 (0, 0))) :
    Calls Try.prog 20 #[encK key, .pointer (some ⟨g1, 0, none⟩), .pointer (some ⟨g2, 0, none⟩)] W fun e w' => e = .returned (.bool (rdyF (celAt l key).xs ord key)) ∧ Gw W w' := by
  have hu24 := Try.underlying24
  have b1 := (blk_cell (blk_alloc hb1 (.cells #[.int .i64 key.f0, .int .i64 key.f1, .int .i64 key.f2] 24 (0, 0))) 0).trans rfl
  have b2 := (blk_cell (blk_alloc hb2 (.cells #[.int .i64 key.f0, .int .i64 key.f1, .int .i64 key.f2] 24 (0, 0))) 0).trans rfl
  have GW := Aside0.mk ((Gw.refl W).alloc (.cells #[.int .i64 key.f0, .int .i64 key.f1, .int .i64 key.f2] 24 (0, 0)))
  have hcall := rdy_calls base gb gm l kv ks pm ord key _ (hG.below GW.out.below) (hm.below GW.out.below) hw hwx hl
  have HC := Aside0.mk hcall
  clear hcall hG hm hw hwx hl hb1 hb2
  generalize rdyF (celAt l key).xs ord key = r at HC ⊢
  unfold encK at HC ⊢
  go_enter Try.func20, Try.ntmps20
  go_wp2_with (go_at_call 21; refine HC.out.mono ?_; rintro e_ w' ⟨rfl, hgw⟩)
  go_ret
  exact ⟨rfl, GW.out.trans hgw⟩
end Go.Proofs.Yteekdkkfegcoeaa.Dg
