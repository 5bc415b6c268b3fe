/- slices.Reverse over steps. Condition: fewer than 1000000 steps. -/
import Derived.Test.YtgjcembdmohhkaaFsx0
import Derived.Test.YtgjcembdmohhkaaFshVs
import Derived.BigQuiet
namespace Go.Proofs.Ytgjcembdmohhkaa.Fs
open Go.RowKit Go.Proofs.YtgjcembdmohhkaaW.PrintWords Go.Proofs.YtgjcembdmohhkaaW.PrintLast Go.Proofs.YtgjcembdmohhkaaW.PrintMore
open Go.Proofs.Ytgjcembdmohhkaa
set_option linter.unusedVariables false
set_option linter.unusedSimpArgs false

attribute [local go_sem] Oper.semAt_some
def sw (l : List S59) (i j : Nat) : List S59 := (l.set i (l.getD j z59)).set j (l.getD i z59)
def rvk (P : List S59) : Nat → List S59
  | 0 => P
  | k + 1 => sw (rvk P k) k (P.length - 1 - k)
theorem rvk_len (P : List S59) : ∀ k, (rvk P k).length = P.length
  | 0 => rfl
  | k + 1 => by unfold rvk sw; rw [List.length_set, List.length_set, rvk_len P k]
theorem rvk_get (P : List S59) : ∀ k, 2 * k ≤ P.length → ∀ q, q < P.length → (rvk P k)[q]? = if q < k ∨ P.length - 1 - k < q then P[P.length - 1 - q]? else P[q]?
  | 0, _, q, hq => by rw [if_neg (by omega)]; rfl
  | k + 1, h, q, hq => by
    have ih := rvk_get P k (by omega)
    have hl := rvk_len P k
    have e1 : (rvk P k).getD k z59 = P.getD k z59 := by
      rw [List.getD_eq_getElem?_getD, ih k (by omega), if_neg (by omega), List.getD_eq_getElem?_getD]
    have e2 : (rvk P k).getD (P.length - 1 - k) z59 = P.getD (P.length - 1 - k) z59 := by
      rw [List.getD_eq_getElem?_getD, ih _ (by omega), if_neg (by omega), List.getD_eq_getElem?_getD]
    unfold rvk sw
    rw [e1, e2, List.getElem?_set, List.getElem?_set, List.length_set, hl]
    by_cases h1 : P.length - 1 - k = q
    · rw [if_pos h1, if_pos (by omega), if_pos (by omega), show P.length - 1 - q = k from by omega, List.getD_eq_getElem?_getD, List.getElem?_eq_getElem (by omega : k < P.length)]
      rfl
    · rw [if_neg h1]
      by_cases h2 : k = q
      · rw [if_pos h2, if_pos (by omega), if_pos (by omega), ← h2, List.getD_eq_getElem?_getD, List.getElem?_eq_getElem (by omega : P.length - 1 - k < P.length)]
        rfl
      · rw [if_neg h2, ih q hq]
        by_cases h3 : q < k ∨ P.length - 1 - k < q
        · rw [if_pos h3, if_pos (by omega)]
        · rw [if_neg h3, if_neg (by omega)]
theorem rvk_end (P : List S59) (k : Nat) (h1 : 2 * k ≤ P.length) (h2 : P.length ≤ 2 * k + 1) : rvk P k = P.reverse := by
  apply List.ext_getElem?
  intro q
  rcases Nat.lt_or_ge q P.length with hq | hq
  · rw [rvk_get P k h1 q hq, List.getElem?_reverse hq]
    by_cases h3 : q < k ∨ P.length - 1 - k < q
    · rw [if_pos h3]
    · rw [if_neg h3, show P.length - 1 - q = q from by omega]
  · rw [List.getElem?_eq_none (by rw [rvk_len]; exact hq), List.getElem?_eq_none (by rw [List.length_reverse]; exact hq)]
theorem M_any {w : World} {base : Nat} {ok ok' : Nat → Prop} {x : S59} {cs : List Value} (h : k59.M w base ok x cs) : k59.M w base ok' x cs := by
  obtain rfl := k59_openM h
  exact k59_mkM _ _ _ x
theorem rv_set {W : World} {base g n cap : Nat} {ok : Nat → Prop} {xs : List S59} (h : Kd.R k59 59 W base ok (.slice (some ⟨g, 0, none⟩) n cap) xs) (i : Nat) (hi : i < n) (s : S59) :
    Kd.R k59 59 (((W.setCell ⟨g, i * 3, none⟩ (.int .i64 s.f0)).setCell ⟨g, i * 3 + 1, none⟩ (.int .i64 s.f1)).setCell ⟨g, i * 3 + 2, none⟩ (.int .i64 s.f2)) base ok (.slice (some ⟨g, 0, none⟩) n cap) (xs.set i s) ∧
    W.grownBy (((W.setCell ⟨g, i * 3, none⟩ (.int .i64 s.f0)).setCell ⟨g, i * 3 + 1, none⟩ (.int .i64 s.f1)).setCell ⟨g, i * 3 + 2, none⟩ (.int .i64 s.f2)) (some g) := by
  obtain ⟨c, hcl, hM, hcc, hfr⟩ := Kd.R_elem h z59 (i : Int) (by omega) (by omega)
  have := Kd.R_seg h (i : Int) (by omega) (by omega) (seg := [.int .i64 s.f0, .int .i64 s.f1, .int .i64 s.f2]) (j := 0) hcl hcc (show 0 + 3 ≤ 3 by decide) (x' := s) (okp := fun _ => False) (by
    have e : (List.drop (0 + ([Value.int .i64 s.f0, Value.int .i64 s.f1, Value.int .i64 s.f2] : List Value).length) c) = [] := List.drop_eq_nil_of_le (by rw [hcl]; exact Nat.le_refl _)
    rw [e, List.take_zero, List.nil_append, List.append_nil]
    exact k59_mkM _ _ _ s) (fun _ hk => hk.elim)
  rw [Int.toNat_natCast] at this
  exact this
theorem cells3 {W : World} {base g n cap : Nat} {ok : Nat → Prop} {xs : List S59} (h : Kd.R k59 59 W base ok (.slice (some ⟨g, 0, none⟩) n cap) xs) (i : Nat) (hi : i < n) :
    (W.cell? ⟨g, i * 3, none⟩ = some (.int .i64 (xs.getD i z59).f0) ∧ W.cell? ⟨g, i * 3 + 1, none⟩ = some (.int .i64 (xs.getD i z59).f1) ∧ W.cell? ⟨g, i * 3 + 2, none⟩ = some (.int .i64 (xs.getD i z59).f2)) ∧ ∀ q, W.frozen? ⟨g, i * 3 + q, none⟩ = false := by
  obtain ⟨c, hcl, hM, hcc, hfr⟩ := Kd.R_elem h z59 (i : Int) (by omega) (by omega)
  rw [Int.toNat_natCast] at hM hcc hfr
  obtain rfl := k59_openM hM
  exact ⟨⟨hcc 0 _ rfl, hcc 1 _ rfl, hcc 2 _ rfl⟩, hfr⟩
set_option maxHeartbeats 8000000 in
set_option maxRecDepth 100000 in
theorem reverse29 (A : Option Addr) (cap base : Nat) (ok : Nat → Prop) (P : List S59) (W : World) (h : Kd.R k59 59 W base ok (.slice A P.length cap) P) (hl : P.length < 1000000) :
    Calls Try.prog 29 #[.slice A P.length cap] W fun e W' => e = .returned (.tuple #[]) ∧ Kd.R k59 59 W' base ok (.slice A P.length cap) P.reverse ∧ W.grownBy W' (Value.slice A P.length cap).ownBlock := by
  have hu41 := Try.underlying41
  have hu59 := Try.underlying59
  have HR := Aside0.mk h
  have HL := Aside0.mk hl
  have hw0 : wrap64 ((P.length : Int) - 1) = (P.length : Int) - 1 := w64_id' (by omega) (by omega)
  have hw0b : IntKind.i64.wrap ((P.length : Int) - 1) = (P.length : Int) - 1 := (i64_w _).trans hw0
  clear h hl
  go_enter Try.func29, Try.ntmps29
  go_wp2
  go_loopg [2, 3] P.length (fun kq v2 v3 w' => ∃ k : Nat, v2 = .int .i64 (k : Int) ∧ v3 = .int .i64 ((P.length : Int) - 1 - (k : Int)) ∧ Aside0 (k + kq = P.length ∧ 2 * k ≤ P.length ∧ Kd.R k59 59 w' base ok (.slice A P.length cap) (rvk P k) ∧ W.grownBy w' (Value.slice A P.length cap).ownBlock))
  case atStart => exact ⟨0, rfl, by simp [hw0, hw0b], ⟨by omega, by omega, HR.out, World.grownBy.refl _ _⟩⟩
  case round =>
    clear hw0 hw0b HR
    obtain ⟨k, rfl, rfl, HX⟩ := hrel
    by_cases c : (k : Int) < (P.length : Int) - 1 - (k : Int)
    · have c1 : decide ((k : Int) < (P.length : Int) - 1 - (k : Int)) = true := decide_eq_true c
      obtain ⟨x1, x2, x3, x4⟩ := HX.out
      obtain ⟨k1, rfl⟩ : ∃ k1, gk = k1 + 1 := ⟨gk - 1, by omega⟩
      obtain ⟨m, hm⟩ : ∃ m : Nat, m = P.length - 1 - k := ⟨_, rfl⟩
      have em : (P.length : Int) - 1 - (k : Int) = (m : Int) := by omega
      rw [em] at c1 ⊢
      have c1b : decide (k < m) = true := decide_eq_true (by omega)
      obtain ⟨g, cap2, ev, _, hlt, _⟩ := Kd.R_form x3 (by rw [rvk_len]; omega)
      rw [rvk_len] at ev
      cases ev
      obtain ⟨a, ha⟩ : ∃ a, a = (rvk P k).getD k z59 := ⟨_, rfl⟩
      obtain ⟨b, hb⟩ : ∃ b, b = (rvk P k).getD m z59 := ⟨_, rfl⟩
      obtain ⟨⟨hk0, hk1, hk2⟩, hkf⟩ := cells3 x3 k (by omega)
      obtain ⟨⟨hm0, hm1, hm2⟩, hmf⟩ := cells3 x3 m (by omega)
      rw [← ha] at hk0 hk1 hk2
      rw [← hb] at hm0 hm1 hm2
      have HO := Aside0.mk x3
      have HG := Aside0.mk (show W.grownBy wr (some g) from x4)
      have E1 := Aside0.mk (And.intro x1 x2)
      have HM := Aside0.mk hm
      have HEM := Aside0.mk em
      have HAB := Aside0.mk (And.intro ha hb)
      have HLT := Aside0.mk (show k < m from by omega)
      have HKM := Aside0.mk (show k < P.length ∧ m ≠ k ∧ m < P.length from ⟨by omega, by omega, by omega⟩)
      have p1 : ((0 : Int) ≤ (k : Int)) = True := eq_true (by omega)
      have p2 : ((k : Int) < (P.length : Int)) = True := eq_true (by omega)
      have p2b : (k < P.length) = True := eq_true (by omega)
      have p3 : ((0 : Int) ≤ (m : Int)) = True := eq_true (by omega)
      have p4 : ((m : Int) < (P.length : Int)) = True := eq_true (by omega)
      have p4b : (m < P.length) = True := eq_true (by omega)
      have hw1 : wrap64 ((k : Int) + 1) = (k : Int) + 1 := w64_id' (by omega) (by have := HL.out; omega)
      have hw1b : IntKind.i64.wrap ((k : Int) + 1) = (k : Int) + 1 := (i64_w _).trans hw1
      have hw2 : wrap64 ((m : Int) - 1) = (m : Int) - 1 := w64_id' (by omega) (by have := HL.out; omega)
      have hw2b : IntKind.i64.wrap ((m : Int) - 1) = (m : Int) - 1 := (i64_w _).trans hw2
      clear x1 x2 x3 x4 HX c ha hb hm em hlt
      go_wp2
      refine start_ (n := 16) (S := fun w' => w'.cell? ⟨g, k * 3, none⟩ = some (.int .i64 a.f0) ∧ w'.cell? ⟨g, k * 3 + 1, none⟩ = some (.int .i64 a.f1) ∧ w'.cell? ⟨g, k * 3 + 2, none⟩ = some (.int .i64 a.f2) ∧ w'.cell? ⟨g, m * 3, none⟩ = some (.int .i64 b.f0) ∧ w'.cell? ⟨g, m * 3 + 1, none⟩ = some (.int .i64 b.f1) ∧ w'.cell? ⟨g, m * 3 + 2, none⟩ = some (.int .i64 b.f2)) (ds := [13, 15]) #[false, false, false, false, false, false, false, false, false, false, false, false, false, false, false, false] (by kernel_rfl) rfl rfl ⟨hk0, hk1, hk2, hm0, hm1, hm2⟩ (fun hHeld => ?_)
      have HO3 := Aside0.mk (Kd.R_drew HO.out)
      have HG3 := Aside0.mk (show W.grownBy wr.drew (some g) from World.grownBy.trans HG.out (grown_of_below (below_drew1 (Below.refl _ _)) _))
      clear HO HG
      have HKF := Aside0.mk (And.intro hkf hmf)
      have hkf2 : ∀ q, wr.drew.frozen? ⟨g, k * 3 + q, none⟩ = false := HKF.out.1
      have hmf2 : ∀ q, wr.drew.frozen? ⟨g, m * 3 + q, none⟩ = false := HKF.out.2
      clear hkf hmf hk0 hk1 hk2 hm0 hm1 hm2 HKF
      generalize wr.drew = w3 at HO3 HG3 hHeld hkf2 hmf2 ⊢
      refine pure_ (i := 4) (N := some 18) (v := ?_) (a' := ?_) #[false, false, false, false, true, false, false, false, false, false, false, false, false, false, false, false] rfl rfl (by kernel_rfl) (fun _ _ _ h => h) (Or.inl ⟨by rfl, ?_⟩) ?_ ?_
      rotate_left
      · intro w'
        go_simp
        with_reducible rfl
      rotate_left
      · simp only [Act.put, List.setIfInBounds_toArray, List.set_cons_zero, List.set_cons_succ, i64_w, i32_w]
        rfl
      refine pure_ (i := 5) (N := some 19) (v := ?_) (a' := ?_) #[false, false, false, false, true, true, false, false, false, false, false, false, false, false, false, false] rfl rfl (by kernel_rfl) (fun _ _ _ h => h) (Or.inl ⟨by rfl, ?_⟩) ?_ ?_
      rotate_left
      · intro w'
        go_simp
        with_reducible rfl
      rotate_left
      · simp only [Act.put, List.setIfInBounds_toArray, List.set_cons_zero, List.set_cons_succ, i64_w, i32_w]
        rfl
      refine pure_ (i := 6) (N := some 20) (v := ?_) (a' := ?_) #[false, false, false, false, true, true, true, false, false, false, false, false, false, false, false, false] rfl rfl (by kernel_rfl) (fun _ _ _ h => h) (Or.inl ⟨by rfl, ?_⟩) ?_ ?_
      rotate_left
      · intro w'
        go_simp
        with_reducible rfl
      rotate_left
      · simp only [Act.put, List.setIfInBounds_toArray, List.set_cons_zero, List.set_cons_succ, i64_w, i32_w]
        rfl
      refine take_ (i := 7) (N := some 21) (v := ?_) (a' := ?_) #[false, false, false, false, true, true, true, true, false, false, false, false, false, false, false, false] rfl rfl (by kernel_rfl) (fun _ _ _ h => h) (Or.inl ⟨by rfl, ?_⟩) hHeld ?_ ?_
      rotate_left
      · rintro w' ⟨s0, s1, s2, s3, s4, s5⟩
        go_simp
        with_reducible rfl
      rotate_left
      · simp only [Act.put, List.setIfInBounds_toArray, List.set_cons_zero, List.set_cons_succ, i64_w, i32_w]
        rfl
      refine pure_ (i := 8) (N := some 22) (v := ?_) (a' := ?_) #[false, false, false, false, true, true, true, true, true, false, false, false, false, false, false, false] rfl rfl (by kernel_rfl) (fun _ _ _ h => h) (Or.inl ⟨by rfl, ?_⟩) ?_ ?_
      rotate_left
      · intro w'
        go_simp
        with_reducible rfl
      rotate_left
      · simp only [Act.put, List.setIfInBounds_toArray, List.set_cons_zero, List.set_cons_succ, i64_w, i32_w]
        rfl
      refine pure_ (i := 9) (N := some 23) (v := ?_) (a' := ?_) #[false, false, false, false, true, true, true, true, true, true, false, false, false, false, false, false] rfl rfl (by kernel_rfl) (fun _ _ _ h => h) (Or.inl ⟨by rfl, ?_⟩) ?_ ?_
      rotate_left
      · intro w'
        go_simp
        with_reducible rfl
      rotate_left
      · simp only [Act.put, List.setIfInBounds_toArray, List.set_cons_zero, List.set_cons_succ, i64_w, i32_w]
        rfl
      refine pure_ (i := 10) (N := some 24) (v := ?_) (a' := ?_) #[false, false, false, false, true, true, true, true, true, true, true, false, false, false, false, false] rfl rfl (by kernel_rfl) (fun _ _ _ h => h) (Or.inl ⟨by rfl, ?_⟩) ?_ ?_
      rotate_left
      · intro w'
        go_simp
        with_reducible rfl
      rotate_left
      · simp only [Act.put, List.setIfInBounds_toArray, List.set_cons_zero, List.set_cons_succ, i64_w, i32_w]
        rfl
      refine take_ (i := 11) (N := some 25) (v := ?_) (a' := ?_) #[false, false, false, false, true, true, true, true, true, true, true, true, false, false, false, false] rfl rfl (by kernel_rfl) (fun _ _ _ h => h) (Or.inl ⟨by rfl, ?_⟩) hHeld ?_ ?_
      rotate_left
      · rintro w' ⟨s0, s1, s2, s3, s4, s5⟩
        go_simp
        with_reducible rfl
      rotate_left
      · simp only [Act.put, List.setIfInBounds_toArray, List.set_cons_zero, List.set_cons_succ, i64_w, i32_w]
        rfl
      refine pure_ (i := 0) (N := some 14) (v := ?_) (a' := ?_) #[true, false, false, false, true, true, true, true, true, true, true, true, false, false, false, false] rfl rfl (by kernel_rfl) (fun _ _ _ h => h) (Or.inl ⟨by rfl, ?_⟩) ?_ ?_
      rotate_left
      · intro w'
        go_simp
        with_reducible rfl
      rotate_left
      · simp only [Act.put, List.setIfInBounds_toArray, List.set_cons_zero, List.set_cons_succ, i64_w, i32_w]
        rfl
      refine pure_ (i := 1) (N := some 15) (v := ?_) (a' := ?_) #[true, true, false, false, true, true, true, true, true, true, true, true, false, false, false, false] rfl rfl (by kernel_rfl) (fun _ _ _ h => h) (Or.inl ⟨by rfl, ?_⟩) ?_ ?_
      rotate_left
      · intro w'
        go_simp
        with_reducible rfl
      rotate_left
      · simp only [Act.put, List.setIfInBounds_toArray, List.set_cons_zero, List.set_cons_succ, i64_w, i32_w]
        rfl
      refine pure_ (i := 12) (N := some 26) (v := ?_) (a' := ?_) #[true, true, false, false, true, true, true, true, true, true, true, true, true, false, false, false] rfl rfl (by kernel_rfl) (fun _ _ _ h => h) (Or.inl ⟨by rfl, ?_⟩) ?_ ?_
      rotate_left
      · intro w'
        go_simp
        with_reducible rfl
      rotate_left
      · simp only [Act.put, List.setIfInBounds_toArray, List.set_cons_zero, List.set_cons_succ, i64_w, i32_w]
        rfl
      refine pure_ (i := 2) (N := some 16) (v := ?_) (a' := ?_) #[true, true, true, false, true, true, true, true, true, true, true, true, true, false, false, false] rfl rfl (by kernel_rfl) (fun _ _ _ h => h) (Or.inl ⟨by rfl, ?_⟩) ?_ ?_
      rotate_left
      · intro w'
        go_simp
        with_reducible rfl
      rotate_left
      · simp only [Act.put, List.setIfInBounds_toArray, List.set_cons_zero, List.set_cons_succ, i64_w, i32_w]
        rfl
      refine pure_ (i := 3) (N := some 17) (v := ?_) (a' := ?_) #[true, true, true, true, true, true, true, true, true, true, true, true, true, false, false, false] rfl rfl (by kernel_rfl) (fun _ _ _ h => h) (Or.inl ⟨by rfl, ?_⟩) ?_ ?_
      rotate_left
      · intro w'
        go_simp
        with_reducible rfl
      rotate_left
      · simp only [Act.put, List.setIfInBounds_toArray, List.set_cons_zero, List.set_cons_succ, i64_w, i32_w]
        rfl
      refine last_ (i := 13) (N := none) #[true, true, true, true, true, true, true, true, true, true, true, true, true, true, false, false] rfl rfl (by kernel_rfl) (by decide) (fun K hK => ?_)
      obtain ⟨s0, s1, s2, s3, s4, s5⟩ := hHeld
      have f0 : w3.frozen? ⟨g, k * 3, none⟩ = false := hkf2 0
      have f1 : w3.frozen? ⟨g, k * 3 + 1, none⟩ = false := hkf2 1
      have f2 : w3.frozen? ⟨g, k * 3 + 2, none⟩ = false := hkf2 2
      refine skip_ (w1 := (((w3.setCell ⟨g, k * 3, none⟩ (.int .i64 b.f0)).setCell ⟨g, k * 3 + 1, none⟩ (.int .i64 b.f1)).setCell ⟨g, k * 3 + 2, none⟩ (.int .i64 b.f2))) (by rfl) rfl ?_ ?_
      · go_simp
        try rfl
      obtain ⟨h1, h2⟩ := rv_set HO3.out k HKM.out.1 b
      have HO4 := Aside0.mk h1
      have HG4 := Aside0.mk (World.grownBy.trans HG3.out h2)
      have m9_ := cells3 h1 m HKM.out.2.2
      have g0 : ∀ q, (((w3.setCell ⟨g, k * 3, none⟩ (.int .i64 b.f0)).setCell ⟨g, k * 3 + 1, none⟩ (.int .i64 b.f1)).setCell ⟨g, k * 3 + 2, none⟩ (.int .i64 b.f2)).frozen? ⟨g, m * 3 + q, none⟩ = false := m9_.2
      obtain ⟨m0, m1, m2⟩ := m9_.1
      clear m9_
      clear HO3 HG3 h1 h2 s0 s1 s2 s3 s4 s5 f0 f1 f2 hkf2 hmf2
      generalize (((w3.setCell ⟨g, k * 3, none⟩ (.int .i64 b.f0)).setCell ⟨g, k * 3 + 1, none⟩ (.int .i64 b.f1)).setCell ⟨g, k * 3 + 2, none⟩ (.int .i64 b.f2)) = w4 at HO4 HG4 g0 m0 m1 m2 ⊢
      refine hK.out _ _ ?_
      clear hK K
      refine pure_ (i := 14) (N := some 27) (v := ?_) (a' := ?_) #[true, true, true, true, true, true, true, true, true, true, true, true, true, true, true, false] rfl rfl (by kernel_rfl) (fun _ _ _ h => h) (Or.inl ⟨by rfl, ?_⟩) ?_ ?_
      rotate_left
      · intro w'
        go_simp
        with_reducible rfl
      rotate_left
      · simp only [Act.put, List.setIfInBounds_toArray, List.set_cons_zero, List.set_cons_succ, i64_w, i32_w]
        rfl
      refine last_ (i := 15) (N := none) #[true, true, true, true, true, true, true, true, true, true, true, true, true, true, true, true] rfl rfl (by kernel_rfl) (by decide) (fun K hK => ?_)
      have f0 : w4.frozen? ⟨g, m * 3, none⟩ = false := g0 0
      have f1 : w4.frozen? ⟨g, m * 3 + 1, none⟩ = false := g0 1
      have f2 : w4.frozen? ⟨g, m * 3 + 2, none⟩ = false := g0 2
      refine skip_ (w1 := (((w4.setCell ⟨g, m * 3, none⟩ (.int .i64 a.f0)).setCell ⟨g, m * 3 + 1, none⟩ (.int .i64 a.f1)).setCell ⟨g, m * 3 + 2, none⟩ (.int .i64 a.f2))) (by rfl) rfl ?_ ?_
      · go_simp
        try rfl
      obtain ⟨h1, h2⟩ := rv_set HO4.out m HKM.out.2.2 a
      have HO5 := Aside0.mk h1
      have HG5 := Aside0.mk (World.grownBy.trans HG4.out h2)
      clear HO4 HG4 g0 m0 m1 m2 f0 f1 f2 h1 h2
      generalize (((w4.setCell ⟨g, m * 3, none⟩ (.int .i64 a.f0)).setCell ⟨g, m * 3 + 1, none⟩ (.int .i64 a.f1)).setCell ⟨g, m * 3 + 2, none⟩ (.int .i64 a.f2)) = w5 at HO5 HG5 ⊢
      refine hK.out _ _ ?_
      clear hK K
      refine done_ (by kernel_rfl) ?_
      go_wp2
      go_roundg k1
      case measure => have := E1.out; omega
      case rel =>
        refine ⟨k + 1, by simp [hw1, hw1b], by rw [show (P.length : Int) - 1 - ((k + 1 : Nat) : Int) = (m : Int) - 1 from by have h1_ := HEM.out; omega]; try first | rfl | rw [hw2] | rw [hw2b], ⟨by have := E1.out; omega, by have := E1.out; have h1_ := HM.out; have h2_ := HLT.out; omega, ?_, HG5.out⟩⟩
        have h_ := HO5.out
        have e_ : rvk P (k + 1) = ((rvk P k).set k b).set m a := by
          rw [HAB.out.1, HAB.out.2, HM.out]
          rfl
        rw [e_]
        exact h_
    · have c1 : decide ((k : Int) < (P.length : Int) - 1 - (k : Int)) = false := decide_eq_false c
      obtain ⟨x1, x2, x3, x4⟩ := HX.out
      have HO := Aside0.mk x3
      have HG := Aside0.mk x4
      have HE := Aside0.mk (rvk_end P k x2 (by omega))
      clear x1 x2 x3 x4 HX c
      go_wp2
      go_end0
      exact ⟨rfl, by rw [← HE.out]; exact HO.out, HG.out⟩
end Go.Proofs.Ytgjcembdmohhkaa.Fs
