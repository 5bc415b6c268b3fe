/- utf8.ValidString; the names of an object are valid texts. -/
import Derived.Test.YtmonbhoeplmieaaDoorJshJt
import Derived.Test.YtmonbhoeplmieaaDoorJshSl
import Derived.Deep.QuietTactic
import Derived.BigQuiet
import Derived.Deep.LoopGhost
import Derived.Shelf.Abstract
namespace Go.Proofs.YtmonbhoeplmieaaDoor.Js
open Go.RowKit Go.Proofs.YtmonbhoeplmieaaDoorW.PrintWords Go.Proofs.YtmonbhoeplmieaaDoorW.PrintLast Go.Proofs.YtmonbhoeplmieaaDoorW.PrintMore
open Go.Proofs.YtmonbhoeplmieaaDoor
set_option linter.unusedVariables false
set_option linter.unusedSimpArgs false

/-- utf8's tables hold what they are laid to hold -/
def Ts (w : World) : Prop := Lib.Utf8Tabs (lays196_ren.g 3) (lays196_ren.g 4) w
theorem Ts.below {w w' : World} (h : Ts w) (hb : Below w.heap.size w w') : Ts w' := Utf8Tabs_below h hb
def vtext (s : ByteArray) : Bool := Lib.validD s.data.toList
theorem valid_text (s : ByteArray) (hs : s.size ≤ 9223372036854775807) (w : World) (h : Ts w) :
    Calls Tryd.prog 44 #[.string s] w fun e w' => e = .returned (.bool (vtext s)) ∧ Below w.heap.size w w' := Any.utf8_ValidString lays196 s w hs h
set_option maxHeartbeats 1000000 in
set_option maxRecDepth 100000 in
theorem invalid_text (s : ByteArray) (hs : s.size ≤ 9223372036854775807) (w : World) (h : Ts w) :
    Calls Tryd.prog 46 #[.string s] w fun e w' => e = .returned (.bool (!vtext s)) ∧ Below w.heap.size w w' := by
  have VT := Aside0.mk (valid_text s hs w h)
  clear hs h
  go_enter Tryd.func46, Tryd.ntmps46
  go_wp2_with (go_at_call 44; refine VT.out.mono ?_; rintro e_ w1 ⟨rfl, hb⟩; have HB := Aside0.mk hb; clear hb)
  go_ret
  exact ⟨rfl, HB.out⟩
def okIx (b : Bool) (r : Int) : Prop := if b then r = -1 else 0 ≤ r
set_option maxHeartbeats 2000000 in
set_option maxRecDepth 100000 in
theorem index_names (A : Option Addr) (ca : Nat) (names : List ByteArray) (w : World) (hT : Ts w) (hr : Kd.string.C w A names.length names) (hsz : ∀ x ∈ names, x.size ≤ maxLen) :
    Calls Tryd.prog 56 #[.slice A names.length ca, .func (.func 46) #[] #[]] w fun e w' => (∃ r : Int, e = .returned (.int .i64 r) ∧ okIx (names.all vtext) r) ∧ Below w.heap.size w w' := by
  obtain ⟨k, hk⟩ : ∃ k, names.length = k := ⟨_, rfl⟩
  have HB := Aside0.mk (Below.refl w.heap.size w)
  have HR := Aside0.mk hr
  have HZ := Aside0.mk hsz
  have HK := Aside0.mk hk
  have HT := Aside0.mk hT
  rw [hk]
  clear hr hsz hk hT
  go_enter Tryd.func56, Tryd.ntmps56
  go_wp2
  go_loopg [8] k (fun gq s8 wx => ∃ (dn td : List ByteArray), names = dn ++ td ∧ gq = td.length ∧ s8 = .int .i64 (dn.length : Int) ∧ dn.all vtext = true ∧ Below w.heap.size w wx)
  case atStart => exact ⟨[], names, rfl, HK.out.symm, rfl, rfl, HB.out⟩
  case round =>
    obtain ⟨dn, td, hdt, rfl, rfl, hall, hbx⟩ := hrel
    clear HB
    have HB := Aside0.mk hbx
    have HDT := Aside0.mk hdt
    have HA := Aside0.mk hall
    have hlen : k = dn.length + td.length := by rw [← HK.out, hdt, List.length_append]
    have hkb := HR.out.2.1
    rw [HK.out] at hkb
    obtain ⟨i, hi⟩ : ∃ i, i = dn.length := ⟨_, rfl⟩
    have HI := Aside0.mk hi
    rw [← hi]
    cases td with
    | nil =>
      have b1 : k ≤ i := by simp at hlen; omega
      have e5 : decide ((i : Int) < (k : Int)) = false := decide_eq_false (by omega)
      clear hbx hdt hall hlen hi hkb
      go_wp2
      go_ret
      exact ⟨⟨_, rfl, by rw [HDT.out, List.append_nil]; unfold okIx; rw [if_pos HA.out]⟩, HB.out⟩
    | cons x t =>
      have b1 : i < k := by simp at hlen; omega
      have e5 : decide ((i : Int) < (k : Int)) = true := decide_eq_true (by omega)
      have HKB := Aside0.mk (show i + 1 ≤ 9223372036854775807 from by omega)
      obtain ⟨ad, ea, hx⟩ := Kd.at_string (Kd.C_below HR.out HB.out) (i : Int) (by omega) (by rw [HK.out]; omega)
      have hget : rdOf ByteArray.empty names (i : Int) = x := by
        unfold rdOf
        rw [Int.toNat_natCast, hi, hdt]
        simp [List.getD]
      rw [hget, Int.toNat_natCast] at hx
      have hxz := HZ.out x (by rw [hdt]; simp)
      have IV := Aside0.mk (fun w' h' => invalid_text x hxz w' h')
      subst ea
      cases hv : vtext x with
      | false =>
        have HV := Aside0.mk hv
        clear hbx hdt hall hlen hi hkb hget hxz hv
        go_wp2_with (go_at_call 46; refine (IV.out _ (HT.out.below HB.out)).mono ?_; rw [HV.out]; rintro e_ w1 ⟨rfl, hb⟩; have n1_ := Aside0.mk (below_step HB.out hb); clear HB hb; have HB := n1_; clear n1_)
        go_ret
        exact ⟨⟨_, rfl, by unfold okIx; rw [if_neg (by rw [HDT.out, List.all_append, List.all_cons, HV.out]; simp)]; omega⟩, HB.out⟩
      | true =>
        have HV := Aside0.mk hv
        clear hbx hdt hall hlen hi hkb hget hxz hv
        go_wp2_with (go_at_call 46; refine (IV.out _ (HT.out.below HB.out)).mono ?_; rw [HV.out]; rintro e_ w1 ⟨rfl, hb⟩; have n1_ := Aside0.mk (below_step HB.out hb); clear HB hb; have HB := n1_; clear n1_)
        go_roundg t.length
        case measure => exact Nat.lt_succ_self _
        case rel => exact ⟨dn ++ [x], t, by rw [HDT.out]; simp, rfl, congrArg (Value.int .i64) (by have h_ := HKB.out; have h2_ := HI.out; rw [List.length_append]; simp only [List.length_cons, List.length_nil]; unfold wrap64; omega), by rw [List.all_append, HA.out, List.all_cons, HV.out]; rfl, HB.out⟩
set_option maxHeartbeats 1000000 in
set_option maxRecDepth 100000 in
theorem invalid_names (A : Option Addr) (ca : Nat) (names : List ByteArray) (w : World) (hT : Ts w) (hr : Kd.string.C w A names.length names) (hsz : ∀ x ∈ names, x.size ≤ maxLen) :
    Calls Tryd.prog 45 #[.slice A names.length ca, .func (.func 46) #[] #[]] w fun e w' => e = .returned (.bool (!names.all vtext)) ∧ Below w.heap.size w w' := by
  have IX := index_names A ca names w hT hr hsz
  cases hv : names.all vtext with
  | true =>
    have IX1 := Aside0.mk (IX.mono (R' := fun e w' => e = .returned (.int .i64 (-1)) ∧ Below w.heap.size w w') fun e w' he => by
      obtain ⟨⟨r, rfl, h⟩, hb⟩ := he
      unfold okIx at h
      rw [if_pos hv] at h
      subst h
      exact ⟨rfl, hb⟩)
    clear IX hv hT hr hsz
    go_enter Tryd.func45, Tryd.ntmps45
    go_wp2_with (go_at_call 56; refine IX1.out.mono ?_; rintro e_ w1 ⟨rfl, hb⟩; have HB := Aside0.mk hb; clear hb)
    go_ret
    exact ⟨rfl, HB.out⟩
  | false =>
    have IX1 := Aside0.mk (IX.mono (R' := fun e w' => (∃ r : Nat, e = .returned (.int .i64 (r : Int))) ∧ Below w.heap.size w w') fun e w' he => by
      obtain ⟨⟨r, rfl, h⟩, hb⟩ := he
      unfold okIx at h
      rw [if_neg (by rw [hv]; decide)] at h
      exact ⟨⟨r.toNat, by rw [Int.toNat_of_nonneg h]⟩, hb⟩)
    clear IX hv hT hr hsz
    go_enter Tryd.func45, Tryd.ntmps45
    go_wp2_with (go_at_call 56; refine IX1.out.mono ?_; rintro e_ w1 ⟨⟨r, rfl⟩, hb⟩; have HB := Aside0.mk hb; clear hb; have e1 : decide ((r : Int) ≥ 0) = true := decide_eq_true (by omega); have e2 : decide ((0 : Int) ≤ (r : Int)) = true := decide_eq_true (by omega))
    go_ret
    exact ⟨rfl, HB.out⟩
end Go.Proofs.YtmonbhoeplmieaaDoor.Js
