/- jsonval.hasDuplicates. -/
import Derived.Test.YtmonbhoeplmieaaDoorJsx1
import Derived.Test.YtmonbhoeplmieaaDoorMp
import Derived.Deep.QuietTactic
import Derived.BigQuiet
import Derived.Deep.LoopGhost
import Derived.Shelf.Abstract
namespace Go.Proofs.YtmonbhoeplmieaaDoor.Js
open Go.RowKit Go.Proofs.YtmonbhoeplmieaaDoorW.PrintWords Go.Proofs.YtmonbhoeplmieaaDoorW.PrintLast Go.Proofs.YtmonbhoeplmieaaDoorW.PrintMore
open Go.Proofs.YtmonbhoeplmieaaDoor
set_option linter.unusedVariables false
set_option linter.unusedSimpArgs false

open Go.Proofs.YtmonbhoeplmieaaDoor
attribute [local instance 0] Classical.propDecidable
theorem KS : Go.Maps.Keyed Tryd.prog 9 := Go.Maps.string_keyed Tryd.underlying9
theorem keyS (s : ByteArray) (h : s.size ≤ maxLen) : keyOf Tryd.prog 9 (.string s) = some (.string s.data.toList) := by simp [keyOf, mapKey, Tryd.underlying9, h]
theorem sinj : ∀ a b : ByteArray, Value.string a = Value.string b → a = b := fun _ _ h => by injection h
def Seen (l : List (ByteArray × Value)) (dn : List ByteArray) : Prop := ∀ y, (Mp.aget l y).getD (.int .i64 0) = .int .i64 (if y ∈ dn then 1 else 0)
theorem seen_nil : Seen [] [] := fun y => by rw [Mp.aget_nil]; simp
theorem seen_snoc {l : List (ByteArray × Value)} {dn : List ByteArray} (h : Seen l dn) (x : ByteArray) : Seen (Mp.aset l x (.int .i64 1)) (dn ++ [x]) := fun y => by
  rw [Mp.aget_aset]
  by_cases e : x = y
  · subst e; rw [if_pos rfl, if_pos (by simp)]; rfl
  · rw [if_neg e, h y]
    have : (y ∈ dn ++ [x]) ↔ y ∈ dn := by simp; intro e'; exact absurd e'.symm e
    simp only [this]
set_option maxHeartbeats 2000000 in
set_option maxRecDepth 100000 in
theorem hasDup (A : Option Addr) (ca : Nat) (names : List ByteArray) (w : World) (hr : Kd.string.C w A names.length names) (hsz : ∀ x ∈ names, x.size ≤ maxLen) :
    Calls Tryd.prog 43 #[.slice A names.length ca] w fun e w' => e = .returned (.bool (!decide names.Nodup)) ∧ Below w.heap.size w w' := by
  obtain ⟨k, hk⟩ : ∃ k, names.length = k := ⟨_, rfl⟩
  have HB := Aside0.mk (Below.refl w.heap.size w)
  have HR := Aside0.mk hr
  have HZ := Aside0.mk hsz
  have HK := Aside0.mk hk
  rw [hk]
  clear hr hsz hk
  go_enter Tryd.func43, Tryd.ntmps43
  go_wp2_with (((with_reducible refine gate_dst (N := 6) rfl ?_); refine Mp.wp_make_at (kt := 9) (et := 3) (enc := Value.string) rfl 80 rfl Tryd.underlying80 ?_; intro w1 bm hbm hm hg hb hlt; have HM := Aside0.mk hm; have GE := Aside0.mk (show w.heap.size ≤ bm from by rw [hbm]; exact HB.out.size); have n1_ := Aside0.mk (below_step HB.out hb); clear HB hm hg hb hlt hbm; have HB := n1_; clear n1_))
  go_loopg [9] k (fun gq s9 wx => ∃ (dn td : List ByteArray) (l : List (ByteArray × Value)), names = dn ++ td ∧ gq = td.length ∧ s9 = .int .i64 (dn.length : Int) ∧ dn.Nodup ∧ Seen l dn ∧ Mp.At Tryd.prog 9 Value.string wx bm l ∧ Below w.heap.size w wx)
  case atStart => exact ⟨[], names, [], rfl, HK.out.symm, rfl, List.nodup_nil, seen_nil, HM.out, HB.out⟩
  case round =>
    obtain ⟨dn, td, l, hdt, rfl, rfl, hnd, hse, hm, hbx⟩ := hrel
    clear HB HM
    have HB := Aside0.mk hbx
    have HM := Aside0.mk hm
    have HDT := Aside0.mk hdt
    have HN := Aside0.mk hnd
    have HSE := Aside0.mk hse
    have hlen : k = dn.length + td.length := by rw [← HK.out, hdt, List.length_append]
    have hkb := HR.out.2.1
    rw [HK.out] at hkb
    obtain ⟨i, hi⟩ : ∃ i, i = dn.length := ⟨_, rfl⟩
    have HI := Aside0.mk hi
    rw [← hi]
    cases td with
    | nil =>
      have b1 : k ≤ i := by simp at hlen; omega
      have e5 : decide ((i : Int) < (k : Int)) = false := decide_eq_false (by omega)
      clear hbx hm hdt hnd hse hlen hi hkb
      go_wp2
      go_ret
      have hnm : names = dn := by rw [HDT.out, List.append_nil]
      exact ⟨by rw [hnm, decide_eq_true HN.out]; rfl, HB.out⟩
    | cons x t =>
      have b1 : i < k := by simp at hlen; omega
      have e5 : decide ((i : Int) < (k : Int)) = true := decide_eq_true (by omega)
      have HKB := Aside0.mk (show i + 1 ≤ 9223372036854775807 from by omega)
      obtain ⟨ad, ea, hx⟩ := Kd.at_string (Kd.C_below HR.out HB.out) (i : Int) (by omega) (by rw [HK.out]; omega)
      have hget : rdOf ByteArray.empty names (i : Int) = x := by
        unfold rdOf
        rw [Int.toNat_natCast, hi, hdt]
        simp [List.getD]
      rw [hget, Int.toNat_natCast] at hx
      have HX := Aside0.mk (HZ.out x (by rw [hdt]; simp))
      subst ea
      by_cases hin : x ∈ dn
      · have HL := Aside0.mk (show (Mp.aget l x).getD (.int .i64 0) = .int .i64 1 from by rw [hse x, if_pos hin])
        have HND := Aside0.mk (show ¬ names.Nodup from fun h => by
          rw [hdt, List.nodup_append] at h
          exact h.2.2 x hin x List.mem_cons_self rfl)
        clear hbx hm hdt hnd hse hlen hi hkb hget hin
        go_wp2_with ((at_lookup; refine Mp.wp_look (κ := ByteArray) (P := Tryd.prog) (kt := 9) (et := 3) (enc := Value.string) (b := bm) rfl (.tmp 13) (.tmp 14) 80 false rfl KS sinj Tryd.underlying80 (Tryd.zeroValue3 _) HM.out x (keyS _ HX.out) rfl rfl ?_; rw [HL.out]))
        go_ret
        exact ⟨by rw [decide_eq_false HND.out]; rfl, HB.out⟩
      · have HL := Aside0.mk (show (Mp.aget l x).getD (.int .i64 0) = .int .i64 0 from by rw [hse x, if_neg hin])
        have HIN := Aside0.mk hin
        clear hbx hm hdt hnd hse hlen hi hkb hget hin
        go_wp2_with (first
          | (at_lookup; refine Mp.wp_look (κ := ByteArray) (P := Tryd.prog) (kt := 9) (et := 3) (enc := Value.string) (b := bm) rfl (.tmp 13) (.tmp 14) 80 false rfl KS sinj Tryd.underlying80 (Tryd.zeroValue3 _) HM.out x (keyS _ HX.out) rfl rfl ?_; rw [HL.out])
          | (at_mapUpdate; refine Mp.wp_store (κ := ByteArray) (P := Tryd.prog) (kt := 9) (et := 3) (enc := Value.string) (b := bm) rfl (.tmp 17) (.tmp 18) (.const (.int .i64 1)) 80 rfl KS sinj Tryd.underlying80 HM.out x (keyS _ HX.out) (.int .i64 1) rfl rfl rfl ?_; intro w2 hm hg hsz2; have n1_ := Aside0.mk (HB.out.grown hg HB.out.size (fun k hk => by obtain rfl := Option.some.inj hk; exact GE.out)); clear HB HM; have HB := n1_; have HM := Aside0.mk hm; clear n1_ hm hg hsz2))
        go_roundg t.length
        case measure => exact Nat.lt_succ_self _
        case rel => exact ⟨dn ++ [x], t, Mp.aset l x (.int .i64 1), by rw [HDT.out]; simp, rfl, congrArg (Value.int .i64) (by have h_ := HKB.out; have h2_ := HI.out; rw [List.length_append]; simp only [List.length_cons, List.length_nil]; unfold wrap64; omega), List.nodup_append.2 ⟨HN.out, by simp, fun a ha b hb e => by
          rw [List.mem_singleton] at hb
          subst hb; subst e
          exact HIN.out ha⟩, seen_snoc HSE.out x, HM.out, HB.out⟩
end Go.Proofs.YtmonbhoeplmieaaDoor.Js
