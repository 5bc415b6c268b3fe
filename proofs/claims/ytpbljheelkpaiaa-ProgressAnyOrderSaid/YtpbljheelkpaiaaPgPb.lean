import Derived.Test.YtpbljheelkpaiaaPgPa
import Derived.Test.YtpbljheelkpaiaaMp
/- Plain facts of ProgressAnyOrder: the chunks of a list; the list again. -/
namespace Go.Proofs.Ytpbljheelkpaiaa.Pg
open Go.RowKit Go.Proofs.YtpbljheelkpaiaaW.PrintWords Go.Proofs.YtpbljheelkpaiaaW.PrintLast Go.Proofs.YtpbljheelkpaiaaW.PrintMore
open Go.Proofs.Ytpbljheelkpaiaa
set_option linter.unusedVariables false
theorem part_take (y : List Int) (s k : Nat) : part y s k = (y.drop (k * s)).take s := by
  unfold part ce
  split
  · rw [List.take_of_length_le (by rw [List.length_drop]; omega), List.take_of_length_le (by rw [List.length_drop]; omega)]
  · rfl
theorem parts_all (y : List Int) (s : Nat) : ∀ m : Nat, (List.range m).flatMap (part y s) = y.take (m * s)
  | 0 => by simp
  | m + 1 => by
    rw [List.range_succ, List.flatMap_append, parts_all y s m]
    simp only [List.flatMap_cons, List.flatMap_nil, List.append_nil]
    rw [part_take, Nat.add_mul, Nat.one_mul, List.take_add]
theorem chunks_are (T : Int) (y : List Int) (s : Nat) (hT : 0 ≤ T) (hy : y.length ≤ 100) (hs : 1 ≤ s) (hs2 : s ≤ 20) :
    ∃ (f : Nat) (it : Nat → List Int) (cs : List S39), progress_Split.f T y (s : Int) = some (cs, 0) ∧ cs.length = f + 1 ∧ f + 1 ≤ 1000 ∧ (∀ j : Nat, j < f + 1 → cs[j]? = some ⟨T, (j : Int), decide (j + 1 = f + 1), it j⟩) ∧ (∀ j : Nat, (it j).length ≤ 1000) ∧ (List.range (f + 1)).flatMap it = y := by
  unfold progress_Split.f
  rw [if_neg (by omega), if_neg (by omega), if_neg (by omega)]
  by_cases h0 : y.length = 0
  · rw [if_pos h0]
    have : y = [] := List.eq_nil_of_length_eq_zero h0
    subst this
    refine ⟨0, fun _ => [], _, rfl, rfl, by omega, fun j hj => ?_, fun j => by simp, by simp⟩
    have : j = 0 := by omega
    subst this
    rfl
  · rw [if_neg h0, if_pos (by omega), Int.toNat_natCast]
    have hd : 0 < (y.length + s - 1) / s := Nat.div_pos (by omega) (by omega)
    have hd2 := div_le (len := y.length) (size := s) hs (by omega)
    obtain ⟨f, hf⟩ : ∃ f, (y.length + s - 1) / s = f + 1 := ⟨_, (Nat.succ_pred_eq_of_pos hd).symm⟩
    refine ⟨f, part y s, _, rfl, by unfold chunksF; rw [List.length_map, List.length_range, hf], by omega, fun j hj => ?_, fun j => by rw [part_len]; unfold ce; split <;> omega, ?_⟩
    · unfold chunksF
      rw [List.getElem?_map, hf, List.getElem?_eq_getElem (by rw [List.length_range]; exact hj), List.getElem_range]
      rfl
    · rw [parts_all, List.take_of_length_le]
      have h1 : y.length + s - 1 < (f + 1 + 1) * s := by
        have := (Nat.div_lt_iff_lt_mul (k := s) (x := y.length + s - 1) (y := f + 1 + 1) (by omega)).1 (by omega)
        exact this
      rw [Nat.add_mul (f + 1) 1 s, Nat.one_mul] at h1
      omega
theorem eq_loop : ∀ (k : Nat) (y : List Int) (i : Nat), y.length ≤ 100 → i ≤ y.length → y.length < k + i → glossatorref3_Equal_int.l0 k y y (y.length : Int) (i : Int) = some true
  | 0, _, _, _, _, h => by omega
  | k + 1, y, i, hy, hi, hk => by
    unfold glossatorref3_Equal_int.l0
    by_cases hlt : i < y.length
    · rw [if_pos (by omega), if_pos (by omega), if_pos (by omega), if_pos (by omega), if_pos rfl, wr (n := (i : Int) + 1) (by omega) (by omega)]
      exact eq_loop k y (i + 1) hy (by omega) (by omega)
    · rw [if_neg (by omega)]
theorem eq_self (y : List Int) (hy : y.length ≤ 100) : glossatorref3_Equal_int.f 400 y y = some true := by
  unfold glossatorref3_Equal_int.f
  rw [if_pos rfl]
  exact eq_loop 400 y 0 hy (by omega) (by omega)
/-- what the loop keeps: ps are the chunks that are still to come -/
structure Kept (T : Int) (f : Nat) (it : Nat → List Int) (ps : List Nat) (m : List (Int × S39)) : Prop where
  nodup : ps.Nodup
  lt : ∀ i ∈ ps, i < f + 1
  len : m.length + ps.length = f + 1
  has : ∀ i : Nat, i < f + 1 → (i ∈ ps → Mp.aget m (i : Int) = none) ∧ (i ∉ ps → Mp.aget m (i : Int) = some ⟨T, (i : Int), decide (i + 1 = f + 1), it i⟩)
  fit : ∀ p ∈ m, ∃ i : Nat, i < f + 1 ∧ p.1 = (i : Int) ∧ p.2.f2 = decide (i + 1 = f + 1)
theorem kept0 (T : Int) (f : Nat) (it : Nat → List Int) : Kept T f it (List.range (f + 1)) [] :=
  ⟨List.nodup_range, fun i hi => List.mem_range.1 hi, by simp, fun i hi => ⟨fun _ => rfl, fun h => absurd (List.mem_range.2 hi) h⟩, fun p hp => by cases hp⟩
theorem aset_len {m : List (Int × S39)} {x : Int} {v : S39} (h : Mp.aget m x = none) : Mp.aset m x v = m ++ [(x, v)] := by
  unfold Mp.aset
  rw [if_neg]
  intro h2
  exact (Mp.any_iff.1 h2) h
theorem Kept.step {T : Int} {f : Nat} {it : Nat → List Int} {ps : List Nat} {m : List (Int × S39)} (h : Kept T f it ps m) (k : Nat) (hk : k < ps.length) :
    Mp.aget m ((ps[k] : Nat) : Int) = none ∧ Kept T f it (ps.eraseIdx k) (Mp.aset m ((ps[k] : Nat) : Int) ⟨T, ((ps[k] : Nat) : Int), decide (ps[k] + 1 = f + 1), it ps[k]⟩) := by
  have hm : ps[k] ∈ ps := List.getElem_mem hk
  have hlt := h.lt _ hm
  have hn := (h.has _ hlt).1 hm
  have hmem : ∀ i, i ∈ ps.eraseIdx k ↔ i ∈ ps ∧ i ≠ ps[k] := by
    intro i
    have he : ps.eraseIdx k = ps.erase ps[k] := by
      rw [List.erase_eq_eraseIdx_of_idxOf (i := k)]
      exact List.Nodup.idxOf_getElem h.nodup k hk
    rw [he, h.nodup.mem_erase_iff]
    exact And.comm
  refine ⟨hn, h.nodup.eraseIdx k, fun i hi => h.lt i ((hmem i).1 hi).1, ?_, fun i hi => ⟨fun hp => ?_, fun hp => ?_⟩, fun p hp => ?_⟩
  · rw [aset_len hn, List.length_append, List.length_eraseIdx_of_lt hk, List.length_singleton]
    have := h.len
    omega
  · obtain ⟨h1, h2⟩ := (hmem i).1 hp
    rw [Mp.aget_aset, if_neg (by omega)]
    exact (h.has i hi).1 h1
  · rw [Mp.aget_aset]
    by_cases he : ps[k] = i
    · rw [if_pos (by omega), he]
    · rw [if_neg (by omega)]
      exact (h.has i hi).2 (fun h1 => hp ((hmem i).2 ⟨h1, fun e => he e.symm⟩))
  · rw [aset_len hn] at hp
    rcases List.mem_append.1 hp with hp | hp
    · exact h.fit p hp
    · rw [List.mem_singleton] at hp
      subst hp
      exact ⟨ps[k], hlt, rfl, rfl⟩
end Go.Proofs.Ytpbljheelkpaiaa.Pg
