/- The law on batches: the printed function answers true. No condition beside the arguments' size. -/
import Derived.Test.YtgigbllohagfmaaFbPb
import Derived.Test.YtgigbllohagfmaaFbx4
set_option linter.unusedVariables false
set_option linter.unusedSimpArgs false
namespace Go.Proofs.Ytgigbllohagfmaa.Fb
open Go.RowKit Go.Proofs.YtgigbllohagfmaaW.PrintWords Go.Proofs.YtgigbllohagfmaaW.PrintLast Go.Proofs.YtgigbllohagfmaaW.PrintMore
open Go.Proofs.Ytgigbllohagfmaa

theorem inner (bs : List S31) (dl : Int) (hd0 : 0 ≤ dl) (hd1 : dl ≤ 1000000) (hbl : bs.length ≤ 1000) (i : Nat) (hi : i < bs.length) (hb : Ok dl bs[i]) (hp : bs[i].f1.length ≤ 1000) (K : Nat)
    (hout : ∀ k, K ≤ k → glossatorkeep3_FilewatchBatchInvariants.l0 k dl bs (bs.length : Int) ((i + 1 : Nat) : Int) = some true) :
    ∀ (d j k : Nat), j + d = bs[i].f1.length → K + d + 1 ≤ k → glossatorkeep3_FilewatchBatchInvariants.l1 k dl bs (i : Int) bs[i].f1 (bs.length : Int) (i : Int) (bs[i].f1.length : Int) (j : Int) = some true := by
  intro d
  induction d with
  | zero =>
    intro j k hj hk
    obtain ⟨k, rfl⟩ : ∃ m, k = m + 1 := ⟨k - 1, by omega⟩
    simp only [glossatorkeep3_FilewatchBatchInvariants.l1]
    rw [if_neg (by omega), w64 (by omega) (by omega), show ((i : Int) + 1) = ((i + 1 : Nat) : Int) from by omega]
    exact hout k (by omega)
  | succ d ih =>
    intro j k hj hk
    obtain ⟨k, rfl⟩ : ∃ m, k = m + 1 := ⟨k - 1, by omega⟩
    have hj' : j < bs[i].f1.length := by omega
    have ho := hb.old bs[i].f1[j] (List.getElem_mem hj')
    have c1 : (j : Int) < (bs[i].f1.length : Int) := by omega
    have c2 : (0 : Int) ≤ (j : Int) := by omega
    have c3 : (0 : Int) ≤ (i : Int) := by omega
    have c4 : (i : Int) < (bs.length : Int) := by omega
    have c5 : ¬ bs[i].f1[j].f0 + dl > bs[i].f0 := by omega
    have hnext := ih (j + 1) k (by omega) (by omega)
    have b1 : -9223372036854775808 ≤ bs[i].f1[j].f0 + dl ∧ bs[i].f1[j].f0 + dl ≤ 9223372036854775807 := by omega
    have b2 : -9223372036854775808 ≤ (j : Int) + 1 ∧ (j : Int) + 1 ≤ 9223372036854775807 := by omega
    have b3 : (j : Int) + 1 = ((j + 1 : Nat) : Int) := by omega
    have b4 : -9223372036854775808 ≤ (j : Int) - 1 ∧ (j : Int) - 1 ≤ 9223372036854775807 := by omega
    have hw : wrap64 ((j : Int) + 1) = ((j + 1 : Nat) : Int) := (w64 b2.1 b2.2).trans b3
    have hsum : wrap64 (bs[i].f1[j].f0 + dl) = bs[i].f1[j].f0 + dl := w64 b1.1 b1.2
    have hg1 := rd_get bs[i].f1 j hj'
    have hg2 := rd31 bs i hi
    clear ih hout hbl hd0 hd1 ho
    simp only [glossatorkeep3_FilewatchBatchInvariants.l1]
    rw [if_pos c1, hg1, hg2, hsum, hw]
    by_cases h0 : (j : Int) > 0
    · clear hw hsum
      have d0 : j - 1 < bs[i].f1.length := by omega
      have d1 : (0 : Int) ≤ ((j - 1 : Nat) : Int) := Int.natCast_nonneg _
      have d2 : ((j - 1 : Nat) : Int) < (bs[i].f1.length : Int) := Int.ofNat_lt.2 d0
      have d3 : (j : Int) - 1 = ((j - 1 : Nat) : Int) := by omega
      have d4 : j - 1 < j := by omega
      have e1 : wrap64 ((j : Int) - 1) = ((j - 1 : Nat) : Int) := (w64 b4.1 b4.2).trans d3
      have h2 : Op.bytesLess bs[i].f1[j - 1].f1.toList bs[i].f1[j].f1.toList = true := List.pairwise_iff_getElem.1 hb.less (j - 1) j d0 hj' d4
      have hg3 := rd_get bs[i].f1 (j - 1) d0
      rw [if_pos h0, e1, if_pos d1, if_pos d2, if_pos c2, if_pos c1, hg3, if_pos h2, if_pos c3, if_pos c4, if_neg c5]
      exact hnext
    · rw [if_neg h0, if_pos c2, if_pos c1, if_pos c3, if_pos c4, if_neg c5]
      exact hnext
theorem outer (es : List S33) (t : Int) (hT : Tm es t) (ht : t ≤ 2000) (bs : List S31) (dl : Int) (hd0 : 0 ≤ dl) (hd1 : dl ≤ 1000000) (hbl : bs.length ≤ 1000) (hD : Deliv es dl bs) :
    ∀ (d i k K : Nat), i + d = bs.length → K = 3000 + d * 1003 → K < k → glossatorkeep3_FilewatchBatchInvariants.l0 k dl bs (bs.length : Int) (i : Int) = some true := by
  intro d
  induction d with
  | zero =>
    intro i k K hi hK hk
    obtain ⟨k, rfl⟩ : ∃ m, k = m + 1 := ⟨k - 1, by omega⟩
    have c1 : ¬ (i : Int) < (bs.length : Int) := by omega
    have c2 : 3000 ≤ k := by omega
    simp only [glossatorkeep3_FilewatchBatchInvariants.l0]
    rw [if_neg c1, example_is k c2, Option.bind_some]
  | succ d ih =>
    intro i k K hi hK hk
    obtain ⟨k, rfl⟩ : ∃ m, k = m + 1 := ⟨k - 1, by omega⟩
    have hi' : i < bs.length := by omega
    have hb := hD.each bs[i] (List.getElem_mem hi')
    have hp := hD.parts bs[i] (List.getElem_mem hi')
    have hs := hb.some
    obtain ⟨L, hL⟩ : ∃ L : Nat, L = 3000 + d * 1003 := ⟨_, rfl⟩
    have c0 : i + 1 + d = bs.length := by omega
    have c1 : L + 1 + bs[i].f1.length + 1 ≤ k := by omega
    have hin := inner bs dl hd0 hd1 hbl i hi' hb hp (L + 1) (fun k hk => ih (i + 1) k L c0 hL hk) bs[i].f1.length 0 k (Nat.zero_add _) c1
    have c2 : (i : Int) < (bs.length : Int) := by omega
    have c3 : (0 : Int) ≤ (i : Int) := Int.natCast_nonneg _
    have c4 : ¬ (bs[i].f1.length : Int) = 0 := by omega
    have b4 : -9223372036854775808 ≤ (i : Int) - 1 ∧ (i : Int) - 1 ≤ 9223372036854775807 := by omega
    simp only [glossatorkeep3_FilewatchBatchInvariants.l0]
    rw [if_pos c2, if_pos c3, if_pos c2, rd31 bs i hi', if_neg c4]
    by_cases h0 : (i : Int) > 0
    · have d0 : i - 1 < bs.length := by omega
      have d1 : (0 : Int) ≤ ((i - 1 : Nat) : Int) := Int.natCast_nonneg _
      have d2 : ((i - 1 : Nat) : Int) < (bs.length : Int) := Int.ofNat_lt.2 d0
      have d3 : (i : Int) - 1 = ((i - 1 : Nat) : Int) := by omega
      have d4 : i - 1 < i := by omega
      have h2 := List.pairwise_iff_getElem.1 hD.order (i - 1) i d0 hi' d4
      have d5 : ¬ bs[i].f0 < bs[i - 1].f0 := by omega
      have e1 : wrap64 ((i : Int) - 1) = ((i - 1 : Nat) : Int) := (w64 b4.1 b4.2).trans d3
      rw [if_pos h0, e1, if_pos d1, if_pos d2, rd31 bs (i - 1) d0, if_neg d5]
      exact hin
    · rw [if_neg h0]
      exact hin
theorem Invariants (l0 : List S33) (a1 : Int) (hl0 : l0.length ≤ 9223372036854775807) (hk0 : ∀ e ∈ l0, e.f1.size ≤ 9223372036854775807) : ∃ k, glossatorkeep3_FilewatchBatchInvariants.f k l0 a1 = some true := by
  obtain ⟨es, t, h1, h2, h3, hT⟩ := timed_is l0 hl0 hk0 100 (Nat.le_refl _)
  obtain ⟨dl, hdl, d0, d1⟩ := mod_range a1 60 (by omega) (by omega)
  obtain ⟨bs, hbs, hD⟩ := batches_is es t dl hT h3 (by omega) d0 (by omega) 3000 (Nat.le_refl _)
  have mono_t : ∀ k, 100 ≤ k → glossatorkeep3_timed.f k l0 = some es := by
    intro k hk
    induction k with
    | zero => omega
    | succ k ih =>
      rcases Nat.lt_or_ge k 100 with h | h
      · have : k + 1 = 100 := by omega
        rw [this]; exact h1
      · exact glossatorkeep3_timed.mono l0 k es (ih h)
  have mono_b : ∀ k, 3000 ≤ k → filewatch_Batches.f k es dl = some (bs, 0) := by
    intro k hk
    induction k with
    | zero => omega
    | succ k ih =>
      rcases Nat.lt_or_ge k 3000 with h | h
      · have : k + 1 = 3000 := by omega
        rw [this]; exact hbs
      · exact filewatch_Batches.mono es dl k (bs, 0) (ih h)
  have hbl := hD.len
  refine ⟨4000 + bs.length * 1003, ?_⟩
  unfold glossatorkeep3_FilewatchBatchInvariants.f
  rw [example_is _ (by omega), Option.bind_some, if_pos rfl, mono_t _ (by omega), Option.bind_some, hdl, Option.bind_some, mono_b _ (by omega), Option.bind_some]
  simp only
  rw [if_pos trivial]
  exact outer es t hT h3 bs dl d0 (by omega) (by omega) hD bs.length 0 _ _ (Nat.zero_add _) rfl (by omega)
end Go.Proofs.Ytgigbllohagfmaa.Fb
