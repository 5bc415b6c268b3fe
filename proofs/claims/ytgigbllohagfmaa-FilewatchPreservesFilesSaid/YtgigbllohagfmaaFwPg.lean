/- The law that batches keep the files: the printed function answers true. No condition beside the arguments' size. -/
import Derived.Test.YtgigbllohagfmaaFwPf
set_option linter.unusedVariables false
set_option linter.unusedSimpArgs false
namespace Go.Proofs.Ytgigbllohagfmaa.Fw
open Go.RowKit Go.Proofs.YtgigbllohagfmaaW.PrintWords Go.Proofs.YtgigbllohagfmaaW.PrintLast Go.Proofs.YtgigbllohagfmaaW.PrintMore
open Go.Proofs.Ytgigbllohagfmaa

theorem keep_loop (fs : List ByteArray) (es : List S33) (bs : List S31) (hb : bs.length ≤ 1000000) (hd : (bs.flatMap (·.f1)).length ≤ 1000) (k0 : Nat)
    (hend : ∀ k, k0 ≤ k → ((glossatorkeep3_watchExample.f k).bind fun t178 => (if t178 = true then ((filewatch_Apply.f fs es).bind fun t179 => ((filewatch_Apply.f fs (bs.flatMap (·.f1))).bind fun t182 => ((glossatorref3_Equal_string.f k t179 t182).bind fun t185 => (if t185 = true then ((filewatch_Consistent.f fs (bs.flatMap (·.f1))).bind fun t186 => (some t186)) else (some false))))) else (some false))) = some true) :
    ∀ (d i k : Nat), i + d = bs.length → k0 + d < k → glossatorkeep3_FilewatchPreservesFiles.l0 k fs es bs ((bs.take i).flatMap (·.f1)) (bs.length : Int) (i : Int) = some true := by
  intro d
  induction d with
  | zero =>
    intro i k hi hk
    obtain ⟨k, rfl⟩ : ∃ m, k = m + 1 := ⟨k - 1, by omega⟩
    simp only [glossatorkeep3_FilewatchPreservesFiles.l0]
    rw [if_neg (by omega), List.take_of_length_le (by omega)]
    exact hend k (by omega)
  | succ d ih =>
    intro i k hi hk
    obtain ⟨k, rfl⟩ : ∃ m, k = m + 1 := ⟨k - 1, by omega⟩
    have hi' : i < bs.length := by omega
    have e1 : (bs.take (i + 1)).flatMap (·.f1) = (bs.take i).flatMap (·.f1) ++ bs[i].f1 := by
      rw [List.take_add_one, List.getElem?_eq_getElem hi', List.flatMap_append]
      simp
    have e2 : ((bs.take (i + 1)).flatMap (·.f1)).length ≤ (bs.flatMap (·.f1)).length := by
      conv => rhs; rw [← List.take_append_drop (i + 1) bs, List.flatMap_append]
      rw [List.length_append]
      omega
    rw [e1, List.length_append] at e2
    simp only [glossatorkeep3_FilewatchPreservesFiles.l0]
    rw [if_pos (by omega), if_pos (by omega), if_pos (by omega), rd31 bs i hi', if_pos (by omega), ← e1, w64 (by omega) (by omega), show ((i : Int) + 1) = ((i + 1 : Nat) : Int) from by omega]
    exact ih (i + 1) k (by omega) (by omega)
theorem Preserves (l0 : List ByteArray) (l1 : List S33) (a2 : Int) (hl0 : l0.length ≤ 9223372036854775807) (hl1 : l1.length ≤ 9223372036854775807) (hk0 : ∀ f ∈ l0, f.size ≤ 9223372036854775807) (hk1 : ∀ e ∈ l1, e.f1.size ≤ 9223372036854775807) : ∃ k, glossatorkeep3_FilewatchPreservesFiles.f k l0 l1 a2 = some true := by
  obtain ⟨es, t, h1, h2, h3, hT⟩ := timed_is l1 hl1 hk1 100 (Nat.le_refl _)
  have hm : 0 ≤ mn (l0.length : Int) 10 ∧ mn (l0.length : Int) 10 ≤ l0.length ∧ mn (l0.length : Int) 10 ≤ 10 := by unfold mn; split <;> omega
  obtain ⟨dl, hdl, d0, d1⟩ := mod_range a2 60 (by omega) (by omega)
  obtain ⟨bs, hbs, hD⟩ := batches_is es t dl hT h3 (by omega) d0 (by omega) 3000 (Nat.le_refl _)
  have mono_t : ∀ k, 100 ≤ k → glossatorkeep3_timed.f k l1 = some es := by
    intro k hk
    induction k with
    | zero => omega
    | succ k ih =>
      rcases Nat.lt_or_ge k 100 with h | h
      · have : k + 1 = 100 := by omega
        rw [this]; exact h1
      · exact glossatorkeep3_timed.mono l1 k es (ih h)
  have mono_b : ∀ k, 3000 ≤ k → filewatch_Batches.f k es dl = some (bs, 0) := by
    intro k hk
    induction k with
    | zero => omega
    | succ k ih =>
      rcases Nat.lt_or_ge k 3000 with h | h
      · have : k + 1 = 3000 := by omega
        rw [this]; exact hbs
      · exact filewatch_Batches.mono es dl k (bs, 0) (ih h)
  refine ⟨300000 + bs.length, ?_⟩
  have hf10 : (l0.take (mn (l0.length : Int) 10).toNat).length ≤ 10 := by rw [List.length_take]; omega
  have hfk : ∀ f ∈ l0.take (mn (l0.length : Int) 10).toNat, f.size ≤ 9223372036854775807 := fun f hf => hk0 f (List.mem_of_mem_take hf)
  unfold glossatorkeep3_FilewatchPreservesFiles.f
  rw [example_is _ (by omega), Option.bind_some, if_pos rfl, mono_t _ (by omega), Option.bind_some, hdl, Option.bind_some, if_pos hm.1, if_pos hm.2.1, mono_b _ (by omega), Option.bind_some]
  simp only
  rw [if_pos trivial]
  generalize l0.take (mn (l0.length : Int) 10).toNat = fs at hf10 hfk
  have hc1 := cons_f fs es (by omega) (by omega) hfk hT.keys
  rw [hc1.1, Option.bind_some]
  cases hcons : cons es (tab fs) with
  | false => rw [if_neg (by simp), Option.bind_some]
  | true =>
    rw [if_pos rfl]
    have hdk : ∀ e ∈ bs.flatMap (·.f1), e.f1.size ≤ 9223372036854775807 := fun e he => by
      obtain ⟨e', he', h⟩ := deliv_keys hD e he
      rw [h]; exact hT.keys e' he'
    have hdl' := deliv_length hD
    have hc2 := cons_f fs (bs.flatMap (·.f1)) (by omega) (by omega) hfk hdk
    have hrun := (cons_iff es hT.kinds (tab fs)).1 hcons
    have hgood := deliv_good hD hT.kinds hrun
    have hrun2 : ∀ p, ∃ c, run1 (pres (tab fs) p) (kp es p) = some c ∧ run1 (pres (tab fs) p) (kp (bs.flatMap (·.f1)) p) = some c := fun p => by
      obtain ⟨c, hc⟩ := Option.isSome_iff_exists.1 (hrun p)
      exact ⟨c, hc, deliv_runs hD hT.kinds p hc⟩
    have hcons2 : cons (bs.flatMap (·.f1)) (tab fs) = true := (cons_iff _ hgood (tab fs)).2 fun p => by
      obtain ⟨c, _, hc⟩ := hrun2 p
      rw [hc]; rfl
    have hkeys : Sk.sortedKeys (appl es (tab fs)) = Sk.sortedKeys (appl (bs.flatMap (·.f1)) (tab fs)) := keys_eq (appl_apart _ _ (tab_apart fs)) (appl_apart _ _ (tab_apart fs)) fun p => by
      obtain ⟨c, hc, hc'⟩ := hrun2 p
      rw [appl_has es hT.kinds, appl_has _ hgood, ← tab_pres, run_fold _ _ _ hc, run_fold _ _ _ hc']
    have hlen : (Sk.sortedKeys (appl es (tab fs))).length ≤ 100000 := by
      rw [keys_len]
      have := appl_length es (tab fs)
      have := tab_length fs
      omega
    have := keep_loop fs es bs (by have := hD.2; omega) (by omega) 200000 (fun k hk => by
      rw [example_is k (by omega), Option.bind_some, if_pos rfl, hc1.2, Option.bind_some, hc2.2, Option.bind_some, ← hkeys, eqs_is _ hlen k (by omega), Option.bind_some, if_pos rfl, hc2.1, Option.bind_some, hcons2]) bs.length 0 (300000 + bs.length) (by omega) (by omega)
    exact this
end Go.Proofs.Ytgigbllohagfmaa.Fw
