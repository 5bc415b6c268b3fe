/- FilewatchIncremental: a watcher that is polled before every event delivers what Batches groups. No condition beside the arguments' size. -/
import Derived.Test.YtgigbllohagfmaaFiPb
import Derived.Test.YtgigbllohagfmaaFihLi
set_option linter.unusedVariables false
set_option linter.unusedSimpArgs false
namespace Go.Proofs.Ytgigbllohagfmaa.Fi
open Go.RowKit Go.Proofs.YtgigbllohagfmaaW.PrintWords Go.Proofs.YtgigbllohagfmaaW.PrintLast Go.Proofs.YtgigbllohagfmaaW.PrintMore
open Go.Proofs.Ytgigbllohagfmaa

theorem cpl_nil (d t : Int) : cpl d t [] = false := rfl
theorem cpl_snoc (d t : Int) (l : List S33) (e : S33) (hl : l.length ≤ 1000) : cpl d t (l ++ [e]) = decide (d ≤ wrap64 (t - e.f0)) := by
  unfold cpl
  have h1 : (l ++ [e]).length = l.length + 1 := by rw [List.length_append, List.length_singleton]
  have h2 : rd_T33 (l ++ [e]) (wrap64 (((l ++ [e]).length : Int) - 1)) = e := by
    rw [h1, w64 (by omega) (by omega), show (((l.length + 1 : Nat) : Int) - 1) = ((l.length : Nat) : Int) from by omega, rd_get _ _ (by omega)]
    simp
  rw [h2, h1, show decide (0 < l.length + 1) = true from decide_eq_true (by omega), Bool.true_and]
theorem seg (es : List S33) (s i : Nat) (hi : i < es.length) (hs : s ≤ i) : (es.take (i + 1)).drop s = (es.take i).drop s ++ [es[i]] := by
  rw [List.take_succ_eq_append_getElem hi, List.drop_append_of_le_length (by rw [List.length_take]; omega)]
theorem cut_poll (es : List S33) (t dl : Int) (hT : Tm es t) (ht : t ≤ 2000) (hl : es.length ≤ 1000) (tm : Int) (k s i : Nat) (hi : i < es.length) (hs : s ≤ i) (bs : List S31) (r : List S31 × Int)
    (hc : cpl dl tm ((es.take i).drop s ++ [es[i]]) = true) (h : cut k es dl bs (s : Int) (es.length : Int) (i : Int) = some r) :
    ∃ bs2, pollS dl tm ((es.take i).drop s ++ [es[i]]) bs = some ([], bs2) ∧ filewatch_Batches.l0 k es dl bs2 ((i + 1 : Nat) : Int) (es.length : Int) ((i + 1 : Nat) : Int) = some r := by
  have hwi : wrap64 ((i : Int) + 1) = ((i + 1 : Nat) : Int) := by rw [w64 (by omega) (by omega)]; omega
  have hg : ((es.take (i + 1)).drop s).length = i + 1 - s := by rw [List.length_drop, List.length_take]; omega
  have hnb := newBatch_is ((es.take (i + 1)).drop s) dl (by omega) (by omega) (fun e he => hT.keys e (List.mem_of_mem_take (List.mem_of_mem_drop he)))
  generalize wrap64 _ = bt at hnb
  generalize one _ = be at hnb
  unfold cut at h
  rw [if_pos (by omega), hwi, if_pos (by omega), if_pos (by omega), show (((i + 1 : Nat) : Int)).toNat = i + 1 from by omega, show ((s : Int)).toNat = s from by omega, hnb, Option.bind_some] at h
  simp only at h
  unfold pollS
  rw [if_pos hc, ← seg es s i hi hs, hnb, Option.bind_some]
  simp only
  by_cases h0 : be.length = 0
  · rw [if_neg (by omega)] at h
    rw [if_pos h0]
    exact ⟨bs, rfl, h⟩
  · rw [if_pos (by omega)] at h
    rw [if_neg h0]
    split at h
    · exact ⟨_, rfl, h⟩
    · cases h
theorem okAdd_is (dl t now : Int) (es : List S33) (hT : Tm es t) (ht : t ≤ 2000) (i : Nat) (hi : i < es.length) (evs : List S33) (hc : cpl dl es[i].f0 evs = false) : okAdd dl es[i].f0 es[i] evs = true := by
  unfold okAdd
  have h1 := hT.times es[i] (List.getElem_mem hi)
  have h2 := hT.kinds es[i] (List.getElem_mem hi)
  have hv : vk es[i].f2 = true := by rcases h2 with h | h | h <;> rw [h] <;> simp [vk]
  rw [hv, hc, show decide (0 ≤ es[i].f0) = true from decide_eq_true h1.1, show decide (es[i].f0 ≤ 1000000000000) = true from decide_eq_true (by omega), show decide (es[i].f0 ≤ es[i].f0) = true from decide_eq_true (Int.le_refl _)]
  rfl
theorem l0_end (es : List S33) (dl : Int) (bs : List S31) (k : Nat) (s : Int) (r : List S31 × Int) (h : filewatch_Batches.l0 k es dl bs s (es.length : Int) (es.length : Int) = some r) : r = (bs, 0) := by
  cases k with
  | zero => cases h
  | succ k =>
    rw [l0_succ, if_neg (by omega)] at h
    exact (Option.some.inj h).symm
theorem inc_loop (es : List S33) (t dl : Int) (hT : Tm es t) (ht : t ≤ 2000) (hd0 : 0 ≤ dl) (hd1 : dl ≤ 1000) (hl : es.length ≤ 1000) : ∀ (n i s k : Nat) (bs bs' : List S31) (hi : i < es.length), i + n + 1 = es.length → s ≤ i →
    filewatch_Batches.l0 k es dl bs (s : Int) (es.length : Int) (i : Int) = some (bs', 0) → ∃ evF, incS dl (es.drop (i + 1)) es[i].f0 ((es.take i).drop s ++ [es[i]]) bs = some (evF, bs') := by
  intro n
  induction n with
  | zero =>
    intro i s k bs bs' hi hn hs h
    have hwi : wrap64 ((i : Int) + 1) = ((i + 1 : Nat) : Int) := by rw [w64 (by omega) (by omega)]; omega
    have hti := hT.times es[i] (List.getElem_mem hi)
    have hgl : ((es.take i).drop s).length ≤ 1000 := by rw [List.length_drop, List.length_take]; omega
    cases k with
    | zero => cases h
    | succ k =>
      rw [l0_succ, if_pos (by omega), hwi, if_neg (by omega)] at h
      obtain ⟨bs2, h1, h2⟩ := cut_poll es t dl hT ht hl 1000000 k s i hi hs bs _ (by rw [cpl_snoc _ _ _ _ hgl]; exact decide_eq_true (by rw [w64 (by omega) (by omega)]; omega)) h
      rw [show ((i + 1 : Nat) : Int) = (es.length : Int) from by omega] at h2
      have h3 := l0_end _ _ _ _ _ _ h2
      injection h3 with h3 _
      subst h3
      refine ⟨[], ?_⟩
      rw [List.drop_eq_nil_of_le (by omega)]
      unfold incS
      rw [if_pos (by omega)]
      exact h1
  | succ n ih =>
    intro i s k bs bs' hi hn hs h
    have hi1 : i + 1 < es.length := by omega
    have hwi : wrap64 ((i : Int) + 1) = ((i + 1 : Nat) : Int) := by rw [w64 (by omega) (by omega)]; omega
    have hti := hT.times es[i] (List.getElem_mem hi)
    have hti1 := hT.times es[i + 1] (List.getElem_mem hi1)
    have hor := List.pairwise_iff_getElem.1 hT.order i (i + 1) hi hi1 (by omega)
    have hgl : ((es.take i).drop s).length ≤ 1000 := by rw [List.length_drop, List.length_take]; omega
    rw [List.drop_eq_getElem_cons hi1, incS_cons, if_pos hor]
    cases k with
    | zero => cases h
    | succ k =>
      rw [l0_succ, if_pos (by omega), hwi, if_pos (by omega), if_pos (by omega), if_pos (by omega), if_pos (by omega), rd_get es (i + 1) hi1, rd_get es i hi, w64 (by omega) (by omega)] at h
      by_cases hc : es[i + 1].f0 - es[i].f0 < dl
      · rw [if_pos hc] at h
        obtain ⟨evF, h1⟩ := ih (i + 1) s k bs bs' hi1 (by omega) (by omega) h
        have hcp : cpl dl es[i + 1].f0 ((es.take i).drop s ++ [es[i]]) = false := by
          rw [cpl_snoc _ _ _ _ hgl, w64 (by omega) (by omega)]
          exact decide_eq_false (by omega)
        refine ⟨evF, ?_⟩
        unfold pollS
        rw [if_neg (by rw [hcp]; simp), Option.bind_some]
        simp only
        rw [if_pos (okAdd_is dl t es[i].f0 es hT ht (i + 1) hi1 _ hcp), ← seg es s i hi hs]
        exact h1
      · rw [if_neg hc] at h
        obtain ⟨bs2, h1, h2⟩ := cut_poll es t dl hT ht hl es[i + 1].f0 k s i hi hs bs _ (by rw [cpl_snoc _ _ _ _ hgl, w64 (by omega) (by omega)]; exact decide_eq_true (by omega)) h
        obtain ⟨evF, h3⟩ := ih (i + 1) (i + 1) k bs2 bs' hi1 (by omega) (Nat.le_refl _) h2
        refine ⟨evF, ?_⟩
        rw [h1, Option.bind_some]
        simp only
        rw [if_pos (okAdd_is dl t es[i].f0 es hT ht (i + 1) hi1 [] rfl)]
        rw [show (es.take (i + 1)).drop (i + 1) = [] from List.drop_eq_nil_of_le (by rw [List.length_take]; omega)] at h3
        exact h3
theorem inc_is (es : List S33) (t dl : Int) (hT : Tm es t) (ht : t ≤ 2000) (hd0 : 0 ≤ dl) (hd1 : dl ≤ 1000) (hl : es.length ≤ 1000) (k : Nat) (bs : List S31) (h : filewatch_Batches.f k es dl = some (bs, 0)) : ∃ evF, incS dl es 0 [] [] = some (evF, bs) := by
  unfold filewatch_Batches.f at h
  obtain ⟨c, hc, h⟩ := Option.bind_eq_some_iff.1 h
  split at h
  case isFalse h0 =>
    injection h with h
    injection h with h1 h2
    exact absurd h2 h0
  case isTrue =>
    cases hes : es with
    | nil =>
      rw [hes] at h
      have := l0_end [] dl [] k 0 _ h
      injection this with h3 _
      subst h3
      refine ⟨[], ?_⟩
      unfold incS
      rw [if_pos (by omega)]
      rfl
    | cons e r =>
      have hi : 0 < es.length := by rw [hes]; simp
      obtain ⟨evF, h1⟩ := inc_loop es t dl hT ht hd0 hd1 hl (es.length - 1) 0 0 k [] bs hi (by omega) (Nat.le_refl _) h
      have e0 : es[0] = e := by simp [hes]
      have hok := okAdd_is dl t 0 es hT ht 0 hi [] rfl
      have hti := hT.times es[0] (List.getElem_mem hi)
      rw [e0] at h1 hok hti
      refine ⟨evF, ?_⟩
      rw [incS_cons, if_pos hti.1]
      unfold pollS
      rw [if_neg (by rw [cpl_nil]; simp), Option.bind_some]
      simp only
      rw [if_pos hok]
      simpa [hes] using h1
theorem eq18_loop (xs : List S33) (hx : xs.length ≤ 1000) : ∀ (d i k : Nat), i + d = xs.length → d < k → api_QFileEvent_18.l0 k xs xs (xs.length : Int) (i : Int) = some true := by
  intro d
  induction d with
  | zero =>
    intro i k hi hk
    obtain ⟨k, rfl⟩ : ∃ m, k = m + 1 := ⟨k - 1, by omega⟩
    simp only [api_QFileEvent_18.l0]
    rw [if_neg (by omega)]
  | succ d ih =>
    intro i k hi hk
    obtain ⟨k, rfl⟩ : ∃ m, k = m + 1 := ⟨k - 1, by omega⟩
    simp only [api_QFileEvent_18.l0]
    rw [if_pos (by omega), if_pos (by omega), if_pos (by omega), if_pos (by omega), if_neg (by simp), w64 (by omega) (by omega), show ((i : Int) + 1) = ((i + 1 : Nat) : Int) from by omega]
    exact ih (i + 1) k (by omega) (by omega)
theorem eqb_loop (xs : List S31) (hx : xs.length ≤ 1000) (hp : ∀ b ∈ xs, b.f1.length ≤ 1000) : ∀ (d i k : Nat), i + d = xs.length → d + 2000 < k → glossatorref3_EqualBatches.l0 k xs xs (xs.length : Int) (i : Int) = some true := by
  intro d
  induction d with
  | zero =>
    intro i k hi hk
    obtain ⟨k, rfl⟩ : ∃ m, k = m + 1 := ⟨k - 1, by omega⟩
    simp only [glossatorref3_EqualBatches.l0]
    rw [if_neg (by omega)]
  | succ d ih =>
    intro i k hi hk
    obtain ⟨k, rfl⟩ : ∃ m, k = m + 1 := ⟨k - 1, by omega⟩
    have hi' : i < xs.length := by omega
    have h18 : api_QFileEvent_18.f k xs[i].f1 xs[i].f1 = some true := by
      unfold api_QFileEvent_18.f
      rw [if_pos rfl]
      have := hp xs[i] (List.getElem_mem hi')
      exact eq18_loop xs[i].f1 this xs[i].f1.length 0 k (by omega) (by omega)
    simp only [glossatorref3_EqualBatches.l0]
    rw [if_pos (by omega), if_pos (by omega), if_pos (by omega), if_pos (by omega), if_pos trivial, rd31 xs i hi', h18, Option.bind_some, if_pos rfl, w64 (by omega) (by omega), show ((i : Int) + 1) = ((i + 1 : Nat) : Int) from by omega]
    exact ih (i + 1) k (by omega) (by omega)
theorem eqb_is (xs : List S31) (hx : xs.length ≤ 1000) (hp : ∀ b ∈ xs, b.f1.length ≤ 1000) (k : Nat) (hk : 4000 ≤ k) : glossatorref3_EqualBatches.f k xs xs = some true := by
  unfold glossatorref3_EqualBatches.f
  rw [if_pos rfl]
  exact eqb_loop xs hx hp xs.length 0 k (by omega) (by omega)
theorem Incremental (A0 : Option Addr) (c0 : Nat) (l0 : List S33) (a1 : Int) (w : World) (hr0 : Kd.C k33 w A0 l0.length l0) (hc0 : l0.length ≤ c0) (hl0 : l0.length ≤ 9223372036854775807) (hk0 : ∀ e ∈ l0, e.f1.size ≤ 9223372036854775807) :
    Calls Try.prog 5 #[.slice A0 l0.length c0, .int .i64 a1] w fun e w' => e = .returned (.bool true) ∧ Below w.heap.size w w' := by
  obtain ⟨es, t, h1, h2, h3, hT⟩ := timed_is l0 hl0 hk0 5000 (by omega)
  obtain ⟨dl, hdl, d0, d1⟩ := mod_range a1 60 (by omega) (by omega)
  obtain ⟨bs, hbs, hD⟩ := batches_is es t dl hT h3 (by omega) d0 (by omega) 5000 (by omega)
  obtain ⟨evF, hi⟩ := inc_is es t dl hT h3 d0 (by omega) (by omega) 5000 bs hbs
  have hbl := hD.len
  exact inc_calls 5000 A0 c0 l0 a1 w hr0 hc0 es dl bs (example_is 5000 (by omega)) h1 hdl hbs (by omega) (by omega) (by omega) evF bs hi (eqb_is bs (by omega) hD.parts 5000 (by omega))
end Go.Proofs.Ytgigbllohagfmaa.Fi
