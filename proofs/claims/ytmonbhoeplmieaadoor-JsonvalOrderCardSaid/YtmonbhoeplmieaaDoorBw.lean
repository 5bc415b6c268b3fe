/- strings.Builder: WriteByte, Len. Condition: no builder longer than 2^47 bytes. -/
import Derived.Test.YtmonbhoeplmieaaDoorBl
import Derived.Test.YtmonbhoeplmieaaDoorJsx0
namespace Go.Proofs.YtmonbhoeplmieaaDoor.Bl
open Go.Shelf Go.RowKit Go.Proofs.YtmonbhoeplmieaaDoorW.PrintWords Go.Proofs.YtmonbhoeplmieaaDoorW.PrintLast Go.Proofs.YtmonbhoeplmieaaDoorW.PrintMore
set_option linter.unusedVariables false
set_option linter.unusedSimpArgs false
set_option maxHeartbeats 2000000 in
set_option maxRecDepth 100000 in
theorem writeByte (B b : Nat) (bs : List Value) (c : Int) (w : World) (h : Lib.IsBuilder 49 5 B b bs w) (hlen : bs.length + 1 ≤ 140737488355328) (hBw : B ≤ w.heap.size) :
    Calls Tryd.prog 50 #[.pointer (some ⟨b, 0, none⟩), .int .u8 c] w fun e w' => e = .returned .nilIface ∧ (Lib.BuilderAt 49 5 B b (.pointer (some ⟨b, 0, none⟩)) (bs ++ [.int .u8 c]) w' ∧ Below B w w' ∧ Kept b w w') := by
  obtain ⟨i0, hi, hz0, hz1, hz2⟩ := info_parts infoByte
  have mixed : Tryd.prog.follows .mixedOrders = true := by kernel_rfl
  have hu := Tryd.underlying49
  have hp := Tryd.underlying46
  have hs := Tryd.underlying47
  have hq := Tryd.underlying5
  go_enter Tryd.func50, Tryd.ntmps50
  go_wp2_with (go_at_call 47; refine (copyCheck B b bs _ h).mono ?_)
  rintro e w1 ⟨rfl, h1, hb1, hk1⟩
  have HK1 := Lib.hid hk1
  clear hk1
  obtain ⟨hB, v, hbk, hown, hne⟩ := h1
  have c0 : w1.cell? ⟨b, 0, none⟩ = some (.pointer (some ⟨b, 0, none⟩)) := by rw [Lib.cell_of_heap hbk]; rfl
  have c1 : w1.cell? ⟨b, 1, none⟩ = some v := by rw [Lib.cell_of_heap hbk]; rfl
  have HB1 := Aside0.mk (show Below w1.heap.size w1 w1 from Below.refl _ _)
  have hBw1 := Aside0.mk (show B ≤ w1.heap.size from Nat.le_trans hBw hb1.size)
  go_wp2_with (at_builtin; refine print_append (w0 := w1) (W := w1) B rfl (.tmp 11) (.tmp 13) 47 5 (.int .u8 0) 1 rfl hs infoByte rfl (by decide) v bs (.int .u8 c) rfl rfl rfl hown (Below.refl _ _) hBw1.out (by omega) ?_)
  intro v' w2 hown' hbb hgrow _
  have hlt : b < w1.heap.size := by
    rcases Nat.lt_or_ge b w1.heap.size with h' | h'
    · exact h'
    · simp [Array.getElem?_eq_none h'] at hbk
  have hb2 : w2.heap[b]? = some (.cells #[.pointer (some ⟨b, 0, none⟩), v] 49 (0, 0)) := by
    rw [hgrow.block b hlt (fun e => hne e.symm)]
    exact hbk
  have d0 : w2.cell? ⟨b, 0, none⟩ = some (.pointer (some ⟨b, 0, none⟩)) := by rw [Lib.cell_of_heap hb2]; rfl
  have d1 : w2.cell? ⟨b, 1, none⟩ = some v := by rw [Lib.cell_of_heap hb2]; rfl
  have f1 : w2.frozen? ⟨b, 1, none⟩ = false := Lib.frozen_of_heap hb2 1
  obtain ⟨ao, n', cap, rfl⟩ : ∃ ao n' cap, v' = .slice ao n' cap := by
    rcases hown'.2 with ⟨hv, _⟩ | ⟨g, cap, cur, hv, _⟩
    · exact ⟨_, _, _, hv⟩
    · exact ⟨_, _, _, hv⟩
  go_wp2
  go_ret
  refine ⟨rfl, ?_, ?_, ?_⟩
  · exact Lib.BuilderAt.put (T := 49) (e := 5) hB hb2 (bs' := bs ++ [.int .u8 c]) (by simpa using hown') (by decide)
  · exact (hb1.grown hgrow (by have := hb1.size; omega) (fun k hk => (hown.lt k hk).1)).setCell (p := ⟨b, 1, none⟩) hB _
  · intro k cs t ht hk hb
    have h2 := HK1.out k cs t ht hk hb
    have hlk : k < w1.heap.size := by
      rcases Nat.lt_or_ge k w1.heap.size with h' | h'
      · exact h'
      · simp [Array.getElem?_eq_none h'] at h2
    exact (Below.heap_setCell w2 ⟨b, 1, none⟩ _ k hk).trans ((hgrow.block k hlk (fun e => Lib.ownBlock_ne hown h2 ht e.symm)).trans h2)
set_option maxHeartbeats 2000000 in
set_option maxRecDepth 100000 in
theorem len (B b : Nat) (p : Value) (bs : List Value) (w : World) (h : Lib.BuilderAt 49 5 B b p bs w) :
    Calls Tryd.prog 22 #[.pointer (some ⟨b, 0, none⟩)] w fun e w' => e = .returned (.int .i64 (bs.length : Int)) ∧ w' = w := by
  have hu := Tryd.underlying49
  have hp := Tryd.underlying46
  obtain ⟨hB, v, hbk, hown, hne⟩ := h
  obtain ⟨ao, cap, rfl⟩ : ∃ ao cap, v = .slice ao bs.length cap := by
    rcases hown.2 with ⟨hv, hl⟩ | ⟨g, cap, cur, hv, _⟩
    · exact ⟨none, 0, by rw [hl, hv]⟩
    · exact ⟨_, _, hv⟩
  have c1 : w.cell? ⟨b, 1, none⟩ = some (.slice ao bs.length cap) := by rw [Lib.cell_of_heap hbk]; rfl
  clear hown hne hbk
  go_enter Tryd.func22, Tryd.ntmps22
  go_wp2_with fail
  go_ret
  exact ⟨rfl, rfl⟩
theorem fresh_ (B b : Nat) (w : World) (h : w.heap[b]? = some (.cells #[.pointer none, .slice none 0 0] 49 (0, 0))) (hB : B ≤ b) : Lib.IsBuilder 49 5 B b [] w :=
  Or.inl ⟨hB, .slice none 0 0, h, own_nil _ _ _ _, by simp [Value.ownBlock]⟩
set_option maxHeartbeats 2000000 in
set_option maxRecDepth 100000 in
theorem itoa1 (w : World) : Calls Tryd.prog 34 #[.int .i64 1] w fun e w' => e = .returned (.string ⟨#[49]⟩) ∧ w' = w := by
  go_enter Tryd.func34, Tryd.ntmps34
  go_wp2
  go_ret
  exact ⟨rfl, rfl⟩
end Go.Proofs.YtmonbhoeplmieaaDoor.Bl
