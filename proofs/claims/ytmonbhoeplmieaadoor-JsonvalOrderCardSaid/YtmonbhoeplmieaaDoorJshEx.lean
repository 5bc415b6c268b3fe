/- glossatorkeep3.jsonExample. -/
import Derived.Test.YtmonbhoeplmieaaDoorJshEn
import Derived.Deep.QuietTactic
import Derived.BigQuiet
import Derived.Deep.LoopGhost
import Derived.Shelf.Abstract
namespace Go.Proofs.YtmonbhoeplmieaaDoor.Js
open Go.RowKit Go.Proofs.YtmonbhoeplmieaaDoorW.PrintWords Go.Proofs.YtmonbhoeplmieaaDoorW.PrintLast Go.Proofs.YtmonbhoeplmieaaDoorW.PrintMore
open Go.Proofs.YtmonbhoeplmieaaDoor
set_option linter.unusedVariables false
set_option linter.unusedSimpArgs false

def j1 : S25 := ⟨2, 1, ByteArray.empty, [], []⟩
def jA : S25 := ⟨5, 0, ByteArray.empty, [⟨#[97]⟩], [j1]⟩
theorem c_str {w : World} {g : Nat} {s : ByteArray} (h : w.cell? ⟨g, 0, none⟩ = some (.string s)) : Kd.string.C w (some ⟨g, 0, none⟩) [s].length [s] :=
  ⟨rfl, by simp, fun _ => ⟨⟨g, 0, none⟩, rfl, fun j p hj => by
    have h0 : j = 0 := by
      have h_ := (List.getElem?_eq_some_iff.1 hj).1
      simpa using h_
    subst h0
    have hp : p = s := by simpa using hj.symm
    subst hp
    refine ⟨[.string p], rfl, rfl, fun i u hi => ?_⟩
    have hi0 : i = 0 := by
      have h_ := (List.getElem?_eq_some_iff.1 hi).1
      simpa using h_
    subst hi0
    have hu : u = .string p := by simpa using hi.symm
    subst hu
    exact h⟩⟩
theorem c_tree {w : World} {g : Nat} {x : S25} {cs : List Value} (hK : k25.K w x cs) (hc : ∀ i u, cs[i]? = some u → w.cell? ⟨g, i, none⟩ = some u) : k25.C w (some ⟨g, 0, none⟩) [x].length [x] :=
  ⟨rfl, by simp, fun _ => ⟨⟨g, 0, none⟩, rfl, fun j p hj => by
    have h0 : j = 0 := by
      have h_ := (List.getElem?_eq_some_iff.1 hj).1
      simpa using h_
    subst h0
    have hp : p = x := by simpa using hj.symm
    subst hp
    refine ⟨cs, k25.K_len hK, hK, fun i u hi => ?_⟩
    have ha : (⟨g, 0, none⟩ : Addr).add (0 * k25.sz + i) = ⟨g, i, none⟩ := by
      unfold Addr.add
      split <;> simp_all
    rw [ha]
    exact hc i u hi⟩⟩
theorem v97 : vtext ⟨#[97]⟩ = true := by kernel_rfl
theorem v0 : vtext ByteArray.empty = true := by kernel_rfl
theorem e0 : ByteArray.empty.toList = [] := by kernel_rfl
theorem valid_jA : valid jA = 0 := by
  have w1 : (wl 1 0 jA).1 = true := by unfold jA j1; simp [wl, wls]
  have a1 : va j1 = 0 := by
    rw [va_eq, if_neg (by decide), if_neg (by
      unfold wf wfp j1
      simp [lowJ, highJ, e0, v0])]
    exact vas_nil
  unfold valid
  rw [if_neg (by rw [w1]; decide), va_eq, if_neg (by decide), if_neg (by
    unfold wf wfp jA
    simp [lowJ, highJ, e0, v0, v97])]
  show vas [j1] = 0
  rw [vas_cons, if_pos a1, vas_nil]
theorem szd_jA : szd jA := by
  have h1 : szd j1 := by unfold j1; rw [szd]; exact ⟨by decide, by simp, by rw [szds]; trivial⟩
  unfold jA
  rw [szd]
  exact ⟨by decide, by intro x hx; rw [List.mem_singleton] at hx; rw [hx]; decide, by rw [szds]; exact ⟨h1, by rw [szds]; trivial⟩⟩
theorem pl_jA : pl jA := by
  have h1 : pl j1 := by unfold j1; rw [pl]; exact ⟨Or.inr (Or.inl ⟨rfl, rfl⟩), by rw [pls]; trivial⟩
  unfold jA
  rw [pl]
  refine ⟨Or.inr (Or.inr (Or.inr ⟨rfl, rfl, ?_⟩)), by rw [pls]; exact ⟨h1, by rw [pls]; trivial⟩⟩
  intro x hx
  rw [List.mem_singleton] at hx
  subst hx
  intro c hc
  have hc' : c = 97 := by simpa using hc
  subst hc'
  decide
theorem enc_jA : encC jA = Lib.byteCells [123, 34, 97, 34, 58, 49, 125] := by
  unfold jA j1
  simp [encC, encM, quo, Bl.cs, Lib.byteCells, Lib.strCells]
set_option maxHeartbeats 4000000 in
set_option maxRecDepth 100000 in
theorem example_says (w : World) (hT : Ts w) : Calls Tryd.prog 7 #[] w fun e w' => e = .returned (.bool true) ∧ Below w.heap.size w w' := by
  have hu25 := Tryd.underlying25
  have hu23 := Tryd.underlying23
  have hu22 := Tryd.underlying22
  have HB := Aside0.mk (below_alloc (below_alloc (Below.refl w.heap.size w) (.cells #[.string ⟨#[97]⟩] 9 (0, 0))) (.cells #[.int .i64 2, .int .i64 1, .string ByteArray.empty, .slice none 0 0, .slice none 0 0] 25 (0, 0)))
  have hz : (w.alloc (.cells #[.string ⟨#[97]⟩] 9 (0, 0))).heap.size = w.heap.size + 1 := World.size_alloc _ _
  have n1 : ((w.alloc (.cells #[.string ⟨#[97]⟩] 9 (0, 0))).alloc (.cells #[.int .i64 2, .int .i64 1, .string ByteArray.empty, .slice none 0 0, .slice none 0 0] 25 (0, 0))).heap[w.heap.size]? = some (.cells #[.string ⟨#[97]⟩] 9 (0, 0)) := blk_below (blk_new w (.cells #[.string ⟨#[97]⟩] 9 (0, 0))) (below_alloc (Below.refl _ _) _)
  have n2 : ((w.alloc (.cells #[.string ⟨#[97]⟩] 9 (0, 0))).alloc (.cells #[.int .i64 2, .int .i64 1, .string ByteArray.empty, .slice none 0 0, .slice none 0 0] 25 (0, 0))).heap[w.heap.size + 1]? = some (.cells #[.int .i64 2, .int .i64 1, .string ByteArray.empty, .slice none 0 0, .slice none 0 0] 25 (0, 0)) := by rw [← hz]; exact blk_new _ _
  have hKA : k25.K ((w.alloc (.cells #[.string ⟨#[97]⟩] 9 (0, 0))).alloc (.cells #[.int .i64 2, .int .i64 1, .string ByteArray.empty, .slice none 0 0, .slice none 0 0] 25 (0, 0))) jA [.int .i64 5, .int .i64 0, .string ByteArray.empty, .slice (some ⟨w.heap.size, 0, none⟩) 1 1, .slice (some ⟨w.heap.size + 1, 0, none⟩) 1 1] := by
    refine k25_mk _ jA (show 1 ≤ 1 from Nat.le_refl _) (c_str (w := ((w.alloc (.cells #[.string ⟨#[97]⟩] 9 (0, 0))).alloc (.cells #[.int .i64 2, .int .i64 1, .string ByteArray.empty, .slice none 0 0, .slice none 0 0] 25 (0, 0)))) (g := w.heap.size) (s := ⟨#[97]⟩) ((blk_cell n1 0).trans rfl)) (show 1 ≤ 1 from Nat.le_refl _) (c_tree (w := ((w.alloc (.cells #[.string ⟨#[97]⟩] 9 (0, 0))).alloc (.cells #[.int .i64 2, .int .i64 1, .string ByteArray.empty, .slice none 0 0, .slice none 0 0] 25 (0, 0)))) (g := w.heap.size + 1) (x := j1) (cs := [.int .i64 2, .int .i64 1, .string ByteArray.empty, .slice none 0 0, .slice none 0 0]) (k25_mk _ j1 (Nat.le_refl 0) (Kd.C_nil _ _) (Nat.le_refl 0) (Kd.C_nil _ _)) (fun i u hi => ?_))
    rw [(blk_cell n2 i), List.getElem?_toArray]
    exact hi
  have EC := Aside0.mk (Encode_says jA [123, 34, 97, 34, 58, 49, 125] (some ⟨w.heap.size, 0, none⟩) 1 (some ⟨w.heap.size + 1, 0, none⟩) 1 ((w.alloc (.cells #[.string ⟨#[97]⟩] 9 (0, 0))).alloc (.cells #[.int .i64 2, .int .i64 1, .string ByteArray.empty, .slice none 0 0, .slice none 0 0] 25 (0, 0))) hKA pl_jA szd_jA valid_jA (hT.below (below_alloc (below_alloc (Below.refl _ _) _) _)) enc_jA (by decide))
  clear hKA n1 n2 hT
  go_enter Tryd.func7, Tryd.ntmps7
  go_wp2_with (go_at_call 12; refine EC.out.mono ?_; rintro e_ w8 ⟨rfl, hb⟩; have n0_ := Aside0.mk (below_step HB.out hb); clear HB hb; have HB := n0_; clear n0_)
  go_ret
  exact ⟨rfl, HB.out⟩
end Go.Proofs.YtmonbhoeplmieaaDoor.Js
