/- Maps from paths to numbers in memory, and the table of the files that exist. No condition. -/
import Derived.Test.YtgigbllohagfmaaFix0
import Derived.Test.YtgigbllohagfmaaMp
namespace Go.Proofs.Ytgigbllohagfmaa.Fi
open Go.RowKit Go.Proofs.YtgigbllohagfmaaW.PrintWords Go.Proofs.YtgigbllohagfmaaW.PrintLast Go.Proofs.YtgigbllohagfmaaW.PrintMore
open Go.Proofs.Ytgigbllohagfmaa
set_option linter.unusedVariables false
set_option linter.unusedSimpArgs false

def encI (n : Int) : Value := .int .i64 n
abbrev AtI (w : World) (b : Nat) (m : List (ByteArray × Int)) : Prop := Mp.At Try.prog 9 Value.string w b (Mp.vals encI m)
theorem KS : Go.Maps.Keyed Try.prog 9 := Go.Maps.string_keyed Try.underlying9
theorem keyS (s : ByteArray) (h : s.size ≤ maxLen) : keyOf Try.prog 9 (.string s) = some (.string s.data.toList) := by simp [keyOf, mapKey, Try.underlying9, h]
theorem w64_id' {n : Int} (h : -9223372036854775808 ≤ n) (h' : n ≤ 9223372036854775807) : wrap64 n = n := by unfold wrap64; omega
theorem sinj : ∀ a b : ByteArray, Value.string a = Value.string b → a = b := fun _ _ h => by injection h
theorem rd33_mem (l : List S33) (x : Int) (i : Nat) (e : x = i) (h : i < l.length) : rd_T33 l x ∈ l := by
  subst e
  unfold rd_T33
  simp [h]
theorem rds_mem (l : List ByteArray) (x : Int) (i : Nat) (e : x = i) (h : i < l.length) : rdOf ByteArray.empty l x ∈ l := by
  subst e
  unfold rdOf
  simp [h]
theorem take33 (l : List S33) (i : Nat) (h : i < l.length) : l.drop i = rd_T33 l (i : Int) :: l.drop (i + 1) := by
  rw [List.drop_eq_getElem_cons h]
  unfold rd_T33
  simp [h]
theorem takes (l : List ByteArray) (i : Nat) (h : i < l.length) : l.take (i + 1) = l.take i ++ [rdOf ByteArray.empty l (i : Int)] := by
  rw [List.take_add_one, List.getElem?_eq_getElem h]
  unfold rdOf
  simp [h]
/-- the table of files -/
def tab (l : List ByteArray) : List (ByteArray × Int) := l.foldl (fun m f => Mp.aset m f 1) []
theorem tab_snoc (l : List ByteArray) (f : ByteArray) : tab (l ++ [f]) = Mp.aset (tab l) f 1 := by unfold tab; rw [List.foldl_append]; rfl
def vk (a : Int) : Bool := decide (1 ≤ a) && decide (a ≤ 3)
set_option maxHeartbeats 2000000 in
theorem vk_calls (a : Int) (w : World) : Calls Try.prog 21 #[.int .i64 a] w fun e w' => e = .returned (.bool (vk a)) ∧ w' = w := by
  unfold vk
  by_cases c : 1 ≤ a
  · have c0 : decide (1 ≤ a) = true := decide_eq_true c
    rw [c0]
    clear c
    go_enter Try.func21, Try.ntmps21
    go_wp2
    go_ret
    exact ⟨by simp, rfl⟩
  · have c0 : decide (1 ≤ a) = false := decide_eq_false c
    rw [c0]
    clear c
    go_enter Try.func21, Try.ntmps21
    go_wp2
    go_ret
    exact ⟨by simp, rfl⟩
end Go.Proofs.Ytgigbllohagfmaa.Fi
