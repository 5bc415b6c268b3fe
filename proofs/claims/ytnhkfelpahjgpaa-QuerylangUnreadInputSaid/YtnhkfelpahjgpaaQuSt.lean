/- A query program as a value: the number of inputs and the queries. No condition. -/
import Derived.Test.YtnhkfelpahjgpaaQux0
namespace Go.Proofs.Ytnhkfelpahjgpaa.Qu
open Go.RowKit Go.Proofs.YtnhkfelpahjgpaaW.PrintWords
structure S24 where
  f0 : Int
  f1 : List (List S43)
def k24 : Kd S24 := Kd.iso (Kd.pair (Kd.int .i64) (Kd.slice 44 (Kd.slice 43 k43))) (fun x : S24 => (x.f0, x.f1))
theorem k24_open {w : World} {x : S24} {cs : List Value} (h : k24.K w x cs) : ∃ A c, cs = [.int .i64 x.f0, .slice A x.f1.length c] ∧ x.f1.length ≤ c ∧ (Kd.slice 43 k43).C w A x.f1.length x.f1 := by
  obtain ⟨_, _, rfl, rfl, ⟨A, c, rfl, l, g⟩⟩ := h
  exact ⟨A, c, rfl, l, g⟩
end Go.Proofs.Ytnhkfelpahjgpaa.Qu
