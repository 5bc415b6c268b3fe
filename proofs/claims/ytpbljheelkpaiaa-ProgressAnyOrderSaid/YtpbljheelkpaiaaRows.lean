/-
  No cell of these rows narrows 'for every input' (looked for: loops, veiled, ifaces, maps, wideKeys, modest, calm, conditions, laid).
  DERIVED. THE GIVEN ROWS OF THIS SEAT. 2 by the template 'for every input the law returns true; each argument reads behind the call as it read before'; 0 by the template 'total and deterministic' (their statements: YtpbljheelkpaiaaTotals.lean).
  GIVEN WITH THE SEED: the statements are not yours to turn. If you find one false, say at which input.
  Laid BY PROGRAM, IN A SANDBOX (cutbox-rows.mjs): the forced cells as the released guide's own fill.sh prints them over the translation 906962ba92ced6bd… (all of the seat's roots in one cut). By AI agents, Wed Nov 11 2026. No macro, syntax, notation, axiom, sorry.
-/
import Derived.Test.YtpbljheelkpaiaaChecked
import GoSem.Claim
import GoSem.ClaimJoined
import GoSem.ClaimMapViews
import Derived.JoinedTies
import Derived.KernelRfl
namespace Go.Proofs.Ytpbljheelkpaiaa
/- THE CELL 'sum', in the pinned program and in every row, IS THE sha256 OF THE DUMP (.gsa) THAT YtpbljheelkpaiaaProg.lean LOADS. Nothing in Lean hashes anything: it is a label: what it is worth is what the hold of that sum in a sandbox is worth. -/
noncomputable def Try.pinned : Pinned := { name := "ytpbljheelkpaiaa", sum := "906962ba92ced6bdbdc080b9cfd50401cafeb30ea14185bb1f9b3244b9ada16b", checked := Try.checked }
namespace Rows
def none {H : Type} : Left H := { results := [], args := [] }

/-- 'glossatorkeep3.ProgressPercentages': WHATEVER THE INPUT: true; the input reads as it did. -/
def progressPercentagesSpec : ChangeSpec := { name := "progressPercentages", fn := fun _ => fun
  | [d1, d2, d3] => { results := [.lit (.bool true)], args := [d1, d2, d3] }
  | _ => none }
def progressPercentagesRow : OpenClaim := { program := "ytpbljheelkpaiaa", sum := "906962ba92ced6bdbdc080b9cfd50401cafeb30ea14185bb1f9b3244b9ada16b", func := "glossator/glossatorkeep3.ProgressPercentages", spec := "progressPercentages", unfollowed := true, recurses := true, apart := false }
def ProgressPercentagesSaid : Prop := progressPercentagesRow.holds Try.pinned (OpenSpec.ofChange progressPercentagesSpec)

/-- ITS FALSE NEIGHBOUR: 'it returns false'. Refute it at one input. -/
def progressPercentagesWrong : ChangeSpec := { name := "progressPercentages", fn := fun _ => fun
  | [d1, d2, d3] => { results := [.lit (.bool false)], args := [d1, d2, d3] }
  | _ => none }
def ProgressPercentagesWrongFalsely : Prop := progressPercentagesRow.holds Try.pinned (OpenSpec.ofChange progressPercentagesWrong)

/-- 'glossatorkeep3.ProgressAnyOrder': WHATEVER THE INPUT: true; the input reads as it did. -/
def progressAnyOrderSpec : ChangeSpec := { name := "progressAnyOrder", fn := fun _ => fun
  | [d1, d2, d3, d4] => { results := [.lit (.bool true)], args := [d1, d2, d3, d4] }
  | _ => none }
def progressAnyOrderRow : OpenClaim := { program := "ytpbljheelkpaiaa", sum := "906962ba92ced6bdbdc080b9cfd50401cafeb30ea14185bb1f9b3244b9ada16b", func := "glossator/glossatorkeep3.ProgressAnyOrder", spec := "progressAnyOrder", unfollowed := true, recurses := true, apart := false }
def ProgressAnyOrderSaid : Prop := progressAnyOrderRow.holds Try.pinned (OpenSpec.ofChange progressAnyOrderSpec)

/-- ITS FALSE NEIGHBOUR: 'it returns false'. Refute it at one input. -/
def progressAnyOrderWrong : ChangeSpec := { name := "progressAnyOrder", fn := fun _ => fun
  | [d1, d2, d3, d4] => { results := [.lit (.bool false)], args := [d1, d2, d3, d4] }
  | _ => none }
def ProgressAnyOrderWrongFalsely : Prop := progressAnyOrderRow.holds Try.pinned (OpenSpec.ofChange progressAnyOrderWrong)

/- THE SECOND FORM. 'bulk': how many values and letters a reading holds, each counted each time it is reached (what is shared counts as often as it is met; a slice's spare places count too). A statement '..UptoSaid' is the law's where the arguments, and the package variables that the reading takes, are together of bulk at most 1048576: NARROWER than '..Said'. Prove '..Said' where nothing that the law and all that it calls make is longer than what came in: it says more and counts as full. Else prove '..UptoSaid'. A law counts once. -/
mutual
def uptoBulk {H : Type} : DataW H → Nat
  | .lit (.string bytes) => bytes.length + 1
  | .lit _ => 1
  | .nil => 1
  | .ptr d => uptoBulk d + 1
  | .slice elems spare => uptoBulkAll elems + uptoBulkAll spare + 1
  | .agg parts => uptoBulkAll parts + 1
  | .iface _ d => uptoBulk d + 1
  | .map entries => uptoBulkEntries entries + 1
  | .held _ => 1
def uptoBulkAll {H : Type} : List (DataW H) → Nat
  | [] => 0
  | d :: r => uptoBulk d + uptoBulkAll r
def uptoBulkEntries {H : Type} : List (Lit × DataW H) → Nat
  | [] => 0
  | x :: r => uptoBulkEntry x + uptoBulkEntries r
def uptoBulkEntry {H : Type} : Lit × DataW H → Nat
  | (.string bytes, d) => bytes.length + uptoBulk d + 1
  | (_, d) => uptoBulk d + 1
 end
def uptoSmall : (H : Type) → List (DataW H) → Bool := fun _ ds => decide (uptoBulkAll ds ≤ 1048576)
def OpenSpec.upto (s : _root_.Go.ChangeSpec) : _root_.Go.OpenSpec := { _root_.Go.OpenSpec.ofChange s with cond := some uptoSmall }

/-- 'glossatorkeep3.ProgressPercentages', WHERE WHAT IT READS IS OF BULK AT MOST 1048576: true; the input reads as it did. -/
def progressPercentagesUptoRow : OpenClaim := { program := "ytpbljheelkpaiaa", sum := "906962ba92ced6bdbdc080b9cfd50401cafeb30ea14185bb1f9b3244b9ada16b", func := "glossator/glossatorkeep3.ProgressPercentages", spec := "progressPercentages", unfollowed := true, recurses := true, apart := false, narrowed := true }
def ProgressPercentagesUptoSaid : Prop := progressPercentagesUptoRow.holds Try.pinned (OpenSpec.upto progressPercentagesSpec)

/-- 'glossatorkeep3.ProgressAnyOrder', WHERE WHAT IT READS IS OF BULK AT MOST 1048576: true; the input reads as it did. -/
def progressAnyOrderUptoRow : OpenClaim := { program := "ytpbljheelkpaiaa", sum := "906962ba92ced6bdbdc080b9cfd50401cafeb30ea14185bb1f9b3244b9ada16b", func := "glossator/glossatorkeep3.ProgressAnyOrder", spec := "progressAnyOrder", unfollowed := true, recurses := true, apart := false, narrowed := true }
def ProgressAnyOrderUptoSaid : Prop := progressAnyOrderUptoRow.holds Try.pinned (OpenSpec.upto progressAnyOrderSpec)

end Rows
end Go.Proofs.Ytpbljheelkpaiaa
