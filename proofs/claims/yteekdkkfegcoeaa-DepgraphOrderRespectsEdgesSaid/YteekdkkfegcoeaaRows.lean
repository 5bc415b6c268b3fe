/-
  No cell of these rows narrows 'for every input' (looked for: loops, veiled, ifaces, maps, wideKeys, modest, calm, conditions, laid).
  DERIVED. THE GIVEN ROWS OF THIS SEAT. 3 by the template 'for every input the law returns true; each argument reads behind the call as it read before'; 0 by the template 'total and deterministic' (their statements: YteekdkkfegcoeaaTotals.lean).
  GIVEN WITH THE SEED: the statements are not yours to turn. If you find one false, say at which input.
  Laid BY PROGRAM, IN A SANDBOX (cutbox-rows.mjs): the forced cells as the released guide's own fill.sh prints them over the translation 329c15005badec2d… (all of the seat's roots in one cut). By AI agents, Wed Nov 11 2026. No macro, syntax, notation, axiom, sorry.
-/
import Derived.Test.YteekdkkfegcoeaaChecked
import GoSem.Claim
import GoSem.ClaimJoined
import GoSem.ClaimMapViews
import Derived.JoinedTies
import Derived.KernelRfl
namespace Go.Proofs.Yteekdkkfegcoeaa
/- THE CELL 'sum', in the pinned program and in every row, IS THE sha256 OF THE DUMP (.gsa) THAT YteekdkkfegcoeaaProg.lean LOADS. Nothing in Lean hashes anything: it is a label: what it is worth is what the hold of that sum in a sandbox is worth. -/
noncomputable def Try.pinned : Pinned := { name := "yteekdkkfegcoeaa", sum := "329c15005badec2d140a791e04eb6afa74bc731346e4fb62334c08b2dd72026c", checked := Try.checked }
namespace Rows
def none {H : Type} : Left H := { results := [], args := [] }

/-- 'glossatorkeep3.DepgraphConverse': WHATEVER THE INPUT: true; the input reads as it did. -/
def depgraphConverseSpec : ChangeSpec := { name := "depgraphConverse", fn := fun _ => fun
  | [d1, d2, d3] => { results := [.lit (.bool true)], args := [d1, d2, d3] }
  | _ => none }
def depgraphConverseRow : OpenClaim := { program := "yteekdkkfegcoeaa", sum := "329c15005badec2d140a791e04eb6afa74bc731346e4fb62334c08b2dd72026c", func := "glossator/glossatorkeep3.DepgraphConverse", spec := "depgraphConverse", inPlace := ["slices.overlaps[glossator/api.QKey]"], unfollowed := true, recurses := true, plainKeys := false, apart := false }
def DepgraphConverseSaid : Prop := depgraphConverseRow.holds Try.pinned (OpenSpec.ofChange depgraphConverseSpec)

/-- ITS FALSE NEIGHBOUR: 'it returns false'. Refute it at one input. -/
def depgraphConverseWrong : ChangeSpec := { name := "depgraphConverse", fn := fun _ => fun
  | [d1, d2, d3] => { results := [.lit (.bool false)], args := [d1, d2, d3] }
  | _ => none }
def DepgraphConverseWrongFalsely : Prop := depgraphConverseRow.holds Try.pinned (OpenSpec.ofChange depgraphConverseWrong)

/-- 'glossatorkeep3.DepgraphOrderRespectsEdges': WHATEVER THE INPUT: true; the input reads as it did. -/
def depgraphOrderRespectsEdgesSpec : ChangeSpec := { name := "depgraphOrderRespectsEdges", fn := fun _ => fun
  | [d] => { results := [.lit (.bool true)], args := [d] }
  | _ => none }
def depgraphOrderRespectsEdgesRow : OpenClaim := { program := "yteekdkkfegcoeaa", sum := "329c15005badec2d140a791e04eb6afa74bc731346e4fb62334c08b2dd72026c", func := "glossator/glossatorkeep3.DepgraphOrderRespectsEdges", spec := "depgraphOrderRespectsEdges", inPlace := ["slices.overlaps[glossator/api.QKey]"], unfollowed := true, recurses := true, plainKeys := false, apart := false }
def DepgraphOrderRespectsEdgesSaid : Prop := depgraphOrderRespectsEdgesRow.holds Try.pinned (OpenSpec.ofChange depgraphOrderRespectsEdgesSpec)

/-- ITS FALSE NEIGHBOUR: 'it returns false'. Refute it at one input. -/
def depgraphOrderRespectsEdgesWrong : ChangeSpec := { name := "depgraphOrderRespectsEdges", fn := fun _ => fun
  | [d] => { results := [.lit (.bool false)], args := [d] }
  | _ => none }
def DepgraphOrderRespectsEdgesWrongFalsely : Prop := depgraphOrderRespectsEdgesRow.holds Try.pinned (OpenSpec.ofChange depgraphOrderRespectsEdgesWrong)

/-- 'glossatorkeep3.DepgraphReductionPreserves': WHATEVER THE INPUT: true; the input reads as it did. -/
def depgraphReductionPreservesSpec : ChangeSpec := { name := "depgraphReductionPreserves", fn := fun _ => fun
  | [d1, d2] => { results := [.lit (.bool true)], args := [d1, d2] }
  | _ => none }
def depgraphReductionPreservesRow : OpenClaim := { program := "yteekdkkfegcoeaa", sum := "329c15005badec2d140a791e04eb6afa74bc731346e4fb62334c08b2dd72026c", func := "glossator/glossatorkeep3.DepgraphReductionPreserves", spec := "depgraphReductionPreserves", inPlace := ["slices.overlaps[glossator/api.QKey]"], unfollowed := true, recurses := true, plainKeys := false, apart := false }
def DepgraphReductionPreservesSaid : Prop := depgraphReductionPreservesRow.holds Try.pinned (OpenSpec.ofChange depgraphReductionPreservesSpec)

/-- ITS FALSE NEIGHBOUR: 'it returns false'. Refute it at one input. -/
def depgraphReductionPreservesWrong : ChangeSpec := { name := "depgraphReductionPreserves", fn := fun _ => fun
  | [d1, d2] => { results := [.lit (.bool false)], args := [d1, d2] }
  | _ => none }
def DepgraphReductionPreservesWrongFalsely : Prop := depgraphReductionPreservesRow.holds Try.pinned (OpenSpec.ofChange depgraphReductionPreservesWrong)

/- THE SECOND FORM. 'bulk': how many values and letters a reading holds, each counted each time it is reached (what is shared counts as often as it is met; a slice's spare places count too). A statement '..UptoSaid' is the law's where the arguments, and the package variables that the reading takes, are together of bulk at most 1048576: NARROWER than '..Said'. Prove '..Said' where nothing that the law and all that it calls make is longer than what came in: it says more and counts as full. Else prove '..UptoSaid'. A law counts once. -/
mutual
def uptoBulk {H : Type} : DataW H → Nat
  | .lit (.string bytes) => bytes.length + 1
  | .lit _ => 1
  | .nil => 1
  | .ptr d => uptoBulk d + 1
  | .slice elems spare => uptoBulkAll elems + uptoBulkAll spare + 1
  | .agg parts => uptoBulkAll parts + 1
  | .iface _ d => uptoBulk d + 1
  | .map entries => uptoBulkEntries entries + 1
  | .held _ => 1
def uptoBulkAll {H : Type} : List (DataW H) → Nat
  | [] => 0
  | d :: r => uptoBulk d + uptoBulkAll r
def uptoBulkEntries {H : Type} : List (Lit × DataW H) → Nat
  | [] => 0
  | x :: r => uptoBulkEntry x + uptoBulkEntries r
def uptoBulkEntry {H : Type} : Lit × DataW H → Nat
  | (.string bytes, d) => bytes.length + uptoBulk d + 1
  | (_, d) => uptoBulk d + 1
 end
def uptoSmall : (H : Type) → List (DataW H) → Bool := fun _ ds => decide (uptoBulkAll ds ≤ 1048576)
def OpenSpec.upto (s : _root_.Go.ChangeSpec) : _root_.Go.OpenSpec := { _root_.Go.OpenSpec.ofChange s with cond := some uptoSmall }

/-- 'glossatorkeep3.DepgraphConverse', WHERE WHAT IT READS IS OF BULK AT MOST 1048576: true; the input reads as it did. -/
def depgraphConverseUptoRow : OpenClaim := { program := "yteekdkkfegcoeaa", sum := "329c15005badec2d140a791e04eb6afa74bc731346e4fb62334c08b2dd72026c", func := "glossator/glossatorkeep3.DepgraphConverse", spec := "depgraphConverse", inPlace := ["slices.overlaps[glossator/api.QKey]"], unfollowed := true, recurses := true, plainKeys := false, apart := false, narrowed := true }
def DepgraphConverseUptoSaid : Prop := depgraphConverseUptoRow.holds Try.pinned (OpenSpec.upto depgraphConverseSpec)

/-- 'glossatorkeep3.DepgraphOrderRespectsEdges', WHERE WHAT IT READS IS OF BULK AT MOST 1048576: true; the input reads as it did. -/
def depgraphOrderRespectsEdgesUptoRow : OpenClaim := { program := "yteekdkkfegcoeaa", sum := "329c15005badec2d140a791e04eb6afa74bc731346e4fb62334c08b2dd72026c", func := "glossator/glossatorkeep3.DepgraphOrderRespectsEdges", spec := "depgraphOrderRespectsEdges", inPlace := ["slices.overlaps[glossator/api.QKey]"], unfollowed := true, recurses := true, plainKeys := false, apart := false, narrowed := true }
def DepgraphOrderRespectsEdgesUptoSaid : Prop := depgraphOrderRespectsEdgesUptoRow.holds Try.pinned (OpenSpec.upto depgraphOrderRespectsEdgesSpec)

/-- 'glossatorkeep3.DepgraphReductionPreserves', WHERE WHAT IT READS IS OF BULK AT MOST 1048576: true; the input reads as it did. -/
def depgraphReductionPreservesUptoRow : OpenClaim := { program := "yteekdkkfegcoeaa", sum := "329c15005badec2d140a791e04eb6afa74bc731346e4fb62334c08b2dd72026c", func := "glossator/glossatorkeep3.DepgraphReductionPreserves", spec := "depgraphReductionPreserves", inPlace := ["slices.overlaps[glossator/api.QKey]"], unfollowed := true, recurses := true, plainKeys := false, apart := false, narrowed := true }
def DepgraphReductionPreservesUptoSaid : Prop := depgraphReductionPreservesUptoRow.holds Try.pinned (OpenSpec.upto depgraphReductionPreservesSpec)

end Rows
end Go.Proofs.Yteekdkkfegcoeaa
