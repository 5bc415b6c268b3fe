/-
  No cell of these rows narrows 'for every input' (looked for: loops, veiled, ifaces, maps, wideKeys, modest, calm, conditions, laid).
  DERIVED. THE GIVEN ROWS OF THIS SEAT. 2 by the template 'for every input the law returns true; each argument reads behind the call as it read before'; 0 by the template 'total and deterministic' (their statements: YtficalhfbopjbaaTotals.lean).
  GIVEN WITH THE SEED: the statements are not yours to turn. If you find one false, say at which input.
  Laid BY PROGRAM, IN A SANDBOX (cutbox-rows.mjs): the forced cells as the released guide's own fill.sh prints them over the translation 6dbf9214af76e8a3… (all of the seat's roots in one cut). By AI agents, Wed Nov 11 2026. No macro, syntax, notation, axiom, sorry.
-/
import Derived.Test.YtficalhfbopjbaaChecked
import GoSem.Claim
import GoSem.ClaimJoined
import GoSem.ClaimMapViews
import Derived.JoinedTies
import Derived.KernelRfl
namespace Go.Proofs.Ytficalhfbopjbaa
/- THE CELL 'sum', in the pinned program and in every row, IS THE sha256 OF THE DUMP (.gsa) THAT YtficalhfbopjbaaProg.lean LOADS. Nothing in Lean hashes anything: it is a label: what it is worth is what the hold of that sum in a sandbox is worth. -/
noncomputable def Try.pinned : Pinned := { name := "ytficalhfbopjbaa", sum := "6dbf9214af76e8a3cb5794ed979365e467d97dec02040e74a72f941d3fcd73b2", checked := Try.checked }
namespace Rows
def none {H : Type} : Left H := { results := [], args := [] }

/-- 'glossatorkeep3.DocsyncConverges': WHATEVER THE INPUT: true; the input reads as it did. -/
def docsyncConvergesSpec : ChangeSpec := { name := "docsyncConverges", fn := fun _ => fun
  | [d1, d2, d3] => { results := [.lit (.bool true)], args := [d1, d2, d3] }
  | _ => none }
def docsyncConvergesRow : OpenClaim := { program := "ytficalhfbopjbaa", sum := "6dbf9214af76e8a3cb5794ed979365e467d97dec02040e74a72f941d3fcd73b2", func := "glossator/glossatorkeep3.DocsyncConverges", spec := "docsyncConverges", inPlace := ["slices.overlaps[int]", "internal/abi.NoEscape"], unfollowed := true, recurses := true, apart := false }
def DocsyncConvergesSaid : Prop := docsyncConvergesRow.holds Try.pinned (OpenSpec.ofChange docsyncConvergesSpec)

/-- ITS FALSE NEIGHBOUR: 'it returns false'. Refute it at one input. -/
def docsyncConvergesWrong : ChangeSpec := { name := "docsyncConverges", fn := fun _ => fun
  | [d1, d2, d3] => { results := [.lit (.bool false)], args := [d1, d2, d3] }
  | _ => none }
def DocsyncConvergesWrongFalsely : Prop := docsyncConvergesRow.holds Try.pinned (OpenSpec.ofChange docsyncConvergesWrong)

/-- 'glossatorkeep3.DocsyncCatchUp': WHATEVER THE INPUT: true; the input reads as it did. -/
def docsyncCatchUpSpec : ChangeSpec := { name := "docsyncCatchUp", fn := fun _ => fun
  | [d1, d2, d3, d4] => { results := [.lit (.bool true)], args := [d1, d2, d3, d4] }
  | _ => none }
def docsyncCatchUpRow : OpenClaim := { program := "ytficalhfbopjbaa", sum := "6dbf9214af76e8a3cb5794ed979365e467d97dec02040e74a72f941d3fcd73b2", func := "glossator/glossatorkeep3.DocsyncCatchUp", spec := "docsyncCatchUp", inPlace := ["slices.overlaps[int]", "internal/abi.NoEscape"], unfollowed := true, recurses := true, apart := false }
def DocsyncCatchUpSaid : Prop := docsyncCatchUpRow.holds Try.pinned (OpenSpec.ofChange docsyncCatchUpSpec)

/-- ITS FALSE NEIGHBOUR: 'it returns false'. Refute it at one input. -/
def docsyncCatchUpWrong : ChangeSpec := { name := "docsyncCatchUp", fn := fun _ => fun
  | [d1, d2, d3, d4] => { results := [.lit (.bool false)], args := [d1, d2, d3, d4] }
  | _ => none }
def DocsyncCatchUpWrongFalsely : Prop := docsyncCatchUpRow.holds Try.pinned (OpenSpec.ofChange docsyncCatchUpWrong)

/- THE SECOND FORM. 'bulk': how many values and letters a reading holds, each counted each time it is reached (what is shared counts as often as it is met; a slice's spare places count too). A statement '..UptoSaid' is the law's where the arguments, and the package variables that the reading takes, are together of bulk at most 1048576: NARROWER than '..Said'. Prove '..Said' where nothing that the law and all that it calls make is longer than what came in: it says more and counts as full. Else prove '..UptoSaid'. A law counts once. -/
mutual
def uptoBulk {H : Type} : DataW H → Nat
  | .lit (.string bytes) => bytes.length + 1
  | .lit _ => 1
  | .nil => 1
  | .ptr d => uptoBulk d + 1
  | .slice elems spare => uptoBulkAll elems + uptoBulkAll spare + 1
  | .agg parts => uptoBulkAll parts + 1
  | .iface _ d => uptoBulk d + 1
  | .map entries => uptoBulkEntries entries + 1
  | .held _ => 1
def uptoBulkAll {H : Type} : List (DataW H) → Nat
  | [] => 0
  | d :: r => uptoBulk d + uptoBulkAll r
def uptoBulkEntries {H : Type} : List (Lit × DataW H) → Nat
  | [] => 0
  | x :: r => uptoBulkEntry x + uptoBulkEntries r
def uptoBulkEntry {H : Type} : Lit × DataW H → Nat
  | (.string bytes, d) => bytes.length + uptoBulk d + 1
  | (_, d) => uptoBulk d + 1
 end
def uptoSmall : (H : Type) → List (DataW H) → Bool := fun _ ds => decide (uptoBulkAll ds ≤ 1048576)
def OpenSpec.upto (s : _root_.Go.ChangeSpec) : _root_.Go.OpenSpec := { _root_.Go.OpenSpec.ofChange s with cond := some uptoSmall }

/-- 'glossatorkeep3.DocsyncConverges', WHERE WHAT IT READS IS OF BULK AT MOST 1048576: true; the input reads as it did. -/
def docsyncConvergesUptoRow : OpenClaim := { program := "ytficalhfbopjbaa", sum := "6dbf9214af76e8a3cb5794ed979365e467d97dec02040e74a72f941d3fcd73b2", func := "glossator/glossatorkeep3.DocsyncConverges", spec := "docsyncConverges", inPlace := ["slices.overlaps[int]", "internal/abi.NoEscape"], unfollowed := true, recurses := true, apart := false, narrowed := true }
def DocsyncConvergesUptoSaid : Prop := docsyncConvergesUptoRow.holds Try.pinned (OpenSpec.upto docsyncConvergesSpec)

/-- 'glossatorkeep3.DocsyncCatchUp', WHERE WHAT IT READS IS OF BULK AT MOST 1048576: true; the input reads as it did. -/
def docsyncCatchUpUptoRow : OpenClaim := { program := "ytficalhfbopjbaa", sum := "6dbf9214af76e8a3cb5794ed979365e467d97dec02040e74a72f941d3fcd73b2", func := "glossator/glossatorkeep3.DocsyncCatchUp", spec := "docsyncCatchUp", inPlace := ["slices.overlaps[int]", "internal/abi.NoEscape"], unfollowed := true, recurses := true, apart := false, narrowed := true }
def DocsyncCatchUpUptoSaid : Prop := docsyncCatchUpUptoRow.holds Try.pinned (OpenSpec.upto docsyncCatchUpSpec)

end Rows
end Go.Proofs.Ytficalhfbopjbaa
