/-
  No cell of these rows narrows 'for every input' (looked for: loops, veiled, ifaces, maps, wideKeys, modest, calm, conditions, laid).
  DERIVED. THE GIVEN ROWS OF THIS SEAT. 3 by the template 'for every input the law returns true; each argument reads behind the call as it read before'; 0 by the template 'total and deterministic' (their statements: YtgigbllohagfmaaTotals.lean).
  GIVEN WITH THE SEED: the statements are not yours to turn. If you find one false, say at which input.
  Laid BY PROGRAM, IN A SANDBOX (cutbox-rows.mjs): the forced cells as the released guide's own fill.sh prints them over the translation bfbd44b0f00f21e4… (all of the seat's roots in one cut). By AI agents, Wed Nov 11 2026. No macro, syntax, notation, axiom, sorry.
-/
import Derived.Test.YtgigbllohagfmaaChecked
import GoSem.Claim
import GoSem.ClaimJoined
import GoSem.ClaimMapViews
import Derived.JoinedTies
import Derived.KernelRfl
namespace Go.Proofs.Ytgigbllohagfmaa
/- THE CELL 'sum', in the pinned program and in every row, IS THE sha256 OF THE DUMP (.gsa) THAT YtgigbllohagfmaaProg.lean LOADS. Nothing in Lean hashes anything: it is a label: what it is worth is what the hold of that sum in a sandbox is worth. -/
noncomputable def Try.pinned : Pinned := { name := "ytgigbllohagfmaa", sum := "bfbd44b0f00f21e438a87c444118eddc3c749dbc7e2be2afe38b0608c219426a", checked := Try.checked }
namespace Rows
def none {H : Type} : Left H := { results := [], args := [] }

/-- 'glossatorkeep3.FilewatchBatchInvariants': WHATEVER THE INPUT: true; the input reads as it did. -/
def filewatchBatchInvariantsSpec : ChangeSpec := { name := "filewatchBatchInvariants", fn := fun _ => fun
  | [d1, d2] => { results := [.lit (.bool true)], args := [d1, d2] }
  | _ => none }
def filewatchBatchInvariantsRow : OpenClaim := { program := "ytgigbllohagfmaa", sum := "bfbd44b0f00f21e438a87c444118eddc3c749dbc7e2be2afe38b0608c219426a", func := "glossator/glossatorkeep3.FilewatchBatchInvariants", spec := "filewatchBatchInvariants", unfollowed := true, recurses := true, apart := false }
def FilewatchBatchInvariantsSaid : Prop := filewatchBatchInvariantsRow.holds Try.pinned (OpenSpec.ofChange filewatchBatchInvariantsSpec)

/-- ITS FALSE NEIGHBOUR: 'it returns false'. Refute it at one input. -/
def filewatchBatchInvariantsWrong : ChangeSpec := { name := "filewatchBatchInvariants", fn := fun _ => fun
  | [d1, d2] => { results := [.lit (.bool false)], args := [d1, d2] }
  | _ => none }
def FilewatchBatchInvariantsWrongFalsely : Prop := filewatchBatchInvariantsRow.holds Try.pinned (OpenSpec.ofChange filewatchBatchInvariantsWrong)

/-- 'glossatorkeep3.FilewatchPreservesFiles': WHATEVER THE INPUT: true; the input reads as it did. -/
def filewatchPreservesFilesSpec : ChangeSpec := { name := "filewatchPreservesFiles", fn := fun _ => fun
  | [d1, d2, d3] => { results := [.lit (.bool true)], args := [d1, d2, d3] }
  | _ => none }
def filewatchPreservesFilesRow : OpenClaim := { program := "ytgigbllohagfmaa", sum := "bfbd44b0f00f21e438a87c444118eddc3c749dbc7e2be2afe38b0608c219426a", func := "glossator/glossatorkeep3.FilewatchPreservesFiles", spec := "filewatchPreservesFiles", unfollowed := true, recurses := true, apart := false }
def FilewatchPreservesFilesSaid : Prop := filewatchPreservesFilesRow.holds Try.pinned (OpenSpec.ofChange filewatchPreservesFilesSpec)

/-- ITS FALSE NEIGHBOUR: 'it returns false'. Refute it at one input. -/
def filewatchPreservesFilesWrong : ChangeSpec := { name := "filewatchPreservesFiles", fn := fun _ => fun
  | [d1, d2, d3] => { results := [.lit (.bool false)], args := [d1, d2, d3] }
  | _ => none }
def FilewatchPreservesFilesWrongFalsely : Prop := filewatchPreservesFilesRow.holds Try.pinned (OpenSpec.ofChange filewatchPreservesFilesWrong)

/-- 'glossatorkeep3.FilewatchIncremental': WHATEVER THE INPUT: true; the input reads as it did. -/
def filewatchIncrementalSpec : ChangeSpec := { name := "filewatchIncremental", fn := fun _ => fun
  | [d1, d2] => { results := [.lit (.bool true)], args := [d1, d2] }
  | _ => none }
def filewatchIncrementalRow : OpenClaim := { program := "ytgigbllohagfmaa", sum := "bfbd44b0f00f21e438a87c444118eddc3c749dbc7e2be2afe38b0608c219426a", func := "glossator/glossatorkeep3.FilewatchIncremental", spec := "filewatchIncremental", unfollowed := true, recurses := true, apart := false }
def FilewatchIncrementalSaid : Prop := filewatchIncrementalRow.holds Try.pinned (OpenSpec.ofChange filewatchIncrementalSpec)

/-- ITS FALSE NEIGHBOUR: 'it returns false'. Refute it at one input. -/
def filewatchIncrementalWrong : ChangeSpec := { name := "filewatchIncremental", fn := fun _ => fun
  | [d1, d2] => { results := [.lit (.bool false)], args := [d1, d2] }
  | _ => none }
def FilewatchIncrementalWrongFalsely : Prop := filewatchIncrementalRow.holds Try.pinned (OpenSpec.ofChange filewatchIncrementalWrong)

/- THE SECOND FORM. 'bulk': how many values and letters a reading holds, each counted each time it is reached (what is shared counts as often as it is met; a slice's spare places count too). A statement '..UptoSaid' is the law's where the arguments, and the package variables that the reading takes, are together of bulk at most 1048576: NARROWER than '..Said'. Prove '..Said' where nothing that the law and all that it calls make is longer than what came in: it says more and counts as full. Else prove '..UptoSaid'. A law counts once. -/
mutual
def uptoBulk {H : Type} : DataW H → Nat
  | .lit (.string bytes) => bytes.length + 1
  | .lit _ => 1
  | .nil => 1
  | .ptr d => uptoBulk d + 1
  | .slice elems spare => uptoBulkAll elems + uptoBulkAll spare + 1
  | .agg parts => uptoBulkAll parts + 1
  | .iface _ d => uptoBulk d + 1
  | .map entries => uptoBulkEntries entries + 1
  | .held _ => 1
def uptoBulkAll {H : Type} : List (DataW H) → Nat
  | [] => 0
  | d :: r => uptoBulk d + uptoBulkAll r
def uptoBulkEntries {H : Type} : List (Lit × DataW H) → Nat
  | [] => 0
  | x :: r => uptoBulkEntry x + uptoBulkEntries r
def uptoBulkEntry {H : Type} : Lit × DataW H → Nat
  | (.string bytes, d) => bytes.length + uptoBulk d + 1
  | (_, d) => uptoBulk d + 1
 end
def uptoSmall : (H : Type) → List (DataW H) → Bool := fun _ ds => decide (uptoBulkAll ds ≤ 1048576)
def OpenSpec.upto (s : _root_.Go.ChangeSpec) : _root_.Go.OpenSpec := { _root_.Go.OpenSpec.ofChange s with cond := some uptoSmall }

/-- 'glossatorkeep3.FilewatchBatchInvariants', WHERE WHAT IT READS IS OF BULK AT MOST 1048576: true; the input reads as it did. -/
def filewatchBatchInvariantsUptoRow : OpenClaim := { program := "ytgigbllohagfmaa", sum := "bfbd44b0f00f21e438a87c444118eddc3c749dbc7e2be2afe38b0608c219426a", func := "glossator/glossatorkeep3.FilewatchBatchInvariants", spec := "filewatchBatchInvariants", unfollowed := true, recurses := true, apart := false, narrowed := true }
def FilewatchBatchInvariantsUptoSaid : Prop := filewatchBatchInvariantsUptoRow.holds Try.pinned (OpenSpec.upto filewatchBatchInvariantsSpec)

/-- 'glossatorkeep3.FilewatchPreservesFiles', WHERE WHAT IT READS IS OF BULK AT MOST 1048576: true; the input reads as it did. -/
def filewatchPreservesFilesUptoRow : OpenClaim := { program := "ytgigbllohagfmaa", sum := "bfbd44b0f00f21e438a87c444118eddc3c749dbc7e2be2afe38b0608c219426a", func := "glossator/glossatorkeep3.FilewatchPreservesFiles", spec := "filewatchPreservesFiles", unfollowed := true, recurses := true, apart := false, narrowed := true }
def FilewatchPreservesFilesUptoSaid : Prop := filewatchPreservesFilesUptoRow.holds Try.pinned (OpenSpec.upto filewatchPreservesFilesSpec)

/-- 'glossatorkeep3.FilewatchIncremental', WHERE WHAT IT READS IS OF BULK AT MOST 1048576: true; the input reads as it did. -/
def filewatchIncrementalUptoRow : OpenClaim := { program := "ytgigbllohagfmaa", sum := "bfbd44b0f00f21e438a87c444118eddc3c749dbc7e2be2afe38b0608c219426a", func := "glossator/glossatorkeep3.FilewatchIncremental", spec := "filewatchIncremental", unfollowed := true, recurses := true, apart := false, narrowed := true }
def FilewatchIncrementalUptoSaid : Prop := filewatchIncrementalUptoRow.holds Try.pinned (OpenSpec.upto filewatchIncrementalSpec)

end Rows
end Go.Proofs.Ytgigbllohagfmaa
