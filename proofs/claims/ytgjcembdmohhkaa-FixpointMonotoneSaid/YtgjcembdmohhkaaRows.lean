/-
  No cell of these rows narrows 'for every input' (looked for: loops, veiled, ifaces, maps, wideKeys, modest, calm, conditions, laid).
  DERIVED. THE GIVEN ROWS OF THIS SEAT. 3 by the template 'for every input the law returns true; each argument reads behind the call as it read before'; 0 by the template 'total and deterministic' (their statements: YtgjcembdmohhkaaTotals.lean).
  GIVEN WITH THE SEED: the statements are not yours to turn. If you find one false, say at which input.
  Laid BY PROGRAM, IN A SANDBOX (cutbox-rows.mjs): the forced cells as the released guide's own fill.sh prints them over the translation 82132f27a31877c9… (all of the seat's roots in one cut). By AI agents, Wed Nov 11 2026. No macro, syntax, notation, axiom, sorry.
-/
import Derived.Test.YtgjcembdmohhkaaChecked
import GoSem.Claim
import GoSem.ClaimJoined
import GoSem.ClaimMapViews
import Derived.JoinedTies
import Derived.KernelRfl
namespace Go.Proofs.Ytgjcembdmohhkaa
/- THE CELL 'sum', in the pinned program and in every row, IS THE sha256 OF THE DUMP (.gsa) THAT YtgjcembdmohhkaaProg.lean LOADS. Nothing in Lean hashes anything: it is a label: what it is worth is what the hold of that sum in a sandbox is worth. -/
noncomputable def Try.pinned : Pinned := { name := "ytgjcembdmohhkaa", sum := "82132f27a31877c9b4f263dc167cb111749d20a62404fc7b121f17c2b69914ed", checked := Try.checked }
namespace Rows
def none {H : Type} : Left H := { results := [], args := [] }

/-- 'glossatorkeep3.FixpointKnasterTarski': WHATEVER THE INPUT: true; the input reads as it did. -/
def fixpointKnasterTarskiSpec : ChangeSpec := { name := "fixpointKnasterTarski", fn := fun _ => fun
  | [d1, d2] => { results := [.lit (.bool true)], args := [d1, d2] }
  | _ => none }
def fixpointKnasterTarskiRow : OpenClaim := { program := "ytgjcembdmohhkaa", sum := "82132f27a31877c9b4f263dc167cb111749d20a62404fc7b121f17c2b69914ed", func := "glossator/glossatorkeep3.FixpointKnasterTarski", spec := "fixpointKnasterTarski", unfollowed := true, recurses := true, apart := false }
def FixpointKnasterTarskiSaid : Prop := fixpointKnasterTarskiRow.holds Try.pinned (OpenSpec.ofChange fixpointKnasterTarskiSpec)

/-- ITS FALSE NEIGHBOUR: 'it returns false'. Refute it at one input. -/
def fixpointKnasterTarskiWrong : ChangeSpec := { name := "fixpointKnasterTarski", fn := fun _ => fun
  | [d1, d2] => { results := [.lit (.bool false)], args := [d1, d2] }
  | _ => none }
def FixpointKnasterTarskiWrongFalsely : Prop := fixpointKnasterTarskiRow.holds Try.pinned (OpenSpec.ofChange fixpointKnasterTarskiWrong)

/-- 'glossatorkeep3.FixpointMonotone': WHATEVER THE INPUT: true; the input reads as it did. -/
def fixpointMonotoneSpec : ChangeSpec := { name := "fixpointMonotone", fn := fun _ => fun
  | [d1, d2, d3] => { results := [.lit (.bool true)], args := [d1, d2, d3] }
  | _ => none }
def fixpointMonotoneRow : OpenClaim := { program := "ytgjcembdmohhkaa", sum := "82132f27a31877c9b4f263dc167cb111749d20a62404fc7b121f17c2b69914ed", func := "glossator/glossatorkeep3.FixpointMonotone", spec := "fixpointMonotone", unfollowed := true, recurses := true, apart := false }
def FixpointMonotoneSaid : Prop := fixpointMonotoneRow.holds Try.pinned (OpenSpec.ofChange fixpointMonotoneSpec)

/-- ITS FALSE NEIGHBOUR: 'it returns false'. Refute it at one input. -/
def fixpointMonotoneWrong : ChangeSpec := { name := "fixpointMonotone", fn := fun _ => fun
  | [d1, d2, d3] => { results := [.lit (.bool false)], args := [d1, d2, d3] }
  | _ => none }
def FixpointMonotoneWrongFalsely : Prop := fixpointMonotoneRow.holds Try.pinned (OpenSpec.ofChange fixpointMonotoneWrong)

/-- 'glossatorkeep3.FixpointSoundComplete': WHATEVER THE INPUT: true; the input reads as it did. -/
def fixpointSoundCompleteSpec : ChangeSpec := { name := "fixpointSoundComplete", fn := fun _ => fun
  | [d1, d2, d3, d4] => { results := [.lit (.bool true)], args := [d1, d2, d3, d4] }
  | _ => none }
def fixpointSoundCompleteRow : OpenClaim := { program := "ytgjcembdmohhkaa", sum := "82132f27a31877c9b4f263dc167cb111749d20a62404fc7b121f17c2b69914ed", func := "glossator/glossatorkeep3.FixpointSoundComplete", spec := "fixpointSoundComplete", unfollowed := true, recurses := true, apart := false }
def FixpointSoundCompleteSaid : Prop := fixpointSoundCompleteRow.holds Try.pinned (OpenSpec.ofChange fixpointSoundCompleteSpec)

/-- ITS FALSE NEIGHBOUR: 'it returns false'. Refute it at one input. -/
def fixpointSoundCompleteWrong : ChangeSpec := { name := "fixpointSoundComplete", fn := fun _ => fun
  | [d1, d2, d3, d4] => { results := [.lit (.bool false)], args := [d1, d2, d3, d4] }
  | _ => none }
def FixpointSoundCompleteWrongFalsely : Prop := fixpointSoundCompleteRow.holds Try.pinned (OpenSpec.ofChange fixpointSoundCompleteWrong)

/- THE SECOND FORM. 'bulk': how many values and letters a reading holds, each counted each time it is reached (what is shared counts as often as it is met; a slice's spare places count too). A statement '..UptoSaid' is the law's where the arguments, and the package variables that the reading takes, are together of bulk at most 1048576: NARROWER than '..Said'. Prove '..Said' where nothing that the law and all that it calls make is longer than what came in: it says more and counts as full. Else prove '..UptoSaid'. A law counts once. -/
mutual
def uptoBulk {H : Type} : DataW H → Nat
  | .lit (.string bytes) => bytes.length + 1
  | .lit _ => 1
  | .nil => 1
  | .ptr d => uptoBulk d + 1
  | .slice elems spare => uptoBulkAll elems + uptoBulkAll spare + 1
  | .agg parts => uptoBulkAll parts + 1
  | .iface _ d => uptoBulk d + 1
  | .map entries => uptoBulkEntries entries + 1
  | .held _ => 1
def uptoBulkAll {H : Type} : List (DataW H) → Nat
  | [] => 0
  | d :: r => uptoBulk d + uptoBulkAll r
def uptoBulkEntries {H : Type} : List (Lit × DataW H) → Nat
  | [] => 0
  | x :: r => uptoBulkEntry x + uptoBulkEntries r
def uptoBulkEntry {H : Type} : Lit × DataW H → Nat
  | (.string bytes, d) => bytes.length + uptoBulk d + 1
  | (_, d) => uptoBulk d + 1
 end
def uptoSmall : (H : Type) → List (DataW H) → Bool := fun _ ds => decide (uptoBulkAll ds ≤ 1048576)
def OpenSpec.upto (s : _root_.Go.ChangeSpec) : _root_.Go.OpenSpec := { _root_.Go.OpenSpec.ofChange s with cond := some uptoSmall }

/-- 'glossatorkeep3.FixpointKnasterTarski', WHERE WHAT IT READS IS OF BULK AT MOST 1048576: true; the input reads as it did. -/
def fixpointKnasterTarskiUptoRow : OpenClaim := { program := "ytgjcembdmohhkaa", sum := "82132f27a31877c9b4f263dc167cb111749d20a62404fc7b121f17c2b69914ed", func := "glossator/glossatorkeep3.FixpointKnasterTarski", spec := "fixpointKnasterTarski", unfollowed := true, recurses := true, apart := false, narrowed := true }
def FixpointKnasterTarskiUptoSaid : Prop := fixpointKnasterTarskiUptoRow.holds Try.pinned (OpenSpec.upto fixpointKnasterTarskiSpec)

/-- 'glossatorkeep3.FixpointMonotone', WHERE WHAT IT READS IS OF BULK AT MOST 1048576: true; the input reads as it did. -/
def fixpointMonotoneUptoRow : OpenClaim := { program := "ytgjcembdmohhkaa", sum := "82132f27a31877c9b4f263dc167cb111749d20a62404fc7b121f17c2b69914ed", func := "glossator/glossatorkeep3.FixpointMonotone", spec := "fixpointMonotone", unfollowed := true, recurses := true, apart := false, narrowed := true }
def FixpointMonotoneUptoSaid : Prop := fixpointMonotoneUptoRow.holds Try.pinned (OpenSpec.upto fixpointMonotoneSpec)

/-- 'glossatorkeep3.FixpointSoundComplete', WHERE WHAT IT READS IS OF BULK AT MOST 1048576: true; the input reads as it did. -/
def fixpointSoundCompleteUptoRow : OpenClaim := { program := "ytgjcembdmohhkaa", sum := "82132f27a31877c9b4f263dc167cb111749d20a62404fc7b121f17c2b69914ed", func := "glossator/glossatorkeep3.FixpointSoundComplete", spec := "fixpointSoundComplete", unfollowed := true, recurses := true, apart := false, narrowed := true }
def FixpointSoundCompleteUptoSaid : Prop := fixpointSoundCompleteUptoRow.holds Try.pinned (OpenSpec.upto fixpointSoundCompleteSpec)

end Rows
end Go.Proofs.Ytgjcembdmohhkaa
