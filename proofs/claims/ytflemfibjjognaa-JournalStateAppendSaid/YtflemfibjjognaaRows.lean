/-
  No cell of these rows narrows 'for every input' (looked for: loops, veiled, ifaces, maps, wideKeys, modest, calm, conditions, laid).
  DERIVED. THE GIVEN ROWS OF THIS SEAT. 5 by the template 'for every input the law returns true; each argument reads behind the call as it read before'; 0 by the template 'total and deterministic' (their statements: YtflemfibjjognaaTotals.lean).
  GIVEN WITH THE SEED: the statements are not yours to turn. If you find one false, say at which input.
  Laid BY PROGRAM, IN A SANDBOX (cutbox-rows.mjs): the forced cells as the released guide's own fill.sh prints them over the translation 7017e882d1d91f99… (all of the seat's roots in one cut). By AI agents, Wed Nov 11 2026. No macro, syntax, notation, axiom, sorry.
-/
import Derived.Test.YtflemfibjjognaaChecked
import GoSem.Claim
import GoSem.ClaimJoined
import GoSem.ClaimMapViews
import Derived.JoinedTies
import Derived.KernelRfl
namespace Go.Proofs.Ytflemfibjjognaa
/- THE CELL 'sum', in the pinned program and in every row, IS THE sha256 OF THE DUMP (.gsa) THAT YtflemfibjjognaaProg.lean LOADS. Nothing in Lean hashes anything: it is a label: what it is worth is what the hold of that sum in a sandbox is worth. -/
noncomputable def Try.pinned : Pinned := { name := "ytflemfibjjognaa", sum := "7017e882d1d91f99fcca3ff523c28e9f59c44ca78a99e5bae5e8f9415fd175e1", checked := Try.checked }
namespace Rows
def none {H : Type} : Left H := { results := [], args := [] }

/-- 'glossatorkeep3.JournalRoundTrip': WHATEVER THE INPUT: true; the input reads as it did. -/
def journalRoundTripSpec : ChangeSpec := { name := "journalRoundTrip", fn := fun _ => fun
  | [d] => { results := [.lit (.bool true)], args := [d] }
  | _ => none }
def journalRoundTripRow : OpenClaim := { program := "ytflemfibjjognaa", sum := "7017e882d1d91f99fcca3ff523c28e9f59c44ca78a99e5bae5e8f9415fd175e1", func := "glossator/glossatorkeep3.JournalRoundTrip", spec := "journalRoundTrip", apart := false }
def JournalRoundTripSaid : Prop := journalRoundTripRow.holds Try.pinned (OpenSpec.ofChange journalRoundTripSpec)

/-- ITS FALSE NEIGHBOUR: 'it returns false'. Refute it at one input. -/
def journalRoundTripWrong : ChangeSpec := { name := "journalRoundTrip", fn := fun _ => fun
  | [d] => { results := [.lit (.bool false)], args := [d] }
  | _ => none }
def JournalRoundTripWrongFalsely : Prop := journalRoundTripRow.holds Try.pinned (OpenSpec.ofChange journalRoundTripWrong)

/-- 'glossatorkeep3.JournalTornWrite': WHATEVER THE INPUT: true; the input reads as it did. -/
def journalTornWriteSpec : ChangeSpec := { name := "journalTornWrite", fn := fun _ => fun
  | [d1, d2] => { results := [.lit (.bool true)], args := [d1, d2] }
  | _ => none }
def journalTornWriteRow : OpenClaim := { program := "ytflemfibjjognaa", sum := "7017e882d1d91f99fcca3ff523c28e9f59c44ca78a99e5bae5e8f9415fd175e1", func := "glossator/glossatorkeep3.JournalTornWrite", spec := "journalTornWrite", apart := false }
def JournalTornWriteSaid : Prop := journalTornWriteRow.holds Try.pinned (OpenSpec.ofChange journalTornWriteSpec)

/-- ITS FALSE NEIGHBOUR: 'it returns false'. Refute it at one input. -/
def journalTornWriteWrong : ChangeSpec := { name := "journalTornWrite", fn := fun _ => fun
  | [d1, d2] => { results := [.lit (.bool false)], args := [d1, d2] }
  | _ => none }
def JournalTornWriteWrongFalsely : Prop := journalTornWriteRow.holds Try.pinned (OpenSpec.ofChange journalTornWriteWrong)

/-- 'glossatorkeep3.JournalCorruption': WHATEVER THE INPUT: true; the input reads as it did. -/
def journalCorruptionSpec : ChangeSpec := { name := "journalCorruption", fn := fun _ => fun
  | [d1, d2, d3, d4] => { results := [.lit (.bool true)], args := [d1, d2, d3, d4] }
  | _ => none }
def journalCorruptionRow : OpenClaim := { program := "ytflemfibjjognaa", sum := "7017e882d1d91f99fcca3ff523c28e9f59c44ca78a99e5bae5e8f9415fd175e1", func := "glossator/glossatorkeep3.JournalCorruption", spec := "journalCorruption", apart := false }
def JournalCorruptionSaid : Prop := journalCorruptionRow.holds Try.pinned (OpenSpec.ofChange journalCorruptionSpec)

/-- ITS FALSE NEIGHBOUR: 'it returns false'. Refute it at one input. -/
def journalCorruptionWrong : ChangeSpec := { name := "journalCorruption", fn := fun _ => fun
  | [d1, d2, d3, d4] => { results := [.lit (.bool false)], args := [d1, d2, d3, d4] }
  | _ => none }
def JournalCorruptionWrongFalsely : Prop := journalCorruptionRow.holds Try.pinned (OpenSpec.ofChange journalCorruptionWrong)

/-- 'glossatorkeep3.JournalStateAppend': WHATEVER THE INPUT: true; the input reads as it did. -/
def journalStateAppendSpec : ChangeSpec := { name := "journalStateAppend", fn := fun _ => fun
  | [d1, d2] => { results := [.lit (.bool true)], args := [d1, d2] }
  | _ => none }
def journalStateAppendRow : OpenClaim := { program := "ytflemfibjjognaa", sum := "7017e882d1d91f99fcca3ff523c28e9f59c44ca78a99e5bae5e8f9415fd175e1", func := "glossator/glossatorkeep3.JournalStateAppend", spec := "journalStateAppend", inPlace := ["internal/bytealg.abigen_runtime_cmpstring"], unfollowed := true, recurses := true, apart := false }
def JournalStateAppendSaid : Prop := journalStateAppendRow.holds Try.pinned (OpenSpec.ofChange journalStateAppendSpec)

/-- ITS FALSE NEIGHBOUR: 'it returns false'. Refute it at one input. -/
def journalStateAppendWrong : ChangeSpec := { name := "journalStateAppend", fn := fun _ => fun
  | [d1, d2] => { results := [.lit (.bool false)], args := [d1, d2] }
  | _ => none }
def JournalStateAppendWrongFalsely : Prop := journalStateAppendRow.holds Try.pinned (OpenSpec.ofChange journalStateAppendWrong)

/-- 'glossatorkeep3.JournalCompactState': WHATEVER THE INPUT: true; the input reads as it did. -/
def journalCompactStateSpec : ChangeSpec := { name := "journalCompactState", fn := fun _ => fun
  | [d] => { results := [.lit (.bool true)], args := [d] }
  | _ => none }
def journalCompactStateRow : OpenClaim := { program := "ytflemfibjjognaa", sum := "7017e882d1d91f99fcca3ff523c28e9f59c44ca78a99e5bae5e8f9415fd175e1", func := "glossator/glossatorkeep3.JournalCompactState", spec := "journalCompactState", inPlace := ["internal/bytealg.abigen_runtime_cmpstring"], unfollowed := true, recurses := true, apart := false }
def JournalCompactStateSaid : Prop := journalCompactStateRow.holds Try.pinned (OpenSpec.ofChange journalCompactStateSpec)

/-- ITS FALSE NEIGHBOUR: 'it returns false'. Refute it at one input. -/
def journalCompactStateWrong : ChangeSpec := { name := "journalCompactState", fn := fun _ => fun
  | [d] => { results := [.lit (.bool false)], args := [d] }
  | _ => none }
def JournalCompactStateWrongFalsely : Prop := journalCompactStateRow.holds Try.pinned (OpenSpec.ofChange journalCompactStateWrong)

/- THE SECOND FORM. 'bulk': how many values and letters a reading holds, each counted each time it is reached (what is shared counts as often as it is met; a slice's spare places count too). A statement '..UptoSaid' is the law's where the arguments, and the package variables that the reading takes, are together of bulk at most 1048576: NARROWER than '..Said'. Prove '..Said' where nothing that the law and all that it calls make is longer than what came in: it says more and counts as full. Else prove '..UptoSaid'. A law counts once. -/
mutual
def uptoBulk {H : Type} : DataW H → Nat
  | .lit (.string bytes) => bytes.length + 1
  | .lit _ => 1
  | .nil => 1
  | .ptr d => uptoBulk d + 1
  | .slice elems spare => uptoBulkAll elems + uptoBulkAll spare + 1
  | .agg parts => uptoBulkAll parts + 1
  | .iface _ d => uptoBulk d + 1
  | .map entries => uptoBulkEntries entries + 1
  | .held _ => 1
def uptoBulkAll {H : Type} : List (DataW H) → Nat
  | [] => 0
  | d :: r => uptoBulk d + uptoBulkAll r
def uptoBulkEntries {H : Type} : List (Lit × DataW H) → Nat
  | [] => 0
  | x :: r => uptoBulkEntry x + uptoBulkEntries r
def uptoBulkEntry {H : Type} : Lit × DataW H → Nat
  | (.string bytes, d) => bytes.length + uptoBulk d + 1
  | (_, d) => uptoBulk d + 1
 end
def uptoSmall : (H : Type) → List (DataW H) → Bool := fun _ ds => decide (uptoBulkAll ds ≤ 1048576)
def OpenSpec.upto (s : _root_.Go.ChangeSpec) : _root_.Go.OpenSpec := { _root_.Go.OpenSpec.ofChange s with cond := some uptoSmall }

/-- 'glossatorkeep3.JournalRoundTrip', WHERE WHAT IT READS IS OF BULK AT MOST 1048576: true; the input reads as it did. -/
def journalRoundTripUptoRow : OpenClaim := { program := "ytflemfibjjognaa", sum := "7017e882d1d91f99fcca3ff523c28e9f59c44ca78a99e5bae5e8f9415fd175e1", func := "glossator/glossatorkeep3.JournalRoundTrip", spec := "journalRoundTrip", apart := false, narrowed := true }
def JournalRoundTripUptoSaid : Prop := journalRoundTripUptoRow.holds Try.pinned (OpenSpec.upto journalRoundTripSpec)

/-- 'glossatorkeep3.JournalTornWrite', WHERE WHAT IT READS IS OF BULK AT MOST 1048576: true; the input reads as it did. -/
def journalTornWriteUptoRow : OpenClaim := { program := "ytflemfibjjognaa", sum := "7017e882d1d91f99fcca3ff523c28e9f59c44ca78a99e5bae5e8f9415fd175e1", func := "glossator/glossatorkeep3.JournalTornWrite", spec := "journalTornWrite", apart := false, narrowed := true }
def JournalTornWriteUptoSaid : Prop := journalTornWriteUptoRow.holds Try.pinned (OpenSpec.upto journalTornWriteSpec)

/-- 'glossatorkeep3.JournalCorruption', WHERE WHAT IT READS IS OF BULK AT MOST 1048576: true; the input reads as it did. -/
def journalCorruptionUptoRow : OpenClaim := { program := "ytflemfibjjognaa", sum := "7017e882d1d91f99fcca3ff523c28e9f59c44ca78a99e5bae5e8f9415fd175e1", func := "glossator/glossatorkeep3.JournalCorruption", spec := "journalCorruption", apart := false, narrowed := true }
def JournalCorruptionUptoSaid : Prop := journalCorruptionUptoRow.holds Try.pinned (OpenSpec.upto journalCorruptionSpec)

/-- 'glossatorkeep3.JournalStateAppend', WHERE WHAT IT READS IS OF BULK AT MOST 1048576: true; the input reads as it did. -/
def journalStateAppendUptoRow : OpenClaim := { program := "ytflemfibjjognaa", sum := "7017e882d1d91f99fcca3ff523c28e9f59c44ca78a99e5bae5e8f9415fd175e1", func := "glossator/glossatorkeep3.JournalStateAppend", spec := "journalStateAppend", inPlace := ["internal/bytealg.abigen_runtime_cmpstring"], unfollowed := true, recurses := true, apart := false, narrowed := true }
def JournalStateAppendUptoSaid : Prop := journalStateAppendUptoRow.holds Try.pinned (OpenSpec.upto journalStateAppendSpec)

/-- 'glossatorkeep3.JournalCompactState', WHERE WHAT IT READS IS OF BULK AT MOST 1048576: true; the input reads as it did. -/
def journalCompactStateUptoRow : OpenClaim := { program := "ytflemfibjjognaa", sum := "7017e882d1d91f99fcca3ff523c28e9f59c44ca78a99e5bae5e8f9415fd175e1", func := "glossator/glossatorkeep3.JournalCompactState", spec := "journalCompactState", inPlace := ["internal/bytealg.abigen_runtime_cmpstring"], unfollowed := true, recurses := true, apart := false, narrowed := true }
def JournalCompactStateUptoSaid : Prop := journalCompactStateUptoRow.holds Try.pinned (OpenSpec.upto journalCompactStateSpec)

end Rows
end Go.Proofs.Ytflemfibjjognaa
