/-
  No cell of these rows narrows 'for every input' (looked for: loops, veiled, ifaces, maps, wideKeys, modest, calm, conditions, laid).
  DERIVED. THE GIVEN ROWS OF THIS SEAT. 3 by the template 'for every input the law returns true; each argument reads behind the call as it read before'; 0 by the template 'total and deterministic' (their statements: YtnhkfelpahjgpaaTotals.lean).
  GIVEN WITH THE SEED: the statements are not yours to turn. If you find one false, say at which input.
  Laid BY PROGRAM, IN A SANDBOX (cutbox-rows.mjs): the forced cells as the released guide's own fill.sh prints them over the translation d09fd842a9c9535e… (all of the seat's roots in one cut). By AI agents, Wed Nov 11 2026. No macro, syntax, notation, axiom, sorry.
-/
import Derived.Test.YtnhkfelpahjgpaaChecked
import GoSem.Claim
import GoSem.ClaimJoined
import GoSem.ClaimMapViews
import Derived.JoinedTies
import Derived.KernelRfl
namespace Go.Proofs.Ytnhkfelpahjgpaa
/- THE CELL 'sum', in the pinned program and in every row, IS THE sha256 OF THE DUMP (.gsa) THAT YtnhkfelpahjgpaaProg.lean LOADS. Nothing in Lean hashes anything: it is a label: what it is worth is what the hold of that sum in a sandbox is worth. -/
noncomputable def Try.pinned : Pinned := { name := "ytnhkfelpahjgpaa", sum := "d09fd842a9c9535e01209c1504a2b51a3f9f7ddebb9daa840ba34941e721269c", checked := Try.checked }
namespace Rows
def none {H : Type} : Left H := { results := [], args := [] }

/-- 'glossatorkeep3.QuerylangModulus': WHATEVER THE INPUT: true; the input reads as it did. -/
def querylangModulusSpec : ChangeSpec := { name := "querylangModulus", fn := fun _ => fun
  | [d1, d2, d3, d4] => { results := [.lit (.bool true)], args := [d1, d2, d3, d4] }
  | _ => none }
def querylangModulusRow : OpenClaim := { program := "ytnhkfelpahjgpaa", sum := "d09fd842a9c9535e01209c1504a2b51a3f9f7ddebb9daa840ba34941e721269c", func := "glossator/glossatorkeep3.QuerylangModulus", spec := "querylangModulus", unfollowed := true, recurses := true, apart := false }
def QuerylangModulusSaid : Prop := querylangModulusRow.holds Try.pinned (OpenSpec.ofChange querylangModulusSpec)

/-- ITS FALSE NEIGHBOUR: 'it returns false'. Refute it at one input. -/
def querylangModulusWrong : ChangeSpec := { name := "querylangModulus", fn := fun _ => fun
  | [d1, d2, d3, d4] => { results := [.lit (.bool false)], args := [d1, d2, d3, d4] }
  | _ => none }
def QuerylangModulusWrongFalsely : Prop := querylangModulusRow.holds Try.pinned (OpenSpec.ofChange querylangModulusWrong)

/-- 'glossatorkeep3.QuerylangPrefix': WHATEVER THE INPUT: true; the input reads as it did. -/
def querylangPrefixSpec : ChangeSpec := { name := "querylangPrefix", fn := fun _ => fun
  | [d1, d2, d3, d4] => { results := [.lit (.bool true)], args := [d1, d2, d3, d4] }
  | _ => none }
def querylangPrefixRow : OpenClaim := { program := "ytnhkfelpahjgpaa", sum := "d09fd842a9c9535e01209c1504a2b51a3f9f7ddebb9daa840ba34941e721269c", func := "glossator/glossatorkeep3.QuerylangPrefix", spec := "querylangPrefix", unfollowed := true, recurses := true, apart := false }
def QuerylangPrefixSaid : Prop := querylangPrefixRow.holds Try.pinned (OpenSpec.ofChange querylangPrefixSpec)

/-- ITS FALSE NEIGHBOUR: 'it returns false'. Refute it at one input. -/
def querylangPrefixWrong : ChangeSpec := { name := "querylangPrefix", fn := fun _ => fun
  | [d1, d2, d3, d4] => { results := [.lit (.bool false)], args := [d1, d2, d3, d4] }
  | _ => none }
def QuerylangPrefixWrongFalsely : Prop := querylangPrefixRow.holds Try.pinned (OpenSpec.ofChange querylangPrefixWrong)

/-- 'glossatorkeep3.QuerylangUnreadInput': WHATEVER THE INPUT: true; the input reads as it did. -/
def querylangUnreadInputSpec : ChangeSpec := { name := "querylangUnreadInput", fn := fun _ => fun
  | [d1, d2, d3, d4, d5] => { results := [.lit (.bool true)], args := [d1, d2, d3, d4, d5] }
  | _ => none }
def querylangUnreadInputRow : OpenClaim := { program := "ytnhkfelpahjgpaa", sum := "d09fd842a9c9535e01209c1504a2b51a3f9f7ddebb9daa840ba34941e721269c", func := "glossator/glossatorkeep3.QuerylangUnreadInput", spec := "querylangUnreadInput", unfollowed := true, recurses := true, apart := false }
def QuerylangUnreadInputSaid : Prop := querylangUnreadInputRow.holds Try.pinned (OpenSpec.ofChange querylangUnreadInputSpec)

/-- ITS FALSE NEIGHBOUR: 'it returns false'. Refute it at one input. -/
def querylangUnreadInputWrong : ChangeSpec := { name := "querylangUnreadInput", fn := fun _ => fun
  | [d1, d2, d3, d4, d5] => { results := [.lit (.bool false)], args := [d1, d2, d3, d4, d5] }
  | _ => none }
def QuerylangUnreadInputWrongFalsely : Prop := querylangUnreadInputRow.holds Try.pinned (OpenSpec.ofChange querylangUnreadInputWrong)

/- THE SECOND FORM. 'bulk': how many values and letters a reading holds, each counted each time it is reached (what is shared counts as often as it is met; a slice's spare places count too). A statement '..UptoSaid' is the law's where the arguments, and the package variables that the reading takes, are together of bulk at most 1048576: NARROWER than '..Said'. Prove '..Said' where nothing that the law and all that it calls make is longer than what came in: it says more and counts as full. Else prove '..UptoSaid'. A law counts once. -/
mutual
def uptoBulk {H : Type} : DataW H → Nat
  | .lit (.string bytes) => bytes.length + 1
  | .lit _ => 1
  | .nil => 1
  | .ptr d => uptoBulk d + 1
  | .slice elems spare => uptoBulkAll elems + uptoBulkAll spare + 1
  | .agg parts => uptoBulkAll parts + 1
  | .iface _ d => uptoBulk d + 1
  | .map entries => uptoBulkEntries entries + 1
  | .held _ => 1
def uptoBulkAll {H : Type} : List (DataW H) → Nat
  | [] => 0
  | d :: r => uptoBulk d + uptoBulkAll r
def uptoBulkEntries {H : Type} : List (Lit × DataW H) → Nat
  | [] => 0
  | x :: r => uptoBulkEntry x + uptoBulkEntries r
def uptoBulkEntry {H : Type} : Lit × DataW H → Nat
  | (.string bytes, d) => bytes.length + uptoBulk d + 1
  | (_, d) => uptoBulk d + 1
 end
def uptoSmall : (H : Type) → List (DataW H) → Bool := fun _ ds => decide (uptoBulkAll ds ≤ 1048576)
def OpenSpec.upto (s : _root_.Go.ChangeSpec) : _root_.Go.OpenSpec := { _root_.Go.OpenSpec.ofChange s with cond := some uptoSmall }

/-- 'glossatorkeep3.QuerylangModulus', WHERE WHAT IT READS IS OF BULK AT MOST 1048576: true; the input reads as it did. -/
def querylangModulusUptoRow : OpenClaim := { program := "ytnhkfelpahjgpaa", sum := "d09fd842a9c9535e01209c1504a2b51a3f9f7ddebb9daa840ba34941e721269c", func := "glossator/glossatorkeep3.QuerylangModulus", spec := "querylangModulus", unfollowed := true, recurses := true, apart := false, narrowed := true }
def QuerylangModulusUptoSaid : Prop := querylangModulusUptoRow.holds Try.pinned (OpenSpec.upto querylangModulusSpec)

/-- 'glossatorkeep3.QuerylangPrefix', WHERE WHAT IT READS IS OF BULK AT MOST 1048576: true; the input reads as it did. -/
def querylangPrefixUptoRow : OpenClaim := { program := "ytnhkfelpahjgpaa", sum := "d09fd842a9c9535e01209c1504a2b51a3f9f7ddebb9daa840ba34941e721269c", func := "glossator/glossatorkeep3.QuerylangPrefix", spec := "querylangPrefix", unfollowed := true, recurses := true, apart := false, narrowed := true }
def QuerylangPrefixUptoSaid : Prop := querylangPrefixUptoRow.holds Try.pinned (OpenSpec.upto querylangPrefixSpec)

/-- 'glossatorkeep3.QuerylangUnreadInput', WHERE WHAT IT READS IS OF BULK AT MOST 1048576: true; the input reads as it did. -/
def querylangUnreadInputUptoRow : OpenClaim := { program := "ytnhkfelpahjgpaa", sum := "d09fd842a9c9535e01209c1504a2b51a3f9f7ddebb9daa840ba34941e721269c", func := "glossator/glossatorkeep3.QuerylangUnreadInput", spec := "querylangUnreadInput", unfollowed := true, recurses := true, apart := false, narrowed := true }
def QuerylangUnreadInputUptoSaid : Prop := querylangUnreadInputUptoRow.holds Try.pinned (OpenSpec.upto querylangUnreadInputSpec)

end Rows
end Go.Proofs.Ytnhkfelpahjgpaa
