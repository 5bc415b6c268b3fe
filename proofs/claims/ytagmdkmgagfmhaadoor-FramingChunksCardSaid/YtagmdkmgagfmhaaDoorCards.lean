/-
  DERIVED. GIVEN WITH THE SEED: THE CARDS: each row of YtagmdkmgagfmhaaDoorRows.lean that lists a variable, with what it lists TIED to the program's text (the seventh form; the later family's looks); each row that meets fmt, with fmt's text TOLD by the authors' own Lean function (tested against real Go, not proved from fmt's source: count such statements apart). THE CARD IS WHAT COUNTS. Prove the row's statement (the work); the ties are given (YtagmdkmgagfmhaaDoorTie.lean); close each card by the builder's one call (the guide's Derived/Test/ToyasCard.lean, 'card_holds'). Laid BY PROGRAM, IN A SANDBOX (cutbox-door.mjs). By AI agents, Wed Nov 11 2026. No macro, syntax, notation, axiom, sorry.
-/
import Derived.Test.YtagmdkmgagfmhaaDoorRows
import GoSem.ClaimSeven
namespace Go.Proofs.YtagmdkmgagfmhaaDoor
namespace Rows

/-- THE TIED CARD OF 'glossatorkeep3.FramingRoundTrip'. -/
def framingRoundTripCard : Claim7 := { stood := { row := framingRoundTripRow, standIns := [], harness := (true, "b7e23759e5e4ffd135f6f8edb3e4eba9ff406a6d7f15fe15dc25282882d78f2f"), looks := true }, kinds := [], alts := [], laidByText := true, laidKinds := [.data, .data, .data, .data, .sentinel, .sentinel, .data, .data, .pinned, .pinned], laidTests := true, laidLooks := .later }
def FramingRoundTripCardSaid : Prop := Claim7.holds Tryd.pinned (.plain (OpenSpec.ofChange framingRoundTripSpec)) framingRoundTripCard

/-- THE TIED CARD OF 'glossatorkeep3.FramingChunks'. -/
def framingChunksCard : Claim7 := { stood := { row := framingChunksRow, standIns := [], harness := (true, "b7e23759e5e4ffd135f6f8edb3e4eba9ff406a6d7f15fe15dc25282882d78f2f"), looks := true }, kinds := [], alts := [], laidByText := true, laidKinds := [.data, .data, .data, .data, .sentinel, .sentinel, .data, .data, .pinned, .pinned], laidTests := true, laidLooks := .later }
def FramingChunksCardSaid : Prop := Claim7.holds Tryd.pinned (.plain (OpenSpec.ofChange framingChunksSpec)) framingChunksCard

/-- THE SECOND FORM's CARD OF 'glossatorkeep3.FramingRoundTrip'. -/
def framingRoundTripUptoCard : Claim7 := { stood := { row := framingRoundTripUptoRow, standIns := [], harness := (true, "b7e23759e5e4ffd135f6f8edb3e4eba9ff406a6d7f15fe15dc25282882d78f2f"), looks := true }, kinds := [], alts := [], laidByText := true, laidKinds := [.data, .data, .data, .data, .sentinel, .sentinel, .data, .data, .pinned, .pinned], laidTests := true, laidLooks := .later }
def FramingRoundTripUptoCardSaid : Prop := Claim7.holds Tryd.pinned (.plain (OpenSpec.upto framingRoundTripSpec)) framingRoundTripUptoCard

/-- THE SECOND FORM's CARD OF 'glossatorkeep3.FramingChunks'. -/
def framingChunksUptoCard : Claim7 := { stood := { row := framingChunksUptoRow, standIns := [], harness := (true, "b7e23759e5e4ffd135f6f8edb3e4eba9ff406a6d7f15fe15dc25282882d78f2f"), looks := true }, kinds := [], alts := [], laidByText := true, laidKinds := [.data, .data, .data, .data, .sentinel, .sentinel, .data, .data, .pinned, .pinned], laidTests := true, laidLooks := .later }
def FramingChunksUptoCardSaid : Prop := Claim7.holds Tryd.pinned (.plain (OpenSpec.upto framingChunksSpec)) framingChunksUptoCard
end Rows
end Go.Proofs.YtagmdkmgagfmhaaDoor
