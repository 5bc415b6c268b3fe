/-
  DERIVED. GIVEN WITH THE SEED: THE CARDS: each row of YtmonbhoeplmieaaDoorRows.lean that lists a variable, with what it lists TIED to the program's text (the seventh form; the later family's looks); each row that meets fmt, with fmt's text TOLD by the authors' own Lean function (tested against real Go, not proved from fmt's source: count such statements apart). THE CARD IS WHAT COUNTS. Prove the row's statement (the work); the ties are given (YtmonbhoeplmieaaDoorTie.lean); close each card by the builder's one call (the guide's Derived/Test/ToyasCard.lean, 'card_holds'). Laid BY PROGRAM, IN A SANDBOX (cutbox-door.mjs). By AI agents, Wed Nov 11 2026. No macro, syntax, notation, axiom, sorry.
-/
import Derived.Test.YtmonbhoeplmieaaDoorRows
import GoSem.ClaimSeven
namespace Go.Proofs.YtmonbhoeplmieaaDoor
namespace Rows

/-- THE TIED CARD OF 'glossatorkeep3.JsonvalOrder'. -/
def jsonvalOrderCard : Claim7 := { stood := { row := jsonvalOrderRow, standIns := [], harness := (true, "0085829781975ad9d33980f496647e48a8fc3efc29f7c380c410aaec4f3661ce"), looks := true }, kinds := [], alts := [], laidByText := true, laidKinds := [.data, .data, .data, .data, .pinned], laidTests := true, laidLooks := .later }
def JsonvalOrderCardSaid : Prop := Claim7.holds Tryd.pinned (.plain (OpenSpec.ofChange jsonvalOrderSpec)) jsonvalOrderCard

/-- THE TIED CARD OF 'glossatorkeep3.JsonvalRoundTrip'. -/
def jsonvalRoundTripCard : Claim7 := { stood := { row := jsonvalRoundTripRow, standIns := [], harness := (true, "0085829781975ad9d33980f496647e48a8fc3efc29f7c380c410aaec4f3661ce"), looks := true }, kinds := [], alts := [], laidByText := true, laidKinds := [.data, .data, .data, .data, .sentinel, .sentinel, .pinned], laidTests := true, laidLooks := .later }
def JsonvalRoundTripCardSaid : Prop := Claim7.holds Tryd.pinned (.plain (OpenSpec.ofChange jsonvalRoundTripSpec)) jsonvalRoundTripCard

/-- THE TIED CARD OF 'glossatorkeep3.JsonvalCanonical'. -/
def jsonvalCanonicalCard : Claim7 := { stood := { row := jsonvalCanonicalRow, standIns := [], harness := (true, "0085829781975ad9d33980f496647e48a8fc3efc29f7c380c410aaec4f3661ce"), looks := true }, kinds := [], alts := [], laidByText := true, laidKinds := [.data, .data, .data, .data, .sentinel, .sentinel, .pinned], laidTests := true, laidLooks := .later }
def JsonvalCanonicalCardSaid : Prop := Claim7.holds Tryd.pinned (.plain (OpenSpec.ofChange jsonvalCanonicalSpec)) jsonvalCanonicalCard

/-- THE TIED CARD OF 'glossatorkeep3.JsonvalWhitespace'. -/
def jsonvalWhitespaceCard : Claim7 := { stood := { row := jsonvalWhitespaceRow, standIns := [], harness := (true, "0085829781975ad9d33980f496647e48a8fc3efc29f7c380c410aaec4f3661ce"), looks := true }, kinds := [], alts := [], laidByText := true, laidKinds := [.data, .data, .data, .data, .sentinel, .sentinel, .pinned], laidTests := true, laidLooks := .later }
def JsonvalWhitespaceCardSaid : Prop := Claim7.holds Tryd.pinned (.plain (OpenSpec.ofChange jsonvalWhitespaceSpec)) jsonvalWhitespaceCard

/-- THE SECOND FORM's CARD OF 'glossatorkeep3.JsonvalOrder'. -/
def jsonvalOrderUptoCard : Claim7 := { stood := { row := jsonvalOrderUptoRow, standIns := [], harness := (true, "0085829781975ad9d33980f496647e48a8fc3efc29f7c380c410aaec4f3661ce"), looks := true }, kinds := [], alts := [], laidByText := true, laidKinds := [.data, .data, .data, .data, .pinned], laidTests := true, laidLooks := .later }
def JsonvalOrderUptoCardSaid : Prop := Claim7.holds Tryd.pinned (.plain (OpenSpec.upto jsonvalOrderSpec)) jsonvalOrderUptoCard

/-- THE SECOND FORM's CARD OF 'glossatorkeep3.JsonvalRoundTrip'. -/
def jsonvalRoundTripUptoCard : Claim7 := { stood := { row := jsonvalRoundTripUptoRow, standIns := [], harness := (true, "0085829781975ad9d33980f496647e48a8fc3efc29f7c380c410aaec4f3661ce"), looks := true }, kinds := [], alts := [], laidByText := true, laidKinds := [.data, .data, .data, .data, .sentinel, .sentinel, .pinned], laidTests := true, laidLooks := .later }
def JsonvalRoundTripUptoCardSaid : Prop := Claim7.holds Tryd.pinned (.plain (OpenSpec.upto jsonvalRoundTripSpec)) jsonvalRoundTripUptoCard

/-- THE SECOND FORM's CARD OF 'glossatorkeep3.JsonvalCanonical'. -/
def jsonvalCanonicalUptoCard : Claim7 := { stood := { row := jsonvalCanonicalUptoRow, standIns := [], harness := (true, "0085829781975ad9d33980f496647e48a8fc3efc29f7c380c410aaec4f3661ce"), looks := true }, kinds := [], alts := [], laidByText := true, laidKinds := [.data, .data, .data, .data, .sentinel, .sentinel, .pinned], laidTests := true, laidLooks := .later }
def JsonvalCanonicalUptoCardSaid : Prop := Claim7.holds Tryd.pinned (.plain (OpenSpec.upto jsonvalCanonicalSpec)) jsonvalCanonicalUptoCard

/-- THE SECOND FORM's CARD OF 'glossatorkeep3.JsonvalWhitespace'. -/
def jsonvalWhitespaceUptoCard : Claim7 := { stood := { row := jsonvalWhitespaceUptoRow, standIns := [], harness := (true, "0085829781975ad9d33980f496647e48a8fc3efc29f7c380c410aaec4f3661ce"), looks := true }, kinds := [], alts := [], laidByText := true, laidKinds := [.data, .data, .data, .data, .sentinel, .sentinel, .pinned], laidTests := true, laidLooks := .later }
def JsonvalWhitespaceUptoCardSaid : Prop := Claim7.holds Tryd.pinned (.plain (OpenSpec.upto jsonvalWhitespaceSpec)) jsonvalWhitespaceUptoCard
end Rows
end Go.Proofs.YtmonbhoeplmieaaDoor
