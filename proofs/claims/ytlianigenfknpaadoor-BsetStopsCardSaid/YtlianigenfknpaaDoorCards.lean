/-
  DERIVED. GIVEN WITH THE SEED: THE CARDS: each row of YtlianigenfknpaaDoorRows.lean that lists a variable, with what it lists TIED to the program's text (the seventh form; the later family's looks); each row that meets fmt, with fmt's text TOLD by the authors' own Lean function (tested against real Go, not proved from fmt's source: count such statements apart). THE CARD IS WHAT COUNTS. Prove the row's statement (the work); the ties are given (YtlianigenfknpaaDoorTie.lean); close each card by the builder's one call (the guide's Derived/Test/ToyasCard.lean, 'card_holds'). Laid BY PROGRAM, IN A SANDBOX (cutbox-door.mjs). By AI agents, Wed Nov 11 2026. No macro, syntax, notation, axiom, sorry.
-/
import Derived.Test.YtlianigenfknpaaDoorRows
import GoSem.ClaimSeven
namespace Go.Proofs.YtlianigenfknpaaDoor
namespace Rows

/-- THE TIED CARD OF 'runnellaw02.BsetTells'. -/
def bsetTellsCard : Claim7 := { stood := { row := bsetTellsRow, standIns := [], harness := (true, "dbb484886d1e9ed7942ead4513cf5b79465e6b9023c941ebcc38f36bd9415de0"), looks := false }, kinds := [], alts := [], laidByText := true, laidKinds := [.data], laidTests := true, laidLooks := .later }
def BsetTellsCardSaid : Prop := Claim7.holds Tryd.pinned (.plain (OpenSpec.ofChange bsetTellsSpec)) bsetTellsCard

/-- THE TIED CARD OF 'runnellaw02.BsetStops'. -/
def bsetStopsCard : Claim7 := { stood := { row := bsetStopsRow, standIns := [], harness := (true, "dbb484886d1e9ed7942ead4513cf5b79465e6b9023c941ebcc38f36bd9415de0"), looks := false }, kinds := [], alts := [], laidByText := true, laidKinds := [.data], laidTests := true, laidLooks := .later }
def BsetStopsCardSaid : Prop := Claim7.holds Tryd.pinned (.plain (OpenSpec.ofChange bsetStopsSpec)) bsetStopsCard

/-- THE TIED CARD OF 'runneltop.WholeBrackets'. -/
def wholeBracketsCard : Claim7 := { stood := { row := wholeBracketsRow, standIns := [], harness := (true, "dbb484886d1e9ed7942ead4513cf5b79465e6b9023c941ebcc38f36bd9415de0"), looks := false }, kinds := [], alts := [], laidByText := true, laidKinds := [.data], laidTests := true, laidLooks := .later }
def WholeBracketsCardSaid : Prop := Claim7.holds Tryd.pinned (.plain (OpenSpec.ofChange wholeBracketsSpec)) wholeBracketsCard

/-- THE SECOND FORM's CARD OF 'runnellaw02.BsetTells'. -/
def bsetTellsUptoCard : Claim7 := { stood := { row := bsetTellsUptoRow, standIns := [], harness := (true, "dbb484886d1e9ed7942ead4513cf5b79465e6b9023c941ebcc38f36bd9415de0"), looks := false }, kinds := [], alts := [], laidByText := true, laidKinds := [.data], laidTests := true, laidLooks := .later }
def BsetTellsUptoCardSaid : Prop := Claim7.holds Tryd.pinned (.plain (OpenSpec.upto bsetTellsSpec)) bsetTellsUptoCard

/-- THE SECOND FORM's CARD OF 'runnellaw02.BsetStops'. -/
def bsetStopsUptoCard : Claim7 := { stood := { row := bsetStopsUptoRow, standIns := [], harness := (true, "dbb484886d1e9ed7942ead4513cf5b79465e6b9023c941ebcc38f36bd9415de0"), looks := false }, kinds := [], alts := [], laidByText := true, laidKinds := [.data], laidTests := true, laidLooks := .later }
def BsetStopsUptoCardSaid : Prop := Claim7.holds Tryd.pinned (.plain (OpenSpec.upto bsetStopsSpec)) bsetStopsUptoCard

/-- THE SECOND FORM's CARD OF 'runneltop.WholeBrackets'. -/
def wholeBracketsUptoCard : Claim7 := { stood := { row := wholeBracketsUptoRow, standIns := [], harness := (true, "dbb484886d1e9ed7942ead4513cf5b79465e6b9023c941ebcc38f36bd9415de0"), looks := false }, kinds := [], alts := [], laidByText := true, laidKinds := [.data], laidTests := true, laidLooks := .later }
def WholeBracketsUptoCardSaid : Prop := Claim7.holds Tryd.pinned (.plain (OpenSpec.upto wholeBracketsSpec)) wholeBracketsUptoCard
end Rows
end Go.Proofs.YtlianigenfknpaaDoor
