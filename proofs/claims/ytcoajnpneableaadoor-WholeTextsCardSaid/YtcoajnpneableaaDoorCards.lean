/-
  DERIVED. GIVEN WITH THE SEED: THE CARDS: each row of YtcoajnpneableaaDoorRows.lean that lists a variable, with what it lists TIED to the program's text (the seventh form; the later family's looks); each row that meets fmt, with fmt's text TOLD by the authors' own Lean function (tested against real Go, not proved from fmt's source: count such statements apart). THE CARD IS WHAT COUNTS. Prove the row's statement (the work); the ties are given (YtcoajnpneableaaDoorTie.lean); close each card by the builder's one call (the guide's Derived/Test/ToyasCard.lean, 'card_holds'). Laid BY PROGRAM, IN A SANDBOX (cutbox-door.mjs). By AI agents, Wed Nov 11 2026. No macro, syntax, notation, axiom, sorry.
-/
import Derived.Test.YtcoajnpneableaaDoorRows
import GoSem.ClaimSeven
namespace Go.Proofs.YtcoajnpneableaaDoor
namespace Rows

/-- THE TIED CARD OF 'runneltop.WholeTexts'. -/
def wholeTextsCard : Claim7 := { stood := { row := wholeTextsRow, standIns := [], harness := (true, "743199b5ab158e855735acc39ea5baf4ec060fe41fd20e0c8e3aecdce05b6b21"), looks := false }, kinds := [], alts := [], laidByText := true, laidKinds := [.data, .data, .data], laidTests := true, laidLooks := .later }
def WholeTextsCardSaid : Prop := Claim7.holds Tryd.pinned (.plain (OpenSpec.ofChange wholeTextsSpec)) wholeTextsCard

/-- THE SECOND FORM's CARD OF 'runneltop.WholeTexts'. -/
def wholeTextsUptoCard : Claim7 := { stood := { row := wholeTextsUptoRow, standIns := [], harness := (true, "743199b5ab158e855735acc39ea5baf4ec060fe41fd20e0c8e3aecdce05b6b21"), looks := false }, kinds := [], alts := [], laidByText := true, laidKinds := [.data, .data, .data], laidTests := true, laidLooks := .later }
def WholeTextsUptoCardSaid : Prop := Claim7.holds Tryd.pinned (.plain (OpenSpec.upto wholeTextsSpec)) wholeTextsUptoCard
end Rows
end Go.Proofs.YtcoajnpneableaaDoor
