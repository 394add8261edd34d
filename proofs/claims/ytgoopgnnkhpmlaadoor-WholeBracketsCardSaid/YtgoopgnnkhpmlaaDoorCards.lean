/-
  DERIVED. GIVEN WITH THE SEED: THE CARDS: each row of YtgoopgnnkhpmlaaDoorRows.lean that lists a variable, with what it lists TIED to the program's text (the seventh form; the later family's looks); each row that meets fmt, with fmt's text TOLD by the authors' own Lean function (tested against real Go, not proved from fmt's source: count such statements apart). THE CARD IS WHAT COUNTS. Prove the row's statement (the work); the ties are given (YtgoopgnnkhpmlaaDoorTie.lean); close each card by the builder's one call (the guide's Derived/Test/ToyasCard.lean, 'card_holds'). Laid BY PROGRAM, IN A SANDBOX (cutbox-door.mjs). By AI agents, Wed Nov 11 2026. No macro, syntax, notation, axiom, sorry.
-/
import Derived.Test.YtgoopgnnkhpmlaaDoorRows
import GoSem.ClaimSeven
namespace Go.Proofs.YtgoopgnnkhpmlaaDoor
namespace Rows

/-- THE TIED CARD OF 'runneltop.WholeBrackets'. -/
def wholeBracketsCard : Claim7 := { stood := { row := wholeBracketsRow, standIns := [], harness := (true, "f3244390f16379594fbdd6f881f1cee594e4d5a7792155fc0db37944aeda7e2a"), looks := false }, kinds := [], alts := [], laidByText := true, laidKinds := [.data], laidTests := true, laidLooks := .later }
def WholeBracketsCardSaid : Prop := Claim7.holds Tryd.pinned (.plain (OpenSpec.ofChange wholeBracketsSpec)) wholeBracketsCard

/-- THE SECOND FORM's CARD OF 'runneltop.WholeBrackets'. -/
def wholeBracketsUptoCard : Claim7 := { stood := { row := wholeBracketsUptoRow, standIns := [], harness := (true, "f3244390f16379594fbdd6f881f1cee594e4d5a7792155fc0db37944aeda7e2a"), looks := false }, kinds := [], alts := [], laidByText := true, laidKinds := [.data], laidTests := true, laidLooks := .later }
def WholeBracketsUptoCardSaid : Prop := Claim7.holds Tryd.pinned (.plain (OpenSpec.upto wholeBracketsSpec)) wholeBracketsUptoCard
end Rows
end Go.Proofs.YtgoopgnnkhpmlaaDoor
