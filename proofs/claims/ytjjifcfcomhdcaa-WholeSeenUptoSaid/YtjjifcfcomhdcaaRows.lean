/-
  No cell of these rows narrows 'for every input' (looked for: loops, veiled, ifaces, maps, wideKeys, modest, calm, conditions, laid).
  DERIVED. THE GIVEN ROWS OF THIS SEAT. 7 by the template 'for every input the law returns true; each argument reads behind the call as it read before'; 0 by the template 'total and deterministic' (their statements: YtjjifcfcomhdcaaTotals.lean).
  GIVEN WITH THE SEED: the statements are not yours to turn. If you find one false, say at which input.
  Laid BY PROGRAM, IN A SANDBOX (cutbox-rows.mjs): the forced cells as the released guide's own fill.sh prints them over the translation 5309ac1a0ebaf268… (all of the seat's roots in one cut). By AI agents, Wed Nov 11 2026. No macro, syntax, notation, axiom, sorry.
-/
import Derived.Test.YtjjifcfcomhdcaaChecked
import GoSem.Claim
import GoSem.ClaimJoined
import GoSem.ClaimMapViews
import Derived.JoinedTies
import Derived.KernelRfl
namespace Go.Proofs.Ytjjifcfcomhdcaa
/- THE CELL 'sum', in the pinned program and in every row, IS THE sha256 OF THE DUMP (.gsa) THAT YtjjifcfcomhdcaaProg.lean LOADS. Nothing in Lean hashes anything: it is a label: what it is worth is what the hold of that sum in a sandbox is worth. -/
noncomputable def Try.pinned : Pinned := { name := "ytjjifcfcomhdcaa", sum := "5309ac1a0ebaf2689ba216b57b4c1b660adfe7ecb4e92cd9cacfb95cbf5ad06e", checked := Try.checked }
namespace Rows
def none {H : Type} : Left H := { results := [], args := [] }

/-- 'runnellaw16.ListingLines': WHATEVER THE INPUT: true; the input reads as it did. -/
def listingLinesSpec : ChangeSpec := { name := "listingLines", fn := fun _ => fun
  | [d1, d2] => { results := [.lit (.bool true)], args := [d1, d2] }
  | _ => none }
def listingLinesRow : OpenClaim := { program := "ytjjifcfcomhdcaa", sum := "5309ac1a0ebaf2689ba216b57b4c1b660adfe7ecb4e92cd9cacfb95cbf5ad06e", func := "runnel/runnellaw16.ListingLines", spec := "listingLines", inPlace := ["internal/abi.NoEscape"], unfollowed := true, recurses := true, apart := false }
def ListingLinesSaid : Prop := listingLinesRow.holds Try.pinned (OpenSpec.ofChange listingLinesSpec)

/-- ITS FALSE NEIGHBOUR: 'it returns false'. Refute it at one input. -/
def listingLinesWrong : ChangeSpec := { name := "listingLines", fn := fun _ => fun
  | [d1, d2] => { results := [.lit (.bool false)], args := [d1, d2] }
  | _ => none }
def ListingLinesWrongFalsely : Prop := listingLinesRow.holds Try.pinned (OpenSpec.ofChange listingLinesWrong)

/-- 'runnellaw16.ListingReads': WHATEVER THE INPUT: true; the input reads as it did. -/
def listingReadsSpec : ChangeSpec := { name := "listingReads", fn := fun _ => fun
  | [d] => { results := [.lit (.bool true)], args := [d] }
  | _ => none }
def listingReadsRow : OpenClaim := { program := "ytjjifcfcomhdcaa", sum := "5309ac1a0ebaf2689ba216b57b4c1b660adfe7ecb4e92cd9cacfb95cbf5ad06e", func := "runnel/runnellaw16.ListingReads", spec := "listingReads", inPlace := ["internal/abi.NoEscape"], unfollowed := true, recurses := true, apart := false }
def ListingReadsSaid : Prop := listingReadsRow.holds Try.pinned (OpenSpec.ofChange listingReadsSpec)

/-- ITS FALSE NEIGHBOUR: 'it returns false'. Refute it at one input. -/
def listingReadsWrong : ChangeSpec := { name := "listingReads", fn := fun _ => fun
  | [d] => { results := [.lit (.bool false)], args := [d] }
  | _ => none }
def ListingReadsWrongFalsely : Prop := listingReadsRow.holds Try.pinned (OpenSpec.ofChange listingReadsWrong)

/-- 'runnellaw16.ListingBack': WHATEVER THE INPUT: true; the input reads as it did. -/
def listingBackSpec : ChangeSpec := { name := "listingBack", fn := fun _ => fun
  | [d] => { results := [.lit (.bool true)], args := [d] }
  | _ => none }
def listingBackRow : OpenClaim := { program := "ytjjifcfcomhdcaa", sum := "5309ac1a0ebaf2689ba216b57b4c1b660adfe7ecb4e92cd9cacfb95cbf5ad06e", func := "runnel/runnellaw16.ListingBack", spec := "listingBack", inPlace := ["internal/abi.NoEscape"], unfollowed := true, recurses := true, apart := false }
def ListingBackSaid : Prop := listingBackRow.holds Try.pinned (OpenSpec.ofChange listingBackSpec)

/-- ITS FALSE NEIGHBOUR: 'it returns false'. Refute it at one input. -/
def listingBackWrong : ChangeSpec := { name := "listingBack", fn := fun _ => fun
  | [d] => { results := [.lit (.bool false)], args := [d] }
  | _ => none }
def ListingBackWrongFalsely : Prop := listingBackRow.holds Try.pinned (OpenSpec.ofChange listingBackWrong)

/-- 'runnellaw16.ListingStops': WHATEVER THE INPUT: true; the input reads as it did. -/
def listingStopsSpec : ChangeSpec := { name := "listingStops", fn := fun _ => fun
  | [d1, d2] => { results := [.lit (.bool true)], args := [d1, d2] }
  | _ => none }
def listingStopsRow : OpenClaim := { program := "ytjjifcfcomhdcaa", sum := "5309ac1a0ebaf2689ba216b57b4c1b660adfe7ecb4e92cd9cacfb95cbf5ad06e", func := "runnel/runnellaw16.ListingStops", spec := "listingStops", inPlace := ["internal/abi.NoEscape"], unfollowed := true, recurses := true, apart := false }
def ListingStopsSaid : Prop := listingStopsRow.holds Try.pinned (OpenSpec.ofChange listingStopsSpec)

/-- ITS FALSE NEIGHBOUR: 'it returns false'. Refute it at one input. -/
def listingStopsWrong : ChangeSpec := { name := "listingStops", fn := fun _ => fun
  | [d1, d2] => { results := [.lit (.bool false)], args := [d1, d2] }
  | _ => none }
def ListingStopsWrongFalsely : Prop := listingStopsRow.holds Try.pinned (OpenSpec.ofChange listingStopsWrong)

/-- 'runnellaw16.ListingJoins': WHATEVER THE INPUT: true; the input reads as it did. -/
def listingJoinsSpec : ChangeSpec := { name := "listingJoins", fn := fun _ => fun
  | [d1, d2, d3] => { results := [.lit (.bool true)], args := [d1, d2, d3] }
  | _ => none }
def listingJoinsRow : OpenClaim := { program := "ytjjifcfcomhdcaa", sum := "5309ac1a0ebaf2689ba216b57b4c1b660adfe7ecb4e92cd9cacfb95cbf5ad06e", func := "runnel/runnellaw16.ListingJoins", spec := "listingJoins", inPlace := ["internal/abi.NoEscape"], unfollowed := true, recurses := true, apart := false }
def ListingJoinsSaid : Prop := listingJoinsRow.holds Try.pinned (OpenSpec.ofChange listingJoinsSpec)

/-- ITS FALSE NEIGHBOUR: 'it returns false'. Refute it at one input. -/
def listingJoinsWrong : ChangeSpec := { name := "listingJoins", fn := fun _ => fun
  | [d1, d2, d3] => { results := [.lit (.bool false)], args := [d1, d2, d3] }
  | _ => none }
def ListingJoinsWrongFalsely : Prop := listingJoinsRow.holds Try.pinned (OpenSpec.ofChange listingJoinsWrong)

/-- 'runnellaw16.ListingKeeps': WHATEVER THE INPUT: true; the input reads as it did. -/
def listingKeepsSpec : ChangeSpec := { name := "listingKeeps", fn := fun _ => fun
  | [d1, d2] => { results := [.lit (.bool true)], args := [d1, d2] }
  | _ => none }
def listingKeepsRow : OpenClaim := { program := "ytjjifcfcomhdcaa", sum := "5309ac1a0ebaf2689ba216b57b4c1b660adfe7ecb4e92cd9cacfb95cbf5ad06e", func := "runnel/runnellaw16.ListingKeeps", spec := "listingKeeps", inPlace := ["internal/abi.NoEscape"], unfollowed := true, recurses := true, apart := false }
def ListingKeepsSaid : Prop := listingKeepsRow.holds Try.pinned (OpenSpec.ofChange listingKeepsSpec)

/-- ITS FALSE NEIGHBOUR: 'it returns false'. Refute it at one input. -/
def listingKeepsWrong : ChangeSpec := { name := "listingKeeps", fn := fun _ => fun
  | [d1, d2] => { results := [.lit (.bool false)], args := [d1, d2] }
  | _ => none }
def ListingKeepsWrongFalsely : Prop := listingKeepsRow.holds Try.pinned (OpenSpec.ofChange listingKeepsWrong)

/-- 'runneltop.WholeSeen': WHATEVER THE INPUT: true; the input reads as it did. -/
def wholeSeenSpec : ChangeSpec := { name := "wholeSeen", fn := fun _ => fun
  | [d1, d2, d3] => { results := [.lit (.bool true)], args := [d1, d2, d3] }
  | _ => none }
def wholeSeenRow : OpenClaim := { program := "ytjjifcfcomhdcaa", sum := "5309ac1a0ebaf2689ba216b57b4c1b660adfe7ecb4e92cd9cacfb95cbf5ad06e", func := "runnel/runneltop.WholeSeen", spec := "wholeSeen", inPlace := ["internal/abi.NoEscape"], unfollowed := true, recurses := true, apart := false }
def WholeSeenSaid : Prop := wholeSeenRow.holds Try.pinned (OpenSpec.ofChange wholeSeenSpec)

/-- ITS FALSE NEIGHBOUR: 'it returns false'. Refute it at one input. -/
def wholeSeenWrong : ChangeSpec := { name := "wholeSeen", fn := fun _ => fun
  | [d1, d2, d3] => { results := [.lit (.bool false)], args := [d1, d2, d3] }
  | _ => none }
def WholeSeenWrongFalsely : Prop := wholeSeenRow.holds Try.pinned (OpenSpec.ofChange wholeSeenWrong)

/- THE SECOND FORM. 'bulk': how many values and letters a reading holds, each counted each time it is reached (what is shared counts as often as it is met; a slice's spare places count too). A statement '..UptoSaid' is the law's where the arguments, and the package variables that the reading takes, are together of bulk at most 1048576: NARROWER than '..Said'. Prove '..Said' where nothing that the law and all that it calls make is longer than what came in: it says more and counts as full. Else prove '..UptoSaid'. A law counts once. -/
mutual
def uptoBulk {H : Type} : DataW H → Nat
  | .lit (.string bytes) => bytes.length + 1
  | .lit _ => 1
  | .nil => 1
  | .ptr d => uptoBulk d + 1
  | .slice elems spare => uptoBulkAll elems + uptoBulkAll spare + 1
  | .agg parts => uptoBulkAll parts + 1
  | .iface _ d => uptoBulk d + 1
  | .map entries => uptoBulkEntries entries + 1
  | .held _ => 1
def uptoBulkAll {H : Type} : List (DataW H) → Nat
  | [] => 0
  | d :: r => uptoBulk d + uptoBulkAll r
def uptoBulkEntries {H : Type} : List (Lit × DataW H) → Nat
  | [] => 0
  | x :: r => uptoBulkEntry x + uptoBulkEntries r
def uptoBulkEntry {H : Type} : Lit × DataW H → Nat
  | (.string bytes, d) => bytes.length + uptoBulk d + 1
  | (_, d) => uptoBulk d + 1
 end
def uptoSmall : (H : Type) → List (DataW H) → Bool := fun _ ds => decide (uptoBulkAll ds ≤ 1048576)
def OpenSpec.upto (s : _root_.Go.ChangeSpec) : _root_.Go.OpenSpec := { _root_.Go.OpenSpec.ofChange s with cond := some uptoSmall }

/-- 'runnellaw16.ListingLines', WHERE WHAT IT READS IS OF BULK AT MOST 1048576: true; the input reads as it did. -/
def listingLinesUptoRow : OpenClaim := { program := "ytjjifcfcomhdcaa", sum := "5309ac1a0ebaf2689ba216b57b4c1b660adfe7ecb4e92cd9cacfb95cbf5ad06e", func := "runnel/runnellaw16.ListingLines", spec := "listingLines", inPlace := ["internal/abi.NoEscape"], unfollowed := true, recurses := true, apart := false, narrowed := true }
def ListingLinesUptoSaid : Prop := listingLinesUptoRow.holds Try.pinned (OpenSpec.upto listingLinesSpec)

/-- 'runnellaw16.ListingReads', WHERE WHAT IT READS IS OF BULK AT MOST 1048576: true; the input reads as it did. -/
def listingReadsUptoRow : OpenClaim := { program := "ytjjifcfcomhdcaa", sum := "5309ac1a0ebaf2689ba216b57b4c1b660adfe7ecb4e92cd9cacfb95cbf5ad06e", func := "runnel/runnellaw16.ListingReads", spec := "listingReads", inPlace := ["internal/abi.NoEscape"], unfollowed := true, recurses := true, apart := false, narrowed := true }
def ListingReadsUptoSaid : Prop := listingReadsUptoRow.holds Try.pinned (OpenSpec.upto listingReadsSpec)

/-- 'runnellaw16.ListingBack', WHERE WHAT IT READS IS OF BULK AT MOST 1048576: true; the input reads as it did. -/
def listingBackUptoRow : OpenClaim := { program := "ytjjifcfcomhdcaa", sum := "5309ac1a0ebaf2689ba216b57b4c1b660adfe7ecb4e92cd9cacfb95cbf5ad06e", func := "runnel/runnellaw16.ListingBack", spec := "listingBack", inPlace := ["internal/abi.NoEscape"], unfollowed := true, recurses := true, apart := false, narrowed := true }
def ListingBackUptoSaid : Prop := listingBackUptoRow.holds Try.pinned (OpenSpec.upto listingBackSpec)

/-- 'runnellaw16.ListingStops', WHERE WHAT IT READS IS OF BULK AT MOST 1048576: true; the input reads as it did. -/
def listingStopsUptoRow : OpenClaim := { program := "ytjjifcfcomhdcaa", sum := "5309ac1a0ebaf2689ba216b57b4c1b660adfe7ecb4e92cd9cacfb95cbf5ad06e", func := "runnel/runnellaw16.ListingStops", spec := "listingStops", inPlace := ["internal/abi.NoEscape"], unfollowed := true, recurses := true, apart := false, narrowed := true }
def ListingStopsUptoSaid : Prop := listingStopsUptoRow.holds Try.pinned (OpenSpec.upto listingStopsSpec)

/-- 'runnellaw16.ListingJoins', WHERE WHAT IT READS IS OF BULK AT MOST 1048576: true; the input reads as it did. -/
def listingJoinsUptoRow : OpenClaim := { program := "ytjjifcfcomhdcaa", sum := "5309ac1a0ebaf2689ba216b57b4c1b660adfe7ecb4e92cd9cacfb95cbf5ad06e", func := "runnel/runnellaw16.ListingJoins", spec := "listingJoins", inPlace := ["internal/abi.NoEscape"], unfollowed := true, recurses := true, apart := false, narrowed := true }
def ListingJoinsUptoSaid : Prop := listingJoinsUptoRow.holds Try.pinned (OpenSpec.upto listingJoinsSpec)

/-- 'runnellaw16.ListingKeeps', WHERE WHAT IT READS IS OF BULK AT MOST 1048576: true; the input reads as it did. -/
def listingKeepsUptoRow : OpenClaim := { program := "ytjjifcfcomhdcaa", sum := "5309ac1a0ebaf2689ba216b57b4c1b660adfe7ecb4e92cd9cacfb95cbf5ad06e", func := "runnel/runnellaw16.ListingKeeps", spec := "listingKeeps", inPlace := ["internal/abi.NoEscape"], unfollowed := true, recurses := true, apart := false, narrowed := true }
def ListingKeepsUptoSaid : Prop := listingKeepsUptoRow.holds Try.pinned (OpenSpec.upto listingKeepsSpec)

/-- 'runneltop.WholeSeen', WHERE WHAT IT READS IS OF BULK AT MOST 1048576: true; the input reads as it did. -/
def wholeSeenUptoRow : OpenClaim := { program := "ytjjifcfcomhdcaa", sum := "5309ac1a0ebaf2689ba216b57b4c1b660adfe7ecb4e92cd9cacfb95cbf5ad06e", func := "runnel/runneltop.WholeSeen", spec := "wholeSeen", inPlace := ["internal/abi.NoEscape"], unfollowed := true, recurses := true, apart := false, narrowed := true }
def WholeSeenUptoSaid : Prop := wholeSeenUptoRow.holds Try.pinned (OpenSpec.upto wholeSeenSpec)

end Rows
end Go.Proofs.Ytjjifcfcomhdcaa
