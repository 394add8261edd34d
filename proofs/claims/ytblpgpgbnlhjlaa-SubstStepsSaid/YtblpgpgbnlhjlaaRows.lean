/-
  No cell of these rows narrows 'for every input' (looked for: loops, veiled, ifaces, maps, wideKeys, modest, calm, conditions, laid).
  DERIVED. THE GIVEN ROWS OF THIS SEAT. 12 by the template 'for every input the law returns true; each argument reads behind the call as it read before'; 0 by the template 'total and deterministic' (their statements: YtblpgpgbnlhjlaaTotals.lean).
  GIVEN WITH THE SEED: the statements are not yours to turn. If you find one false, say at which input.
  Laid BY PROGRAM, IN A SANDBOX (cutbox-rows.mjs): the forced cells as the released guide's own fill.sh prints them over the translation e95b4b4463cfc19f… (all of the seat's roots in one cut). By AI agents, Wed Nov 11 2026. No macro, syntax, notation, axiom, sorry.
-/
import Derived.Test.YtblpgpgbnlhjlaaChecked
import GoSem.Claim
import GoSem.ClaimJoined
import GoSem.ClaimMapViews
import Derived.JoinedTies
import Derived.KernelRfl
namespace Go.Proofs.Ytblpgpgbnlhjlaa
/- THE CELL 'sum', in the pinned program and in every row, IS THE sha256 OF THE DUMP (.gsa) THAT YtblpgpgbnlhjlaaProg.lean LOADS. Nothing in Lean hashes anything: it is a label: what it is worth is what the hold of that sum in a sandbox is worth. -/
noncomputable def Try.pinned : Pinned := { name := "ytblpgpgbnlhjlaa", sum := "e95b4b4463cfc19ffa1b049b54c4c5ea5ea7b7e13c0acb4d2701f21e9d724f51", checked := Try.checked }
namespace Rows
def none {H : Type} : Left H := { results := [], args := [] }

/-- 'runnellaw09.WaysRuns': WHATEVER THE INPUT: true; the input reads as it did. -/
def waysRunsSpec : ChangeSpec := { name := "waysRuns", fn := fun _ => fun
  | [d] => { results := [.lit (.bool true)], args := [d] }
  | _ => none }
def waysRunsRow : OpenClaim := { program := "ytblpgpgbnlhjlaa", sum := "e95b4b4463cfc19ffa1b049b54c4c5ea5ea7b7e13c0acb4d2701f21e9d724f51", func := "runnel/runnellaw09.WaysRuns", spec := "waysRuns", inPlace := ["internal/bytealg.IndexByteString", "internal/bytealg.IndexString"], unfollowed := true, recurses := true, named := ["internal/bytealg.MaxLen"], plainKeys := false, apart := false }
def WaysRunsSaid : Prop := waysRunsRow.holds Try.pinned (OpenSpec.ofChange waysRunsSpec)

/-- ITS FALSE NEIGHBOUR: 'it returns false'. Refute it at one input. -/
def waysRunsWrong : ChangeSpec := { name := "waysRuns", fn := fun _ => fun
  | [d] => { results := [.lit (.bool false)], args := [d] }
  | _ => none }
def WaysRunsWrongFalsely : Prop := waysRunsRow.holds Try.pinned (OpenSpec.ofChange waysRunsWrong)

/-- 'runnellaw09.WaysProducts': WHATEVER THE INPUT: true; the input reads as it did. -/
def waysProductsSpec : ChangeSpec := { name := "waysProducts", fn := fun _ => fun
  | [d1, d2, d3] => { results := [.lit (.bool true)], args := [d1, d2, d3] }
  | _ => none }
def waysProductsRow : OpenClaim := { program := "ytblpgpgbnlhjlaa", sum := "e95b4b4463cfc19ffa1b049b54c4c5ea5ea7b7e13c0acb4d2701f21e9d724f51", func := "runnel/runnellaw09.WaysProducts", spec := "waysProducts", inPlace := ["internal/bytealg.IndexByteString", "internal/bytealg.IndexString"], unfollowed := true, recurses := true, named := ["internal/bytealg.MaxLen"], plainKeys := false, apart := false }
def WaysProductsSaid : Prop := waysProductsRow.holds Try.pinned (OpenSpec.ofChange waysProductsSpec)

/-- ITS FALSE NEIGHBOUR: 'it returns false'. Refute it at one input. -/
def waysProductsWrong : ChangeSpec := { name := "waysProducts", fn := fun _ => fun
  | [d1, d2, d3] => { results := [.lit (.bool false)], args := [d1, d2, d3] }
  | _ => none }
def WaysProductsWrongFalsely : Prop := waysProductsRow.holds Try.pinned (OpenSpec.ofChange waysProductsWrong)

/-- 'runnellaw08.SetmatchForms': WHATEVER THE INPUT: true; the input reads as it did. -/
def setmatchFormsSpec : ChangeSpec := { name := "setmatchForms", fn := fun _ => fun
  | [d1, d2] => { results := [.lit (.bool true)], args := [d1, d2] }
  | _ => none }
def setmatchFormsRow : OpenClaim := { program := "ytblpgpgbnlhjlaa", sum := "e95b4b4463cfc19ffa1b049b54c4c5ea5ea7b7e13c0acb4d2701f21e9d724f51", func := "runnel/runnellaw08.SetmatchForms", spec := "setmatchForms", inPlace := ["internal/bytealg.IndexByteString", "internal/bytealg.IndexString"], unfollowed := true, recurses := true, named := ["internal/bytealg.MaxLen"], plainKeys := false, apart := false }
def SetmatchFormsSaid : Prop := setmatchFormsRow.holds Try.pinned (OpenSpec.ofChange setmatchFormsSpec)

/-- ITS FALSE NEIGHBOUR: 'it returns false'. Refute it at one input. -/
def setmatchFormsWrong : ChangeSpec := { name := "setmatchForms", fn := fun _ => fun
  | [d1, d2] => { results := [.lit (.bool false)], args := [d1, d2] }
  | _ => none }
def SetmatchFormsWrongFalsely : Prop := setmatchFormsRow.holds Try.pinned (OpenSpec.ofChange setmatchFormsWrong)

/-- 'runnellaw10.BackmatchSquares': WHATEVER THE INPUT: true; the input reads as it did. -/
def backmatchSquaresSpec : ChangeSpec := { name := "backmatchSquares", fn := fun _ => fun
  | [d1, d2] => { results := [.lit (.bool true)], args := [d1, d2] }
  | _ => none }
def backmatchSquaresRow : OpenClaim := { program := "ytblpgpgbnlhjlaa", sum := "e95b4b4463cfc19ffa1b049b54c4c5ea5ea7b7e13c0acb4d2701f21e9d724f51", func := "runnel/runnellaw10.BackmatchSquares", spec := "backmatchSquares", inPlace := ["internal/bytealg.IndexByteString", "internal/bytealg.IndexString"], unfollowed := true, recurses := true, named := ["internal/bytealg.MaxLen"], plainKeys := false, apart := false }
def BackmatchSquaresSaid : Prop := backmatchSquaresRow.holds Try.pinned (OpenSpec.ofChange backmatchSquaresSpec)

/-- ITS FALSE NEIGHBOUR: 'it returns false'. Refute it at one input. -/
def backmatchSquaresWrong : ChangeSpec := { name := "backmatchSquares", fn := fun _ => fun
  | [d1, d2] => { results := [.lit (.bool false)], args := [d1, d2] }
  | _ => none }
def BackmatchSquaresWrongFalsely : Prop := backmatchSquaresRow.holds Try.pinned (OpenSpec.ofChange backmatchSquaresWrong)

/-- 'runnellaw10.BackmatchEquals': WHATEVER THE INPUT: true; the input reads as it did. -/
def backmatchEqualsSpec : ChangeSpec := { name := "backmatchEquals", fn := fun _ => fun
  | [d1, d2] => { results := [.lit (.bool true)], args := [d1, d2] }
  | _ => none }
def backmatchEqualsRow : OpenClaim := { program := "ytblpgpgbnlhjlaa", sum := "e95b4b4463cfc19ffa1b049b54c4c5ea5ea7b7e13c0acb4d2701f21e9d724f51", func := "runnel/runnellaw10.BackmatchEquals", spec := "backmatchEquals", inPlace := ["internal/bytealg.IndexByteString", "internal/bytealg.IndexString"], unfollowed := true, recurses := true, named := ["internal/bytealg.MaxLen"], plainKeys := false, apart := false }
def BackmatchEqualsSaid : Prop := backmatchEqualsRow.holds Try.pinned (OpenSpec.ofChange backmatchEqualsSpec)

/-- ITS FALSE NEIGHBOUR: 'it returns false'. Refute it at one input. -/
def backmatchEqualsWrong : ChangeSpec := { name := "backmatchEquals", fn := fun _ => fun
  | [d1, d2] => { results := [.lit (.bool false)], args := [d1, d2] }
  | _ => none }
def BackmatchEqualsWrongFalsely : Prop := backmatchEqualsRow.holds Try.pinned (OpenSpec.ofChange backmatchEqualsWrong)

/-- 'runnellaw10.BackmatchTurned': WHATEVER THE INPUT: true; the input reads as it did. -/
def backmatchTurnedSpec : ChangeSpec := { name := "backmatchTurned", fn := fun _ => fun
  | [d] => { results := [.lit (.bool true)], args := [d] }
  | _ => none }
def backmatchTurnedRow : OpenClaim := { program := "ytblpgpgbnlhjlaa", sum := "e95b4b4463cfc19ffa1b049b54c4c5ea5ea7b7e13c0acb4d2701f21e9d724f51", func := "runnel/runnellaw10.BackmatchTurned", spec := "backmatchTurned", inPlace := ["internal/bytealg.IndexByteString", "internal/bytealg.IndexString"], unfollowed := true, recurses := true, named := ["internal/bytealg.MaxLen"], plainKeys := false, apart := false }
def BackmatchTurnedSaid : Prop := backmatchTurnedRow.holds Try.pinned (OpenSpec.ofChange backmatchTurnedSpec)

/-- ITS FALSE NEIGHBOUR: 'it returns false'. Refute it at one input. -/
def backmatchTurnedWrong : ChangeSpec := { name := "backmatchTurned", fn := fun _ => fun
  | [d] => { results := [.lit (.bool false)], args := [d] }
  | _ => none }
def BackmatchTurnedWrongFalsely : Prop := backmatchTurnedRow.holds Try.pinned (OpenSpec.ofChange backmatchTurnedWrong)

/-- 'runnellaw11.MatcherNone': WHATEVER THE INPUT: true; the input reads as it did. -/
def matcherNoneSpec : ChangeSpec := { name := "matcherNone", fn := fun _ => fun
  | [d1, d2] => { results := [.lit (.bool true)], args := [d1, d2] }
  | _ => none }
def matcherNoneRow : OpenClaim := { program := "ytblpgpgbnlhjlaa", sum := "e95b4b4463cfc19ffa1b049b54c4c5ea5ea7b7e13c0acb4d2701f21e9d724f51", func := "runnel/runnellaw11.MatcherNone", spec := "matcherNone", inPlace := ["internal/bytealg.IndexByteString", "internal/bytealg.IndexString"], unfollowed := true, recurses := true, named := ["internal/bytealg.MaxLen"], plainKeys := false, apart := false }
def MatcherNoneSaid : Prop := matcherNoneRow.holds Try.pinned (OpenSpec.ofChange matcherNoneSpec)

/-- ITS FALSE NEIGHBOUR: 'it returns false'. Refute it at one input. -/
def matcherNoneWrong : ChangeSpec := { name := "matcherNone", fn := fun _ => fun
  | [d1, d2] => { results := [.lit (.bool false)], args := [d1, d2] }
  | _ => none }
def MatcherNoneWrongFalsely : Prop := matcherNoneRow.holds Try.pinned (OpenSpec.ofChange matcherNoneWrong)

/-- 'runnellaw12.OccurBytes': WHATEVER THE INPUT: true; the input reads as it did. -/
def occurBytesSpec : ChangeSpec := { name := "occurBytes", fn := fun _ => fun
  | [d1, d2] => { results := [.lit (.bool true)], args := [d1, d2] }
  | _ => none }
def occurBytesRow : OpenClaim := { program := "ytblpgpgbnlhjlaa", sum := "e95b4b4463cfc19ffa1b049b54c4c5ea5ea7b7e13c0acb4d2701f21e9d724f51", func := "runnel/runnellaw12.OccurBytes", spec := "occurBytes", inPlace := ["internal/bytealg.IndexByteString", "internal/bytealg.IndexString"], unfollowed := true, recurses := true, named := ["internal/bytealg.MaxLen"], plainKeys := false, apart := false }
def OccurBytesSaid : Prop := occurBytesRow.holds Try.pinned (OpenSpec.ofChange occurBytesSpec)

/-- ITS FALSE NEIGHBOUR: 'it returns false'. Refute it at one input. -/
def occurBytesWrong : ChangeSpec := { name := "occurBytes", fn := fun _ => fun
  | [d1, d2] => { results := [.lit (.bool false)], args := [d1, d2] }
  | _ => none }
def OccurBytesWrongFalsely : Prop := occurBytesRow.holds Try.pinned (OpenSpec.ofChange occurBytesWrong)

/-- 'runnellaw12.OccurNone': WHATEVER THE INPUT: true; the input reads as it did. -/
def occurNoneSpec : ChangeSpec := { name := "occurNone", fn := fun _ => fun
  | [d] => { results := [.lit (.bool true)], args := [d] }
  | _ => none }
def occurNoneRow : OpenClaim := { program := "ytblpgpgbnlhjlaa", sum := "e95b4b4463cfc19ffa1b049b54c4c5ea5ea7b7e13c0acb4d2701f21e9d724f51", func := "runnel/runnellaw12.OccurNone", spec := "occurNone", inPlace := ["internal/bytealg.IndexByteString", "internal/bytealg.IndexString"], unfollowed := true, recurses := true, named := ["internal/bytealg.MaxLen"], plainKeys := false, apart := false }
def OccurNoneSaid : Prop := occurNoneRow.holds Try.pinned (OpenSpec.ofChange occurNoneSpec)

/-- ITS FALSE NEIGHBOUR: 'it returns false'. Refute it at one input. -/
def occurNoneWrong : ChangeSpec := { name := "occurNone", fn := fun _ => fun
  | [d] => { results := [.lit (.bool false)], args := [d] }
  | _ => none }
def OccurNoneWrongFalsely : Prop := occurNoneRow.holds Try.pinned (OpenSpec.ofChange occurNoneWrong)

/-- 'runnellaw22.PickLines': WHATEVER THE INPUT: true; the input reads as it did. -/
def pickLinesSpec : ChangeSpec := { name := "pickLines", fn := fun _ => fun
  | [d1, d2, d3] => { results := [.lit (.bool true)], args := [d1, d2, d3] }
  | _ => none }
def pickLinesRow : OpenClaim := { program := "ytblpgpgbnlhjlaa", sum := "e95b4b4463cfc19ffa1b049b54c4c5ea5ea7b7e13c0acb4d2701f21e9d724f51", func := "runnel/runnellaw22.PickLines", spec := "pickLines", inPlace := ["internal/bytealg.IndexByteString", "internal/bytealg.IndexString"], unfollowed := true, recurses := true, named := ["internal/bytealg.MaxLen"], plainKeys := false, apart := false }
def PickLinesSaid : Prop := pickLinesRow.holds Try.pinned (OpenSpec.ofChange pickLinesSpec)

/-- ITS FALSE NEIGHBOUR: 'it returns false'. Refute it at one input. -/
def pickLinesWrong : ChangeSpec := { name := "pickLines", fn := fun _ => fun
  | [d1, d2, d3] => { results := [.lit (.bool false)], args := [d1, d2, d3] }
  | _ => none }
def PickLinesWrongFalsely : Prop := pickLinesRow.holds Try.pinned (OpenSpec.ofChange pickLinesWrong)

/-- 'runnellaw22.PickLast': WHATEVER THE INPUT: true; the input reads as it did. -/
def pickLastSpec : ChangeSpec := { name := "pickLast", fn := fun _ => fun
  | [d1, d2] => { results := [.lit (.bool true)], args := [d1, d2] }
  | _ => none }
def pickLastRow : OpenClaim := { program := "ytblpgpgbnlhjlaa", sum := "e95b4b4463cfc19ffa1b049b54c4c5ea5ea7b7e13c0acb4d2701f21e9d724f51", func := "runnel/runnellaw22.PickLast", spec := "pickLast", inPlace := ["internal/bytealg.IndexByteString", "internal/bytealg.IndexString"], unfollowed := true, recurses := true, named := ["internal/bytealg.MaxLen"], plainKeys := false, apart := false }
def PickLastSaid : Prop := pickLastRow.holds Try.pinned (OpenSpec.ofChange pickLastSpec)

/-- ITS FALSE NEIGHBOUR: 'it returns false'. Refute it at one input. -/
def pickLastWrong : ChangeSpec := { name := "pickLast", fn := fun _ => fun
  | [d1, d2] => { results := [.lit (.bool false)], args := [d1, d2] }
  | _ => none }
def PickLastWrongFalsely : Prop := pickLastRow.holds Try.pinned (OpenSpec.ofChange pickLastWrong)

/-- 'runnellaw14.SubstSteps': WHATEVER THE INPUT: true; the input reads as it did. -/
def substStepsSpec : ChangeSpec := { name := "substSteps", fn := fun _ => fun
  | [d1, d2] => { results := [.lit (.bool true)], args := [d1, d2] }
  | _ => none }
def substStepsRow : OpenClaim := { program := "ytblpgpgbnlhjlaa", sum := "e95b4b4463cfc19ffa1b049b54c4c5ea5ea7b7e13c0acb4d2701f21e9d724f51", func := "runnel/runnellaw14.SubstSteps", spec := "substSteps", inPlace := ["internal/bytealg.IndexByteString", "internal/bytealg.IndexString", "internal/abi.NoEscape"], unfollowed := true, recurses := true, named := ["internal/bytealg.MaxLen"], plainKeys := false, apart := false }
def SubstStepsSaid : Prop := substStepsRow.holds Try.pinned (OpenSpec.ofChange substStepsSpec)

/-- ITS FALSE NEIGHBOUR: 'it returns false'. Refute it at one input. -/
def substStepsWrong : ChangeSpec := { name := "substSteps", fn := fun _ => fun
  | [d1, d2] => { results := [.lit (.bool false)], args := [d1, d2] }
  | _ => none }
def SubstStepsWrongFalsely : Prop := substStepsRow.holds Try.pinned (OpenSpec.ofChange substStepsWrong)

/- THE SECOND FORM. 'bulk': how many values and letters a reading holds, each counted each time it is reached (what is shared counts as often as it is met; a slice's spare places count too). A statement '..UptoSaid' is the law's where the arguments, and the package variables that the reading takes, are together of bulk at most 1048576: NARROWER than '..Said'. Prove '..Said' where nothing that the law and all that it calls make is longer than what came in: it says more and counts as full. Else prove '..UptoSaid'. A law counts once. -/
mutual
def uptoBulk {H : Type} : DataW H → Nat
  | .lit (.string bytes) => bytes.length + 1
  | .lit _ => 1
  | .nil => 1
  | .ptr d => uptoBulk d + 1
  | .slice elems spare => uptoBulkAll elems + uptoBulkAll spare + 1
  | .agg parts => uptoBulkAll parts + 1
  | .iface _ d => uptoBulk d + 1
  | .map entries => uptoBulkEntries entries + 1
  | .held _ => 1
def uptoBulkAll {H : Type} : List (DataW H) → Nat
  | [] => 0
  | d :: r => uptoBulk d + uptoBulkAll r
def uptoBulkEntries {H : Type} : List (Lit × DataW H) → Nat
  | [] => 0
  | x :: r => uptoBulkEntry x + uptoBulkEntries r
def uptoBulkEntry {H : Type} : Lit × DataW H → Nat
  | (.string bytes, d) => bytes.length + uptoBulk d + 1
  | (_, d) => uptoBulk d + 1
 end
def uptoSmall : (H : Type) → List (DataW H) → Bool := fun _ ds => decide (uptoBulkAll ds ≤ 1048576)
def OpenSpec.upto (s : _root_.Go.ChangeSpec) : _root_.Go.OpenSpec := { _root_.Go.OpenSpec.ofChange s with cond := some uptoSmall }

/-- 'runnellaw09.WaysRuns', WHERE WHAT IT READS IS OF BULK AT MOST 1048576: true; the input reads as it did. -/
def waysRunsUptoRow : OpenClaim := { program := "ytblpgpgbnlhjlaa", sum := "e95b4b4463cfc19ffa1b049b54c4c5ea5ea7b7e13c0acb4d2701f21e9d724f51", func := "runnel/runnellaw09.WaysRuns", spec := "waysRuns", inPlace := ["internal/bytealg.IndexByteString", "internal/bytealg.IndexString"], unfollowed := true, recurses := true, named := ["internal/bytealg.MaxLen"], plainKeys := false, apart := false, narrowed := true }
def WaysRunsUptoSaid : Prop := waysRunsUptoRow.holds Try.pinned (OpenSpec.upto waysRunsSpec)

/-- 'runnellaw09.WaysProducts', WHERE WHAT IT READS IS OF BULK AT MOST 1048576: true; the input reads as it did. -/
def waysProductsUptoRow : OpenClaim := { program := "ytblpgpgbnlhjlaa", sum := "e95b4b4463cfc19ffa1b049b54c4c5ea5ea7b7e13c0acb4d2701f21e9d724f51", func := "runnel/runnellaw09.WaysProducts", spec := "waysProducts", inPlace := ["internal/bytealg.IndexByteString", "internal/bytealg.IndexString"], unfollowed := true, recurses := true, named := ["internal/bytealg.MaxLen"], plainKeys := false, apart := false, narrowed := true }
def WaysProductsUptoSaid : Prop := waysProductsUptoRow.holds Try.pinned (OpenSpec.upto waysProductsSpec)

/-- 'runnellaw08.SetmatchForms', WHERE WHAT IT READS IS OF BULK AT MOST 1048576: true; the input reads as it did. -/
def setmatchFormsUptoRow : OpenClaim := { program := "ytblpgpgbnlhjlaa", sum := "e95b4b4463cfc19ffa1b049b54c4c5ea5ea7b7e13c0acb4d2701f21e9d724f51", func := "runnel/runnellaw08.SetmatchForms", spec := "setmatchForms", inPlace := ["internal/bytealg.IndexByteString", "internal/bytealg.IndexString"], unfollowed := true, recurses := true, named := ["internal/bytealg.MaxLen"], plainKeys := false, apart := false, narrowed := true }
def SetmatchFormsUptoSaid : Prop := setmatchFormsUptoRow.holds Try.pinned (OpenSpec.upto setmatchFormsSpec)

/-- 'runnellaw10.BackmatchSquares', WHERE WHAT IT READS IS OF BULK AT MOST 1048576: true; the input reads as it did. -/
def backmatchSquaresUptoRow : OpenClaim := { program := "ytblpgpgbnlhjlaa", sum := "e95b4b4463cfc19ffa1b049b54c4c5ea5ea7b7e13c0acb4d2701f21e9d724f51", func := "runnel/runnellaw10.BackmatchSquares", spec := "backmatchSquares", inPlace := ["internal/bytealg.IndexByteString", "internal/bytealg.IndexString"], unfollowed := true, recurses := true, named := ["internal/bytealg.MaxLen"], plainKeys := false, apart := false, narrowed := true }
def BackmatchSquaresUptoSaid : Prop := backmatchSquaresUptoRow.holds Try.pinned (OpenSpec.upto backmatchSquaresSpec)

/-- 'runnellaw10.BackmatchEquals', WHERE WHAT IT READS IS OF BULK AT MOST 1048576: true; the input reads as it did. -/
def backmatchEqualsUptoRow : OpenClaim := { program := "ytblpgpgbnlhjlaa", sum := "e95b4b4463cfc19ffa1b049b54c4c5ea5ea7b7e13c0acb4d2701f21e9d724f51", func := "runnel/runnellaw10.BackmatchEquals", spec := "backmatchEquals", inPlace := ["internal/bytealg.IndexByteString", "internal/bytealg.IndexString"], unfollowed := true, recurses := true, named := ["internal/bytealg.MaxLen"], plainKeys := false, apart := false, narrowed := true }
def BackmatchEqualsUptoSaid : Prop := backmatchEqualsUptoRow.holds Try.pinned (OpenSpec.upto backmatchEqualsSpec)

/-- 'runnellaw10.BackmatchTurned', WHERE WHAT IT READS IS OF BULK AT MOST 1048576: true; the input reads as it did. -/
def backmatchTurnedUptoRow : OpenClaim := { program := "ytblpgpgbnlhjlaa", sum := "e95b4b4463cfc19ffa1b049b54c4c5ea5ea7b7e13c0acb4d2701f21e9d724f51", func := "runnel/runnellaw10.BackmatchTurned", spec := "backmatchTurned", inPlace := ["internal/bytealg.IndexByteString", "internal/bytealg.IndexString"], unfollowed := true, recurses := true, named := ["internal/bytealg.MaxLen"], plainKeys := false, apart := false, narrowed := true }
def BackmatchTurnedUptoSaid : Prop := backmatchTurnedUptoRow.holds Try.pinned (OpenSpec.upto backmatchTurnedSpec)

/-- 'runnellaw11.MatcherNone', WHERE WHAT IT READS IS OF BULK AT MOST 1048576: true; the input reads as it did. -/
def matcherNoneUptoRow : OpenClaim := { program := "ytblpgpgbnlhjlaa", sum := "e95b4b4463cfc19ffa1b049b54c4c5ea5ea7b7e13c0acb4d2701f21e9d724f51", func := "runnel/runnellaw11.MatcherNone", spec := "matcherNone", inPlace := ["internal/bytealg.IndexByteString", "internal/bytealg.IndexString"], unfollowed := true, recurses := true, named := ["internal/bytealg.MaxLen"], plainKeys := false, apart := false, narrowed := true }
def MatcherNoneUptoSaid : Prop := matcherNoneUptoRow.holds Try.pinned (OpenSpec.upto matcherNoneSpec)

/-- 'runnellaw12.OccurBytes', WHERE WHAT IT READS IS OF BULK AT MOST 1048576: true; the input reads as it did. -/
def occurBytesUptoRow : OpenClaim := { program := "ytblpgpgbnlhjlaa", sum := "e95b4b4463cfc19ffa1b049b54c4c5ea5ea7b7e13c0acb4d2701f21e9d724f51", func := "runnel/runnellaw12.OccurBytes", spec := "occurBytes", inPlace := ["internal/bytealg.IndexByteString", "internal/bytealg.IndexString"], unfollowed := true, recurses := true, named := ["internal/bytealg.MaxLen"], plainKeys := false, apart := false, narrowed := true }
def OccurBytesUptoSaid : Prop := occurBytesUptoRow.holds Try.pinned (OpenSpec.upto occurBytesSpec)

/-- 'runnellaw12.OccurNone', WHERE WHAT IT READS IS OF BULK AT MOST 1048576: true; the input reads as it did. -/
def occurNoneUptoRow : OpenClaim := { program := "ytblpgpgbnlhjlaa", sum := "e95b4b4463cfc19ffa1b049b54c4c5ea5ea7b7e13c0acb4d2701f21e9d724f51", func := "runnel/runnellaw12.OccurNone", spec := "occurNone", inPlace := ["internal/bytealg.IndexByteString", "internal/bytealg.IndexString"], unfollowed := true, recurses := true, named := ["internal/bytealg.MaxLen"], plainKeys := false, apart := false, narrowed := true }
def OccurNoneUptoSaid : Prop := occurNoneUptoRow.holds Try.pinned (OpenSpec.upto occurNoneSpec)

/-- 'runnellaw22.PickLines', WHERE WHAT IT READS IS OF BULK AT MOST 1048576: true; the input reads as it did. -/
def pickLinesUptoRow : OpenClaim := { program := "ytblpgpgbnlhjlaa", sum := "e95b4b4463cfc19ffa1b049b54c4c5ea5ea7b7e13c0acb4d2701f21e9d724f51", func := "runnel/runnellaw22.PickLines", spec := "pickLines", inPlace := ["internal/bytealg.IndexByteString", "internal/bytealg.IndexString"], unfollowed := true, recurses := true, named := ["internal/bytealg.MaxLen"], plainKeys := false, apart := false, narrowed := true }
def PickLinesUptoSaid : Prop := pickLinesUptoRow.holds Try.pinned (OpenSpec.upto pickLinesSpec)

/-- 'runnellaw22.PickLast', WHERE WHAT IT READS IS OF BULK AT MOST 1048576: true; the input reads as it did. -/
def pickLastUptoRow : OpenClaim := { program := "ytblpgpgbnlhjlaa", sum := "e95b4b4463cfc19ffa1b049b54c4c5ea5ea7b7e13c0acb4d2701f21e9d724f51", func := "runnel/runnellaw22.PickLast", spec := "pickLast", inPlace := ["internal/bytealg.IndexByteString", "internal/bytealg.IndexString"], unfollowed := true, recurses := true, named := ["internal/bytealg.MaxLen"], plainKeys := false, apart := false, narrowed := true }
def PickLastUptoSaid : Prop := pickLastUptoRow.holds Try.pinned (OpenSpec.upto pickLastSpec)

/-- 'runnellaw14.SubstSteps', WHERE WHAT IT READS IS OF BULK AT MOST 1048576: true; the input reads as it did. -/
def substStepsUptoRow : OpenClaim := { program := "ytblpgpgbnlhjlaa", sum := "e95b4b4463cfc19ffa1b049b54c4c5ea5ea7b7e13c0acb4d2701f21e9d724f51", func := "runnel/runnellaw14.SubstSteps", spec := "substSteps", inPlace := ["internal/bytealg.IndexByteString", "internal/bytealg.IndexString", "internal/abi.NoEscape"], unfollowed := true, recurses := true, named := ["internal/bytealg.MaxLen"], plainKeys := false, apart := false, narrowed := true }
def SubstStepsUptoSaid : Prop := substStepsUptoRow.holds Try.pinned (OpenSpec.upto substStepsSpec)

end Rows
end Go.Proofs.Ytblpgpgbnlhjlaa
