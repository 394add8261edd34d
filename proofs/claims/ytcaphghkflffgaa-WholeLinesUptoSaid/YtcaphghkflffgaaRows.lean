/-
  No cell of these rows narrows 'for every input' (looked for: loops, veiled, ifaces, maps, wideKeys, modest, calm, conditions, laid).
  DERIVED. THE GIVEN ROWS OF THIS SEAT. 7 by the template 'for every input the law returns true; each argument reads behind the call as it read before'; 0 by the template 'total and deterministic' (their statements: YtcaphghkflffgaaTotals.lean).
  GIVEN WITH THE SEED: the statements are not yours to turn. If you find one false, say at which input.
  Laid BY PROGRAM, IN A SANDBOX (cutbox-rows.mjs): the forced cells as the released guide's own fill.sh prints them over the translation 40ab93f0d0155df5… (all of the seat's roots in one cut). By AI agents, Wed Nov 11 2026. No macro, syntax, notation, axiom, sorry.
-/
import Derived.Test.YtcaphghkflffgaaChecked
import GoSem.Claim
import GoSem.ClaimJoined
import GoSem.ClaimMapViews
import Derived.JoinedTies
import Derived.KernelRfl
namespace Go.Proofs.Ytcaphghkflffgaa
/- THE CELL 'sum', in the pinned program and in every row, IS THE sha256 OF THE DUMP (.gsa) THAT YtcaphghkflffgaaProg.lean LOADS. Nothing in Lean hashes anything: it is a label: what it is worth is what the hold of that sum in a sandbox is worth. -/
noncomputable def Try.pinned : Pinned := { name := "ytcaphghkflffgaa", sum := "40ab93f0d0155df5ae17f01a2a4ae2e214f494289c5bbb7a2b6d4be9b8272d15", checked := Try.checked }
namespace Rows
def none {H : Type} : Left H := { results := [], args := [] }

/-- 'runnellaw01.LinesCuts': WHATEVER THE INPUT: true; the input reads as it did. -/
def linesCutsSpec : ChangeSpec := { name := "linesCuts", fn := fun _ => fun
  | [d] => { results := [.lit (.bool true)], args := [d] }
  | _ => none }
def linesCutsRow : OpenClaim := { program := "ytcaphghkflffgaa", sum := "40ab93f0d0155df5ae17f01a2a4ae2e214f494289c5bbb7a2b6d4be9b8272d15", func := "runnel/runnellaw01.LinesCuts", spec := "linesCuts", inPlace := ["internal/bytealg.IndexByteString", "internal/bytealg.IndexString", "internal/bytealg.CountString", "internal/abi.NoEscape"], unfollowed := true, recurses := true, named := ["internal/bytealg.MaxLen"], apart := false }
def LinesCutsSaid : Prop := linesCutsRow.holds Try.pinned (OpenSpec.ofChange linesCutsSpec)

/-- ITS FALSE NEIGHBOUR: 'it returns false'. Refute it at one input. -/
def linesCutsWrong : ChangeSpec := { name := "linesCuts", fn := fun _ => fun
  | [d] => { results := [.lit (.bool false)], args := [d] }
  | _ => none }
def LinesCutsWrongFalsely : Prop := linesCutsRow.holds Try.pinned (OpenSpec.ofChange linesCutsWrong)

/-- 'runnellaw01.LinesTells': WHATEVER THE INPUT: true; the input reads as it did. -/
def linesTellsSpec : ChangeSpec := { name := "linesTells", fn := fun _ => fun
  | [d1, d2, d3, d4] => { results := [.lit (.bool true)], args := [d1, d2, d3, d4] }
  | _ => none }
def linesTellsRow : OpenClaim := { program := "ytcaphghkflffgaa", sum := "40ab93f0d0155df5ae17f01a2a4ae2e214f494289c5bbb7a2b6d4be9b8272d15", func := "runnel/runnellaw01.LinesTells", spec := "linesTells", inPlace := ["internal/bytealg.CountString", "internal/bytealg.IndexByteString", "internal/bytealg.IndexString", "internal/abi.NoEscape"], unfollowed := true, recurses := true, named := ["internal/bytealg.MaxLen"], apart := false }
def LinesTellsSaid : Prop := linesTellsRow.holds Try.pinned (OpenSpec.ofChange linesTellsSpec)

/-- ITS FALSE NEIGHBOUR: 'it returns false'. Refute it at one input. -/
def linesTellsWrong : ChangeSpec := { name := "linesTells", fn := fun _ => fun
  | [d1, d2, d3, d4] => { results := [.lit (.bool false)], args := [d1, d2, d3, d4] }
  | _ => none }
def LinesTellsWrongFalsely : Prop := linesTellsRow.holds Try.pinned (OpenSpec.ofChange linesTellsWrong)

/-- 'runnellaw01.LinesStops': WHATEVER THE INPUT: true; the input reads as it did. -/
def linesStopsSpec : ChangeSpec := { name := "linesStops", fn := fun _ => fun
  | [d1, d2] => { results := [.lit (.bool true)], args := [d1, d2] }
  | _ => none }
def linesStopsRow : OpenClaim := { program := "ytcaphghkflffgaa", sum := "40ab93f0d0155df5ae17f01a2a4ae2e214f494289c5bbb7a2b6d4be9b8272d15", func := "runnel/runnellaw01.LinesStops", spec := "linesStops", inPlace := ["internal/bytealg.CountString", "internal/bytealg.IndexByteString", "internal/bytealg.IndexString", "internal/abi.NoEscape"], unfollowed := true, recurses := true, named := ["internal/bytealg.MaxLen"], apart := false }
def LinesStopsSaid : Prop := linesStopsRow.holds Try.pinned (OpenSpec.ofChange linesStopsSpec)

/-- ITS FALSE NEIGHBOUR: 'it returns false'. Refute it at one input. -/
def linesStopsWrong : ChangeSpec := { name := "linesStops", fn := fun _ => fun
  | [d1, d2] => { results := [.lit (.bool false)], args := [d1, d2] }
  | _ => none }
def LinesStopsWrongFalsely : Prop := linesStopsRow.holds Try.pinned (OpenSpec.ofChange linesStopsWrong)

/-- 'runnellaw01.LinesBack': WHATEVER THE INPUT: true; the input reads as it did. -/
def linesBackSpec : ChangeSpec := { name := "linesBack", fn := fun _ => fun
  | [d1, d2] => { results := [.lit (.bool true)], args := [d1, d2] }
  | _ => none }
def linesBackRow : OpenClaim := { program := "ytcaphghkflffgaa", sum := "40ab93f0d0155df5ae17f01a2a4ae2e214f494289c5bbb7a2b6d4be9b8272d15", func := "runnel/runnellaw01.LinesBack", spec := "linesBack", inPlace := ["internal/bytealg.CountString", "internal/bytealg.IndexByteString", "internal/bytealg.IndexString", "internal/abi.NoEscape"], unfollowed := true, recurses := true, named := ["internal/bytealg.MaxLen"], apart := false }
def LinesBackSaid : Prop := linesBackRow.holds Try.pinned (OpenSpec.ofChange linesBackSpec)

/-- ITS FALSE NEIGHBOUR: 'it returns false'. Refute it at one input. -/
def linesBackWrong : ChangeSpec := { name := "linesBack", fn := fun _ => fun
  | [d1, d2] => { results := [.lit (.bool false)], args := [d1, d2] }
  | _ => none }
def LinesBackWrongFalsely : Prop := linesBackRow.holds Try.pinned (OpenSpec.ofChange linesBackWrong)

/-- 'runnellaw01.LinesSplit': WHATEVER THE INPUT: true; the input reads as it did. -/
def linesSplitSpec : ChangeSpec := { name := "linesSplit", fn := fun _ => fun
  | [d1, d2, d3] => { results := [.lit (.bool true)], args := [d1, d2, d3] }
  | _ => none }
def linesSplitRow : OpenClaim := { program := "ytcaphghkflffgaa", sum := "40ab93f0d0155df5ae17f01a2a4ae2e214f494289c5bbb7a2b6d4be9b8272d15", func := "runnel/runnellaw01.LinesSplit", spec := "linesSplit", inPlace := ["internal/bytealg.CountString", "internal/bytealg.IndexByteString", "internal/bytealg.IndexString", "internal/abi.NoEscape"], unfollowed := true, recurses := true, named := ["internal/bytealg.MaxLen"], apart := false }
def LinesSplitSaid : Prop := linesSplitRow.holds Try.pinned (OpenSpec.ofChange linesSplitSpec)

/-- ITS FALSE NEIGHBOUR: 'it returns false'. Refute it at one input. -/
def linesSplitWrong : ChangeSpec := { name := "linesSplit", fn := fun _ => fun
  | [d1, d2, d3] => { results := [.lit (.bool false)], args := [d1, d2, d3] }
  | _ => none }
def LinesSplitWrongFalsely : Prop := linesSplitRow.holds Try.pinned (OpenSpec.ofChange linesSplitWrong)

/-- 'runnellaw01.LinesKeeps': WHATEVER THE INPUT: true; the input reads as it did. -/
def linesKeepsSpec : ChangeSpec := { name := "linesKeeps", fn := fun _ => fun
  | [d1, d2, d3] => { results := [.lit (.bool true)], args := [d1, d2, d3] }
  | _ => none }
def linesKeepsRow : OpenClaim := { program := "ytcaphghkflffgaa", sum := "40ab93f0d0155df5ae17f01a2a4ae2e214f494289c5bbb7a2b6d4be9b8272d15", func := "runnel/runnellaw01.LinesKeeps", spec := "linesKeeps", inPlace := ["internal/bytealg.CountString", "internal/bytealg.IndexByteString", "internal/bytealg.IndexString", "internal/abi.NoEscape"], unfollowed := true, recurses := true, named := ["internal/bytealg.MaxLen"], apart := false }
def LinesKeepsSaid : Prop := linesKeepsRow.holds Try.pinned (OpenSpec.ofChange linesKeepsSpec)

/-- ITS FALSE NEIGHBOUR: 'it returns false'. Refute it at one input. -/
def linesKeepsWrong : ChangeSpec := { name := "linesKeeps", fn := fun _ => fun
  | [d1, d2, d3] => { results := [.lit (.bool false)], args := [d1, d2, d3] }
  | _ => none }
def LinesKeepsWrongFalsely : Prop := linesKeepsRow.holds Try.pinned (OpenSpec.ofChange linesKeepsWrong)

/-- 'runneltop.WholeLines': WHATEVER THE INPUT: true; the input reads as it did. -/
def wholeLinesSpec : ChangeSpec := { name := "wholeLines", fn := fun _ => fun
  | [d] => { results := [.lit (.bool true)], args := [d] }
  | _ => none }
def wholeLinesRow : OpenClaim := { program := "ytcaphghkflffgaa", sum := "40ab93f0d0155df5ae17f01a2a4ae2e214f494289c5bbb7a2b6d4be9b8272d15", func := "runnel/runneltop.WholeLines", spec := "wholeLines", inPlace := ["internal/bytealg.CountString", "internal/bytealg.IndexByteString", "internal/bytealg.IndexString"], unfollowed := true, recurses := true, named := ["internal/bytealg.MaxLen"], apart := false }
def WholeLinesSaid : Prop := wholeLinesRow.holds Try.pinned (OpenSpec.ofChange wholeLinesSpec)

/-- ITS FALSE NEIGHBOUR: 'it returns false'. Refute it at one input. -/
def wholeLinesWrong : ChangeSpec := { name := "wholeLines", fn := fun _ => fun
  | [d] => { results := [.lit (.bool false)], args := [d] }
  | _ => none }
def WholeLinesWrongFalsely : Prop := wholeLinesRow.holds Try.pinned (OpenSpec.ofChange wholeLinesWrong)

/- THE SECOND FORM. 'bulk': how many values and letters a reading holds, each counted each time it is reached (what is shared counts as often as it is met; a slice's spare places count too). A statement '..UptoSaid' is the law's where the arguments, and the package variables that the reading takes, are together of bulk at most 1048576: NARROWER than '..Said'. Prove '..Said' where nothing that the law and all that it calls make is longer than what came in: it says more and counts as full. Else prove '..UptoSaid'. A law counts once. -/
mutual
def uptoBulk {H : Type} : DataW H → Nat
  | .lit (.string bytes) => bytes.length + 1
  | .lit _ => 1
  | .nil => 1
  | .ptr d => uptoBulk d + 1
  | .slice elems spare => uptoBulkAll elems + uptoBulkAll spare + 1
  | .agg parts => uptoBulkAll parts + 1
  | .iface _ d => uptoBulk d + 1
  | .map entries => uptoBulkEntries entries + 1
  | .held _ => 1
def uptoBulkAll {H : Type} : List (DataW H) → Nat
  | [] => 0
  | d :: r => uptoBulk d + uptoBulkAll r
def uptoBulkEntries {H : Type} : List (Lit × DataW H) → Nat
  | [] => 0
  | x :: r => uptoBulkEntry x + uptoBulkEntries r
def uptoBulkEntry {H : Type} : Lit × DataW H → Nat
  | (.string bytes, d) => bytes.length + uptoBulk d + 1
  | (_, d) => uptoBulk d + 1
 end
def uptoSmall : (H : Type) → List (DataW H) → Bool := fun _ ds => decide (uptoBulkAll ds ≤ 1048576)
def OpenSpec.upto (s : _root_.Go.ChangeSpec) : _root_.Go.OpenSpec := { _root_.Go.OpenSpec.ofChange s with cond := some uptoSmall }

/-- 'runnellaw01.LinesCuts', WHERE WHAT IT READS IS OF BULK AT MOST 1048576: true; the input reads as it did. -/
def linesCutsUptoRow : OpenClaim := { program := "ytcaphghkflffgaa", sum := "40ab93f0d0155df5ae17f01a2a4ae2e214f494289c5bbb7a2b6d4be9b8272d15", func := "runnel/runnellaw01.LinesCuts", spec := "linesCuts", inPlace := ["internal/bytealg.IndexByteString", "internal/bytealg.IndexString", "internal/bytealg.CountString", "internal/abi.NoEscape"], unfollowed := true, recurses := true, named := ["internal/bytealg.MaxLen"], apart := false, narrowed := true }
def LinesCutsUptoSaid : Prop := linesCutsUptoRow.holds Try.pinned (OpenSpec.upto linesCutsSpec)

/-- 'runnellaw01.LinesTells', WHERE WHAT IT READS IS OF BULK AT MOST 1048576: true; the input reads as it did. -/
def linesTellsUptoRow : OpenClaim := { program := "ytcaphghkflffgaa", sum := "40ab93f0d0155df5ae17f01a2a4ae2e214f494289c5bbb7a2b6d4be9b8272d15", func := "runnel/runnellaw01.LinesTells", spec := "linesTells", inPlace := ["internal/bytealg.CountString", "internal/bytealg.IndexByteString", "internal/bytealg.IndexString", "internal/abi.NoEscape"], unfollowed := true, recurses := true, named := ["internal/bytealg.MaxLen"], apart := false, narrowed := true }
def LinesTellsUptoSaid : Prop := linesTellsUptoRow.holds Try.pinned (OpenSpec.upto linesTellsSpec)

/-- 'runnellaw01.LinesStops', WHERE WHAT IT READS IS OF BULK AT MOST 1048576: true; the input reads as it did. -/
def linesStopsUptoRow : OpenClaim := { program := "ytcaphghkflffgaa", sum := "40ab93f0d0155df5ae17f01a2a4ae2e214f494289c5bbb7a2b6d4be9b8272d15", func := "runnel/runnellaw01.LinesStops", spec := "linesStops", inPlace := ["internal/bytealg.CountString", "internal/bytealg.IndexByteString", "internal/bytealg.IndexString", "internal/abi.NoEscape"], unfollowed := true, recurses := true, named := ["internal/bytealg.MaxLen"], apart := false, narrowed := true }
def LinesStopsUptoSaid : Prop := linesStopsUptoRow.holds Try.pinned (OpenSpec.upto linesStopsSpec)

/-- 'runnellaw01.LinesBack', WHERE WHAT IT READS IS OF BULK AT MOST 1048576: true; the input reads as it did. -/
def linesBackUptoRow : OpenClaim := { program := "ytcaphghkflffgaa", sum := "40ab93f0d0155df5ae17f01a2a4ae2e214f494289c5bbb7a2b6d4be9b8272d15", func := "runnel/runnellaw01.LinesBack", spec := "linesBack", inPlace := ["internal/bytealg.CountString", "internal/bytealg.IndexByteString", "internal/bytealg.IndexString", "internal/abi.NoEscape"], unfollowed := true, recurses := true, named := ["internal/bytealg.MaxLen"], apart := false, narrowed := true }
def LinesBackUptoSaid : Prop := linesBackUptoRow.holds Try.pinned (OpenSpec.upto linesBackSpec)

/-- 'runnellaw01.LinesSplit', WHERE WHAT IT READS IS OF BULK AT MOST 1048576: true; the input reads as it did. -/
def linesSplitUptoRow : OpenClaim := { program := "ytcaphghkflffgaa", sum := "40ab93f0d0155df5ae17f01a2a4ae2e214f494289c5bbb7a2b6d4be9b8272d15", func := "runnel/runnellaw01.LinesSplit", spec := "linesSplit", inPlace := ["internal/bytealg.CountString", "internal/bytealg.IndexByteString", "internal/bytealg.IndexString", "internal/abi.NoEscape"], unfollowed := true, recurses := true, named := ["internal/bytealg.MaxLen"], apart := false, narrowed := true }
def LinesSplitUptoSaid : Prop := linesSplitUptoRow.holds Try.pinned (OpenSpec.upto linesSplitSpec)

/-- 'runnellaw01.LinesKeeps', WHERE WHAT IT READS IS OF BULK AT MOST 1048576: true; the input reads as it did. -/
def linesKeepsUptoRow : OpenClaim := { program := "ytcaphghkflffgaa", sum := "40ab93f0d0155df5ae17f01a2a4ae2e214f494289c5bbb7a2b6d4be9b8272d15", func := "runnel/runnellaw01.LinesKeeps", spec := "linesKeeps", inPlace := ["internal/bytealg.CountString", "internal/bytealg.IndexByteString", "internal/bytealg.IndexString", "internal/abi.NoEscape"], unfollowed := true, recurses := true, named := ["internal/bytealg.MaxLen"], apart := false, narrowed := true }
def LinesKeepsUptoSaid : Prop := linesKeepsUptoRow.holds Try.pinned (OpenSpec.upto linesKeepsSpec)

/-- 'runneltop.WholeLines', WHERE WHAT IT READS IS OF BULK AT MOST 1048576: true; the input reads as it did. -/
def wholeLinesUptoRow : OpenClaim := { program := "ytcaphghkflffgaa", sum := "40ab93f0d0155df5ae17f01a2a4ae2e214f494289c5bbb7a2b6d4be9b8272d15", func := "runnel/runneltop.WholeLines", spec := "wholeLines", inPlace := ["internal/bytealg.CountString", "internal/bytealg.IndexByteString", "internal/bytealg.IndexString"], unfollowed := true, recurses := true, named := ["internal/bytealg.MaxLen"], apart := false, narrowed := true }
def WholeLinesUptoSaid : Prop := wholeLinesUptoRow.holds Try.pinned (OpenSpec.upto wholeLinesSpec)

end Rows
end Go.Proofs.Ytcaphghkflffgaa
