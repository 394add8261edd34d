/-
  No cell of these rows narrows 'for every input' (looked for: loops, veiled, ifaces, maps, wideKeys, modest, calm, conditions, laid).
  DERIVED. THE GIVEN ROWS OF THIS SEAT. 7 by the template 'for every input the law returns true; each argument reads behind the call as it read before'; 0 by the template 'total and deterministic' (their statements: YtbclmngjhhmbdaaTotals.lean).
  GIVEN WITH THE SEED: the statements are not yours to turn. If you find one false, say at which input.
  Laid BY PROGRAM, IN A SANDBOX (cutbox-rows.mjs): the forced cells as the released guide's own fill.sh prints them over the translation 488f2d88907b4155… (all of the seat's roots in one cut). By AI agents, Wed Nov 11 2026. No macro, syntax, notation, axiom, sorry.
-/
import Derived.Test.YtbclmngjhhmbdaaChecked
import GoSem.Claim
import GoSem.ClaimJoined
import GoSem.ClaimMapViews
import Derived.JoinedTies
import Derived.KernelRfl
namespace Go.Proofs.Ytbclmngjhhmbdaa
/- THE CELL 'sum', in the pinned program and in every row, IS THE sha256 OF THE DUMP (.gsa) THAT YtbclmngjhhmbdaaProg.lean LOADS. Nothing in Lean hashes anything: it is a label: what it is worth is what the hold of that sum in a sandbox is worth. -/
noncomputable def Try.pinned : Pinned := { name := "ytbclmngjhhmbdaa", sum := "488f2d88907b4155cb8948ae6cdc0a96703f30ba2cd59009e77b75976cccd1d2", checked := Try.checked }
namespace Rows
def none {H : Type} : Left H := { results := [], args := [] }

/-- 'runnellaw15.YtabPieces': WHATEVER THE INPUT: true; the input reads as it did. -/
def ytabPiecesSpec : ChangeSpec := { name := "ytabPieces", fn := fun _ => fun
  | [d] => { results := [.lit (.bool true)], args := [d] }
  | _ => none }
def ytabPiecesRow : OpenClaim := { program := "ytbclmngjhhmbdaa", sum := "488f2d88907b4155cb8948ae6cdc0a96703f30ba2cd59009e77b75976cccd1d2", func := "runnel/runnellaw15.YtabPieces", spec := "ytabPieces", apart := false }
def YtabPiecesSaid : Prop := ytabPiecesRow.holds Try.pinned (OpenSpec.ofChange ytabPiecesSpec)

/-- ITS FALSE NEIGHBOUR: 'it returns false'. Refute it at one input. -/
def ytabPiecesWrong : ChangeSpec := { name := "ytabPieces", fn := fun _ => fun
  | [d] => { results := [.lit (.bool false)], args := [d] }
  | _ => none }
def YtabPiecesWrongFalsely : Prop := ytabPiecesRow.holds Try.pinned (OpenSpec.ofChange ytabPiecesWrong)

/-- 'runnellaw15.YtabNews': WHATEVER THE INPUT: true; the input reads as it did. -/
def ytabNewsSpec : ChangeSpec := { name := "ytabNews", fn := fun _ => fun
  | [d1, d2, d3] => { results := [.lit (.bool true)], args := [d1, d2, d3] }
  | _ => none }
def ytabNewsRow : OpenClaim := { program := "ytbclmngjhhmbdaa", sum := "488f2d88907b4155cb8948ae6cdc0a96703f30ba2cd59009e77b75976cccd1d2", func := "runnel/runnellaw15.YtabNews", spec := "ytabNews", apart := false }
def YtabNewsSaid : Prop := ytabNewsRow.holds Try.pinned (OpenSpec.ofChange ytabNewsSpec)

/-- ITS FALSE NEIGHBOUR: 'it returns false'. Refute it at one input. -/
def ytabNewsWrong : ChangeSpec := { name := "ytabNews", fn := fun _ => fun
  | [d1, d2, d3] => { results := [.lit (.bool false)], args := [d1, d2, d3] }
  | _ => none }
def YtabNewsWrongFalsely : Prop := ytabNewsRow.holds Try.pinned (OpenSpec.ofChange ytabNewsWrong)

/-- 'runnellaw15.YtabApplies': WHATEVER THE INPUT: true; the input reads as it did. -/
def ytabAppliesSpec : ChangeSpec := { name := "ytabApplies", fn := fun _ => fun
  | [d1, d2, d3] => { results := [.lit (.bool true)], args := [d1, d2, d3] }
  | _ => none }
def ytabAppliesRow : OpenClaim := { program := "ytbclmngjhhmbdaa", sum := "488f2d88907b4155cb8948ae6cdc0a96703f30ba2cd59009e77b75976cccd1d2", func := "runnel/runnellaw15.YtabApplies", spec := "ytabApplies", apart := false }
def YtabAppliesSaid : Prop := ytabAppliesRow.holds Try.pinned (OpenSpec.ofChange ytabAppliesSpec)

/-- ITS FALSE NEIGHBOUR: 'it returns false'. Refute it at one input. -/
def ytabAppliesWrong : ChangeSpec := { name := "ytabApplies", fn := fun _ => fun
  | [d1, d2, d3] => { results := [.lit (.bool false)], args := [d1, d2, d3] }
  | _ => none }
def YtabAppliesWrongFalsely : Prop := ytabAppliesRow.holds Try.pinned (OpenSpec.ofChange ytabAppliesWrong)

/-- 'runnellaw15.YtabBack': WHATEVER THE INPUT: true; the input reads as it did. -/
def ytabBackSpec : ChangeSpec := { name := "ytabBack", fn := fun _ => fun
  | [d1, d2, d3] => { results := [.lit (.bool true)], args := [d1, d2, d3] }
  | _ => none }
def ytabBackRow : OpenClaim := { program := "ytbclmngjhhmbdaa", sum := "488f2d88907b4155cb8948ae6cdc0a96703f30ba2cd59009e77b75976cccd1d2", func := "runnel/runnellaw15.YtabBack", spec := "ytabBack", apart := false }
def YtabBackSaid : Prop := ytabBackRow.holds Try.pinned (OpenSpec.ofChange ytabBackSpec)

/-- ITS FALSE NEIGHBOUR: 'it returns false'. Refute it at one input. -/
def ytabBackWrong : ChangeSpec := { name := "ytabBack", fn := fun _ => fun
  | [d1, d2, d3] => { results := [.lit (.bool false)], args := [d1, d2, d3] }
  | _ => none }
def YtabBackWrongFalsely : Prop := ytabBackRow.holds Try.pinned (OpenSpec.ofChange ytabBackWrong)

/-- 'runnellaw23.InputPlays': WHATEVER THE INPUT: true; the input reads as it did. -/
def inputPlaysSpec : ChangeSpec := { name := "inputPlays", fn := fun _ => fun
  | [d] => { results := [.lit (.bool true)], args := [d] }
  | _ => none }
def inputPlaysRow : OpenClaim := { program := "ytbclmngjhhmbdaa", sum := "488f2d88907b4155cb8948ae6cdc0a96703f30ba2cd59009e77b75976cccd1d2", func := "runnel/runnellaw23.InputPlays", spec := "inputPlays", inPlace := ["internal/bytealg.IndexByteString"], apart := false }
def InputPlaysSaid : Prop := inputPlaysRow.holds Try.pinned (OpenSpec.ofChange inputPlaysSpec)

/-- ITS FALSE NEIGHBOUR: 'it returns false'. Refute it at one input. -/
def inputPlaysWrong : ChangeSpec := { name := "inputPlays", fn := fun _ => fun
  | [d] => { results := [.lit (.bool false)], args := [d] }
  | _ => none }
def InputPlaysWrongFalsely : Prop := inputPlaysRow.holds Try.pinned (OpenSpec.ofChange inputPlaysWrong)

/-- 'runnellaw23.InputOrder': WHATEVER THE INPUT: true; the input reads as it did. -/
def inputOrderSpec : ChangeSpec := { name := "inputOrder", fn := fun _ => fun
  | [d1, d2] => { results := [.lit (.bool true)], args := [d1, d2] }
  | _ => none }
def inputOrderRow : OpenClaim := { program := "ytbclmngjhhmbdaa", sum := "488f2d88907b4155cb8948ae6cdc0a96703f30ba2cd59009e77b75976cccd1d2", func := "runnel/runnellaw23.InputOrder", spec := "inputOrder", inPlace := ["internal/bytealg.IndexByteString"], apart := false }
def InputOrderSaid : Prop := inputOrderRow.holds Try.pinned (OpenSpec.ofChange inputOrderSpec)

/-- ITS FALSE NEIGHBOUR: 'it returns false'. Refute it at one input. -/
def inputOrderWrong : ChangeSpec := { name := "inputOrder", fn := fun _ => fun
  | [d1, d2] => { results := [.lit (.bool false)], args := [d1, d2] }
  | _ => none }
def InputOrderWrongFalsely : Prop := inputOrderRow.holds Try.pinned (OpenSpec.ofChange inputOrderWrong)

/-- 'runnellaw23.InputNone': WHATEVER THE INPUT: true; the input reads as it did. -/
def inputNoneSpec : ChangeSpec := { name := "inputNone", fn := fun _ => fun
  | [d1, d2] => { results := [.lit (.bool true)], args := [d1, d2] }
  | _ => none }
def inputNoneRow : OpenClaim := { program := "ytbclmngjhhmbdaa", sum := "488f2d88907b4155cb8948ae6cdc0a96703f30ba2cd59009e77b75976cccd1d2", func := "runnel/runnellaw23.InputNone", spec := "inputNone", inPlace := ["internal/bytealg.IndexByteString"], apart := false }
def InputNoneSaid : Prop := inputNoneRow.holds Try.pinned (OpenSpec.ofChange inputNoneSpec)

/-- ITS FALSE NEIGHBOUR: 'it returns false'. Refute it at one input. -/
def inputNoneWrong : ChangeSpec := { name := "inputNone", fn := fun _ => fun
  | [d1, d2] => { results := [.lit (.bool false)], args := [d1, d2] }
  | _ => none }
def InputNoneWrongFalsely : Prop := inputNoneRow.holds Try.pinned (OpenSpec.ofChange inputNoneWrong)

/- THE SECOND FORM. 'bulk': how many values and letters a reading holds, each counted each time it is reached (what is shared counts as often as it is met; a slice's spare places count too). A statement '..UptoSaid' is the law's where the arguments, and the package variables that the reading takes, are together of bulk at most 1048576: NARROWER than '..Said'. Prove '..Said' where nothing that the law and all that it calls make is longer than what came in: it says more and counts as full. Else prove '..UptoSaid'. A law counts once. -/
mutual
def uptoBulk {H : Type} : DataW H → Nat
  | .lit (.string bytes) => bytes.length + 1
  | .lit _ => 1
  | .nil => 1
  | .ptr d => uptoBulk d + 1
  | .slice elems spare => uptoBulkAll elems + uptoBulkAll spare + 1
  | .agg parts => uptoBulkAll parts + 1
  | .iface _ d => uptoBulk d + 1
  | .map entries => uptoBulkEntries entries + 1
  | .held _ => 1
def uptoBulkAll {H : Type} : List (DataW H) → Nat
  | [] => 0
  | d :: r => uptoBulk d + uptoBulkAll r
def uptoBulkEntries {H : Type} : List (Lit × DataW H) → Nat
  | [] => 0
  | x :: r => uptoBulkEntry x + uptoBulkEntries r
def uptoBulkEntry {H : Type} : Lit × DataW H → Nat
  | (.string bytes, d) => bytes.length + uptoBulk d + 1
  | (_, d) => uptoBulk d + 1
 end
def uptoSmall : (H : Type) → List (DataW H) → Bool := fun _ ds => decide (uptoBulkAll ds ≤ 1048576)
def OpenSpec.upto (s : _root_.Go.ChangeSpec) : _root_.Go.OpenSpec := { _root_.Go.OpenSpec.ofChange s with cond := some uptoSmall }

/-- 'runnellaw15.YtabPieces', WHERE WHAT IT READS IS OF BULK AT MOST 1048576: true; the input reads as it did. -/
def ytabPiecesUptoRow : OpenClaim := { program := "ytbclmngjhhmbdaa", sum := "488f2d88907b4155cb8948ae6cdc0a96703f30ba2cd59009e77b75976cccd1d2", func := "runnel/runnellaw15.YtabPieces", spec := "ytabPieces", apart := false, narrowed := true }
def YtabPiecesUptoSaid : Prop := ytabPiecesUptoRow.holds Try.pinned (OpenSpec.upto ytabPiecesSpec)

/-- 'runnellaw15.YtabNews', WHERE WHAT IT READS IS OF BULK AT MOST 1048576: true; the input reads as it did. -/
def ytabNewsUptoRow : OpenClaim := { program := "ytbclmngjhhmbdaa", sum := "488f2d88907b4155cb8948ae6cdc0a96703f30ba2cd59009e77b75976cccd1d2", func := "runnel/runnellaw15.YtabNews", spec := "ytabNews", apart := false, narrowed := true }
def YtabNewsUptoSaid : Prop := ytabNewsUptoRow.holds Try.pinned (OpenSpec.upto ytabNewsSpec)

/-- 'runnellaw15.YtabApplies', WHERE WHAT IT READS IS OF BULK AT MOST 1048576: true; the input reads as it did. -/
def ytabAppliesUptoRow : OpenClaim := { program := "ytbclmngjhhmbdaa", sum := "488f2d88907b4155cb8948ae6cdc0a96703f30ba2cd59009e77b75976cccd1d2", func := "runnel/runnellaw15.YtabApplies", spec := "ytabApplies", apart := false, narrowed := true }
def YtabAppliesUptoSaid : Prop := ytabAppliesUptoRow.holds Try.pinned (OpenSpec.upto ytabAppliesSpec)

/-- 'runnellaw15.YtabBack', WHERE WHAT IT READS IS OF BULK AT MOST 1048576: true; the input reads as it did. -/
def ytabBackUptoRow : OpenClaim := { program := "ytbclmngjhhmbdaa", sum := "488f2d88907b4155cb8948ae6cdc0a96703f30ba2cd59009e77b75976cccd1d2", func := "runnel/runnellaw15.YtabBack", spec := "ytabBack", apart := false, narrowed := true }
def YtabBackUptoSaid : Prop := ytabBackUptoRow.holds Try.pinned (OpenSpec.upto ytabBackSpec)

/-- 'runnellaw23.InputPlays', WHERE WHAT IT READS IS OF BULK AT MOST 1048576: true; the input reads as it did. -/
def inputPlaysUptoRow : OpenClaim := { program := "ytbclmngjhhmbdaa", sum := "488f2d88907b4155cb8948ae6cdc0a96703f30ba2cd59009e77b75976cccd1d2", func := "runnel/runnellaw23.InputPlays", spec := "inputPlays", inPlace := ["internal/bytealg.IndexByteString"], apart := false, narrowed := true }
def InputPlaysUptoSaid : Prop := inputPlaysUptoRow.holds Try.pinned (OpenSpec.upto inputPlaysSpec)

/-- 'runnellaw23.InputOrder', WHERE WHAT IT READS IS OF BULK AT MOST 1048576: true; the input reads as it did. -/
def inputOrderUptoRow : OpenClaim := { program := "ytbclmngjhhmbdaa", sum := "488f2d88907b4155cb8948ae6cdc0a96703f30ba2cd59009e77b75976cccd1d2", func := "runnel/runnellaw23.InputOrder", spec := "inputOrder", inPlace := ["internal/bytealg.IndexByteString"], apart := false, narrowed := true }
def InputOrderUptoSaid : Prop := inputOrderUptoRow.holds Try.pinned (OpenSpec.upto inputOrderSpec)

/-- 'runnellaw23.InputNone', WHERE WHAT IT READS IS OF BULK AT MOST 1048576: true; the input reads as it did. -/
def inputNoneUptoRow : OpenClaim := { program := "ytbclmngjhhmbdaa", sum := "488f2d88907b4155cb8948ae6cdc0a96703f30ba2cd59009e77b75976cccd1d2", func := "runnel/runnellaw23.InputNone", spec := "inputNone", inPlace := ["internal/bytealg.IndexByteString"], apart := false, narrowed := true }
def InputNoneUptoSaid : Prop := inputNoneUptoRow.holds Try.pinned (OpenSpec.upto inputNoneSpec)

end Rows
end Go.Proofs.Ytbclmngjhhmbdaa
