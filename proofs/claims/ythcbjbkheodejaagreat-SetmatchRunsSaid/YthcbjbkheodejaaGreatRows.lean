/-
  No cell of these rows narrows 'for every input' (looked for: loops, veiled, ifaces, maps, wideKeys, modest, calm, conditions, laid).
  DERIVED. THE GIVEN ROWS OF THIS SEAT. 3 by the template 'for every input the law returns true; each argument reads behind the call as it read before'; 0 by the template 'total and deterministic' (their statements: YthcbjbkheodejaaGreatTotals.lean).
  GIVEN WITH THE SEED: the statements are not yours to turn. If you find one false, say at which input.
  Laid BY PROGRAM, IN A SANDBOX (cutbox-rows.mjs): the forced cells as the released guide's own fill.sh prints them over the translation 31b1f0420e8813af… (all of the seat's roots in one cut). By AI agents, Wed Nov 11 2026. No macro, syntax, notation, axiom, sorry.
-/
import Derived.Test.YthcbjbkheodejaaGreatChecked
import GoSem.Claim
import GoSem.ClaimJoined
import GoSem.ClaimMapViews
import Derived.JoinedTies
import Derived.KernelRfl
namespace Go.Proofs.YthcbjbkheodejaaGreat
/- THE CELL 'sum', in the pinned program and in every row, IS THE sha256 OF THE DUMP (.gsa) THAT YthcbjbkheodejaaGreatProg.lean LOADS. Nothing in Lean hashes anything: it is a label: what it is worth is what the hold of that sum in a sandbox is worth. -/
noncomputable def Tryz.pinned : Pinned := { name := "ythcbjbkheodejaagreat", sum := "31b1f0420e8813afbc2d0fc3b02178d92ba139ec108835f2afb0d4c176f39783", checked := Tryz.checked }
namespace Rows
def none {H : Type} : Left H := { results := [], args := [] }

/-- 'runnellaw08.SetmatchRuns': WHATEVER THE INPUT: true; the input reads as it did. -/
def setmatchRunsSpec : ChangeSpec := { name := "setmatchRuns", fn := fun _ => fun
  | [d1, d2] => { results := [.lit (.bool true)], args := [d1, d2] }
  | _ => none }
def setmatchRunsRow : OpenClaim := { program := "ythcbjbkheodejaagreat", sum := "31b1f0420e8813afbc2d0fc3b02178d92ba139ec108835f2afb0d4c176f39783", func := "runnel/runnellaw08.SetmatchRuns", spec := "setmatchRuns", inPlace := ["internal/bytealg.IndexByteString", "internal/bytealg.IndexString"], unfollowed := true, recurses := true, named := ["internal/bytealg.MaxLen"], plainKeys := false, apart := false }
def SetmatchRunsSaid : Prop := setmatchRunsRow.holds Tryz.pinned (OpenSpec.ofChange setmatchRunsSpec)

/-- ITS FALSE NEIGHBOUR: 'it returns false'. Refute it at one input. -/
def setmatchRunsWrong : ChangeSpec := { name := "setmatchRuns", fn := fun _ => fun
  | [d1, d2] => { results := [.lit (.bool false)], args := [d1, d2] }
  | _ => none }
def SetmatchRunsWrongFalsely : Prop := setmatchRunsRow.holds Tryz.pinned (OpenSpec.ofChange setmatchRunsWrong)

/-- 'runnellaw11.MatcherNews': WHATEVER THE INPUT: true; the input reads as it did. -/
def matcherNewsSpec : ChangeSpec := { name := "matcherNews", fn := fun _ => fun
  | [d] => { results := [.lit (.bool true)], args := [d] }
  | _ => none }
def matcherNewsRow : OpenClaim := { program := "ythcbjbkheodejaagreat", sum := "31b1f0420e8813afbc2d0fc3b02178d92ba139ec108835f2afb0d4c176f39783", func := "runnel/runnellaw11.MatcherNews", spec := "matcherNews", inPlace := ["internal/bytealg.IndexByteString", "internal/bytealg.IndexString"], unfollowed := true, recurses := true, named := ["internal/bytealg.MaxLen"], plainKeys := false, apart := false }
def MatcherNewsSaid : Prop := matcherNewsRow.holds Tryz.pinned (OpenSpec.ofChange matcherNewsSpec)

/-- ITS FALSE NEIGHBOUR: 'it returns false'. Refute it at one input. -/
def matcherNewsWrong : ChangeSpec := { name := "matcherNews", fn := fun _ => fun
  | [d] => { results := [.lit (.bool false)], args := [d] }
  | _ => none }
def MatcherNewsWrongFalsely : Prop := matcherNewsRow.holds Tryz.pinned (OpenSpec.ofChange matcherNewsWrong)

/-- 'runnellaw22.PickNews': WHATEVER THE INPUT: true; the input reads as it did. -/
def pickNewsSpec : ChangeSpec := { name := "pickNews", fn := fun _ => fun
  | [d] => { results := [.lit (.bool true)], args := [d] }
  | _ => none }
def pickNewsRow : OpenClaim := { program := "ythcbjbkheodejaagreat", sum := "31b1f0420e8813afbc2d0fc3b02178d92ba139ec108835f2afb0d4c176f39783", func := "runnel/runnellaw22.PickNews", spec := "pickNews", inPlace := ["internal/bytealg.IndexByteString", "internal/bytealg.IndexString"], unfollowed := true, recurses := true, named := ["internal/bytealg.MaxLen"], plainKeys := false, apart := false }
def PickNewsSaid : Prop := pickNewsRow.holds Tryz.pinned (OpenSpec.ofChange pickNewsSpec)

/-- ITS FALSE NEIGHBOUR: 'it returns false'. Refute it at one input. -/
def pickNewsWrong : ChangeSpec := { name := "pickNews", fn := fun _ => fun
  | [d] => { results := [.lit (.bool false)], args := [d] }
  | _ => none }
def PickNewsWrongFalsely : Prop := pickNewsRow.holds Tryz.pinned (OpenSpec.ofChange pickNewsWrong)

/- THE SECOND FORM. 'bulk': how many values and letters a reading holds, each counted each time it is reached (what is shared counts as often as it is met; a slice's spare places count too). A statement '..UptoSaid' is the law's where the arguments, and the package variables that the reading takes, are together of bulk at most 1048576: NARROWER than '..Said'. Prove '..Said' where nothing that the law and all that it calls make is longer than what came in: it says more and counts as full. Else prove '..UptoSaid'. A law counts once. -/
mutual
def uptoBulk {H : Type} : DataW H → Nat
  | .lit (.string bytes) => bytes.length + 1
  | .lit _ => 1
  | .nil => 1
  | .ptr d => uptoBulk d + 1
  | .slice elems spare => uptoBulkAll elems + uptoBulkAll spare + 1
  | .agg parts => uptoBulkAll parts + 1
  | .iface _ d => uptoBulk d + 1
  | .map entries => uptoBulkEntries entries + 1
  | .held _ => 1
def uptoBulkAll {H : Type} : List (DataW H) → Nat
  | [] => 0
  | d :: r => uptoBulk d + uptoBulkAll r
def uptoBulkEntries {H : Type} : List (Lit × DataW H) → Nat
  | [] => 0
  | x :: r => uptoBulkEntry x + uptoBulkEntries r
def uptoBulkEntry {H : Type} : Lit × DataW H → Nat
  | (.string bytes, d) => bytes.length + uptoBulk d + 1
  | (_, d) => uptoBulk d + 1
 end
def uptoSmall : (H : Type) → List (DataW H) → Bool := fun _ ds => decide (uptoBulkAll ds ≤ 1048576)
def OpenSpec.upto (s : _root_.Go.ChangeSpec) : _root_.Go.OpenSpec := { _root_.Go.OpenSpec.ofChange s with cond := some uptoSmall }

/-- 'runnellaw08.SetmatchRuns', WHERE WHAT IT READS IS OF BULK AT MOST 1048576: true; the input reads as it did. -/
def setmatchRunsUptoRow : OpenClaim := { program := "ythcbjbkheodejaagreat", sum := "31b1f0420e8813afbc2d0fc3b02178d92ba139ec108835f2afb0d4c176f39783", func := "runnel/runnellaw08.SetmatchRuns", spec := "setmatchRuns", inPlace := ["internal/bytealg.IndexByteString", "internal/bytealg.IndexString"], unfollowed := true, recurses := true, named := ["internal/bytealg.MaxLen"], plainKeys := false, apart := false, narrowed := true }
def SetmatchRunsUptoSaid : Prop := setmatchRunsUptoRow.holds Tryz.pinned (OpenSpec.upto setmatchRunsSpec)

/-- 'runnellaw11.MatcherNews', WHERE WHAT IT READS IS OF BULK AT MOST 1048576: true; the input reads as it did. -/
def matcherNewsUptoRow : OpenClaim := { program := "ythcbjbkheodejaagreat", sum := "31b1f0420e8813afbc2d0fc3b02178d92ba139ec108835f2afb0d4c176f39783", func := "runnel/runnellaw11.MatcherNews", spec := "matcherNews", inPlace := ["internal/bytealg.IndexByteString", "internal/bytealg.IndexString"], unfollowed := true, recurses := true, named := ["internal/bytealg.MaxLen"], plainKeys := false, apart := false, narrowed := true }
def MatcherNewsUptoSaid : Prop := matcherNewsUptoRow.holds Tryz.pinned (OpenSpec.upto matcherNewsSpec)

/-- 'runnellaw22.PickNews', WHERE WHAT IT READS IS OF BULK AT MOST 1048576: true; the input reads as it did. -/
def pickNewsUptoRow : OpenClaim := { program := "ythcbjbkheodejaagreat", sum := "31b1f0420e8813afbc2d0fc3b02178d92ba139ec108835f2afb0d4c176f39783", func := "runnel/runnellaw22.PickNews", spec := "pickNews", inPlace := ["internal/bytealg.IndexByteString", "internal/bytealg.IndexString"], unfollowed := true, recurses := true, named := ["internal/bytealg.MaxLen"], plainKeys := false, apart := false, narrowed := true }
def PickNewsUptoSaid : Prop := pickNewsUptoRow.holds Tryz.pinned (OpenSpec.upto pickNewsSpec)

end Rows
end Go.Proofs.YthcbjbkheodejaaGreat
