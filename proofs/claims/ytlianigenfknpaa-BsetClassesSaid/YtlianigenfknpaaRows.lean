/-
  No cell of these rows narrows 'for every input' (looked for: loops, veiled, ifaces, maps, wideKeys, modest, calm, conditions, laid).
  DERIVED. THE GIVEN ROWS OF THIS SEAT. 5 by the template 'for every input the law returns true; each argument reads behind the call as it read before'; 0 by the template 'total and deterministic' (their statements: YtlianigenfknpaaTotals.lean).
  GIVEN WITH THE SEED: the statements are not yours to turn. If you find one false, say at which input.
  Laid BY PROGRAM, IN A SANDBOX (cutbox-rows.mjs): the forced cells as the released guide's own fill.sh prints them over the translation 0d7d4fa68e3bdaf8… (all of the seat's roots in one cut). By AI agents, Wed Nov 11 2026. No macro, syntax, notation, axiom, sorry.
-/
import Derived.Test.YtlianigenfknpaaChecked
import GoSem.Claim
import GoSem.ClaimJoined
import GoSem.ClaimMapViews
import Derived.JoinedTies
import Derived.KernelRfl
namespace Go.Proofs.Ytlianigenfknpaa
/- THE CELL 'sum', in the pinned program and in every row, IS THE sha256 OF THE DUMP (.gsa) THAT YtlianigenfknpaaProg.lean LOADS. Nothing in Lean hashes anything: it is a label: what it is worth is what the hold of that sum in a sandbox is worth. -/
noncomputable def Try.pinned : Pinned := { name := "ytlianigenfknpaa", sum := "0d7d4fa68e3bdaf8d5918a7ffa08e57a5419504ff8537d9ce76b6240c4ed86e4", checked := Try.checked }
namespace Rows
def none {H : Type} : Left H := { results := [], args := [] }

/-- 'runnellaw02.BsetMakes': WHATEVER THE INPUT: true; the input reads as it did. -/
def bsetMakesSpec : ChangeSpec := { name := "bsetMakes", fn := fun _ => fun
  | [d1, d2, d3, d4] => { results := [.lit (.bool true)], args := [d1, d2, d3, d4] }
  | _ => none }
def bsetMakesRow : OpenClaim := { program := "ytlianigenfknpaa", sum := "0d7d4fa68e3bdaf8d5918a7ffa08e57a5419504ff8537d9ce76b6240c4ed86e4", func := "runnel/runnellaw02.BsetMakes", spec := "bsetMakes", apart := false }
def BsetMakesSaid : Prop := bsetMakesRow.holds Try.pinned (OpenSpec.ofChange bsetMakesSpec)

/-- ITS FALSE NEIGHBOUR: 'it returns false'. Refute it at one input. -/
def bsetMakesWrong : ChangeSpec := { name := "bsetMakes", fn := fun _ => fun
  | [d1, d2, d3, d4] => { results := [.lit (.bool false)], args := [d1, d2, d3, d4] }
  | _ => none }
def BsetMakesWrongFalsely : Prop := bsetMakesRow.holds Try.pinned (OpenSpec.ofChange bsetMakesWrong)

/-- 'runnellaw02.BsetClasses': WHATEVER THE INPUT: true; the input reads as it did. -/
def bsetClassesSpec : ChangeSpec := { name := "bsetClasses", fn := fun _ => fun
  | [] => { results := [.lit (.bool true)], args := [] }
  | _ => none }
def bsetClassesRow : OpenClaim := { program := "ytlianigenfknpaa", sum := "0d7d4fa68e3bdaf8d5918a7ffa08e57a5419504ff8537d9ce76b6240c4ed86e4", func := "runnel/runnellaw02.BsetClasses", spec := "bsetClasses", unfollowed := true, recurses := true, apart := false }
def BsetClassesSaid : Prop := bsetClassesRow.holds Try.pinned (OpenSpec.ofChange bsetClassesSpec)

/-- ITS FALSE NEIGHBOUR: 'it returns false'. Refute it at one input. -/
def bsetClassesWrong : ChangeSpec := { name := "bsetClasses", fn := fun _ => fun
  | [] => { results := [.lit (.bool false)], args := [] }
  | _ => none }
def BsetClassesWrongFalsely : Prop := bsetClassesRow.holds Try.pinned (OpenSpec.ofChange bsetClassesWrong)

/-- 'runnellaw02.BsetJoins': WHATEVER THE INPUT: true; the input reads as it did. -/
def bsetJoinsSpec : ChangeSpec := { name := "bsetJoins", fn := fun _ => fun
  | [d1, d2] => { results := [.lit (.bool true)], args := [d1, d2] }
  | _ => none }
def bsetJoinsRow : OpenClaim := { program := "ytlianigenfknpaa", sum := "0d7d4fa68e3bdaf8d5918a7ffa08e57a5419504ff8537d9ce76b6240c4ed86e4", func := "runnel/runnellaw02.BsetJoins", spec := "bsetJoins", unfollowed := true, recurses := true, apart := false }
def BsetJoinsSaid : Prop := bsetJoinsRow.holds Try.pinned (OpenSpec.ofChange bsetJoinsSpec)

/-- ITS FALSE NEIGHBOUR: 'it returns false'. Refute it at one input. -/
def bsetJoinsWrong : ChangeSpec := { name := "bsetJoins", fn := fun _ => fun
  | [d1, d2] => { results := [.lit (.bool false)], args := [d1, d2] }
  | _ => none }
def BsetJoinsWrongFalsely : Prop := bsetJoinsRow.holds Try.pinned (OpenSpec.ofChange bsetJoinsWrong)

/-- 'runnellaw02.BsetLaws': WHATEVER THE INPUT: true; the input reads as it did. -/
def bsetLawsSpec : ChangeSpec := { name := "bsetLaws", fn := fun _ => fun
  | [d1, d2, d3] => { results := [.lit (.bool true)], args := [d1, d2, d3] }
  | _ => none }
def bsetLawsRow : OpenClaim := { program := "ytlianigenfknpaa", sum := "0d7d4fa68e3bdaf8d5918a7ffa08e57a5419504ff8537d9ce76b6240c4ed86e4", func := "runnel/runnellaw02.BsetLaws", spec := "bsetLaws", unfollowed := true, recurses := true, apart := false }
def BsetLawsSaid : Prop := bsetLawsRow.holds Try.pinned (OpenSpec.ofChange bsetLawsSpec)

/-- ITS FALSE NEIGHBOUR: 'it returns false'. Refute it at one input. -/
def bsetLawsWrong : ChangeSpec := { name := "bsetLaws", fn := fun _ => fun
  | [d1, d2, d3] => { results := [.lit (.bool false)], args := [d1, d2, d3] }
  | _ => none }
def BsetLawsWrongFalsely : Prop := bsetLawsRow.holds Try.pinned (OpenSpec.ofChange bsetLawsWrong)

/-- 'runneltop.WholeClasses': WHATEVER THE INPUT: true; the input reads as it did. -/
def wholeClassesSpec : ChangeSpec := { name := "wholeClasses", fn := fun _ => fun
  | [d1, d2] => { results := [.lit (.bool true)], args := [d1, d2] }
  | _ => none }
def wholeClassesRow : OpenClaim := { program := "ytlianigenfknpaa", sum := "0d7d4fa68e3bdaf8d5918a7ffa08e57a5419504ff8537d9ce76b6240c4ed86e4", func := "runnel/runneltop.WholeClasses", spec := "wholeClasses", unfollowed := true, recurses := true, apart := false }
def WholeClassesSaid : Prop := wholeClassesRow.holds Try.pinned (OpenSpec.ofChange wholeClassesSpec)

/-- ITS FALSE NEIGHBOUR: 'it returns false'. Refute it at one input. -/
def wholeClassesWrong : ChangeSpec := { name := "wholeClasses", fn := fun _ => fun
  | [d1, d2] => { results := [.lit (.bool false)], args := [d1, d2] }
  | _ => none }
def WholeClassesWrongFalsely : Prop := wholeClassesRow.holds Try.pinned (OpenSpec.ofChange wholeClassesWrong)

/- THE SECOND FORM. 'bulk': how many values and letters a reading holds, each counted each time it is reached (what is shared counts as often as it is met; a slice's spare places count too). A statement '..UptoSaid' is the law's where the arguments, and the package variables that the reading takes, are together of bulk at most 1048576: NARROWER than '..Said'. Prove '..Said' where nothing that the law and all that it calls make is longer than what came in: it says more and counts as full. Else prove '..UptoSaid'. A law counts once. -/
mutual
def uptoBulk {H : Type} : DataW H → Nat
  | .lit (.string bytes) => bytes.length + 1
  | .lit _ => 1
  | .nil => 1
  | .ptr d => uptoBulk d + 1
  | .slice elems spare => uptoBulkAll elems + uptoBulkAll spare + 1
  | .agg parts => uptoBulkAll parts + 1
  | .iface _ d => uptoBulk d + 1
  | .map entries => uptoBulkEntries entries + 1
  | .held _ => 1
def uptoBulkAll {H : Type} : List (DataW H) → Nat
  | [] => 0
  | d :: r => uptoBulk d + uptoBulkAll r
def uptoBulkEntries {H : Type} : List (Lit × DataW H) → Nat
  | [] => 0
  | x :: r => uptoBulkEntry x + uptoBulkEntries r
def uptoBulkEntry {H : Type} : Lit × DataW H → Nat
  | (.string bytes, d) => bytes.length + uptoBulk d + 1
  | (_, d) => uptoBulk d + 1
 end
def uptoSmall : (H : Type) → List (DataW H) → Bool := fun _ ds => decide (uptoBulkAll ds ≤ 1048576)
def OpenSpec.upto (s : _root_.Go.ChangeSpec) : _root_.Go.OpenSpec := { _root_.Go.OpenSpec.ofChange s with cond := some uptoSmall }

/-- 'runnellaw02.BsetMakes', WHERE WHAT IT READS IS OF BULK AT MOST 1048576: true; the input reads as it did. -/
def bsetMakesUptoRow : OpenClaim := { program := "ytlianigenfknpaa", sum := "0d7d4fa68e3bdaf8d5918a7ffa08e57a5419504ff8537d9ce76b6240c4ed86e4", func := "runnel/runnellaw02.BsetMakes", spec := "bsetMakes", apart := false, narrowed := true }
def BsetMakesUptoSaid : Prop := bsetMakesUptoRow.holds Try.pinned (OpenSpec.upto bsetMakesSpec)

/-- 'runnellaw02.BsetClasses', WHERE WHAT IT READS IS OF BULK AT MOST 1048576: true; the input reads as it did. -/
def bsetClassesUptoRow : OpenClaim := { program := "ytlianigenfknpaa", sum := "0d7d4fa68e3bdaf8d5918a7ffa08e57a5419504ff8537d9ce76b6240c4ed86e4", func := "runnel/runnellaw02.BsetClasses", spec := "bsetClasses", unfollowed := true, recurses := true, apart := false, narrowed := true }
def BsetClassesUptoSaid : Prop := bsetClassesUptoRow.holds Try.pinned (OpenSpec.upto bsetClassesSpec)

/-- 'runnellaw02.BsetJoins', WHERE WHAT IT READS IS OF BULK AT MOST 1048576: true; the input reads as it did. -/
def bsetJoinsUptoRow : OpenClaim := { program := "ytlianigenfknpaa", sum := "0d7d4fa68e3bdaf8d5918a7ffa08e57a5419504ff8537d9ce76b6240c4ed86e4", func := "runnel/runnellaw02.BsetJoins", spec := "bsetJoins", unfollowed := true, recurses := true, apart := false, narrowed := true }
def BsetJoinsUptoSaid : Prop := bsetJoinsUptoRow.holds Try.pinned (OpenSpec.upto bsetJoinsSpec)

/-- 'runnellaw02.BsetLaws', WHERE WHAT IT READS IS OF BULK AT MOST 1048576: true; the input reads as it did. -/
def bsetLawsUptoRow : OpenClaim := { program := "ytlianigenfknpaa", sum := "0d7d4fa68e3bdaf8d5918a7ffa08e57a5419504ff8537d9ce76b6240c4ed86e4", func := "runnel/runnellaw02.BsetLaws", spec := "bsetLaws", unfollowed := true, recurses := true, apart := false, narrowed := true }
def BsetLawsUptoSaid : Prop := bsetLawsUptoRow.holds Try.pinned (OpenSpec.upto bsetLawsSpec)

/-- 'runneltop.WholeClasses', WHERE WHAT IT READS IS OF BULK AT MOST 1048576: true; the input reads as it did. -/
def wholeClassesUptoRow : OpenClaim := { program := "ytlianigenfknpaa", sum := "0d7d4fa68e3bdaf8d5918a7ffa08e57a5419504ff8537d9ce76b6240c4ed86e4", func := "runnel/runneltop.WholeClasses", spec := "wholeClasses", unfollowed := true, recurses := true, apart := false, narrowed := true }
def WholeClassesUptoSaid : Prop := wholeClassesUptoRow.holds Try.pinned (OpenSpec.upto wholeClassesSpec)

end Rows
end Go.Proofs.Ytlianigenfknpaa
