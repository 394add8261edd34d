/- Layer 2 (bset): the walks of the document's sets. -/
import Derived.Test.YtgoopgnnkhpmlaaDoorDc
namespace Go.Proofs.YtgoopgnnkhpmlaaDoor
open Go Go.RowKit Sl
set_option maxRecDepth 100000
set_option maxHeartbeats 8000000
set_option linter.unusedVariables false
set_option linter.unusedSimpArgs false
attribute [local irreducible] ES EL PX wps
attribute [local irreducible] fillS memGo

theorem fillS_y (p : Nat → Bool) (i : Nat) (h : p i = true) : addS (fillS p i) i = fillS p (i + 1) := by rw [fillS, if_pos h]
theorem fillS_n (p : Nat → Bool) (i : Nat) (h : p i = false) : fillS p i = fillS p (i + 1) := by rw [fillS, if_neg (by rw [h]; simp)]
theorem fillS_0 (p : Nat → Bool) : zeroS.cells = (fillS p 0).cells := by rw [fillS]
theorem memGo_y (p : Nat → Bool) (i : Nat) (h : p i = true) : memGo p i ++ [UInt8.ofNat i] = memGo p (i + 1) := by rw [memGo, if_pos h]
theorem memGo_n (p : Nat → Bool) (i : Nat) (h : p i = false) : memGo p i = memGo p (i + 1) := by rw [memGo, if_neg (by rw [h]; simp)]
theorem memGo_0 (p : Nat → Bool) : memGo p 0 = [] := by rw [memGo]
end Go.Proofs.YtgoopgnnkhpmlaaDoor
