/- THE BASE: whole numbers that came in. -/
import Derived.Test.YtcaphghkflffgaaSlaw
namespace Go.Proofs.Ytcaphghkflffgaa.Sl
open Go Go.RowKit Go.ChangeShapes Go.WideShapes Go.ChangeAt
theorem open_iv {H : Type} {enc : TypeId × Value → H} {P : Program} {w : World} {base : Nat} {sp : Nat → Bool} {held : Bool} {r : Reach} {b0 : Nat} {t : TypeId} {v : Value} {d : DataW H} {ps : List MemPlace} (ht : P.underlying t = some (.int .i64)) (hval : Value.okWide P w r b0 t v) (hd : DataW.Trod enc P w base sp held t v d ps) :
    ∃ n : Int, v = Iv n ∧ d = .lit (.int .i64 n) ∧ -9223372036854775808 ≤ n ∧ n ≤ 9223372036854775807 := by
  obtain ⟨n, rfl, rfl, _, hw⟩ := open_int ht hval hd
  have hx : -9223372036854775808 ≤ n ∧ n ≤ 9223372036854775807 := by simpa [Lit.wf, IntKind.min, IntKind.max, IntKind.signed, IntKind.bits] using hw
  exact ⟨n, rfl, rfl, hx.1, hx.2⟩
end Go.Proofs.Ytcaphghkflffgaa.Sl
