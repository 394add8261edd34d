/- THE BASE: 64-bit words: the negative, products, differences. -/
import Derived.Test.YtgoopgnnkhpmlaaDoorSlw
namespace Go.Proofs.YtgoopgnnkhpmlaaDoor.Sl
open Go Go.RowKit
set_option linter.unusedVariables false
set_option linter.unusedSimpArgs false
section words2
variable {C : Cx} {E : Env} {H : List HA} {d ty t t' : Nat} {pos : String} {af : Array Edge} {g : Option (Nat × Bool)} {x y : Operand} {m n : Int}
theorem wrap64_eq (k : Int) (b : UInt64) (h : ∃ q : Int, k = (b.toNat : Int) + 18446744073709551616 * q) : IntKind.u64.wrap k = (b.toNat : Int) := by
  obtain ⟨q, rfl⟩ := h
  have := b.toNat_lt
  simp [IntKind.wrap, IntKind.signed, IntKind.bits]
  omega
theorem RV.mulW {a b : UInt64} (hx : E.ev x = some (.int .u64 m)) (hy : E.ev y = some (.int .u64 n)) (hm : m = (a.toNat : Int)) (hn : n = (b.toNat : Int)) : RunV C E H ⟨some d, .binOp .mul t x y t', ty, pos, af, g⟩ (Wv (a * b)) := fun ac w ha => by
  subst hm; subst hn
  have h : IntKind.u64.wrap ((a.toNat : Int) * (b.toNat : Int)) = ((a * b).toNat : Int) := by
    rw [show ((a.toNat : Int) * (b.toNat : Int)) = ((a.toNat * b.toNat : Nat) : Int) by push_cast; rfl, wrapW_mod, UInt64.toNat_mul]
  simp [execOp, ha.1.ev hx, ha.1.ev hy, eqGuard, binOp, Op.intArith, Result.andThen, h]
theorem RV.subW {a b : UInt64} (hx : E.ev x = some (.int .u64 m)) (hy : E.ev y = some (.int .u64 n)) (hm : m = (a.toNat : Int)) (hn : n = (b.toNat : Int)) : RunV C E H ⟨some d, .binOp .sub t x y t', ty, pos, af, g⟩ (Wv (a - b)) := fun ac w ha => by
  subst hm; subst hn
  have h : IntKind.u64.wrap ((a.toNat : Int) - (b.toNat : Int)) = ((a - b).toNat : Int) := by
    refine wrap64_eq _ _ ?_
    have ha' := a.toNat_lt
    have hb' := b.toNat_lt
    rw [UInt64.toNat_sub]
    by_cases hab : b.toNat ≤ a.toNat
    · exact ⟨0, by omega⟩
    · exact ⟨-1, by omega⟩
  simp [execOp, ha.1.ev hx, ha.1.ev hy, eqGuard, binOp, Op.intArith, Result.andThen, h]
theorem RV.negW {a : UInt64} (hx : E.ev x = some (.int .u64 m)) (hm : m = (a.toNat : Int)) : RunV C E H ⟨some d, .unOp .neg t x, ty, pos, af, g⟩ (Wv (0 - a)) := fun ac w ha => by
  subst hm
  have h : IntKind.u64.wrap (0 - (a.toNat : Int)) = ((0 - a).toNat : Int) := by
    refine wrap64_eq _ _ ?_
    have ha' := a.toNat_lt
    rw [UInt64.toNat_sub]
    by_cases h0 : a.toNat = 0
    · exact ⟨0, by rw [h0]; simp⟩
    · exact ⟨-1, by simp; omega⟩
  generalize 0 - a = b at *
  have h2 : (Op.unary .neg (Wv a)).run C.P w = .ok (Wv b) w := by
    show (Op.intArith .sub .u64 0 (a.toNat : Int)).run C.P w = _
    simp only [Op.intArith, h]
    rfl
  simp only [execOp, ha.1.ev hx, Sem.run_bind, h2, Result.andThen, Sem.run_pure]
end words2
end Go.Proofs.YtgoopgnnkhpmlaaDoor.Sl
