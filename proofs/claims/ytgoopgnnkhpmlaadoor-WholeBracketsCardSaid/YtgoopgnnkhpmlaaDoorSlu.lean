/- THE BASE: slices cut above; the lesser of two numbers. -/
import Derived.Test.YtgoopgnnkhpmlaaDoorSlt
namespace Go.Proofs.YtgoopgnnkhpmlaaDoor.Sl
open Go Go.RowKit
set_option linter.unusedVariables false
set_option linter.unusedSimpArgs false
theorem Rd.take {w : World} {B : Nat} {ad : Option Addr} {cs : List Value} (h : Rd w B ad cs) (k : Nat) : Rd w B ad (cs.take k) := by
  intro hne
  obtain ⟨g, off, h1, h2, h3⟩ := h (by intro e; subst e; simp at hne)
  refine ⟨g, off, h1, h2, fun j v hj => h3 j v ?_⟩
  rw [List.getElem?_take] at hj
  split at hj
  · exact hj
  · cases hj
section cutabove
variable {C : Cx} {all : Array Oper} {ops : List Oper} {Q : Qt} {E : Env} {H : List HA} {d ty t : Nat} {pos : String} {af : Array Edge} {gd : Option (Nat × Bool)} {x y : Operand}
/-- s[:hi]. -/
theorem EL.sliceHi {ti te : TI} {el hi n cap : Nat} {ad : Option Addr} {kd : IntKind} (hg : guardOk all E gd = some true) (hx : E.ev x = some (.slice ad n cap)) (hy : E.ev y = some (.int kd (hi : Nat))) (ht : C.T.f t = some ti) (hu : ti.u = .slice el) (hte : C.T.f el = some te) (hd : Nat.blt d C.n = true) (hh : hi ≤ n) (hn : n ≤ cap)
    (k : EL C all ops Q ((d, .slice ad hi cap) :: E) H) : EL C all (⟨some d, .slice t x none (some y) none, ty, pos, af, gd⟩ :: ops) Q E H :=
  EL.val _ hg rfl hd (by simp) (fun a w ha => by
    have hT := (C.T.ok t ti ht).u
    rw [hu] at hT
    have hI := (C.T.ok el te hte).runInfo w
    have h1 : hi ≤ cap := by omega
    have h2 : ad.map (fun b => b.add 0) = ad := by cases ad <;> simp [Addr.add]
    simp [execOp, ha.1.ev hx, ha.1.ev hy, Instr.sliceAt, Instr.slice, Instr.sliceBounds, Instr.sliceBound, asIntOf, run_underlying hT, hI.1, Result.andThen, h1, h2]) k
theorem EL.minN {m n : Nat} {ts : Array TypeId} (hg : guardOk all E gd = some true) (hx : E.ev x = some (Iv (m : Nat))) (hy : E.ev y = some (Iv (n : Nat))) (hd : Nat.blt d C.n = true)
    (k : EL C all ops Q ((d, Iv ((min m n : Nat) : Int)) :: E) H) : EL C all (⟨some d, .call { callee := .builtin .min, args := #[x, y], argTypes := ts }, ty, pos, af, gd⟩ :: ops) Q E H :=
  EL.val _ hg rfl hd (by simp) (fun a w ha => by
    have h : (Builtin.min_ ts ty #[Iv (m : Nat), Iv (n : Nat)]).run C.P w = .ok (Iv ((min m n : Nat) : Int)) w := by
      have h2 : (if (n : Int) < (m : Int) then (n : Int) else (m : Int)) = ((min m n : Nat) : Int) := by split <;> omega
      simp only [Builtin.min_, List.foldlM_cons, List.foldlM_nil, Builtin.min2, Sem.run_bind, Sem.run_pure, Result.andThen, h2]
    simp only [execOp, ha.1.ev hx, ha.1.ev hy, resolve, invoke, builtin, Sem.run_bind, Sem.run_pure, List.map_toArray, List.map_cons, List.map_nil, h, Result.andThen]) k
end cutabove
end Go.Proofs.YtgoopgnnkhpmlaaDoor.Sl
