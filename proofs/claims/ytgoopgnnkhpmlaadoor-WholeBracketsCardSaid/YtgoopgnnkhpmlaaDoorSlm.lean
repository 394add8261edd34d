/- THE BASE: contracts over memory that stood before; parting on any truth value while an order is open. -/
import Derived.Test.YtgoopgnnkhpmlaaDoorSlg
namespace Go.Proofs.YtgoopgnnkhpmlaaDoor.Sl
open Go Go.RowKit
set_option linter.unusedVariables false
set_option linter.unusedSimpArgs false
/-- A contract at one first world: what it owns and turns, whatever else is owned. -/
def MutAt {X : Type} (P : Program) (f : FuncId) (argv : Array Value) (Hq : List HA) (val : X → Value) (HX : X → List HA) (w0 : World) (B : Nat) : Prop :=
  ∀ (R : List HA) (w : World), Sat w0 B (Hq ++ R) w → Calls P f argv w fun e w' => ∃ x, e = .returned (val x) ∧ Sat w0 B (HX x ++ R) w'
theorem all1 {vs : List Value} (h : vs.all (fun u : Value => u.oneCell') = true) : ∀ u ∈ vs, u.oneCell' = true := fun u hu => List.all_eq_true.1 h u hu
section m
variable {C : Cx} {all : Array Oper} {ops : List Oper} {Q : Qt} {E : Env} {H R : List HA} {d ty : Nat} {pos : String} {af : Array Edge} {gd : Option (Nat × Bool)}
theorem EL.callMw {X : Type} {fo : Operand} {ar : Array Operand} {tys : Array TypeId} {f : FuncId} {vs : List Value} {Hq : List HA} {val : X → Value} {HX : X → List HA} (hg : guardOk all E gd = some true) (hf : E.ev fo = some (.func (.func f) #[] #[])) (ha : E.evl ar.toList = some vs)
    (he : Enters C.P f) (hd : Nat.blt d C.n = true) (hc : MutAt C.P f vs.toArray Hq val HX C.w0 C.B) (tk : Takes H Hq R)
    (k : ∀ x, EL C all ops Q ((d, val x) :: E) (HX x ++ R)) : EL C all (⟨some d, .call { callee := .value fo, args := ar, argTypes := tys }, ty, pos, af, gd⟩ :: ops) Q E H :=
  EL.call val (fun x => HX x ++ R) hg hf ha (by simp) he hd (fun w hs => hc R w (hs.perm tk.perm)) k
theorem EL.callMw0 {X : Type} {fo : Operand} {ar : Array Operand} {tys : Array TypeId} {f : FuncId} {vs : List Value} {Hq : List HA} {val : X → Value} {HX : X → List HA} (hg : guardOk all E gd = some true) (hf : E.ev fo = some (.func (.func f) #[] #[])) (ha : E.evl ar.toList = some vs)
    (he : Enters C.P f) (hc : MutAt C.P f vs.toArray Hq val HX C.w0 C.B) (tk : Takes H Hq R)
    (k : ∀ x, EL C all ops Q E (HX x ++ R)) : EL C all (⟨none, .call { callee := .value fo, args := ar, argTypes := tys }, ty, pos, af, gd⟩ :: ops) Q E H :=
  EL.call0 val (fun x => HX x ++ R) hg hf ha (by simp) he (fun w hs => hc R w (hs.perm tk.perm)) k
/-- The same where but one thing may come of it. -/
theorem EL.callMw1 {fo : Operand} {ar : Array Operand} {tys : Array TypeId} {f : FuncId} {vs : List Value} {Hq Hr : List HA} {v : Value} (hg : guardOk all E gd = some true) (hf : E.ev fo = some (.func (.func f) #[] #[])) (ha : E.evl ar.toList = some vs)
    (he : Enters C.P f) (hd : Nat.blt d C.n = true) (hc : MutAt C.P f vs.toArray Hq (fun _ : Unit => v) (fun _ => Hr) C.w0 C.B) (tk : Takes H Hq R)
    (k : EL C all ops Q ((d, v) :: E) (Hr ++ R)) : EL C all (⟨some d, .call { callee := .value fo, args := ar, argTypes := tys }, ty, pos, af, gd⟩ :: ops) Q E H :=
  EL.callMw hg hf ha he hd hc tk (fun _ => k)
end m
section mm
variable {C : Cx} {E : Env} {H : List HA} {d ty : Nat} {pos : String} {af : Array Edge} {gd : Option (Nat × Bool)} {x y : Operand} {m n : Int} {k : IntKind} {tys : Array TypeId}
theorem RV.minI (hx : E.ev x = some (.int k m)) (hy : E.ev y = some (.int k n)) : RunV C E H ⟨some d, .call { callee := .builtin .min, args := #[x, y], argTypes := tys }, ty, pos, af, gd⟩ (.int k (min m n)) := fun a w ha => by
  have h : (if n < m then n else m) = min m n := by omega
  simp [execOp, ha.1.ev hx, ha.1.ev hy, resolve, invoke, builtin, Builtin.min_, Builtin.min2, Result.andThen, h]
theorem RV.maxI (hx : E.ev x = some (.int k m)) (hy : E.ev y = some (.int k n)) : RunV C E H ⟨some d, .call { callee := .builtin .max, args := #[x, y], argTypes := tys }, ty, pos, af, gd⟩ (.int k (max m n)) := fun a w ha => by
  have h : (if m < n then n else m) = max m n := by omega
  simp [execOp, ha.1.ev hx, ha.1.ev hy, resolve, invoke, builtin, Builtin.max_, Builtin.max2, Result.andThen, h]
end mm
section p
variable {C : Cx} {all : Array Oper} {Q : Qt} {E : Env} {H Hs : List HA} {f : Nat} {L : Array Bool}
/-- Parting on any truth value while the order is open. -/
theorem ED.partB {d : Nat} {b : Bool} (hv : E.get d = some (.bool b)) (ht : b = true → ED C all Hs f L ((d, .bool true) :: E) H Q) (hf : b = false → ED C all Hs f L ((d, .bool false) :: E) H Q) : ED C all Hs f L E H Q := by
  intro a w ha hs
  have hslot := ha.1.get d _ hv
  have fit : ∀ c : Bool, b = c → Fits C.n C.D ((d, .bool c) :: E) a := fun c hb => ⟨ha.1.dfr, ha.1.size, fun d' v' h' => by
    rw [Env.get_cons] at h'
    by_cases e : d = d'
    · subst e; rw [if_pos rfl] at h'; rw [← Option.some.inj h', hslot, hb]
    · rw [if_neg e] at h'; exact ha.1.get d' v' h'⟩
  cases hb : b with
  | true => exact ht hb a w ⟨fit true hb, ha.2⟩ hs
  | false => exact hf hb a w ⟨fit false hb, ha.2⟩ hs
theorem ED.partN {d : Nat} {p : Prop} [Decidable p] (hv : E.get d = some (.bool (!decide p))) (ht : ¬ p → ED C all Hs f L ((d, .bool true) :: E) H Q) (hf : p → ED C all Hs f L ((d, .bool false) :: E) H Q) : ED C all Hs f L E H Q :=
  ED.partB hv (fun e => ht (by simpa using e)) (fun e => hf (by simpa using e))
end p
section imp
variable {C : Cx} {cs : List Code} {all : Array Oper} {ops : List Oper} {Q : Qt} {E : Env} {H H' : List HA}
theorem ES.imp (h : ∀ w, Sat C.w0 C.B H w → Sat C.w0 C.B H' w) (k : ES C cs Q E H') : ES C cs Q E H := fun a w ha => k a w ⟨ha.1, h w ha.2⟩
theorem EL.imp (h : ∀ w, Sat C.w0 C.B H w → Sat C.w0 C.B H' w) (k : EL C all ops Q E H') : EL C all ops Q E H := fun a w ha => k a w ⟨ha.1, h w ha.2⟩
theorem ES.impX {X : Type} {Hx : X → List HA} (h : ∀ w, Sat C.w0 C.B H w → ∃ x, Sat C.w0 C.B (Hx x) w) (k : ∀ x, ES C cs Q E (Hx x)) : ES C cs Q E H := fun a w ha => by
  obtain ⟨x, hx⟩ := h w ha.2
  exact k x a w ⟨ha.1, hx⟩
theorem EL.impX {X : Type} {Hx : X → List HA} (h : ∀ w, Sat C.w0 C.B H w → ∃ x, Sat C.w0 C.B (Hx x) w) (k : ∀ x, EL C all ops Q E (Hx x)) : EL C all ops Q E H := fun a w ha => by
  obtain ⟨x, hx⟩ := h w ha.2
  exact k x a w ⟨ha.1, hx⟩
end imp
end Go.Proofs.YtgoopgnnkhpmlaaDoor.Sl
