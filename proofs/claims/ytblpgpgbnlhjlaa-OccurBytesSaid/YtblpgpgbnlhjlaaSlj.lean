/- THE BASE: a cut behind a code that may be left in two ways; facts that are known of what is owned. -/
import Derived.Test.YtblpgpgbnlhjlaaSlq
namespace Go.Proofs.Ytblpgpgbnlhjlaa.Sl
open Go Go.RowKit
set_option linter.unusedVariables false
set_option linter.unusedSimpArgs false
section cuts
variable {C : Cx} {cs : List Code} {Q : Qt} {E E' : Env} {H H' : List HA}
/-- Its end, or the way out of the block id. -/
def CutE {X Y : Type} (C : Cx) (id : Nat) (Ex : X → Env) (Hx : X → List HA) (Ey : Y → Env) (Hy : Y → List HA) : Qt := fun e a w => match e with
  | .normal => ∃ x, At C (Ex x) (Hx x) a w
  | .exit j => j = id ∧ ∃ y, At C (Ey y) (Hy y) a w
  | _ => False
theorem ES.cutE {X Y : Type} {c : Code} (id : Nat) (Ex : X → Env) (Hx : X → List HA) (Ey : Y → Env) (Hy : Y → List HA) (h : ES C [c] (CutE C id Ex Hx Ey Hy) E H) (k : ∀ x, ES C cs Q (Ex x) (Hx x)) (k2 : ∀ y, PX C Q (.exit id) (Ey y) (Hy y)) : ES C (c :: cs) Q E H := by
  intro a w ha
  refine wpIn_mono (h a w ha) ?_
  intro e a' w' hq
  cases e with
  | normal =>
    obtain ⟨x, hx⟩ := (hq : CutE C id Ex Hx Ey Hy .normal a' w')
    exact k x a' w' hx
  | exit j =>
    obtain ⟨rfl, y, hy⟩ := (hq : CutE C id Ex Hx Ey Hy (.exit j) a' w')
    exact k2 y a' w' hy
  | _ => exact (hq : False).elim
theorem PX.cutEn {X Y : Type} {id : Nat} {Ex : X → Env} {Hx : X → List HA} {Ey : Y → Env} {Hy : Y → List HA} (x : X) (he : Has E (Ex x)) (hh : Ent H (Hx x)) : PX C (CutE C id Ex Hx Ey Hy) .normal E H := fun a w h => ⟨x, h.sub he hh⟩
theorem PX.cutEx {X Y : Type} {id : Nat} {Ex : X → Env} {Hx : X → List HA} {Ey : Y → Env} {Hy : Y → List HA} (y : Y) (he : Has E (Ey y)) (hh : Ent H (Hy y)) : PX C (CutE C id Ex Hx Ey Hy) (.exit id) E H := fun a w h => ⟨rfl, y, h.sub he hh⟩
/-- A cut where all other ways out lead on as they did. -/
def CutW {X : Type} (C : Cx) (Q : Qt) (Ex : X → Env) (Hx : X → List HA) : Qt := fun e a w => match e with
  | .normal => ∃ x, At C (Ex x) (Hx x) a w
  | e => Q e a w
theorem ES.cutW {X : Type} {c : Code} (Ex : X → Env) (Hx : X → List HA) (h : ES C [c] (CutW C Q Ex Hx) E H) (k : ∀ x, ES C cs Q (Ex x) (Hx x)) : ES C (c :: cs) Q E H := by
  intro a w ha
  refine wpIn_mono (h a w ha) ?_
  intro e a' w' hq
  cases e with
  | normal =>
    obtain ⟨x, hx⟩ := (hq : CutW C Q Ex Hx .normal a' w')
    exact k x a' w' hx
  | _ => exact hq
theorem PX.cutWn {X : Type} {Ex : X → Env} {Hx : X → List HA} (x : X) (he : Has E (Ex x)) (hh : Ent H (Hx x)) : PX C (CutW C Q Ex Hx) .normal E H := fun a w h => ⟨x, h.sub he hh⟩
theorem PX.cutWr {X : Type} {Ex : X → Env} {Hx : X → List HA} (k : PX C Q .ret E H) : PX C (CutW C Q Ex Hx) .ret E H := k
theorem ES.know {P : Prop} (h : ∀ w, Sat C.w0 C.B H w → P) (k : P → ES C cs Q E H) : ES C cs Q E H := fun a w ha => k (h w ha.2) a w ha
theorem EL.know {P : Prop} {all : Array Oper} {ops : List Oper} (h : ∀ w, Sat C.w0 C.B H w → P) (k : P → EL C all ops Q E H) : EL C all ops Q E H := fun a w ha => k (h w ha.2) a w ha
end cuts
section slices
variable {C : Cx} {E : Env} {H : List HA} {d ty t : Nat} {pos : String} {af : Array Edge} {gd : Option (Nat × Bool)} {x y z : Operand}
/-- s[lo:hi], s[lo:] of a slice that isn't spent. -/
theorem RV.sliceLHk {ti te : TI} {el lo hi n cap g off : Nat} {kd kd' : IntKind} (hx : E.ev x = some (.slice (some ⟨g, off, none⟩) n cap)) (hy : E.ev y = some (.int kd (lo : Nat))) (hz : E.ev z = some (.int kd' (hi : Nat))) (ht : C.T.f t = some ti) (hu : ti.u = .slice el) (hte : C.T.f el = some te) (hlo : lo ≤ hi) (hhi : hi ≤ cap) (hlt : lo < cap) :
    RunV C E H ⟨some d, .slice t x (some y) (some z) none, ty, pos, af, gd⟩ (.slice (some ⟨g, off + lo * te.size, none⟩) (hi - lo) (cap - lo)) := fun a w ha => by
  have hT := (C.T.ok t ti ht).u
  rw [hu] at hT
  have hI := (C.T.ok el te hte).runInfo w
  have h1 : cap ≠ lo := by omega
  simp [execOp, ha.1.ev hx, ha.1.ev hy, ha.1.ev hz, Instr.sliceAt, Instr.slice, Instr.sliceBounds, Instr.sliceBound, asIntOf, run_underlying hT, hI.1, Result.andThen, h1, hlo, hhi, add_n]
theorem RV.sliceLk {ti te : TI} {el lo n cap g off : Nat} {kd : IntKind} (hx : E.ev x = some (.slice (some ⟨g, off, none⟩) n cap)) (hy : E.ev y = some (.int kd (lo : Nat))) (ht : C.T.f t = some ti) (hu : ti.u = .slice el) (hte : C.T.f el = some te) (hlo : lo ≤ n) (hn : n ≤ cap) (hlt : lo < cap) :
    RunV C E H ⟨some d, .slice t x (some y) none none, ty, pos, af, gd⟩ (.slice (some ⟨g, off + lo * te.size, none⟩) (n - lo) (cap - lo)) := fun a w ha => by
  have hT := (C.T.ok t ti ht).u
  rw [hu] at hT
  have hI := (C.T.ok el te hte).runInfo w
  have h1 : cap ≠ lo := by omega
  simp [execOp, ha.1.ev hx, ha.1.ev hy, Instr.sliceAt, Instr.slice, Instr.sliceBounds, Instr.sliceBound, asIntOf, run_underlying hT, hI.1, Result.andThen, h1, hlo, hn, add_n]
end slices
/-! functions as values: compared with nil, bound to what they are methods of -/
section funcs
variable {C : Cx} {all : Array Oper} {ops : List Oper} {Q : Qt} {E : Env} {H R : List HA} {d ty t t' : Nat} {pos : String} {af : Array Edge} {gd : Option (Nat × Bool)} {x y : Operand}
theorem run_equal_ft {P : Program} {t : Nat} {ps rs : Array TypeId} {v : Bool} (hT : P.underlying t = some (.func ps rs v)) (f : Fn) (a b : Array Value) (w : World) : (Op.equal t (.func f a b) .nilFunc).run P w = .ok false w := by
  have key : ∀ d, (Op.equalIn (d + 1) t (.func f a b) .nilFunc).run P w = .ok false w := fun d => by
    simp only [Op.equalIn, Sem.run_bind, run_underlying hT, Result.andThen, Sem.run_pure]
  exact key 9999
theorem EL.eqlFt {f : Fn} {a b : Array Value} {ti : TI} {ps rs : Array TypeId} {v : Bool} (hg : guardOk all E gd = some true) (hx : E.ev x = some (.func f a b)) (hy : E.ev y = some .nilFunc) (ht : C.T.f t = some ti) (hu : ti.u = .func ps rs v) (hd : Nat.blt d C.n = true) (k : EL C all ops Q ((d, .bool false) :: E) H) : EL C all (⟨some d, .binOp .eql t x y t', ty, pos, af, gd⟩ :: ops) Q E H :=
  EL.val _ hg rfl hd (by simp) (fun ac w ha => by
    have hT := (C.T.ok t ti ht).u
    rw [hu] at hT
    simp only [execOp, ha.1.ev hx, ha.1.ev hy, eqGuard, binOp, Sem.run_bind, Sem.run_pure, run_equal_ft hT, Result.andThen]
    rfl) k
theorem EL.neqFt {f : Fn} {a b : Array Value} {ti : TI} {ps rs : Array TypeId} {v : Bool} (hg : guardOk all E gd = some true) (hx : E.ev x = some (.func f a b)) (hy : E.ev y = some .nilFunc) (ht : C.T.f t = some ti) (hu : ti.u = .func ps rs v) (hd : Nat.blt d C.n = true) (k : EL C all ops Q ((d, .bool true) :: E) H) : EL C all (⟨some d, .binOp .neq t x y t', ty, pos, af, gd⟩ :: ops) Q E H :=
  EL.val _ hg rfl hd (by simp) (fun ac w ha => by
    have hT := (C.T.ok t ti ht).u
    rw [hu] at hT
    simp only [execOp, ha.1.ev hx, ha.1.ev hy, eqGuard, binOp, Sem.run_bind, Sem.run_pure, run_equal_ft hT, Result.andThen]
    rfl) k
theorem EL.makeBound {f : Nat} {ar : Array Operand} {vs : List Value} (hg : guardOk all E gd = some true) (ha : E.evl ar.toList = some vs) (hd : Nat.blt d C.n = true)
    (k : EL C all ops Q ((d, .func (.func f) vs.toArray #[]) :: E) H) : EL C all (⟨some d, .makeFunc (.func f) ar #[], ty, pos, af, gd⟩ :: ops) Q E H :=
  EL.val _ hg rfl hd (by simp) (fun a w hat => by
    have hm : ar.map a.eval = vs.toArray := by
      have := hat.1.evl ha
      apply Array.ext'
      simpa using this
    simp [execOp, Instr.makeFunc, hm, Result.andThen]) k
/-- A call of a bound function. -/
theorem EL.callB {X : Type} {fo : Operand} {ar : Array Operand} {tys : Array TypeId} {f : FuncId} {bs vs : List Value} {Hq : List HA} {val : X → Value} {HX : X → List HA} (hg : guardOk all E gd = some true) (hf : E.ev fo = some (.func (.func f) bs.toArray #[])) (ha : E.evl ar.toList = some vs)
    (he : Enters C.P f) (hd : Nat.blt d C.n = true) (hc : MutAt C.P f (bs ++ vs).toArray Hq val HX C.w0 C.B) (tk : Takes H Hq R)
    (k : ∀ x, EL C all ops Q ((d, val x) :: E) (HX x ++ R)) : EL C all (⟨some d, .call { callee := .value fo, args := ar, argTypes := tys }, ty, pos, af, gd⟩ :: ops) Q E H := by
  intro a w hat
  simp only [wpListIn, guardOk_wanted (o := ⟨some d, .call { callee := .value fo, args := ar, argTypes := tys }, ty, pos, af, gd⟩) hg hat.1, if_true]
  refine ⟨fun _ _ => trivial, ?_⟩
  rw [sem_plain (by simp)]
  have hm : ar.map a.eval = vs.toArray := by
    have := hat.1.evl ha
    apply Array.ext'
    simpa using this
  have hrun : (execOp a.eval ⟨some d, .call { callee := .value fo, args := ar, argTypes := tys }, ty, pos, af, gd⟩).run C.P w = .ok (.enter f (bs ++ vs).toArray) w := by
    simp only [execOp, resolve, hat.1.ev hf, hm, Deferred.ofValue, Sem.run_bind, Sem.run_pure, Result.andThen, invoke]
    rw [show (bs.toArray ++ vs.toArray ++ #[]) = (bs ++ vs).toArray by simp]
    exact he _ w
  rw [hrun]
  refine ⟨fun h => by simp [F0] at h, ?_⟩
  refine callsIn_F0 ((hc R w (hat.2.perm tk.perm)).mono ?_)
  rintro e w' ⟨x, rfl, hs⟩
  exact k x _ _ ⟨hat.1.put (by simpa using hd) _, hs⟩
end funcs
end Go.Proofs.Ytblpgpgbnlhjlaa.Sl
