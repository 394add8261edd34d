/- THE BASE, sixth part: structs and arrays as values. -/
import Derived.Test.YtgoopgnnkhpmlaaDoorSle
namespace Go.Proofs.YtgoopgnnkhpmlaaDoor.Sl
open Go Go.RowKit
set_option linter.unusedVariables false
set_option linter.unusedSimpArgs false
section aggs
variable {C : Cx} {all : Array Oper} {ops : List Oper} {Q : Qt} {E : Env} {H H' : List HA} {d ty : Nat} {pos : String} {af : Array Edge} {gd : Option (Nat × Bool)} {x y z : Operand} {v u : Value} {t t' g off e : Nat}
def Env.evp (E : Env) : List (Nat × Operand) → Option (List (Nat × Value))
  | [] => some []
  | (i, x) :: r => match E.ev x, Env.evp E r with
    | some v, some vs => some ((i, v) :: vs)
    | _, _ => none
theorem Fits.evp {n : Nat} {D : List Deferred} {a : Act} (h : Fits n D E a) : ∀ {l : List (Nat × Operand)} {vs : List (Nat × Value)}, E.evp l = some vs → l.map (fun p => (p.1, a.eval p.2)) = vs
  | [], vs, hl => by simp [Env.evp] at hl; subst hl; rfl
  | (i, x) :: r, vs, hl => by
    simp only [Env.evp] at hl
    split at hl
    · rename_i v vs' h1 h2
      rw [← Option.some.inj hl]
      simp [h.ev h1, h.evp h2]
    · cases hl
def placesOf (T : Nat → Option TI) : List Field → Option (List (Nat × Nat))
  | [] => some []
  | f :: r => match T f.type, placesOf T r with
    | some ti, some ps => some ((f.offset, ti.size) :: ps)
    | _, _ => none
theorem run_places {P : Program} (T : TyTab P) (w : World) : ∀ (fs : List Field) (ps : List (Nat × Nat)), placesOf T.f fs = some ps → (fs.mapM fun f => do pure (f.offset, ← sizeOf f.type) : Sem (List (Nat × Nat))).run P w = .ok ps w
  | [], ps, h => by simp [placesOf] at h; subst h; rfl
  | f :: r, ps, h => by
    simp only [placesOf] at h
    split at h
    · rename_i ti ps' h1 h2
      rw [← Option.some.inj h]
      have hs := ((T.ok _ _ h1).runInfo w).1
      have ih := run_places T w r ps' h2
      simp only [List.mapM_cons, Sem.run_bind, hs, Result.andThen, Sem.run_pure, ih]
    · cases h
theorem EL.buildS {ti : TI} {fs : Array Field} {pl : List (Nat × Nat)} {ps : Array (Nat × Operand)} {vs : List (Nat × Value)} (cells : Array Value) (hg : guardOk all E gd = some true) (hx : E.evp ps.toList = some vs) (ht : C.T.f t = some ti) (hu : ti.u = .struct fs) (hpl : placesOf C.T.f fs.toList = some pl)
    (hf : Instr.fill (fun i => pl.toArray[i]?) ti.zero.cells vs = some cells) (hd : Nat.blt d C.n = true) (k : EL C all ops Q ((d, .agg cells) :: E) H) : EL C all (⟨some d, .build t ps, ty, pos, af, gd⟩ :: ops) Q E H :=
  EL.val _ hg rfl hd (by simp) (fun a w ha => by
    have hT := (C.T.ok t ti ht)
    have hI := hT.runInfo w
    have hu' := hT.u
    rw [hu] at hu'
    have hp := run_places C.T w fs.toList pl hpl
    have hm : (ps.map fun (p : Nat × Operand) => (p.1, a.eval p.2)).toList = vs := by
      have := ha.1.evp hx
      simpa using this
    have hmA : (fs.mapM fun f => do pure (f.offset, ← sizeOf f.type) : Sem (Array (Nat × Nat))).run C.P w = .ok pl.toArray w := by
      rw [show fs = fs.toList.toArray by simp, List.mapM_toArray]
      simp only [Sem.run_map, hp, Result.andThen]
    simp only [execOp, Instr.build, Sem.run_bind, hI.2.1, Result.andThen, run_underlying hu', hmA, hm, hf, Sem.run_pure]) k
theorem EL.buildZ {ti : TI} {fs : Array Field} {pl : List (Nat × Nat)} (hg : guardOk all E gd = some true) (ht : C.T.f t = some ti) (hu : ti.u = .struct fs) (hpl : placesOf C.T.f fs.toList = some pl) (hd : Nat.blt d C.n = true)
    (k : EL C all ops Q ((d, .agg ti.zero.cells) :: E) H) : EL C all (⟨some d, .build t #[], ty, pos, af, gd⟩ :: ops) Q E H :=
  EL.buildS (vs := []) ti.zero.cells hg rfl ht hu hpl rfl hd k
theorem EL.buildZA {ti te : TI} {len : Nat} {el : TypeId} (hg : guardOk all E gd = some true) (ht : C.T.f t = some ti) (hu : ti.u = .array len el) (hte : C.T.f el = some te) (hd : Nat.blt d C.n = true)
    (k : EL C all ops Q ((d, .agg ti.zero.cells) :: E) H) : EL C all (⟨some d, .build t #[], ty, pos, af, gd⟩ :: ops) Q E H :=
  EL.val _ hg rfl hd (by simp) (fun a w ha => by
    have hT := (C.T.ok t ti ht)
    have hI := hT.runInfo w
    have hE := (C.T.ok el te hte).runInfo w
    have hu' := hT.u
    rw [hu] at hu'
    simp [execOp, Instr.build, Sem.run_bind, hI.2.1, Result.andThen, run_underlying hu', hE.1, Instr.fill]) k
/-- A field of a struct value: one cell. -/
theorem EL.field1 {ti tf : TI} {fs : Array Field} {i : Nat} {f : Field} {cs : Array Value} (hg : guardOk all E gd = some true) (hx : E.ev x = some (.agg cs)) (ht : C.T.f t = some ti) (hu : ti.u = .struct fs) (hf : fs[i]? = some f) (htf : C.T.f f.type = some tf) (hua : tf.agg = false)
    (hc : cs[f.offset]? = some v) (hd : Nat.blt d C.n = true) (k : EL C all ops Q ((d, v) :: E) H) : EL C all (⟨some d, .field t x i, ty, pos, af, gd⟩ :: ops) Q E H :=
  EL.val _ hg rfl hd (by simp) (fun a w ha => by
    have hT := (C.T.ok t ti ht).u
    rw [hu] at hT
    have hI := ((C.T.ok _ _ htf).runInfo w).2.2.2
    simp only [execOp, ha.1.ev hx, Instr.field, Sem.run_bind, run_underlying hT, Result.andThen, hf, asAgg, Sem.run_pure, Go.part, hI, hua, Bool.false_eq_true, if_false, hc]) k
theorem EL.fieldA {ti tf : TI} {fs : Array Field} {i : Nat} {f : Field} {cs : Array Value} (hg : guardOk all E gd = some true) (hx : E.ev x = some (.agg cs)) (ht : C.T.f t = some ti) (hu : ti.u = .struct fs) (hf : fs[i]? = some f) (htf : C.T.f f.type = some tf) (hua : tf.agg = true)
    (hd : Nat.blt d C.n = true) (k : EL C all ops Q ((d, .agg (cs.extract f.offset (f.offset + tf.size))) :: E) H) : EL C all (⟨some d, .field t x i, ty, pos, af, gd⟩ :: ops) Q E H :=
  EL.val _ hg rfl hd (by simp) (fun a w ha => by
    have hT := (C.T.ok t ti ht).u
    rw [hu] at hT
    have hI := ((C.T.ok _ _ htf).runInfo w)
    simp only [execOp, ha.1.ev hx, Instr.field, Sem.run_bind, run_underlying hT, Result.andThen, hf, asAgg, Sem.run_pure, Go.part, hI.2.2.2, hua, if_true, hI.1]) k
/-- An element of an array value. -/
theorem EL.indexA1 {ti te : TI} {len : Nat} {el : TypeId} {kd : IntKind} {i : Nat} {cs : Array Value} (hg : guardOk all E gd = some true) (hx : E.ev x = some (.agg cs)) (hy : E.ev y = some (.int kd (i : Nat))) (ht : C.T.f t = some ti) (hu : ti.u = .array len el) (hte : C.T.f el = some te) (hua : te.agg = false) (hsz : Nat.beq te.size 1 = true)
    (hd : Nat.blt d C.n = true) (hi : i < len) (hc : cs[i]? = some v) (k : EL C all ops Q ((d, v) :: E) H) : EL C all (⟨some d, .index t x y, ty, pos, af, gd⟩ :: ops) Q E H :=
  EL.val _ hg rfl hd (by simp) (fun a w ha => by
    have hT := (C.T.ok t ti ht).u
    rw [hu] at hT
    have hI := ((C.T.ok _ _ hte).runInfo w)
    have h1 : (0 : Int) ≤ (i : Int) ∧ (i : Int) < (len : Int) := by omega
    have hz : te.size = 1 := Nat.eq_of_beq_eq_true hsz
    simp only [execOp, ha.1.ev hx, ha.1.ev hy, Instr.index, asIntOf, Sem.run_bind, Sem.run_pure, run_underlying hT, Result.andThen, h1, and_self, if_true, hI.1, hz, Nat.mul_one, Int.toNat_natCast, Go.part, hI.2.2.2, hua, Bool.false_eq_true, if_false, hc]) k
/-- A struct or array stored over a whole block. -/
theorem run_storeAll {P : Program} {w : World} {cs : Array Value} {vs : List Value} (h : w.heap[g]? = some (.cells cs e (0, 0))) (hl : vs.length = cs.size) (h1 : ∀ u ∈ vs, u.oneCell' = true) : ∃ w', (storeCells ⟨g, 0, none⟩ vs).run P w = .ok () w' ∧ w.grownBy w' (some g) ∧ w'.heap[g]? = some (.cells vs.toArray e (0, 0)) := by
  have hr := run_storeCells_at (P := P) g 0 e vs 0 cs w h (by omega) h1
  refine ⟨_, hr, ?_, ?_⟩
  · refine ⟨rfl, rfl, rfl, by simp [World.setRow], fun k hk hne => ?_⟩
    have : k ≠ g := fun e => hne (by rw [e])
    simp [World.setRow, Array.getElem?_modify, Ne.symm this]
  · have hlt := (Array.getElem?_eq_some_iff.1 h).1
    have : cs.toList.drop (0 + 0 + vs.length) = [] := by simp [hl]
    simp [World.setRow, Array.getElem?_modify, h]
    omega
theorem EL.storeAll {ti : TI} {cs : Array Value} {vs : List Value} (hg : guardOk all E gd = some true) (hx : E.ev x = some (Pv g 0)) (hy : E.ev y = some (.agg vs.toArray)) (ht : C.T.f t = some ti) (hsz : ti.size = vs.length)
    (p : PickSet H (HA.blk g (.cells cs e (0, 0))) (HA.blk g (.cells vs.toArray e (0, 0))) H') (hl : vs.length = cs.size) (h1 : ∀ u ∈ vs, u.oneCell' = true) (k : EL C all ops Q E H') : EL C all (⟨none, .store t x y, ty, pos, af, gd⟩ :: ops) Q E H :=
  EL.unit hg rfl (by simp) (fun a w ha => by
    have hT := ((C.T.ok t ti ht).runInfo w)
    obtain ⟨R, p1, p2⟩ := p.split
    have hs1 := ha.2.perm p1
    have hb : w.heap[g]? = some (.cells cs e (0, 0)) := hs1.head
    obtain ⟨w', hr, hgr, hn⟩ := run_storeAll (P := C.P) hb hl h1
    refine ⟨w', ?_, Sat.perm (hs1.turned (A' := HA.blk g (.cells vs.toArray e (0, 0))) hgr (fun k hk => by cases hk; simp [HA.blk]) hn (fun g' hg' => ?_) (by simp [HA.blk])) p2.symm⟩
    · simp [execOp, ha.1.ev hx, ha.1.ev hy, Instr.storeAt, Instr.sureAddr, storeVar, hT.1, hsz, Value.cells, hr, Result.andThen]
    · simp only [HA.blk, List.mem_singleton] at hg'
      subst hg'
      exact ⟨(Array.getElem?_eq_some_iff.1 hn).1, .inl (by simp [HA.blk])⟩) k
theorem EL.build1 {ti : TI} {fs : Array Field} {x0 : Operand} {v0 z0 : Value} (hg : guardOk all E gd = some true) (h0 : E.ev x0 = some v0) (ht : C.T.f t = some ti) (hu : ti.u = .struct fs) (hpl : placesOf C.T.f fs.toList = some [(0, 1)]) (hz : ti.zero.cells = #[z0]) (o0 : v0.oneCell' = true)
    (hd : Nat.blt d C.n = true) (k : EL C all ops Q ((d, .agg #[v0]) :: E) H) : EL C all (⟨some d, .build t #[(0, x0)], ty, pos, af, gd⟩ :: ops) Q E H :=
  EL.buildS (vs := [(0, v0)]) #[v0] hg (by simp [Env.evp, h0]) ht hu hpl (by simp [Instr.fill, hz, cells_one o0]) hd k
theorem EL.build2 {ti : TI} {fs : Array Field} {x0 x1 : Operand} {v0 v1 z0 z1 : Value} (hg : guardOk all E gd = some true) (h0 : E.ev x0 = some v0) (h1 : E.ev x1 = some v1) (ht : C.T.f t = some ti) (hu : ti.u = .struct fs) (hpl : placesOf C.T.f fs.toList = some [(0, 1), (1, 1)]) (hz : ti.zero.cells = #[z0, z1]) (o0 : v0.oneCell' = true) (o1 : v1.oneCell' = true)
    (hd : Nat.blt d C.n = true) (k : EL C all ops Q ((d, .agg #[v0, v1]) :: E) H) : EL C all (⟨some d, .build t #[(0, x0), (1, x1)], ty, pos, af, gd⟩ :: ops) Q E H :=
  EL.buildS (vs := [(0, v0), (1, v1)]) #[v0, v1] hg (by simp [Env.evp, h0, h1]) ht hu hpl (by simp [Instr.fill, hz, cells_one o0, cells_one o1]) hd k
theorem EL.build3 {ti : TI} {fs : Array Field} {x0 x1 x2 : Operand} {v0 v1 v2 z0 z1 z2 : Value} (hg : guardOk all E gd = some true) (h0 : E.ev x0 = some v0) (h1 : E.ev x1 = some v1) (h2 : E.ev x2 = some v2) (ht : C.T.f t = some ti) (hu : ti.u = .struct fs) (hpl : placesOf C.T.f fs.toList = some [(0, 1), (1, 1), (2, 1)]) (hz : ti.zero.cells = #[z0, z1, z2]) (o0 : v0.oneCell' = true) (o1 : v1.oneCell' = true) (o2 : v2.oneCell' = true)
    (hd : Nat.blt d C.n = true) (k : EL C all ops Q ((d, .agg #[v0, v1, v2]) :: E) H) : EL C all (⟨some d, .build t #[(0, x0), (1, x1), (2, x2)], ty, pos, af, gd⟩ :: ops) Q E H :=
  EL.buildS (vs := [(0, v0), (1, v1), (2, v2)]) #[v0, v1, v2] hg (by simp [Env.evp, h0, h1, h2]) ht hu hpl (by simp [Instr.fill, hz, cells_one o0, cells_one o1, cells_one o2]) hd k
theorem EL.build4 {ti : TI} {fs : Array Field} {x0 x1 x2 x3 : Operand} {v0 v1 v2 v3 z0 z1 z2 z3 : Value} (hg : guardOk all E gd = some true) (h0 : E.ev x0 = some v0) (h1 : E.ev x1 = some v1) (h2 : E.ev x2 = some v2) (h3 : E.ev x3 = some v3) (ht : C.T.f t = some ti) (hu : ti.u = .struct fs) (hpl : placesOf C.T.f fs.toList = some [(0, 1), (1, 1), (2, 1), (3, 1)]) (hz : ti.zero.cells = #[z0, z1, z2, z3]) (o0 : v0.oneCell' = true) (o1 : v1.oneCell' = true) (o2 : v2.oneCell' = true) (o3 : v3.oneCell' = true)
    (hd : Nat.blt d C.n = true) (k : EL C all ops Q ((d, .agg #[v0, v1, v2, v3]) :: E) H) : EL C all (⟨some d, .build t #[(0, x0), (1, x1), (2, x2), (3, x3)], ty, pos, af, gd⟩ :: ops) Q E H :=
  EL.buildS (vs := [(0, v0), (1, v1), (2, v2), (3, v3)]) #[v0, v1, v2, v3] hg (by simp [Env.evp, h0, h1, h2, h3]) ht hu hpl (by simp [Instr.fill, hz, cells_one o0, cells_one o1, cells_one o2, cells_one o3]) hd k
theorem EL.build5 {ti : TI} {fs : Array Field} {x0 x1 x2 x3 x4 : Operand} {v0 v1 v2 v3 v4 z0 z1 z2 z3 z4 : Value} (hg : guardOk all E gd = some true) (h0 : E.ev x0 = some v0) (h1 : E.ev x1 = some v1) (h2 : E.ev x2 = some v2) (h3 : E.ev x3 = some v3) (h4 : E.ev x4 = some v4) (ht : C.T.f t = some ti) (hu : ti.u = .struct fs) (hpl : placesOf C.T.f fs.toList = some [(0, 1), (1, 1), (2, 1), (3, 1), (4, 1)]) (hz : ti.zero.cells = #[z0, z1, z2, z3, z4]) (o0 : v0.oneCell' = true) (o1 : v1.oneCell' = true) (o2 : v2.oneCell' = true) (o3 : v3.oneCell' = true) (o4 : v4.oneCell' = true)
    (hd : Nat.blt d C.n = true) (k : EL C all ops Q ((d, .agg #[v0, v1, v2, v3, v4]) :: E) H) : EL C all (⟨some d, .build t #[(0, x0), (1, x1), (2, x2), (3, x3), (4, x4)], ty, pos, af, gd⟩ :: ops) Q E H :=
  EL.buildS (vs := [(0, v0), (1, v1), (2, v2), (3, v3), (4, v4)]) #[v0, v1, v2, v3, v4] hg (by simp [Env.evp, h0, h1, h2, h3, h4]) ht hu hpl (by simp [Instr.fill, hz, cells_one o0, cells_one o1, cells_one o2, cells_one o3, cells_one o4]) hd k
theorem EL.build6 {ti : TI} {fs : Array Field} {x0 x1 x2 x3 x4 x5 : Operand} {v0 v1 v2 v3 v4 v5 z0 z1 z2 z3 z4 z5 : Value} (hg : guardOk all E gd = some true) (h0 : E.ev x0 = some v0) (h1 : E.ev x1 = some v1) (h2 : E.ev x2 = some v2) (h3 : E.ev x3 = some v3) (h4 : E.ev x4 = some v4) (h5 : E.ev x5 = some v5) (ht : C.T.f t = some ti) (hu : ti.u = .struct fs) (hpl : placesOf C.T.f fs.toList = some [(0, 1), (1, 1), (2, 1), (3, 1), (4, 1), (5, 1)]) (hz : ti.zero.cells = #[z0, z1, z2, z3, z4, z5]) (o0 : v0.oneCell' = true) (o1 : v1.oneCell' = true) (o2 : v2.oneCell' = true) (o3 : v3.oneCell' = true) (o4 : v4.oneCell' = true) (o5 : v5.oneCell' = true)
    (hd : Nat.blt d C.n = true) (k : EL C all ops Q ((d, .agg #[v0, v1, v2, v3, v4, v5]) :: E) H) : EL C all (⟨some d, .build t #[(0, x0), (1, x1), (2, x2), (3, x3), (4, x4), (5, x5)], ty, pos, af, gd⟩ :: ops) Q E H :=
  EL.buildS (vs := [(0, v0), (1, v1), (2, v2), (3, v3), (4, v4), (5, v5)]) #[v0, v1, v2, v3, v4, v5] hg (by simp [Env.evp, h0, h1, h2, h3, h4, h5]) ht hu hpl (by simp [Instr.fill, hz, cells_one o0, cells_one o1, cells_one o2, cells_one o3, cells_one o4, cells_one o5]) hd k
theorem EL.blkEq {o o' : Obj} (p : PickSet H (HA.blk g o) (HA.blk g o') H') (h : o = o') (k : EL C all ops Q E H') : EL C all ops Q E H := by
  subst h
  exact p.same ▸ k
theorem ES.blkEq {cds : List Code} {o o' : Obj} (p : PickSet H (HA.blk g o) (HA.blk g o') H') (h : o = o') (k : ES C cds Q E H') : ES C cds Q E H := by
  subst h
  exact p.same ▸ k
theorem map_setIf {α : Type} (f : α → Value) (l : List α) (i : Nat) (a : α) : (l.map f).toArray.setIfInBounds i (f a) = ((l.set i a).map f).toArray := by
  simp [List.map_set]
theorem map_get {α : Type} (f : α → Value) (l : List α) (i : Nat) (d0 : α) (h : i < l.length) : (l.map f).toArray[i]? = some (f (l.getD i d0)) := by
  simpa using getElem?_map f l i d0 h
/-! a call of a function that leaves nothing of its own -/
theorem EL.callP {fo : Operand} {ar : Array Operand} {tys : Array TypeId} {f : FuncId} {vs : List Value} {v : Value} (hg : guardOk all E gd = some true) (hf : E.ev fo = some (.func (.func f) #[] #[])) (ha : E.evl ar.toList = some vs)
    (he : Enters C.P f) (hd : Nat.blt d C.n = true) (hc : ∀ w, Pure C.P f vs.toArray (fun _ : Unit => v) (fun _ => []) w)
    (k : EL C all ops Q ((d, v) :: E) H) : EL C all (⟨some d, .call { callee := .value fo, args := ar, argTypes := tys }, ty, pos, af, gd⟩ :: ops) Q E H :=
  EL.call (fun _ : Unit => v) (fun _ => H) hg hf ha (by simp) he hd (fun w hs => (hc w).sat hs) (fun _ => k)
theorem EL.callP0 {fo : Operand} {ar : Array Operand} {tys : Array TypeId} {f : FuncId} {vs : List Value} {v : Value} (hg : guardOk all E gd = some true) (hf : E.ev fo = some (.func (.func f) #[] #[])) (ha : E.evl ar.toList = some vs)
    (he : Enters C.P f) (hc : ∀ w, Pure C.P f vs.toArray (fun _ : Unit => v) (fun _ => []) w)
    (k : EL C all ops Q E H) : EL C all (⟨none, .call { callee := .value fo, args := ar, argTypes := tys }, ty, pos, af, gd⟩ :: ops) Q E H :=
  EL.call0 (fun _ : Unit => v) (fun _ => H) hg hf ha (by simp) he (fun w hs => (hc w).sat hs) (fun _ => k)
/-- The same where it leaves blocks of its own, of which something is known. -/
theorem EL.callX {X : Type} {fo : Operand} {ar : Array Operand} {tys : Array TypeId} {f : FuncId} {vs : List Value} {val : X → Value} {HX : X → List HA} (hg : guardOk all E gd = some true) (hf : E.ev fo = some (.func (.func f) #[] #[])) (ha : E.evl ar.toList = some vs)
    (he : Enters C.P f) (hd : Nat.blt d C.n = true) (hc : ∀ w, Pure C.P f vs.toArray val HX w)
    (k : ∀ x, EL C all ops Q ((d, val x) :: E) (HX x ++ H)) : EL C all (⟨some d, .call { callee := .value fo, args := ar, argTypes := tys }, ty, pos, af, gd⟩ :: ops) Q E H :=
  EL.call val (fun x => HX x ++ H) hg hf ha (by simp) he hd (fun w hs => (hc w).sat hs) k
/-! cells that come of a plain list -/
theorem EL.storeBm {α : Type} (f : α → Value) {l : List α} {b : α} {ti : TI} (hg : guardOk all E gd = some true) (hx : E.ev x = some (Pv g off)) (hy : E.ev y = some (f b)) (hu : (f b).oneCell' = true) (ht : C.T.f t = some ti) (hsz : Nat.beq ti.size 1 = true)
    (p : PickSet H (HA.blk g (.cells (l.map f).toArray e (0, 0))) (HA.blk g (.cells ((l.set off b).map f).toArray e (0, 0))) H') (hi : off < l.length) (k : EL C all ops Q E H') : EL C all (⟨none, .store t x y, ty, pos, af, gd⟩ :: ops) Q E H :=
  EL.storeB hg hx hy hu ht hsz (by rw [map_setIf]; exact p) (by simpa using hi) k
theorem EL.storeRm {α : Type} (f : α → Value) {l : List α} {b : α} {ti : TI} {len cap n sz : Nat} (hg : guardOk all E gd = some true) (hx : E.ev x = some (Pv g off)) (hy : E.ev y = some (f b)) (hu : (f b).oneCell' = true) (ht : C.T.f t = some ti) (hsz : Nat.beq ti.size 1 = true)
    (p : PickSet H (HA.row (.slice (some ⟨g, 0, none⟩) len cap) e sz n (l.map f)) (HA.row (.slice (some ⟨g, 0, none⟩) len cap) e sz n ((l.set off b).map f)) H') (hi : off < l.length) (k : EL C all ops Q E H') : EL C all (⟨none, .store t x y, ty, pos, af, gd⟩ :: ops) Q E H :=
  EL.storeR hg hx hy hu ht hsz (by rw [← List.map_set]; exact p) (by simpa using hi) k
theorem EL.loadBm {α : Type} (f : α → Value) (d0 : α) {l : List α} {ti : TI} {fr : Nat × Nat} (hg : guardOk all E gd = some true) (hx : E.ev x = some (Pv g off)) (ht : C.T.f t = some ti) (hu : ti.agg = false) (hd : Nat.blt d C.n = true) (hm : Mem H (HA.blk g (.cells (l.map f).toArray e fr))) (hi : off < l.length)
    (k : EL C all ops Q ((d, f (l.getD off d0)) :: E) H) : EL C all (⟨some d, .load t x, ty, pos, af, gd⟩ :: ops) Q E H :=
  EL.loadB hg hx ht hu hd hm (map_get f l off d0 hi) k
theorem EL.loadRm {α : Type} (f : α → Value) (d0 : α) {l : List α} {ti : TI} {len cap sz n : Nat} (hg : guardOk all E gd = some true) (hx : E.ev x = some (Pv g off)) (ht : C.T.f t = some ti) (hu : ti.agg = false) (hd : Nat.blt d C.n = true) (hm : Mem H (HA.row (.slice (some ⟨g, 0, none⟩) len cap) e sz n (l.map f))) (hi : off < l.length)
    (k : EL C all ops Q ((d, f (l.getD off d0)) :: E) H) : EL C all (⟨some d, .load t x, ty, pos, af, gd⟩ :: ops) Q E H :=
  EL.loadR hg hx ht hu hd hm (getElem?_map f l off d0 hi) k
theorem getA {E : Env} {d : Nat} {v b : Value} (h : E.get d = some v) (hv : v = b) : E.get d = some b := hv ▸ h
/-! '==' of structs and arrays -/
theorem EL.eqlAgg {cs cs' : Array Value} {b : Bool} (hg : guardOk all E gd = some true) (hx : E.ev x = some (.agg cs)) (hy : E.ev y = some (.agg cs')) (hd : Nat.blt d C.n = true) (hgt : C.P.eqGuardType C.P.depth t = false) (hq : ∀ w, (Op.equal t (.agg cs) (.agg cs')).run C.P w = .ok b w)
    (k : EL C all ops Q ((d, .bool b) :: E) H) : EL C all (⟨some d, .binOp .eql t x y t', ty, pos, af, gd⟩ :: ops) Q E H :=
  EL.val _ hg rfl hd (by simp) (fun a w ha => by
    have hpr : (program).run C.P w = .ok C.P w := rfl
    simp [execOp, ha.1.ev hx, ha.1.ev hy, eqGuard, hgt, hpr, binOp, hq, Result.andThen]) k
theorem EL.neqAgg {cs cs' : Array Value} {b : Bool} (hg : guardOk all E gd = some true) (hx : E.ev x = some (.agg cs)) (hy : E.ev y = some (.agg cs')) (hd : Nat.blt d C.n = true) (hgt : C.P.eqGuardType C.P.depth t = false) (hq : ∀ w, (Op.equal t (.agg cs) (.agg cs')).run C.P w = .ok b w)
    (k : EL C all ops Q ((d, .bool (!b)) :: E) H) : EL C all (⟨some d, .binOp .neq t x y t', ty, pos, af, gd⟩ :: ops) Q E H :=
  EL.val _ hg rfl hd (by simp) (fun a w ha => by
    have hpr : (program).run C.P w = .ok C.P w := rfl
    simp [execOp, ha.1.ev hx, ha.1.ev hy, eqGuard, hgt, hpr, binOp, hq, Result.andThen]) k
theorem run_equalIn_int {P : Program} {t : Nat} {k : IntKind} (hT : P.underlying t = some (.int k)) (d : Nat) (m n : Int) (w : World) : (Op.equalIn (d + 1) t (.int k m) (.int k n)).run P w = .ok (m == n) w := by
  simp only [Op.equalIn, Sem.run_bind, run_underlying hT, Result.andThen, if_true, Sem.run_pure]
theorem forIn_range0 {β : Type} (n : Nat) (b : β) (f : Nat → β → Sem (ForInStep β)) : forIn [:n] b f = forIn (List.range' 0 n 1) b f := by
  rw [Std.Legacy.Range.forIn_eq_forIn_range']
  simp [Std.Legacy.Range.size]
/-- Arrays of integers. -/
theorem run_equal_arr {P : Program} (T : TyTab P) {t el len : Nat} {ti te : TI} {k : IntKind} (ht : T.f t = some ti) (hu : ti.u = .array len el) (hte : T.f el = some te) (hue : te.u = .int k) (hsz : te.size = 1) (xs ys : List Int) (hx : xs.length = len) (hy : ys.length = len) (w : World) :
    (Op.equal t (.agg (xs.map (.int k)).toArray) (.agg (ys.map (.int k)).toArray)).run P w = .ok (decide (xs = ys)) w := by
  have hT := (T.ok t ti ht).u
  rw [hu] at hT
  have hE := (T.ok el te hte).u
  rw [hue] at hE
  have hI := (T.ok el te hte).runInfo w
  have hag : te.agg = false := by simp [TI.agg, hue]
  have hpart : ∀ (zs : List Int) (i : Nat) (h : i < zs.length), (part el (zs.map (Value.int k)).toArray (i * 1)).run P w = .ok (.int k zs[i]) w := fun zs i h => by
    simp [part, hI.2.2.2, hag, Result.andThen, List.getElem?_eq_getElem h]
  have key : ∀ d, (Op.equalIn (d + 2) t (.agg (xs.map (.int k)).toArray) (.agg (ys.map (.int k)).toArray)).run P w = .ok (decide (xs = ys)) w := fun d => by
    rw [Op.equalIn]
    simp only [Sem.run_bind, run_underlying hT, Result.andThen, hI.1, hsz]
    have loop : ∀ (n i : Nat), i + n = len → (forIn (m := Sem) (List.range' i n 1) ((none, ()) : Option Bool × Unit) (fun i r => do
        if !(← Op.equalIn (d + 1) el (← part el (xs.map (Value.int k)).toArray (i * 1)) (← part el (ys.map (Value.int k)).toArray (i * 1))) then pure (.done (some false, ()))
        else pure (.yield (none, ())))).run P w = .ok (if xs.drop i = ys.drop i then (none, ()) else (some false, ())) w := by
      intro n
      induction n with
      | zero =>
        intro i hi
        have h1 : xs.drop i = [] := by simp; omega
        have h2 : ys.drop i = [] := by simp; omega
        simp [h1, h2]
      | succ n ih =>
        intro i hi
        have hxi : i < xs.length := by omega
        have hyi : i < ys.length := by omega
        rw [List.range'_succ, List.forIn_cons]
        simp only [Sem.run_bind, hpart xs i hxi, hpart ys i hyi, Result.andThen, run_equalIn_int hE]
        rw [List.drop_eq_getElem_cons hxi, List.drop_eq_getElem_cons hyi]
        by_cases e : xs[i] = ys[i]
        · simp only [e, beq_self_eq_true, Bool.not_true, Bool.false_eq_true, if_false, Sem.run_bind, Sem.run_pure, Result.andThen, ih (i + 1) (by omega), List.cons.injEq, true_and]
        · have : (xs[i] == ys[i]) = false := by simpa using e
          rw [if_neg (fun h => e (List.cons.inj h).1)]
          simp [this]
    have h0 := loop len 0 (by omega)
    rw [forIn_range0, h0]
    by_cases e : xs = ys <;> simp [e]
  exact key 9998
theorem run_equal_bytes {P : Program} (T : TyTab P) {t el len : Nat} {ti te : TI} (ht : T.f t = some ti) (hu : ti.u = .array len el) (hte : T.f el = some te) (hue : te.u = .int .u8) (hsz : te.size = 1) (xs ys : List UInt8) (hx : xs.length = len) (hy : ys.length = len) (w : World) :
    (Op.equal t (.agg (xs.map Uv).toArray) (.agg (ys.map Uv).toArray)).run P w = .ok (decide (xs = ys)) w := by
  have h := run_equal_arr T ht hu hte hue hsz (xs.map fun b => (b.toNat : Int)) (ys.map fun b => (b.toNat : Int)) (by simpa using hx) (by simpa using hy) w
  rw [List.map_map, List.map_map] at h
  refine h.trans ?_
  congr 1
  refine decide_eq_decide.2 ⟨fun e => ?_, fun e => by rw [e]⟩
  exact (List.map_inj_right (fun a b hab => u8_of a b hab)).1 e
/-- Structs of two integers. -/
theorem run_equal_st2 {P : Program} (T : TyTab P) {t : Nat} {ti t0 t1 : TI} {f0 f1 : Field} {k0 k1 : IntKind} (ht : T.f t = some ti) (hu : ti.u = .struct #[f0, f1]) (hst : P.stoodInHeld t = false) (h0 : T.f f0.type = some t0) (h1 : T.f f1.type = some t1) (hu0 : t0.u = .int k0) (hu1 : t1.u = .int k1)
    (hn0 : (f0.name == "_") = false) (hn1 : (f1.name == "_") = false) (ho0 : f0.offset = 0) (ho1 : f1.offset = 1) (m0 m1 n0 n1 : Int) (w : World) :
    (Op.equal t (.agg #[.int k0 m0, .int k1 m1]) (.agg #[.int k0 n0, .int k1 n1])).run P w = .ok (decide (m0 = n0) && decide (m1 = n1)) w := by
  have hT := (T.ok t ti ht).u
  rw [hu] at hT
  have hE0 := (T.ok _ _ h0).u
  rw [hu0] at hE0
  have hE1 := (T.ok _ _ h1).u
  rw [hu1] at hE1
  have hI0 := ((T.ok _ _ h0).runInfo w).2.2.2
  have hI1 := ((T.ok _ _ h1).runInfo w).2.2.2
  have hag0 : t0.agg = false := by simp [TI.agg, hu0]
  have hag1 : t1.agg = false := by simp [TI.agg, hu1]
  have hpr : (program).run P w = .ok P w := rfl
  have e0 : f0.name ≠ "_" := by simpa using hn0
  have e1 : f1.name ≠ "_" := by simpa using hn1
  have key : ∀ d, (Op.equalIn (d + 2) t (.agg #[.int k0 m0, .int k1 m1]) (.agg #[.int k0 n0, .int k1 n1])).run P w = .ok (decide (m0 = n0) && decide (m1 = n1)) w := fun d => by
    rw [Op.equalIn]
    simp only [Sem.run_bind, run_underlying hT, Result.andThen, hpr, hst, Bool.false_eq_true, if_false]
    simp only [List.forIn_toArray, List.forIn_cons, List.forIn_nil, Sem.run_bind, e0, e1, ne_eq, not_false_eq_true, if_true, Go.part, hI0, hI1, hag0, hag1, ho0, ho1, Result.andThen, Bool.false_eq_true, if_false, List.getElem?_toArray, List.getElem?_cons_zero, List.getElem?_cons_succ, Sem.run_pure, run_equalIn_int hE0, run_equalIn_int hE1]
    by_cases a0 : m0 = n0 <;> by_cases a1 : m1 = n1 <;> simp [a0, a1, Result.andThen, run_equalIn_int hE1, hI1, hag1]
  exact key 9998
end aggs
end Go.Proofs.YtgoopgnnkhpmlaaDoor.Sl
