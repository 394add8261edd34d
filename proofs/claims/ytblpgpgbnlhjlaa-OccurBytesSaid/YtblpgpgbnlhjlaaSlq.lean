/- THE BASE: maps whose keys are structs of an address and some integers, with rows as values. -/
import Derived.Test.YtblpgpgbnlhjlaaSlp
import Derived.Test.YtblpgpgbnlhjlaaSln
import Derived.LaidEql
import Derived.MapKept
import Derived.Laws.StructEq
namespace Go.Proofs.Ytblpgpgbnlhjlaa.Sl
open Go Go.RowKit
set_option linter.unusedVariables false
set_option linter.unusedSimpArgs false
/-- A key: an address, and integers. -/
structure MK where
  g : Nat
  off : Nat
  is : List Int
deriving DecidableEq
def MK.cells (k : MK) : Array Value := (Pv k.g k.off :: k.is.map fun i : Int => Iv i).toArray
abbrev MK.val (k : MK) : Value := .agg k.cells
theorem ints_inj : ∀ {is js : List Int}, is.map (fun i : Int => Iv i) = js.map (fun i : Int => Iv i) → is = js
  | [], [], _ => rfl
  | [], _ :: _, h => by simp at h
  | _ :: _, [], h => by simp at h
  | i :: is, j :: js, h => by
    simp only [List.map_cons, List.cons.injEq, Value.int.injEq, true_and] at h
    rw [h.1, ints_inj h.2]
theorem MK.val_inj {k k' : MK} (h : k.val = k'.val) : k = k' := by
  obtain ⟨g, off, is⟩ := k
  obtain ⟨g', off', is'⟩ := k'
  simp only [MK.val, MK.cells, Value.agg.injEq, List.toArray_eq_iff, List.cons.injEq, Value.pointer.injEq, Option.some.injEq, Addr.mk.injEq, and_true] at h
  obtain ⟨⟨rfl, rfl⟩, h⟩ := h
  exact congrArg (MK.mk g off) (ints_inj h)
/-- The block is a row of cells, and no string shares it. -/
def PlainAt (w : World) (g : Nat) : Prop := ∃ ca ta, w.heap[g]? = some (.cells ca ta (0, 0))
/-- Fields that are integers, behind one another. -/
def intFields (P : Program) (T : TyTab P) : Nat → List Field → Prop
  | _, [] => True
  | o, f :: fs => (∃ tj, T.f f.type = some tj ∧ tj.u = .int .i64) ∧ f.offset = o ∧ (f.name == "_") = false ∧ intFields P T (o + 1) fs
section eq
variable {P : Program} (T : TyTab P)
theorem run_eqInts (d : Nat) (w : World) : ∀ (fs : List Field) (o : Nat) (is js : List Int) (xs ys : Array Value), intFields P T o fs → is.length = fs.length → js.length = fs.length → (∀ i m, is[i]? = some m → xs[o + i]? = some (Iv m)) → (∀ i m, js[i]? = some m → ys[o + i]? = some (Iv m)) →
    (Op.eqFields (d + 1) xs ys fs).run P w = .ok (decide (is = js)) w
  | [], o, is, js, xs, ys, _, hi, hj, _, _ => by
    obtain rfl := List.eq_nil_of_length_eq_zero hi
    obtain rfl := List.eq_nil_of_length_eq_zero hj
    simp [Op.eqFields]
  | f :: fs, o, [], js, xs, ys, _, hi, _, _, _ => by simp at hi
  | f :: fs, o, _ :: _, [], xs, ys, _, _, hj, _, _ => by simp at hj
  | f :: fs, o, m :: is, n :: js, xs, ys, h, hi, hj, hx, hy => by
    obtain ⟨⟨tj, ht, hu⟩, ho, hn, hr⟩ := h
    have hE := (T.ok _ _ ht).u
    rw [hu] at hE
    have hI := ((T.ok _ _ ht).runInfo w).2.2.2
    have hag : tj.agg = false := by simp [TI.agg, hu]
    have hnm : f.name ≠ "_" := by simpa using hn
    have h1 := hx 0 m rfl
    have h2 := hy 0 n rfl
    rw [Nat.add_zero] at h1 h2
    have ih := run_eqInts d w fs (o + 1) is js xs ys hr (by simpa using hi) (by simpa using hj) (fun i m' hm => by rw [show o + 1 + i = o + (i + 1) by omega]; exact hx (i + 1) m' hm) (fun i m' hm => by rw [show o + 1 + i = o + (i + 1) by omega]; exact hy (i + 1) m' hm)
    rw [Op.eqFields, if_pos hnm]
    simp only [Go.part, Sem.run_bind, hI, hag, ho, h1, h2, Result.andThen, Bool.false_eq_true, if_false, Sem.run_pure, run_equalIn_int hE]
    by_cases e : m = n
    · subst e
      simp [ih]
    · simp [e]
/-- Keys are equal just where they are one. -/
theorem run_equal_key {t : Nat} {ti t0 te : TI} {f0 : Field} {fs : List Field} {el : Nat} (ht : T.f t = some ti) (hu : ti.u = .struct (f0 :: fs).toArray) (hst : P.stoodInHeld t = false) (h0 : T.f f0.type = some t0) (hu0 : t0.u = .pointer el) (hte : T.f el = some te) (hez : te.size ≠ 0)
    (ho0 : f0.offset = 0) (hn0 : (f0.name == "_") = false) (hfs : intFields P T 1 fs) (k k' : MK) (hk : k.is.length = fs.length) (hk' : k'.is.length = fs.length) (w : World) (hp : PlainAt w k.g) (hp' : PlainAt w k'.g) :
    (Op.equal t k.val k'.val).run P w = .ok (decide (k = k')) w := by
  have hT := (T.ok t ti ht).u
  rw [hu] at hT
  have hfo : P.fieldsOf t = (f0 :: fs).toArray := by unfold Program.fieldsOf; rw [hT]
  have hE := (T.ok _ _ h0).u
  rw [hu0] at hE
  have hI := ((T.ok _ _ h0).runInfo w).2.2.2
  have hag : t0.agg = false := by simp [TI.agg, hu0]
  have hnm : f0.name ≠ "_" := by simpa using hn0
  have hsz := ((T.ok _ _ hte).runInfo w).1
  have hints := fun d => run_eqInts T d w fs 1 k.is k'.is k.cells k'.cells hfs hk hk' (fun i m hm => by rw [Nat.add_comm]; simp [MK.cells, hm]) (fun i m hm => by rw [Nat.add_comm]; simp [MK.cells, hm])
  have key : ∀ d, (Op.equalIn (d + 2) t k.val k'.val).run P w = .ok (decide (k = k')) w := fun d => by
    rw [run_equalIn_struct w (d + 1) t _ _ (by rw [hfo]; exact hT) hst, hfo]
    rw [Op.eqFields, if_pos hnm]
    have c1 : k.cells[0]? = some (Pv k.g k.off) := by simp [MK.cells]
    have c2 : k'.cells[0]? = some (Pv k'.g k'.off) := by simp [MK.cells]
    have hptr : (Op.equalIn (d + 1) f0.type (Pv k.g k.off) (Pv k'.g k'.off)).run P w = .ok (decide (k.g = k'.g ∧ k.off = k'.off)) w := by
      obtain ⟨ca, ta, ha⟩ := hp
      obtain ⟨cb, tb, hb⟩ := hp'
      by_cases e : k.g = k'.g ∧ k.off = k'.off
      · rw [e.1, e.2]
        simp [Op.equalIn, run_underlying hE, hsz, hez, run_sameAddr_same, Result.andThen]
      · have hne : (⟨k.g, k.off, none⟩ : Addr) ≠ ⟨k'.g, k'.off, none⟩ := by
          intro h; simp only [Addr.mk.injEq, and_true] at h; exact e h
        simp [Op.equalIn, run_underlying hE, hsz, hez, run_sameAddr_other w hne ha hb, Result.andThen, e]
    simp only [Go.part, Sem.run_bind, hI, hag, ho0, c1, c2, Result.andThen, Bool.false_eq_true, if_false, Sem.run_pure, hptr, Sem.run_ite, hints d]
    obtain ⟨g, off, is⟩ := k
    obtain ⟨g', off', is'⟩ := k'
    by_cases e : g = g' ∧ off = off'
    · simp [e]
    · simp only [e, decide_false, Bool.not_false, if_true, MK.mk.injEq]
      congr 1
      rw [eq_comm, decide_eq_false_iff_not]
      exact fun h => e ⟨h.1, h.2.1⟩
  exact key 9998
theorem run_check_one {n t : Nat} {d : TypeDesc} {e : Bool} (hT : P.underlying t = some d) (hd : (∃ el, d = .pointer el) ∨ ∃ q, d = .int q) (v : Value) (w : World) : (Instr.checkKey e (n + 1) t v).run P w = .ok () w := by
  rcases hd with ⟨el, rfl⟩ | ⟨q, rfl⟩
  · simp [Instr.checkKey, run_underlying hT, Result.andThen]
  · simp [Instr.checkKey, run_underlying hT, Result.andThen]
theorem run_check_ints (e : Bool) (n m : Nat) (hnm : n = m + 1) (w : World) (cs : Array Value) : ∀ (fs : List Field) (o : Nat), intFields P T o fs → (o + fs.length ≤ cs.size) →
    (forIn fs PUnit.unit (fun f (_ : PUnit) => if f.name ≠ "_" then (do let v ← part f.type cs f.offset; Instr.checkKey e n f.type v; pure (ForInStep.yield PUnit.unit)) else pure (ForInStep.yield PUnit.unit)) : Sem PUnit).run P w = .ok PUnit.unit w
  | [], o, _, _ => by simp
  | f :: fs, o, h, hl => by
    obtain ⟨⟨tj, ht, hu⟩, ho, hn, hr⟩ := h
    have hE := (T.ok _ _ ht).u
    have hI := ((T.ok _ _ ht).runInfo w).2.2.2
    have hag : tj.agg = false := by simp [TI.agg, hu]
    have hnm' : f.name ≠ "_" := by simpa using hn
    simp only [List.length_cons] at hl
    have hg : cs[o]? = some cs[o] := Array.getElem?_eq_getElem (by omega)
    have ih := run_check_ints e n m hnm w cs fs (o + 1) hr (by omega)
    have hc := run_check_one (P := P) (n := m) (e := e) hE (.inr ⟨_, hu⟩) cs[o] w
    rw [← hnm] at hc
    rw [List.forIn_cons]
    simp only [if_pos hnm', Sem.run_bind, Go.part, hI, hag, ho, hg, Result.andThen, Bool.false_eq_true, if_false, Sem.run_pure, hc]
    exact ih
theorem run_check_key {e : Bool} {t : Nat} {ti t0 : TI} {f0 : Field} {fs : List Field} {el : Nat} (ht : T.f t = some ti) (hu : ti.u = .struct (f0 :: fs).toArray) (h0 : T.f f0.type = some t0) (hu0 : t0.u = .pointer el) (ho0 : f0.offset = 0) (hfs : intFields P T 1 fs) (k : MK) (hk : k.is.length = fs.length) (w : World) :
    (Instr.checkKey e 10000 t k.val).run P w = .ok () w := by
  have hT := (T.ok t ti ht).u
  rw [hu] at hT
  have hE := (T.ok _ _ h0).u
  rw [hu0] at hE
  have hI := ((T.ok _ _ h0).runInfo w).2.2.2
  have hag : t0.agg = false := by simp [TI.agg, hu0]
  have c1 : k.cells[0]? = some (Pv k.g k.off) := by simp [MK.cells]
  have hi := run_check_ints T e 9999 9998 rfl w k.cells fs 1 hfs (by simp [MK.cells, hk]; omega)
  rw [Instr.checkKey]
  simp only [Sem.run_bind, run_underlying hT, Result.andThen, List.forIn_toArray]
  rw [List.forIn_cons]
  have hc := run_check_one (P := P) (n := 9998) (e := e) hE (.inl ⟨_, rfl⟩) (Pv k.g k.off) w
  have hpart : (Go.part f0.type k.cells f0.offset).run P w = .ok (Pv k.g k.off) w := by
    simp only [Go.part, Sem.run_bind, hI, hag, ho0, c1, Result.andThen, Bool.false_eq_true, if_false, Sem.run_pure]
  have hfin := congrArg (fun r : Result PUnit => match r with | .ok _ w => Result.ok () w | .halt h w => Result.halt h w) hi
  by_cases hnm : f0.name ≠ "_"
  · simp only [if_pos hnm, Sem.run_bind, hpart, Result.andThen, Sem.run_pure, hc]
    rw [hi]
  · simp only [if_neg hnm, Sem.run_bind, Sem.run_pure, Result.andThen]
    rw [hi]
def findE (k : MK) : List (MK × Value) → Nat → Option (Nat × Value)
  | [], _ => none
  | (k', v) :: r, i => if k = k' then some (i, v) else findE k r (i + 1)
theorem run_findAsking (kt : Nat) (k : MK) (w : World) : ∀ (es : List MapEntry) (ps : List (MK × Value)) (i : Nat), es.map (fun x => (x.key, x.val)) = ps.map (fun p => (p.1.val, p.2)) → (∀ p ∈ ps, (Op.equal kt k.val p.1.val).run P w = .ok (decide (k = p.1)) w) →
    (Instr.findAsking kt k.val es i).run P w = .ok (findE k ps i) w
  | [], [], i, _, _ => by simp [Instr.findAsking, findE]
  | [], _ :: _, i, h, _ => by simp at h
  | _ :: _, [], i, h, _ => by simp at h
  | e :: es, (k', v) :: ps, i, h, he => by
    simp only [List.map_cons, List.cons.injEq, Prod.mk.injEq] at h
    obtain ⟨⟨h1, h2⟩, h3⟩ := h
    have h4 := he (k', v) (by simp)
    have ih := run_findAsking kt k w es ps (i + 1) h3 (fun p hp => he p (by simp [hp]))
    rw [Instr.findAsking, findE]
    simp only [Sem.run_bind, h1, h4, Result.andThen, h2, Sem.run_ite, Sem.run_pure, ih]
    by_cases e : k = k' <;> simp [e]
theorem run_findKey_k {kt : Nat} {fs : Array Field} (hT : P.underlying kt = some (.struct fs)) (k : MK) (w : World) (es : List MapEntry) (ps : List (MK × Value)) (h : es.map (fun x => (x.key, x.val)) = ps.map (fun p => (p.1.val, p.2))) (he : ∀ p ∈ ps, (Op.equal kt k.val p.1.val).run P w = .ok (decide (k = p.1)) w) :
    (Instr.findKey kt k.val es).run P w = .ok (findE k ps 0) w := by
  unfold Instr.findKey
  cases es with
  | nil =>
    cases ps with
    | nil => simp [run_underlying hT, Result.andThen, Instr.findNow, findE]
    | cons p ps => simp at h
  | cons e es =>
    simp only [Sem.run_bind, run_underlying hT, Result.andThen, Instr.findNow, Instr.sameNow]
    exact run_findAsking kt k w _ _ 0 h he
end eq
/-- The type of a key: a struct of an address and n integers. -/
def KeyTy (P : Program) (T : TyTab P) (kt n : Nat) : Prop := ∃ ti t0 te f0 fs el, T.f kt = some ti ∧ ti.u = .struct (f0 :: fs).toArray ∧ P.stoodInHeld kt = false ∧ T.f f0.type = some t0 ∧ t0.u = .pointer el ∧ T.f el = some te ∧ te.size ≠ 0 ∧ f0.offset = 0 ∧ (f0.name == "_") = false ∧ intFields P T 1 fs ∧ fs.length = n
/-- An entry: its key, its row. -/
structure ME where
  key : MK
  val : Value
  cells : List Value
def memoGet (k : MK) (es : List ME) : Option ME := es.find? fun m => decide (k = m.key)
theorem findE_get (k : MK) : ∀ (es : List ME) (i : Nat), (findE k (es.map fun m => (m.key, m.val)) i).map Prod.snd = (memoGet k es).map ME.val
  | [], i => rfl
  | m :: es, i => by
    simp only [List.map_cons, findE, memoGet, List.find?_cons]
    by_cases e : k = m.key
    · simp [e]
    · simp only [e, if_false, decide_false]
      exact findE_get k es (i + 1)
theorem findE_none (k : MK) : ∀ (es : List ME) (i : Nat), memoGet k es = none → findE k (es.map fun m => (m.key, m.val)) i = none
  | [], i, _ => rfl
  | m :: es, i, h => by
    simp only [memoGet, List.find?_cons] at h
    simp only [List.map_cons, findE]
    by_cases e : k = m.key
    · simp [e] at h
    · simp only [e, decide_false] at h
      rw [if_neg e]
      exact findE_none k es (i + 1) h
def HA.rowsOf (e : Nat) (es : List ME) : HA := ⟨es.flatMap fun m => m.val.ownBlock.toList, fun w => ∀ m ∈ es, w.ownsRow 0 e 1 m.val m.cells.length m.cells, fun w w' h hw m hm => ownsRow_loc (fun g hg => h g (List.mem_flatMap.2 ⟨m, hm, hg⟩)) (hw m hm)⟩
/-- The block is a map with these entries. -/
def mapAt (w : World) (gm : Nat) (ps : List (MK × Value)) : Prop := ∃ ents clock, w.heap[gm]? = some (.map ents clock) ∧ ents.toList.map (fun x => (x.key, x.val)) = ps.map fun p => (p.1.val, p.2)
abbrev pairsOf (es : List ME) : List (MK × Value) := es.map fun m => (m.key, m.val)
/-- A map whose values are rows that it owns. -/
def HA.memo (gm e : Nat) (es : List ME) : HA := ⟨gm :: es.flatMap fun m => m.val.ownBlock.toList, fun w => mapAt w gm (pairsOf es) ∧ ∀ m ∈ es, w.ownsRow 0 e 1 m.val m.cells.length m.cells, fun w w' h hw => by
  obtain ⟨⟨ents, clock, h1, h2⟩, h3⟩ := hw
  exact ⟨⟨ents, clock, (h gm (by simp)).trans h1, h2⟩, fun m hm => ownsRow_loc (fun g hg => h g (List.mem_cons_of_mem _ (List.mem_flatMap.2 ⟨m, hm, hg⟩))) (h3 m hm)⟩⟩
theorem Sat.rules {w0 w : World} {B : Nat} {Hs Hs' R : List HA} (h : Sat w0 B (Hs ++ R) w) (hf : (fps Hs).Perm (fps Hs')) (hA : (∀ X ∈ Hs, X.holds w) → ∀ Y ∈ Hs', Y.holds w) : Sat w0 B (Hs' ++ R) w := by
  have hp : (fps (Hs ++ R)).Perm (fps (Hs' ++ R)) := by rw [fps_append, fps_append]; exact hf.append_right _
  refine ⟨h.below, h.base, hp.nodup_iff.1 h.nodup, fun g hg => h.lo g (hp.mem_iff.2 hg), fun X hX => ?_⟩
  rcases List.mem_append.1 hX with hX | hX
  · exact hA (fun Y hY => h.all Y (by simp [hY])) X hX
  · exact h.all X (by simp [hX])
theorem Sat.memo0 {w0 w : World} {B gm clock : Nat} {R : List HA} (e : Nat) (h : Sat w0 B (HA.blk gm (.map #[] clock) :: R) w) : Sat w0 B (HA.memo gm e [] :: R) w :=
  Sat.rules (Hs := [HA.blk gm (.map #[] clock)]) (Hs' := [HA.memo gm e []]) h (by simp [fps, HA.memo, HA.blk]) (fun hh Y hY => by
    rw [List.mem_singleton] at hY
    subst hY
    exact ⟨⟨#[], clock, hh _ List.mem_cons_self, rfl⟩, fun m hm => by simp at hm⟩)
/-- From here on what is owned is old memory. -/
theorem wps_B (C : Cx) (w1 : World) (B1 : Nat) (Q : Qt) : ∀ cs, wps { C with w0 := w1, B := B1 } cs Q = wps C cs Q
  | [] => rfl
  | c :: cs => by simp only [wps, wps_B C w1 B1 Q cs]
theorem ES.rebase {C : Cx} {cs : List Code} {Q : Qt} {E : Env} {H : List HA} (h : ∀ w1, Sat C.w0 C.B H w1 → ES { C with w0 := w1, B := w1.heap.size } cs Q E []) : ES C cs Q E H := fun a w ha => by
  have h1 := h w ha.2 a w ⟨ha.1, Sat.start w⟩
  rw [wps_B] at h1
  exact h1
section maps
variable {C : Cx} {all : Array Oper} {ops : List Oper} {Q : Qt} {E : Env} {H H' R : List HA} {d ty t t' : Nat} {pos : String} {af : Array Edge} {gd : Option (Nat × Bool)} {x y z : Operand}
def memoV (o : Option ME) : Value := match o with
  | some m => .tuple #[m.val, .bool true]
  | none => .tuple #[.slice none 0 0, .bool false]
theorem run_equal_ty {P : Program} {T : TyTab P} {kt n : Nat} (hk : KeyTy P T kt n) {k k' : MK} (h1 : k.is.length = n) (h2 : k'.is.length = n) (w : World) (p1 : PlainAt w k.g) (p2 : PlainAt w k'.g) : (Op.equal kt k.val k'.val).run P w = .ok (decide (k = k')) w := by
  obtain ⟨ti, t0, te, f0, fs, el, a1, a2, a3, a4, a5, a6, a7, a8, a9, a10, a11⟩ := hk
  exact run_equal_key T a1 a2 a3 a4 a5 a6 a7 a8 a9 a10 k k' (h1.trans a11.symm) (h2.trans a11.symm) w p1 p2
theorem run_check_ty {P : Program} {T : TyTab P} {kt n : Nat} (hk : KeyTy P T kt n) {k : MK} (e : Bool) (h1 : k.is.length = n) (w : World) : (Instr.checkKey e 10000 kt k.val).run P w = .ok () w := by
  obtain ⟨ti, t0, te, f0, fs, el, a1, a2, a3, a4, a5, a6, a7, a8, a9, a10, a11⟩ := hk
  exact run_check_key T a1 a2 a4 a5 a8 a10 k (h1.trans a11.symm) w
theorem run_find_ty {P : Program} {T : TyTab P} {kt n : Nat} (hk : KeyTy P T kt n) {k : MK} (h1 : k.is.length = n) (w : World) (p1 : PlainAt w k.g) (es : List MapEntry) (ps : List (MK × Value)) (h : es.map (fun x => (x.key, x.val)) = ps.map (fun p => (p.1.val, p.2))) (he : ∀ p ∈ ps, p.1.is.length = n ∧ PlainAt w p.1.g) :
    (Instr.findKey kt k.val es).run P w = .ok (findE k ps 0) w := by
  have hk' := hk
  obtain ⟨ti, t0, te, f0, fs, el, a1, a2, a3, a4, a5, a6, a7, a8, a9, a10, a11⟩ := hk
  have hT := (T.ok kt ti a1).u
  rw [a2] at hT
  exact run_findKey_k hT k w es ps h (fun p hp => run_equal_ty hk' h1 (he p hp).1 w p1 (he p hp).2)
theorem RV.lookupM {gm e kt el n : Nat} {ti te : TI} {k : MK} {es : List ME} (hx : E.ev x = some (.map (some gm))) (hy : E.ev y = some k.val) (ht : C.T.f t = some ti) (hu : ti.u = .map kt el) (hel : C.T.f el = some te) (hz : te.zero = .slice none 0 0) (hkt : KeyTy C.P C.T kt n) (hm : Mem H (HA.memo gm e es)) (hk : k.is.length = n)
    (hl : ∀ m ∈ es, m.key.is.length = n) (hpl : ∀ w, Sat C.w0 C.B H w → PlainAt w k.g ∧ ∀ m ∈ es, PlainAt w m.key.g) : RunV C E H ⟨some d, .lookup t x y true, ty, pos, af, gd⟩ (memoV (memoGet k es)) := fun a w ha => by
  obtain ⟨⟨ents, clock, hb, hents⟩, _⟩ : mapAt w gm (pairsOf es) ∧ _ := ha.2.all _ hm.mem
  obtain ⟨p1, p2⟩ := hpl w ha.2
  have hT := (C.T.ok t ti ht).u
  rw [hu] at hT
  have hzz := ((C.T.ok el te hel).runInfo w).2.1
  rw [hz] at hzz
  have hfind := run_find_ty hkt hk w p1 ents.toList (pairsOf es) hents (fun p hp => by
    obtain ⟨m, hm, rfl⟩ := List.mem_map.1 hp
    exact ⟨hl m hm, p2 m hm⟩)
  have hg := findE_get k es 0
  have hlook : (Instr.lookup t (.map (some gm)) k.val true).run C.P w = .ok (memoV (memoGet k es)) w := by
    simp only [Instr.lookup, Sem.run_bind, run_underlying hT, Result.andThen, MapKept.run_getObj_map hb, Sem.run_pure, run_check_ty hkt _ hk w, hfind]
    revert hg
    cases findE k (pairsOf es) 0 with
    | none =>
      intro hg
      cases hmg : memoGet k es with
      | none => simp [hzz, memoV, Result.andThen]
      | some m => rw [hmg] at hg; simp at hg
    | some q =>
      obtain ⟨i, v⟩ := q
      intro hg
      cases hmg : memoGet k es with
      | none => rw [hmg] at hg; simp at hg
      | some m =>
        rw [hmg] at hg
        simp only [Option.map_some, Option.some.injEq] at hg
        simp [memoV, hg, Result.andThen]
  simp only [execOp, ha.1.ev hx, ha.1.ev hy, Sem.run_bind, hlook, Result.andThen, Sem.run_pure]
theorem RV.shlI {kd : IntKind} {n s : Nat} (hx : E.ev x = some (Iv (n : Nat))) (hy : E.ev y = some (.int kd (s : Nat))) (hs : s < 62) (hb : n * 2 ^ s ≤ 4611686018427387904) : RunV C E H ⟨some d, .binOp .shl t x y ty, t', pos, af, gd⟩ (Iv ((n * 2 ^ s : Nat) : Int)) := fun ac w ha => by
  have h1 : min s 64 = s := by omega
  have h3 : ¬ ((s : Int) < 0) := by omega
  have hw : IntKind.i64.wrap ((n : Int) * 2 ^ s) = ((n * 2 ^ s : Nat) : Int) := by
    have e : (n : Int) * 2 ^ s = ((n * 2 ^ s : Nat) : Int) := by simp
    rw [e]
    exact wrap_i64 _ (by omega) (by omega)
  simp [execOp, ha.1.ev hx, ha.1.ev hy, eqGuard, binOp, Op.shift, h3, IntKind.bits, h1, hw, Result.andThen]
theorem RV.lookupHit {gm e kt el n : Nat} {ti te : TI} {k : MK} {es : List ME} {m : ME} (hx : E.ev x = some (.map (some gm))) (hy : E.ev y = some k.val) (ht : C.T.f t = some ti) (hu : ti.u = .map kt el) (hel : C.T.f el = some te) (hz : te.zero = .slice none 0 0) (hkt : KeyTy C.P C.T kt n) (hm : Mem H (HA.memo gm e es)) (hk : k.is.length = n)
    (hl : ∀ m ∈ es, m.key.is.length = n) (hpl : ∀ w, Sat C.w0 C.B H w → PlainAt w k.g ∧ ∀ m ∈ es, PlainAt w m.key.g) (hg : memoGet k es = some m) : RunV C E H ⟨some d, .lookup t x y true, ty, pos, af, gd⟩ (.tuple #[m.val, .bool true]) := by
  have h := RV.lookupM (C := C) (E := E) (H := H) (d := d) (ty := ty) (pos := pos) (af := af) (gd := gd) hx hy ht hu hel hz hkt hm hk hl hpl
  rw [hg] at h; exact h
theorem RV.lookupMiss {gm e kt el n : Nat} {ti te : TI} {k : MK} {es : List ME} (hx : E.ev x = some (.map (some gm))) (hy : E.ev y = some k.val) (ht : C.T.f t = some ti) (hu : ti.u = .map kt el) (hel : C.T.f el = some te) (hz : te.zero = .slice none 0 0) (hkt : KeyTy C.P C.T kt n) (hm : Mem H (HA.memo gm e es)) (hk : k.is.length = n)
    (hl : ∀ m ∈ es, m.key.is.length = n) (hpl : ∀ w, Sat C.w0 C.B H w → PlainAt w k.g ∧ ∀ m ∈ es, PlainAt w m.key.g) (hg : memoGet k es = none) : RunV C E H ⟨some d, .lookup t x y true, ty, pos, af, gd⟩ (.tuple #[.slice none 0 0, .bool false]) := by
  have h := RV.lookupM (C := C) (E := E) (H := H) (d := d) (ty := ty) (pos := pos) (af := af) (gd := gd) hx hy ht hu hel hz hkt hm hk hl hpl
  rw [hg] at h; exact h
theorem RV.loadOldA {ti : TI} {g off j : Nat} {cs vs : List Value} (hx : E.ev x = some (Pv g (off + j))) (ht : C.T.f t = some ti) (hu : ti.agg = true) (hl : ti.size = vs.length) (hpos : 0 < vs.length) (hr : Rd C.w0 C.B (some ⟨g, off, none⟩) cs) (hc : ∀ i u, vs[i]? = some u → cs[j + i]? = some u) : RunV C E H ⟨some d, .load t x, ty, pos, af, gd⟩ (.agg vs.toArray) :=
  RV.loadAgg (cs := vs) hx ht hu hl (fun w hs i u hi => by
    have hci := hc i u hi
    have hne : cs ≠ [] := fun e => by rw [e] at hci; simp at hci
    obtain ⟨g', off', h1, h2, h3⟩ := hr.sat hs hne
    simp only [Option.some.injEq, Addr.mk.injEq] at h1
    obtain ⟨rfl, rfl, _⟩ := h1
    have := h3 (j + i) u hci
    rw [add_n, Nat.add_assoc]
    exact this)
theorem RV.loadMemo {gm e len cap : Nat} {ti : TI} {g off : Nat} {v : Value} {es : List ME} {m : ME} (hx : E.ev x = some (Pv g off)) (ht : C.T.f t = some ti) (hu : ti.agg = false) (hm : Mem H (HA.memo gm e es)) (hme : m ∈ es) (hv : m.val = .slice (some ⟨g, 0, none⟩) len cap) (hc : m.cells[off]? = some v) : RunV C E H ⟨some d, .load t x, ty, pos, af, gd⟩ v :=
  RV.load hx ht hu (fun w hs => by
    obtain ⟨_, h2⟩ : mapAt w gm (pairsOf es) ∧ _ := hs.all _ hm.mem
    have h3 := h2 m hme
    rw [hv] at h3
    exact row_cell h3 off v hc)
theorem EL.makeMap (e : Nat) (hg : guardOk all E gd = some true) (hd : Nat.blt d C.n = true) (k : ∀ g, EL C all ops Q ((d, .map (some g)) :: E) (HA.memo g e [] :: H)) : EL C all (⟨some d, .makeMap t none, ty, pos, af, gd⟩ :: ops) Q E H := by
  intro a w ha
  simp only [wpListIn, guardOk_wanted (o := ⟨some d, .makeMap t none, ty, pos, af, gd⟩) hg ha.1, if_true]
  refine ⟨fun _ _ => trivial, ?_⟩
  rw [sem_plain (by simp)]
  have hr : (execOp a.eval ⟨some d, .makeMap t none, ty, pos, af, gd⟩).run C.P w = .ok (.value (.map (some w.heap.size))) (w.alloc (.map #[] 0)) := by
    simp [execOp, Instr.makeMap, newObj, Result.andThen]
    rfl
  rw [hr]
  exact k w.heap.size _ _ ⟨ha.1.put (by simpa using hd) _, Sat.memo0 e (ha.2.alloc _)⟩
theorem Sat.memoSet {w0 w : World} {B gm e len clock : Nat} {ents : Array MapEntry} {k : MK} {v : Value} {cells : List Value} {es : List ME} {R : List HA} (h : Sat w0 B (HA.memo gm e es :: HA.row v e 1 len cells :: R) w) (hb : w.heap[gm]? = some (.map ents clock)) (hents : ents.toList.map (fun x => (x.key, x.val)) = (pairsOf es).map fun p => (p.1.val, p.2)) (hlen : len = cells.length) :
    Sat w0 B (HA.memo gm e (es ++ [⟨k, v, cells⟩]) :: R) (w.putObj gm (.map (ents.push { key := k.val, val := v, born := clock }) (clock + 1))) := by
  subst hlen
  have h1 : Sat w0 B ([HA.blk gm (.map ents clock), HA.rowsOf e es, HA.row v e 1 cells.length cells] ++ R) w :=
    Sat.rules (Hs := [HA.memo gm e es, HA.row v e 1 cells.length cells]) h (by simp [fps, HA.memo, HA.blk, HA.rowsOf, HA.row]) (fun hh Y hY => by
      simp only [List.mem_cons, List.not_mem_nil, or_false] at hY
      rcases hY with rfl | rfl | rfl
      · exact hb
      · exact (hh (HA.memo gm e es) (by simp)).2
      · exact hh _ (by simp))
  have h2 := Sat.putObj (.map (ents.push { key := k.val, val := v, born := clock }) (clock + 1)) h1
  refine Sat.rules (Hs := [HA.blk gm (.map (ents.push { key := k.val, val := v, born := clock }) (clock + 1)), HA.rowsOf e es, HA.row v e 1 cells.length cells]) (Hs' := [HA.memo gm e (es ++ [⟨k, v, cells⟩])]) h2 (by simp [fps, HA.memo, HA.blk, HA.rowsOf, HA.row]) (fun hh Y hY => ?_)
  rw [List.mem_singleton] at hY
  subst hY
  refine ⟨⟨_, _, hh _ List.mem_cons_self, by simp [pairsOf] at hents ⊢; exact hents⟩, fun m hm => ?_⟩
  rcases List.mem_append.1 hm with hm | hm
  · exact hh (HA.rowsOf e es) (by simp) m hm
  · rw [List.mem_singleton] at hm
    subst hm
    exact hh (HA.row v e 1 cells.length cells) (by simp)
theorem EL.mapSet {gm e kt el n len : Nat} {ti : TI} {k : MK} {v : Value} {cells : List Value} {es : List ME} (hg : guardOk all E gd = some true) (hx : E.ev x = some (.map (some gm))) (hy : E.ev y = some k.val) (hv : E.ev z = some v) (ht : C.T.f t = some ti) (hu : ti.u = .map kt el) (hkt : KeyTy C.P C.T kt n) (hk : k.is.length = n)
    (hl : ∀ m ∈ es, m.key.is.length = n) (hpl : ∀ w, Sat C.w0 C.B H w → PlainAt w k.g ∧ ∀ m ∈ es, PlainAt w m.key.g) (hnew : memoGet k es = none) (tk : Takes H [HA.memo gm e es, HA.row v e 1 len cells] R) (hlen : len = cells.length)
    (kk : EL C all ops Q E (HA.memo gm e (es ++ [⟨k, v, cells⟩]) :: R)) : EL C all (⟨none, .mapUpdate t x y z, ty, pos, af, gd⟩ :: ops) Q E H :=
  EL.unit hg rfl (by simp) (fun a w ha => by
    have hs := ha.2.perm tk.perm
    obtain ⟨⟨ents, clock, hb, hents⟩, _⟩ : mapAt w gm (pairsOf es) ∧ _ := hs.head
    obtain ⟨p1, p2⟩ := hpl w ha.2
    have hT := (C.T.ok t ti ht).u
    rw [hu] at hT
    have hfind := run_find_ty hkt hk w p1 ents.toList (pairsOf es) hents (fun p hp => by
      obtain ⟨m, hm, rfl⟩ := List.mem_map.1 hp
      exact ⟨hl m hm, p2 m hm⟩)
    rw [findE_none k es 0 hnew] at hfind
    refine ⟨_, ?_, Sat.memoSet (k := k) hs hb hents hlen⟩
    have hup : (Instr.mapUpdate t (.map (some gm)) k.val v).run C.P w = .ok () (w.putObj gm (.map (ents.push { key := k.val, val := v, born := clock }) (clock + 1))) := by
      simp only [Instr.mapUpdate, Sem.run_bind, run_underlying hT, Result.andThen, MapKept.run_getObj_map hb, run_check_ty hkt _ hk w, hfind, MapKept.run_setObj_map _ hb]
      rfl
    simp only [execOp, ha.1.ev hx, ha.1.ev hy, ha.1.ev hv, Sem.run_bind, hup, Result.andThen, Sem.run_pure]) kk
end maps
end Go.Proofs.Ytblpgpgbnlhjlaa.Sl
