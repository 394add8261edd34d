/- THE BASE: structs within rows and blocks; cuts of slices. -/
import Derived.Test.YtblpgpgbnlhjlaaSlm
namespace Go.Proofs.Ytblpgpgbnlhjlaa.Sl
open Go Go.RowKit
set_option linter.unusedVariables false
set_option linter.unusedSimpArgs false
def putAt (cs : List Value) (off : Nat) (vs : List Value) : List Value := cs.take off ++ vs ++ cs.drop (off + vs.length)
theorem putAt_len (cs : List Value) (off : Nat) (vs : List Value) (h : off + vs.length ≤ cs.length) : (putAt cs off vs).length = cs.length := by
  simp only [putAt, List.length_append, List.length_take, List.length_drop]; omega
section n
variable {C : Cx} {all : Array Oper} {ops : List Oper} {Q : Qt} {E : Env} {H H' R : List HA} {d ty t g off e : Nat} {pos : String} {af : Array Edge} {gd : Option (Nat × Bool)} {x y z : Operand} {v u : Value}
theorem setRow_grown (w : World) (g : Nat) (cs : Array Value) : w.grownBy (w.setRow g cs) (some g) :=
  ⟨rfl, rfl, rfl, by simp [World.setRow], fun k hk hne => by
    have : k ≠ g := fun e => hne (by rw [e])
    simp [World.setRow, Array.getElem?_modify, Ne.symm this]⟩
theorem setRow_get {w : World} {g : Nat} {cs cur : Array Value} {e : Nat} (h : w.heap[g]? = some (.cells cur e (0, 0))) : (w.setRow g cs).heap[g]? = some (.cells cs e (0, 0)) := by
  have hlt := (Array.getElem?_eq_some_iff.1 h).1
  simp [World.setRow, Array.getElem?_modify, h]
theorem run_put {P : Program} {w : World} {cs : Array Value} {vs : List Value} (h : w.heap[g]? = some (.cells cs e (0, 0))) (hl : off + vs.length ≤ cs.size) (h1 : ∀ u ∈ vs, u.oneCell' = true) :
    (storeCells ⟨g, off, none⟩ vs).run P w = .ok () (w.setRow g (putAt cs.toList off vs).toArray) := by
  have := run_storeCells_at (P := P) g off e vs 0 cs w h (by omega) h1
  simpa [putAt] using this
/-- A struct or array stored within a block. -/
theorem EL.storeBA {ti : TI} {cs : Array Value} {vs : List Value} (hg : guardOk all E gd = some true) (hx : E.ev x = some (Pv g off)) (hy : E.ev y = some (.agg vs.toArray)) (ht : C.T.f t = some ti) (hsz : ti.size = vs.length)
    (p : PickSet H (HA.blk g (.cells cs e (0, 0))) (HA.blk g (.cells (putAt cs.toList off vs).toArray e (0, 0))) H') (hl : off + vs.length ≤ cs.size) (h1 : ∀ u ∈ vs, u.oneCell' = true) (k : EL C all ops Q E H') : EL C all (⟨none, .store t x y, ty, pos, af, gd⟩ :: ops) Q E H :=
  EL.unit hg rfl (by simp) (fun a w ha => by
    have hT := ((C.T.ok t ti ht).runInfo w)
    obtain ⟨R, p1, p2⟩ := p.split
    have hs1 := ha.2.perm p1
    have hb : w.heap[g]? = some (.cells cs e (0, 0)) := hs1.head
    have hr := run_put (P := C.P) hb hl h1
    have hn : (w.setRow g (putAt cs.toList off vs).toArray).heap[g]? = some (.cells (putAt cs.toList off vs).toArray e (0, 0)) := setRow_get hb
    refine ⟨_, ?_, Sat.perm (hs1.turned (A' := HA.blk g (.cells (putAt cs.toList off vs).toArray e (0, 0))) (setRow_grown w g _) (fun k hk => by cases hk; simp [HA.blk]) hn (fun g' hg' => ?_) (by simp [HA.blk])) p2.symm⟩
    · simp [execOp, ha.1.ev hx, ha.1.ev hy, Instr.storeAt, Instr.sureAddr, storeVar, hT.1, hsz, Value.cells, hr, Result.andThen]
    · simp only [HA.blk, List.mem_singleton] at hg'
      subst hg'
      exact ⟨(Array.getElem?_eq_some_iff.1 hn).1, .inl (by simp [HA.blk])⟩) k
theorem ownsRow_put {w : World} {len cap n sz : Nat} {cs vs : List Value} (h : w.ownsRow 0 e sz (.slice (some ⟨g, 0, none⟩) len cap) n cs) (hl : off + vs.length ≤ cs.length) :
    ∃ cur : Array Value, w.heap[g]? = some (.cells cur e (0, 0)) ∧ off + vs.length ≤ cur.size ∧ (w.setRow g (putAt cur.toList off vs).toArray).ownsRow 0 e sz (.slice (some ⟨g, 0, none⟩) len cap) n (putAt cs off vs) := by
  obtain ⟨hl0, h2⟩ := h
  rcases h2 with ⟨h', _⟩ | ⟨g', cap', cur, hv, hb, hh, r1, r2, r3, r4⟩
  · cases h'
  · have hv' := hv
    simp only [Value.slice.injEq, Option.some.injEq, Addr.mk.injEq] at hv'
    obtain ⟨⟨rfl, _⟩, rfl, rfl⟩ := hv'
    have hc : cs.length ≤ cur.size := by rw [← r4, List.length_take]; simp only [Array.length_toList]; omega
    refine ⟨cur, hh, by omega, by rw [putAt_len _ _ _ hl]; exact hl0, .inr ⟨g, cap, _, rfl, hb, setRow_get hh, r1, r2, by simp only [List.size_toArray]; rw [putAt_len _ _ _ (by simp only [Array.length_toList]; omega)]; simpa using r3, ?_⟩⟩
    simp only [putAt]
    have e1 : cur.toList.take off = cs.take off := by rw [← r4, List.take_take]; congr 1; omega
    rw [e1, List.append_assoc, List.append_assoc, List.take_append, List.take_append, List.length_take]
    have e2 : (cs.take off).take (len * sz) = cs.take off := by rw [List.take_take]; congr 1; omega
    rw [e2, Nat.min_eq_left (show off ≤ cs.length by omega), List.take_of_length_le (show vs.length ≤ len * sz - off by omega)]
    congr 2
    rw [← r4, List.drop_take]
    congr 1
    omega
/-- A struct or array stored within a row. -/
theorem EL.storeRA {ti : TI} {len cap n sz : Nat} {cs vs : List Value} (hg : guardOk all E gd = some true) (hx : E.ev x = some (Pv g off)) (hy : E.ev y = some (.agg vs.toArray)) (ht : C.T.f t = some ti) (hsz : ti.size = vs.length)
    (p : PickSet H (HA.row (.slice (some ⟨g, 0, none⟩) len cap) e sz n cs) (HA.row (.slice (some ⟨g, 0, none⟩) len cap) e sz n (putAt cs off vs)) H') (hl : off + vs.length ≤ cs.length) (h1 : ∀ u ∈ vs, u.oneCell' = true) (k : EL C all ops Q E H') : EL C all (⟨none, .store t x y, ty, pos, af, gd⟩ :: ops) Q E H :=
  EL.unit hg rfl (by simp) (fun a w ha => by
    have hT := ((C.T.ok t ti ht).runInfo w)
    obtain ⟨R, p1, p2⟩ := p.split
    have hs1 := ha.2.perm p1
    have hb : w.ownsRow 0 e sz (.slice (some ⟨g, 0, none⟩) len cap) n cs := hs1.head
    obtain ⟨cur, hh, hle, hn⟩ := ownsRow_put hb hl
    have hr := run_put (P := C.P) hh hle h1
    refine ⟨_, ?_, Sat.perm (hs1.turned (A' := HA.row (.slice (some ⟨g, 0, none⟩) len cap) e sz n (putAt cs off vs)) (setRow_grown w g _) (fun k hk => by cases hk; simp [HA.row, Value.ownBlock]) hn (fun g' hg' => ?_) (by simp [HA.row, Value.ownBlock])) p2.symm⟩
    · simp [execOp, ha.1.ev hx, ha.1.ev hy, Instr.storeAt, Instr.sureAddr, storeVar, hT.1, hsz, Value.cells, hr, Result.andThen]
    · simp only [HA.row, Value.ownBlock, Option.toList_some, List.mem_singleton] at hg'
      subst hg'
      exact ⟨(Array.getElem?_eq_some_iff.1 (setRow_get hh)).1, .inl (by simp [HA.row, Value.ownBlock])⟩) k
/-- A struct or array read within a row, within a block. -/
theorem RV.loadRA {ti : TI} {len cap n sz : Nat} {cs : List Value} (vs : List Value) (hx : E.ev x = some (Pv g off)) (ht : C.T.f t = some ti) (hu : ti.agg = true) (hsz : ti.size = vs.length) (hm : Mem H (HA.row (.slice (some ⟨g, 0, none⟩) len cap) e sz n cs)) (hv : (cs.drop off).take vs.length = vs) :
    RunV C E H ⟨some d, .load t x, ty, pos, af, gd⟩ (.agg vs.toArray) :=
  RV.loadAgg hx ht hu hsz (fun w hs j u hj => by
    rw [add_n]
    refine row_cell (hs.all _ hm.mem) _ _ ?_
    rw [← hv, List.getElem?_take] at hj
    split at hj
    · rwa [List.getElem?_drop] at hj
    · cases hj)
theorem RV.loadBA {ti : TI} {cs : Array Value} {fr : Nat × Nat} (vs : List Value) (hx : E.ev x = some (Pv g off)) (ht : C.T.f t = some ti) (hu : ti.agg = true) (hsz : ti.size = vs.length) (hm : Mem H (HA.blk g (.cells cs e fr))) (hv : (cs.toList.drop off).take vs.length = vs) :
    RunV C E H ⟨some d, .load t x, ty, pos, af, gd⟩ (.agg vs.toArray) :=
  RV.loadAgg hx ht hu hsz (fun w hs j u hj => by
    rw [add_n, blk_cell (hs.all _ hm.mem)]
    rw [← hv, List.getElem?_take] at hj
    split at hj
    · rw [List.getElem?_drop] at hj; simpa using hj
    · cases hj)
theorem map_add0 (ad : Option Addr) : ad.map (·.add (0 * 1)) = ad := by
  cases ad with
  | none => rfl
  | some a => simp [Addr.add]
/-- s[:hi]. -/
theorem RV.sliceHi {ti te : TI} {el hi n cap : Nat} {ad : Option Addr} {kd : IntKind} (hx : E.ev x = some (.slice ad n cap)) (hy : E.ev y = some (.int kd (hi : Nat))) (ht : C.T.f t = some ti) (hu : ti.u = .slice el) (hte : C.T.f el = some te) (hhi : hi ≤ cap) :
    RunV C E H ⟨some d, .slice t x none (some y) none, ty, pos, af, gd⟩ (.slice ad hi cap) := fun a w ha => by
  have hT := (C.T.ok t ti ht).u
  rw [hu] at hT
  have hI := (C.T.ok el te hte).runInfo w
  cases ad with
  | none => simp [execOp, ha.1.ev hx, ha.1.ev hy, Instr.sliceAt, Instr.slice, Instr.sliceBounds, Instr.sliceBound, asIntOf, run_underlying hT, hI.1, Result.andThen, hhi]
  | some ad => simp [execOp, ha.1.ev hx, ha.1.ev hy, Instr.sliceAt, Instr.slice, Instr.sliceBounds, Instr.sliceBound, asIntOf, run_underlying hT, hI.1, Result.andThen, hhi, Addr.add]
/-- s[lo:]. -/
theorem RV.sliceLoG {ti te : TI} {el lo n cap : Nat} {ad : Option Addr} {kd : IntKind} (hx : E.ev x = some (.slice ad n cap)) (hy : E.ev y = some (.int kd (lo : Nat))) (ht : C.T.f t = some ti) (hu : ti.u = .slice el) (hte : C.T.f el = some te) (hlo : lo ≤ n) (hn : n ≤ cap) :
    RunV C E H ⟨some d, .slice t x (some y) none none, ty, pos, af, gd⟩ (.slice (if cap = lo then ad else ad.map (·.add (lo * te.size))) (n - lo) (cap - lo)) := fun a w ha => by
  have hT := (C.T.ok t ti ht).u
  rw [hu] at hT
  have hI := (C.T.ok el te hte).runInfo w
  have h1 : lo ≤ cap := by omega
  simp [execOp, ha.1.ev hx, ha.1.ev hy, Instr.sliceAt, Instr.slice, Instr.sliceBounds, Instr.sliceBound, asIntOf, run_underlying hT, hI.1, Result.andThen, h1, hlo]
/-- s[lo:hi]. -/
theorem RV.sliceLH {ti te : TI} {el lo hi n cap : Nat} {ad : Option Addr} {kd kd' : IntKind} (hx : E.ev x = some (.slice ad n cap)) (hy : E.ev y = some (.int kd (lo : Nat))) (hz : E.ev z = some (.int kd' (hi : Nat))) (ht : C.T.f t = some ti) (hu : ti.u = .slice el) (hte : C.T.f el = some te) (hlo : lo ≤ hi) (hn : hi ≤ cap) :
    RunV C E H ⟨some d, .slice t x (some y) (some z) none, ty, pos, af, gd⟩ (.slice (if cap = lo then ad else ad.map (·.add (lo * te.size))) (hi - lo) (cap - lo)) := fun a w ha => by
  have hT := (C.T.ok t ti ht).u
  rw [hu] at hT
  have hI := (C.T.ok el te hte).runInfo w
  simp [execOp, ha.1.ev hx, ha.1.ev hy, ha.1.ev hz, Instr.sliceAt, Instr.slice, Instr.sliceBounds, Instr.sliceBound, asIntOf, run_underlying hT, hI.1, Result.andThen, hn, hlo]
/-- A row cut at its end. -/
theorem ownsRow_cut {w : World} {ad : Option Addr} {len cap n sz m : Nat} {cs : List Value} (h : w.ownsRow 0 e sz (.slice ad len cap) n cs) (hm : m ≤ n) : w.ownsRow 0 e sz (.slice ad m cap) m (cs.take (m * sz)) := by
  obtain ⟨hl, h2⟩ := h
  have hmn : m * sz ≤ n * sz := Nat.mul_le_mul_right _ hm
  refine ⟨by rw [List.length_take]; omega, ?_⟩
  rcases h2 with ⟨h', h0⟩ | ⟨g', cap', cur, hv, hb, hh, r1, r2, r3, r4⟩
  · simp only [Value.slice.injEq] at h'
    obtain ⟨rfl, rfl, rfl⟩ := h'
    obtain rfl : m = 0 := by omega
    exact .inl ⟨rfl, rfl⟩
  · simp only [Value.slice.injEq] at hv
    obtain ⟨rfl, rfl, rfl⟩ := hv
    refine .inr ⟨g', cap, cur, rfl, hb, hh, by omega, r2, r3, ?_⟩
    rw [← r4, List.take_take, Nat.min_eq_left hmn]
theorem Sat.cutRow {w0 w : World} {B : Nat} {ad : Option Addr} {len cap n sz m : Nat} {cs : List Value} (h : Sat w0 B (HA.row (.slice ad len cap) e sz n cs :: R) w) (hm : m ≤ n) : Sat w0 B (HA.row (.slice ad m cap) e sz m (cs.take (m * sz)) :: R) w := by
  have hf : (HA.row (.slice ad m cap) e sz m (cs.take (m * sz))).fp = (HA.row (.slice ad len cap) e sz n cs).fp := by
    simp only [HA.row]
    cases ad <;> rfl
  refine ⟨h.below, h.base, by have := h.nodup; rw [fps_cons] at this ⊢; rw [hf]; exact this, fun g hg => h.lo g (by rw [fps_cons] at hg ⊢; rw [← hf]; exact hg), fun X hX => ?_⟩
  rcases List.mem_cons.1 hX with rfl | hX
  · have h1 : w.ownsRow 0 e sz (.slice ad len cap) n cs := h.head
    exact ownsRow_cut h1 hm
  · exact h.all X (by simp [hX])
end n
end Go.Proofs.Ytblpgpgbnlhjlaa.Sl
