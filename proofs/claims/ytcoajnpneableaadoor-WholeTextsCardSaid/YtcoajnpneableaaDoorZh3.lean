/- Texts of this claim, bundled. -/
import Derived.Test.YtcoajnpneableaaDoorZh2
namespace Go.Proofs.YtcoajnpneableaaDoor.Sl
open Go Go.RowKit
set_option linter.unusedVariables false
set_option linter.unusedSimpArgs false
def putAt (cs : List Value) (off : Nat) (vs : List Value) : List Value := cs.take off ++ vs ++ cs.drop (off + vs.length)
theorem putAt_len (cs : List Value) (off : Nat) (vs : List Value) (h : off + vs.length ≤ cs.length) : (putAt cs off vs).length = cs.length := by
  simp only [putAt, List.length_append, List.length_take, List.length_drop]; omega
section n
variable {C : Cx} {all : Array Oper} {ops : List Oper} {Q : Qt} {E : Env} {H H' R : List HA} {d ty t g off e : Nat} {pos : String} {af : Array Edge} {gd : Option (Nat × Bool)} {x y z : Operand} {v u : Value}
theorem setRow_grown (w : World) (g : Nat) (cs : Array Value) : w.grownBy (w.setRow g cs) (some g) :=
  ⟨rfl, rfl, rfl, by simp [World.setRow], fun k hk hne => by
    have : k ≠ g := fun e => hne (by rw [e])
    simp [World.setRow, Array.getElem?_modify, Ne.symm this]⟩
theorem setRow_get {w : World} {g : Nat} {cs cur : Array Value} {e : Nat} (h : w.heap[g]? = some (.cells cur e (0, 0))) : (w.setRow g cs).heap[g]? = some (.cells cs e (0, 0)) := by
  have hlt := (Array.getElem?_eq_some_iff.1 h).1
  simp [World.setRow, Array.getElem?_modify, h]
theorem run_put {P : Program} {w : World} {cs : Array Value} {vs : List Value} (h : w.heap[g]? = some (.cells cs e (0, 0))) (hl : off + vs.length ≤ cs.size) (h1 : ∀ u ∈ vs, u.oneCell' = true) :
    (storeCells ⟨g, off, none⟩ vs).run P w = .ok () (w.setRow g (putAt cs.toList off vs).toArray) := by
  have := run_storeCells_at (P := P) g off e vs 0 cs w h (by omega) h1
  simpa [putAt] using this
theorem ownsRow_put {w : World} {len cap n sz : Nat} {cs vs : List Value} (h : w.ownsRow 0 e sz (.slice (some ⟨g, 0, none⟩) len cap) n cs) (hl : off + vs.length ≤ cs.length) :
    ∃ cur : Array Value, w.heap[g]? = some (.cells cur e (0, 0)) ∧ off + vs.length ≤ cur.size ∧ (w.setRow g (putAt cur.toList off vs).toArray).ownsRow 0 e sz (.slice (some ⟨g, 0, none⟩) len cap) n (putAt cs off vs) := by
  obtain ⟨hl0, h2⟩ := h
  rcases h2 with ⟨h', _⟩ | ⟨g', cap', cur, hv, hb, hh, r1, r2, r3, r4⟩
  · cases h'
  · have hv' := hv
    simp only [Value.slice.injEq, Option.some.injEq, Addr.mk.injEq] at hv'
    obtain ⟨⟨rfl, _⟩, rfl, rfl⟩ := hv'
    have hc : cs.length ≤ cur.size := by rw [← r4, List.length_take]; simp only [Array.length_toList]; omega
    refine ⟨cur, hh, by omega, by rw [putAt_len _ _ _ hl]; exact hl0, .inr ⟨g, cap, _, rfl, hb, setRow_get hh, r1, r2, by simp only [List.size_toArray]; rw [putAt_len _ _ _ (by simp only [Array.length_toList]; omega)]; simpa using r3, ?_⟩⟩
    simp only [putAt]
    have e1 : cur.toList.take off = cs.take off := by rw [← r4, List.take_take]; congr 1; omega
    rw [e1, List.append_assoc, List.append_assoc, List.take_append, List.take_append, List.length_take]
    have e2 : (cs.take off).take (len * sz) = cs.take off := by rw [List.take_take]; congr 1; omega
    rw [e2, Nat.min_eq_left (show off ≤ cs.length by omega), List.take_of_length_le (show vs.length ≤ len * sz - off by omega)]
    congr 2
    rw [← r4, List.drop_take]
    congr 1
    omega
theorem EL.storeRA {ti : TI} {len cap n sz : Nat} {cs vs : List Value} (hg : guardOk all E gd = some true) (hx : E.ev x = some (Pv g off)) (hy : E.ev y = some (.agg vs.toArray)) (ht : C.T.f t = some ti) (hsz : ti.size = vs.length)
    (p : PickSet H (HA.row (.slice (some ⟨g, 0, none⟩) len cap) e sz n cs) (HA.row (.slice (some ⟨g, 0, none⟩) len cap) e sz n (putAt cs off vs)) H') (hl : off + vs.length ≤ cs.length) (h1 : ∀ u ∈ vs, u.oneCell' = true) (k : EL C all ops Q E H') : EL C all (⟨none, .store t x y, ty, pos, af, gd⟩ :: ops) Q E H :=
  EL.unit hg rfl (by simp) (fun a w ha => by
    have hT := ((C.T.ok t ti ht).runInfo w)
    obtain ⟨R, p1, p2⟩ := p.split
    have hs1 := ha.2.perm p1
    have hb : w.ownsRow 0 e sz (.slice (some ⟨g, 0, none⟩) len cap) n cs := hs1.head
    obtain ⟨cur, hh, hle, hn⟩ := ownsRow_put hb hl
    have hr := run_put (P := C.P) hh hle h1
    refine ⟨_, ?_, Sat.perm (hs1.turned (A' := HA.row (.slice (some ⟨g, 0, none⟩) len cap) e sz n (putAt cs off vs)) (setRow_grown w g _) (fun k hk => by cases hk; simp [HA.row, Value.ownBlock]) hn (fun g' hg' => ?_) (by simp [HA.row, Value.ownBlock])) p2.symm⟩
    · simp [execOp, ha.1.ev hx, ha.1.ev hy, Instr.storeAt, Instr.sureAddr, storeVar, hT.1, hsz, Value.cells, hr, Result.andThen]
    · simp only [HA.row, Value.ownBlock, Option.toList_some, List.mem_singleton] at hg'
      subst hg'
      exact ⟨(Array.getElem?_eq_some_iff.1 (setRow_get hh)).1, .inl (by simp [HA.row, Value.ownBlock])⟩) k
theorem RV.loadRA {ti : TI} {len cap n sz : Nat} {cs : List Value} (vs : List Value) (hx : E.ev x = some (Pv g off)) (ht : C.T.f t = some ti) (hu : ti.agg = true) (hsz : ti.size = vs.length) (hm : Mem H (HA.row (.slice (some ⟨g, 0, none⟩) len cap) e sz n cs)) (hv : (cs.drop off).take vs.length = vs) :
    RunV C E H ⟨some d, .load t x, ty, pos, af, gd⟩ (.agg vs.toArray) :=
  RV.loadAgg hx ht hu hsz (fun w hs j u hj => by
    rw [add_n]
    refine row_cell (hs.all _ hm.mem) _ _ ?_
    rw [← hv, List.getElem?_take] at hj
    split at hj
    · rwa [List.getElem?_drop] at hj
    · cases hj)
theorem RV.loadBA {ti : TI} {cs : Array Value} {fr : Nat × Nat} (vs : List Value) (hx : E.ev x = some (Pv g off)) (ht : C.T.f t = some ti) (hu : ti.agg = true) (hsz : ti.size = vs.length) (hm : Mem H (HA.blk g (.cells cs e fr))) (hv : (cs.toList.drop off).take vs.length = vs) :
    RunV C E H ⟨some d, .load t x, ty, pos, af, gd⟩ (.agg vs.toArray) :=
  RV.loadAgg hx ht hu hsz (fun w hs j u hj => by
    rw [add_n, blk_cell (hs.all _ hm.mem)]
    rw [← hv, List.getElem?_take] at hj
    split at hj
    · rw [List.getElem?_drop] at hj; simpa using hj
    · cases hj)
theorem RV.sliceHi {ti te : TI} {el hi n cap : Nat} {ad : Option Addr} {kd : IntKind} (hx : E.ev x = some (.slice ad n cap)) (hy : E.ev y = some (.int kd (hi : Nat))) (ht : C.T.f t = some ti) (hu : ti.u = .slice el) (hte : C.T.f el = some te) (hhi : hi ≤ cap) :
    RunV C E H ⟨some d, .slice t x none (some y) none, ty, pos, af, gd⟩ (.slice ad hi cap) := fun a w ha => by
  have hT := (C.T.ok t ti ht).u
  rw [hu] at hT
  have hI := (C.T.ok el te hte).runInfo w
  cases ad with
  | none => simp [execOp, ha.1.ev hx, ha.1.ev hy, Instr.sliceAt, Instr.slice, Instr.sliceBounds, Instr.sliceBound, asIntOf, run_underlying hT, hI.1, Result.andThen, hhi]
  | some ad => simp [execOp, ha.1.ev hx, ha.1.ev hy, Instr.sliceAt, Instr.slice, Instr.sliceBounds, Instr.sliceBound, asIntOf, run_underlying hT, hI.1, Result.andThen, hhi, Addr.add]
theorem ownsRow_cut {w : World} {ad : Option Addr} {len cap n sz m : Nat} {cs : List Value} (h : w.ownsRow 0 e sz (.slice ad len cap) n cs) (hm : m ≤ n) : w.ownsRow 0 e sz (.slice ad m cap) m (cs.take (m * sz)) := by
  obtain ⟨hl, h2⟩ := h
  have hmn : m * sz ≤ n * sz := Nat.mul_le_mul_right _ hm
  refine ⟨by rw [List.length_take]; omega, ?_⟩
  rcases h2 with ⟨h', h0⟩ | ⟨g', cap', cur, hv, hb, hh, r1, r2, r3, r4⟩
  · simp only [Value.slice.injEq] at h'
    obtain ⟨rfl, rfl, rfl⟩ := h'
    obtain rfl : m = 0 := by omega
    exact .inl ⟨rfl, rfl⟩
  · simp only [Value.slice.injEq] at hv
    obtain ⟨rfl, rfl, rfl⟩ := hv
    refine .inr ⟨g', cap, cur, rfl, hb, hh, by omega, r2, r3, ?_⟩
    rw [← r4, List.take_take, Nat.min_eq_left hmn]
theorem Sat.cutRow {w0 w : World} {B : Nat} {ad : Option Addr} {len cap n sz m : Nat} {cs : List Value} (h : Sat w0 B (HA.row (.slice ad len cap) e sz n cs :: R) w) (hm : m ≤ n) : Sat w0 B (HA.row (.slice ad m cap) e sz m (cs.take (m * sz)) :: R) w := by
  have hf : (HA.row (.slice ad m cap) e sz m (cs.take (m * sz))).fp = (HA.row (.slice ad len cap) e sz n cs).fp := by
    simp only [HA.row]
    cases ad <;> rfl
  refine ⟨h.below, h.base, by have := h.nodup; rw [fps_cons] at this ⊢; rw [hf]; exact this, fun g hg => h.lo g (by rw [fps_cons] at hg ⊢; rw [← hf]; exact hg), fun X hX => ?_⟩
  rcases List.mem_cons.1 hX with rfl | hX
  · have h1 : w.ownsRow 0 e sz (.slice ad len cap) n cs := h.head
    exact ownsRow_cut h1 hm
  · exact h.all X (by simp [hX])
end n
end Go.Proofs.YtcoajnpneableaaDoor.Sl
namespace Go.Proofs.YtcoajnpneableaaDoor
open Go Go.RowKit Sl
set_option maxRecDepth 100000
set_option maxHeartbeats 8000000
set_option linter.unusedVariables false
set_option linter.unusedSimpArgs false
attribute [local irreducible] ES EL PX wps
def reCells (r : RE) (kv : Value) : List Value := [Iv (r.kind : Nat), Wv r.set.a, Wv r.set.b, Wv r.set.c, Wv r.set.d, Iv (r.lo : Nat), Iv r.hi, Iv (r.num : Nat), kv]
def Reads (S : Nat → Prop) (w : World) (ad : Option Addr) (cs : List Value) : Prop :=
  cs ≠ [] → ∃ g off, ad = some ⟨g, off, none⟩ ∧ S g ∧ ∃ ca ta, w.heap[g]? = some (.cells ca ta (0, 0)) ∧ ∀ j v, cs[j]? = some v → ca[off + j]? = some v
theorem Reads.nil {S : Nat → Prop} {w : World} {ad : Option Addr} : Reads S w ad [] := fun h => absurd rfl h
theorem Reads.mono {S S' : Nat → Prop} {w : World} {ad : Option Addr} {cs : List Value} (h : Reads S w ad cs) (hs : ∀ g, S g → S' g) : Reads S' w ad cs := fun hne => by
  obtain ⟨g, off, h1, h2, h3⟩ := h hne
  exact ⟨g, off, h1, hs g h2, h3⟩
theorem Reads.loc {S : Nat → Prop} {w w' : World} {ad : Option Addr} {cs : List Value} (h : Reads S w ad cs) (hl : ∀ g, S g → w'.heap[g]? = w.heap[g]?) : Reads S w' ad cs := fun hne => by
  obtain ⟨g, off, h1, h2, ca, ta, h3, h4⟩ := h hne
  exact ⟨g, off, h1, h2, ca, ta, by rw [hl g h2]; exact h3, h4⟩
theorem Reads.cell {S : Nat → Prop} {w : World} {g off : Nat} {cs : List Value} (h : Reads S w (some ⟨g, off, none⟩) cs) (j : Nat) (v : Value) (hj : cs[j]? = some v) : w.cell? ⟨g, off + j, none⟩ = some v := by
  obtain ⟨g', off', h1, _, ca, ta, h3, h4⟩ := h (fun e => by subst e; simp at hj)
  simp only [Option.some.injEq, Addr.mk.injEq] at h1
  obtain ⟨rfl, rfl, _⟩ := h1
  simp only [World.cell?, h3]
  exact h4 j v hj
theorem Reads.rd {w : World} {B : Nat} {ad : Option Addr} {cs : List Value} (h : Reads (· < B) w ad cs) : Rd w B ad cs := fun hne => by
  obtain ⟨g, off, h1, h2, ca, ta, h3, h4⟩ := h hne
  exact ⟨g, off, h1, h2, fun j v hj => by simp only [World.cell?, h3]; exact h4 j v hj⟩
theorem row_reads {w : World} {e sz g n cap : Nat} {cs : List Value} (h : w.ownsRow 0 e sz (.slice (some ⟨g, 0, none⟩) n cap) n cs) : ∃ ca ta, w.heap[g]? = some (.cells ca ta (0, 0)) ∧ ∀ j v, cs[j]? = some v → ca[0 + j]? = some v := by
  obtain ⟨_, (⟨h', _⟩ | ⟨g', cap', cur, hv, _, hh, _, _, _, ht⟩)⟩ := h
  · cases h'
  · simp only [Value.slice.injEq, Option.some.injEq, Addr.mk.injEq] at hv
    obtain ⟨⟨rfl, _⟩, _, _⟩ := hv
    refine ⟨cur, e, hh, fun j v hj => ?_⟩
    rw [← ht] at hj
    rw [Nat.zero_add]
    rw [List.getElem?_take] at hj
    split at hj
    · simpa using hj
    · cases hj
inductive Forest (S : Nat → Prop) (w : World) : List RE → List Value → Prop
  | nil : Forest S w [] []
  | cons (r : RE) (ks : List RE) (ad : Option Addr) (cap : Nat) (cs0 cs : List Value) (hc : r.kids.length ≤ cap) (h0 : Forest S w r.kids cs0) (hr : Reads S w ad cs0) (h : Forest S w ks cs) : Forest S w (r :: ks) (reCells r (.slice ad r.kids.length cap) ++ cs)
theorem Forest.len {S : Nat → Prop} {w : World} {ks : List RE} {cs : List Value} (h : Forest S w ks cs) : cs.length = ks.length * 9 := by
  induction h with
  | nil => rfl
  | cons r ks ad cap cs0 cs hc h0 hr h ih0 ih => simp only [List.length_append, ih, List.length_cons, reCells, List.length_nil]; omega
theorem Forest.mono {S S' : Nat → Prop} {w : World} {ks : List RE} {cs : List Value} (h : Forest S w ks cs) (hs : ∀ g, S g → S' g) : Forest S' w ks cs := by
  induction h with
  | nil => exact .nil
  | cons r ks ad cap cs0 cs hc h0 hr h ih0 ih => exact .cons r ks ad cap cs0 cs hc ih0 (hr.mono hs) ih
theorem Forest.loc {S : Nat → Prop} {w w' : World} {ks : List RE} {cs : List Value} (h : Forest S w ks cs) (hl : ∀ g, S g → w'.heap[g]? = w.heap[g]?) : Forest S w' ks cs := by
  induction h with
  | nil => exact .nil
  | cons r ks ad cap cs0 cs hc h0 hr h ih0 ih => exact .cons r ks ad cap cs0 cs hc ih0 (hr.loc hl) ih
theorem Forest.append {S : Nat → Prop} {w : World} {ks ks' : List RE} {cs cs' : List Value} (h : Forest S w ks cs) (h' : Forest S w ks' cs') : Forest S w (ks ++ ks') (cs ++ cs') := by
  induction h with
  | nil => exact h'
  | cons r ks ad cap cs0 cs hc h0 hr h ih0 ih => rw [List.append_assoc]; exact .cons r _ ad cap cs0 _ hc h0 hr ih
theorem Forest.one {S : Nat → Prop} {w : World} (r : RE) (ad : Option Addr) (cap : Nat) (cs0 : List Value) (hc : r.kids.length ≤ cap) (h0 : Forest S w r.kids cs0) (hr : Reads S w ad cs0) : Forest S w [r] (reCells r (.slice ad r.kids.length cap)) := by
  have := Forest.cons r [] ad cap cs0 [] hc h0 hr .nil
  simpa using this
theorem Forest.leaf {S : Nat → Prop} {w : World} (r : RE) (h : r.kids = []) : Forest S w [r] (reCells r (.slice none 0 0)) := by
  have := Forest.one (S := S) (w := w) r none 0 [] (by rw [h]; exact Nat.le_refl _) (by rw [h]; exact .nil) Reads.nil
  rw [h] at this; exact this
theorem drop9 (c cs : List Value) (h : c.length = 9) (i : Nat) : (c ++ cs).drop ((i + 1) * 9) = cs.drop (i * 9) := by
  rw [List.drop_append, List.drop_of_length_le (by omega), List.nil_append]
  congr 1; omega
theorem take9 (c cs : List Value) (h : c.length = 9) (i : Nat) : (c ++ cs).take ((i + 1) * 9) = c ++ cs.take (i * 9) := by
  rw [List.take_append, List.take_of_length_le (by omega)]
  congr 2; omega
theorem Forest.get {S : Nat → Prop} {w : World} {ks : List RE} {cs : List Value} (h : Forest S w ks cs) : ∀ (i : Nat) (r : RE), ks[i]? = some r → ∃ ad cap cs0, (cs.drop (i * 9)).take 9 = reCells r (.slice ad r.kids.length cap) ∧ Forest S w r.kids cs0 ∧ Reads S w ad cs0 ∧ r.kids.length ≤ cap := by
  induction h with
  | nil => intro i r hi; simp at hi
  | cons r ks ad cap cs0 cs hc h0 hr h ih0 ih =>
    intro i r' hi
    cases i with
    | zero =>
      simp only [List.getElem?_cons_zero, Option.some.injEq] at hi
      subst hi
      exact ⟨ad, cap, cs0, by simp [reCells], h0, hr, hc⟩
    | succ i =>
      simp only [List.getElem?_cons_succ] at hi
      obtain ⟨ad', cap', cs1, h1, h2, h3⟩ := ih i r' hi
      refine ⟨ad', cap', cs1, ?_, h2, h3⟩
      rw [drop9 _ _ rfl]
      exact h1
theorem Forest.drop {S : Nat → Prop} {w : World} {ks : List RE} {cs : List Value} (h : Forest S w ks cs) : ∀ i, Forest S w (ks.drop i) (cs.drop (i * 9)) := by
  induction h with
  | nil => intro i; simp; exact .nil
  | cons r ks ad cap cs0 cs hc h0 hr h ih0 ih =>
    intro i
    cases i with
    | zero => simp only [List.drop_zero, Nat.zero_mul]; exact .cons r ks ad cap cs0 cs hc h0 hr h
    | succ i =>
      rw [drop9 _ _ rfl]
      exact ih i
theorem Forest.take {S : Nat → Prop} {w : World} {ks : List RE} {cs : List Value} (h : Forest S w ks cs) : ∀ i, Forest S w (ks.take i) (cs.take (i * 9)) := by
  induction h with
  | nil => intro i; simp; exact .nil
  | cons r ks ad cap cs0 cs hc h0 hr h ih0 ih =>
    intro i
    cases i with
    | zero => simp only [List.take_zero, Nat.zero_mul]; exact .nil
    | succ i =>
      rw [take9 _ _ rfl]
      exact Forest.cons r _ ad cap cs0 _ hc h0 hr (ih i)
def HA.forest (fp : List Nat) (ks : List RE) (cs : List Value) : HA := ⟨fp, fun w => Forest (· ∈ fp) w ks cs, fun w w' h hw => hw.loc (fun g hg => h g hg)⟩
theorem Sat.rule {w0 w : World} {B : Nat} {Hs R : List HA} {A : HA} (h : Sat w0 B (Hs ++ R) w) (hf : (fps Hs).Perm A.fp) (hA : (∀ X ∈ Hs, X.holds w) → A.holds w) : Sat w0 B (A :: R) w := by
  have hp : (fps (Hs ++ R)).Perm (fps (A :: R)) := by rw [fps_append, fps_cons]; exact hf.append_right _
  refine ⟨h.below, h.base, hp.nodup_iff.1 h.nodup, fun g hg => h.lo g (hp.mem_iff.2 hg), fun X hX => ?_⟩
  rcases List.mem_cons.1 hX with rfl | hX
  · exact hA (fun Y hY => h.all Y (by simp [hY]))
  · exact h.all X (by simp [hX])
theorem Sat.forest0 {w0 w : World} {B : Nat} {H : List HA} (h : Sat w0 B H w) (ks : List RE) (cs : List Value) (hf : ∀ S w, Forest S w ks cs) : Sat w0 B (HA.forest [] ks cs :: H) w :=
  Sat.rule (Hs := []) h (by simp only [fps, List.flatMap_cons, List.flatMap_nil, HA.forest, HA.row, List.append_nil]; exact List.Perm.refl _) (fun _ => hf _ _)
theorem Sat.forestApp {w0 w : World} {B : Nat} {R : List HA} {fp fp' : List Nat} {ks ks' : List RE} {cs cs' : List Value} (h : Sat w0 B (HA.forest fp ks cs :: HA.forest fp' ks' cs' :: R) w) : Sat w0 B (HA.forest (fp ++ fp') (ks ++ ks') (cs ++ cs') :: R) w :=
  Sat.rule (Hs := [HA.forest fp ks cs, HA.forest fp' ks' cs']) h (by simp only [fps, List.flatMap_cons, List.flatMap_nil, HA.forest, HA.row, List.append_nil]; exact List.Perm.refl _) (fun hh => by
    have h1 : Forest (· ∈ fp) w ks cs := hh (HA.forest fp ks cs) (by simp)
    have h2 : Forest (· ∈ fp') w ks' cs' := hh (HA.forest fp' ks' cs') (by simp)
    exact (h1.mono (fun g hg => by simp [hg])).append (h2.mono (fun g hg => by simp [hg])))
theorem Sat.seal {w0 w : World} {B : Nat} {R : List HA} {fp : List Nat} {ks : List RE} {cs : List Value} {ad : Option Addr} {n cap e : Nat} (r : RE) (hr : r.kids = ks) (h : Sat w0 B (HA.row (.slice ad n cap) e 9 ks.length cs :: HA.forest fp ks cs :: R) w) :
    Sat w0 B (HA.forest ((Value.slice ad n cap).ownBlock.toList ++ fp) [r] (reCells r (.slice ad ks.length cap)) :: R) w :=
  Sat.rule (Hs := [HA.row (.slice ad n cap) e 9 ks.length cs, HA.forest fp ks cs]) h (by simp only [fps, List.flatMap_cons, List.flatMap_nil, HA.forest, HA.row, List.append_nil]; exact List.Perm.refl _) (fun hh => by
    have h1 : w.ownsRow 0 e 9 (.slice ad n cap) ks.length cs := hh (HA.row (.slice ad n cap) e 9 ks.length cs) (by simp)
    have h2 : Forest (· ∈ fp) w ks cs := hh (HA.forest fp ks cs) (by simp)
    subst hr
    refine Forest.one r ad cap cs (row_form h1).2.1 (h2.mono (fun g hg => by simp [hg])) (fun hne => ?_)
    obtain ⟨hl2, _, _, hl, hform⟩ := row_form h1
    obtain ⟨g, rfl⟩ := hform (by
      rcases Nat.eq_zero_or_pos r.kids.length with h0 | h0
      · rw [h0] at hl; exact absurd (List.eq_nil_of_length_eq_zero (by omega)) hne
      · exact h0)
    exact ⟨g, 0, rfl, by simp [Value.ownBlock], row_reads (by obtain rfl := hl2; exact h1)⟩)
theorem Sat.forestEq {w0 w : World} {B : Nat} {R : List HA} {fp : List Nat} {ks ks' : List RE} {cs cs' : List Value} (h : Sat w0 B (HA.forest fp ks cs :: R) w) (hf : ∀ S w, Forest S w ks cs → Forest S w ks' cs') : Sat w0 B (HA.forest fp ks' cs' :: R) w :=
  Sat.rule (Hs := [HA.forest fp ks cs]) h (by simp only [fps, List.flatMap_cons, List.flatMap_nil, HA.forest, HA.row, List.append_nil]; exact List.Perm.refl _) (fun hh => hf _ _ (hh (HA.forest fp ks cs) (by simp)))
abbrev ForestRd (w : World) (B : Nat) (ks : List RE) (cs : List Value) : Prop := Forest (· < B) w ks cs
theorem Forest.sat {w0 w : World} {B : Nat} {H : List HA} {fp : List Nat} {ks : List RE} {cs : List Value} (hs : Sat w0 B H w) (hm : Mem H (HA.forest fp ks cs)) : ForestRd w w.heap.size ks cs := by
  have h : Forest (· ∈ fp) w ks cs := hs.all _ hm.mem
  exact h.mono (fun g hg => (hs.lo g (List.mem_flatMap.2 ⟨_, hm.mem, hg⟩)).2)
theorem Forest.beneath {w0 w : World} {B B' : Nat} {ks : List RE} {cs : List Value} (h : ForestRd w0 B ks cs) (hb : Below B w0 w) (hB : B ≤ B') : ForestRd w B' ks cs :=
  (h.loc (fun g hg => hb.block g hg)).mono (fun g hg => Nat.lt_of_lt_of_le hg hB)
end Go.Proofs.YtcoajnpneableaaDoor
namespace Go.Proofs.YtcoajnpneableaaDoor.Sl
open Go Go.RowKit Go.Lib
set_option linter.unusedVariables false
set_option linter.unusedSimpArgs false
def ownsB (w : World) (e : TypeId) (v : Value) (n : Nat) (cs : List Value) : Prop := w.ownsRowF 0 e 1 v n cs ∧ (n = 0 → v = .slice none 0 0)
theorem ownsB_loc {w w' : World} {e : TypeId} {n : Nat} {v : Value} {cs : List Value} (h : ∀ g ∈ v.ownBlock.toList, w'.heap[g]? = w.heap[g]?) (ho : ownsB w e v n cs) : ownsB w' e v n cs := by
  refine ⟨⟨ho.1.1, ?_⟩, ho.2⟩
  rcases ho.1.2 with h1 | ⟨g, cap, cur, fz, hv, hb, hh, r⟩
  · exact .inl h1
  · refine .inr ⟨g, cap, cur, fz, hv, hb, ?_, r⟩
    rw [h g (by subst hv; simp [Value.ownBlock])]; exact hh
def HA.buf (v : Value) (e n : Nat) (cs : List Value) : HA := ⟨v.ownBlock.toList, fun w => ownsB w e v n cs, fun _ _ h hw => ownsB_loc h hw⟩
theorem Sat.nilBuf {H : List HA} {w0 : World} {B : Nat} {w : World} (hs : Sat w0 B H w) (e : Nat) : Sat w0 B (HA.buf (.slice none 0 0) e 0 [] :: H) w :=
  ⟨hs.below, hs.base, by rw [fps_cons]; simpa [HA.buf, Value.ownBlock] using hs.nodup, fun g hg => hs.lo g (by rw [fps_cons] at hg; simpa [HA.buf, Value.ownBlock] using hg), fun A hA => by
    rcases List.mem_cons.1 hA with rfl | h
    · exact ⟨World.ownsRowF_nil _ _ _ _, fun _ => rfl⟩
    · exact hs.all A h⟩
theorem EL.nilBuf {C : Cx} {all : Array Oper} {ops : List Oper} {Q : Qt} {E : Env} {H : List HA} (e : Nat) (k : EL C all ops Q E (HA.buf (.slice none 0 0) e 0 [] :: H)) : EL C all ops Q E H := fun a w h => k a w ⟨h.1, h.2.nilBuf e⟩
theorem ownsRowF_zero {w : World} {b : Nat} {e : TypeId} {sz n : Nat} {v : Value} {cs : List Value} (h : w.ownsRowF b e sz v n cs) : w.ownsRowF 0 e sz v n cs := by
  refine ⟨h.1, ?_⟩
  rcases h.2 with h1 | ⟨g, cap, cur, fz, hv, hb, r⟩
  · exact .inl h1
  · exact .inr ⟨g, cap, cur, fz, hv, Nat.zero_le _, r⟩
theorem strCells_sv (l : List UInt8) : strCells ⟨l.toArray⟩ = l.map Uv := by simp [strCells]
theorem run_appendB {P : Program} (w : World) (t u ty e : TypeId) (i : TypeInfo) (ht : P.underlying t = some (.slice e)) (hu : P.underlying u = some .string) (hi : P.info? e = some i) (hz : i.zero = some (.int .u8 0)) (hsize : i.size = 1) (hby : i.bytes = 1)
    (v : Value) (n : Nat) (xs : List Value) (hown : ownsB w e v n xs) (l : List UInt8) (hbytes : n + l.length ≤ 140737488355328) :
    ∃ ad' cap' w', (Builtin.append_ #[t, u] ty #[v, Sv l]).run P w = .ok (.slice ad' (n + l.length) cap') w' ∧ ownsB w' e (.slice ad' (n + l.length) cap') (n + l.length) (xs ++ l.map Uv) ∧ w.grownBy w' v.ownBlock ∧
      (∀ k, Value.ownBlock (.slice ad' (n + l.length) cap') = some k → (some k = v.ownBlock ∨ w.heap.size ≤ k) ∧ k < w'.heap.size) := by
  have h63 : n + l.length ≤ maxLen := by unfold maxLen; omega
  have fin : ∀ (v' : Value) (w' : World), (Builtin.append_ #[t, u] ty #[v, Sv l]).run P w = .ok v' w' → w'.ownsRowF 0 e 1 v' (n + l.length) (xs ++ l.map Uv) → (n + l.length = 0 → v' = .slice none 0 0) → w.grownBy w' v.ownBlock → (∀ k, v'.ownBlock = some k → (some k = v.ownBlock ∨ w.heap.size ≤ k)) →
      ∃ ad' cap' w', (Builtin.append_ #[t, u] ty #[v, Sv l]).run P w = .ok (.slice ad' (n + l.length) cap') w' ∧ ownsB w' e (.slice ad' (n + l.length) cap') (n + l.length) (xs ++ l.map Uv) ∧ w.grownBy w' v.ownBlock ∧
      (∀ k, Value.ownBlock (.slice ad' (n + l.length) cap') = some k → (some k = v.ownBlock ∨ w.heap.size ≤ k) ∧ k < w'.heap.size) := by
    intro v' w' hr ho hnil hg hat
    obtain ⟨ad', cap', rfl⟩ : ∃ ad' cap', v' = .slice ad' (n + l.length) cap' := by
      rcases ho.2 with ⟨h', h0⟩ | ⟨g', cap', cur, fz, hv, _⟩
      · exact ⟨none, 0, by rw [h', h0]⟩
      · exact ⟨_, cap', hv⟩
    exact ⟨ad', cap', w', hr, ⟨ho, hnil⟩, hg, fun k hk => ⟨hat k hk, (ho.lt k hk).2⟩⟩
  rcases hown.1.2 with ⟨rfl, rfl⟩ | ⟨g, cap, cur, fz, rfl, hbg, hg, hfz, hnc, hcm, hcs, htake⟩
  · obtain rfl : xs = [] := List.eq_nil_of_length_eq_zero (by simpa using hown.1.1)
    obtain ⟨v', w', h1, h2, h3, h4⟩ := run_append_own_stringF (P := P) w w.heap.size t u ty e i ht hu hi hz hsize hby (.slice none 0 0) 0 [] (World.ownsRowF_nil _ _ _ _) ⟨l.toArray⟩ h63 hbytes (Nat.le_refl _)
    rw [strCells_sv] at h2
    refine fin v' w' h1 (ownsRowF_zero h2) (fun h0 => h4.2 ⟨rfl, by rw [size_sv]; omega⟩) h3 (fun k hk => .inr (h2.lt k hk).1)
  · have hn0 : 0 < n := by
      rcases Nat.eq_zero_or_pos n with h0 | h0
      · have := hown.2 h0; cases this
      · exact h0
    have hxl : xs.length = n := by simpa using hown.1.1
    have hlen : (xs ++ l.map Uv).length = (n + l.length) * 1 := by rw [List.length_append, hxl, List.length_map, Nat.mul_one]
    have hss : (⟨l.toArray⟩ : ByteArray).size = l.length := size_sv l
    by_cases hroom : n + l.length ≤ cap
    · have hcs' : cur.size = cap := by simpa using hcs
      have hr := run_append_room_stringF (P := P) w t u ty e i ht hu hi hsize g n cap cur fz hg (by simpa using hfz) ⟨l.toArray⟩ (by rw [hss]; exact hroom) (by rw [hss]; omega)
      rw [strCells_sv, hss] at hr
      refine fin _ _ hr ⟨hlen, .inr ⟨g, cap, _, fz, rfl, Nat.zero_le _, setRow_heap w g cur _ e _ hg, by omega, hroom, hcm, ?_, ?_⟩⟩ (fun h => by omega) ⟨rfl, rfl, rfl, by simp, fun k _ hk => setRow_other w g k _ (fun e => hk (by simp [Value.ownBlock, e]))⟩ (fun k hk => .inl (by rw [← hk]; rfl))
      · simp only [List.size_toArray, List.length_append, List.length_take, List.length_drop, Array.length_toList, List.length_map]
        omega
      · have ht' : cur.toList.take n = xs := by simpa using htake
        rw [ht', ← hlen]
        exact List.take_left
    · have holds : ∀ j u, xs[j]? = some u → w.cell? ((⟨g, 0, none⟩ : Addr).add j) = some u := hown.1.cells (g := g) rfl
      have hr := run_append_grow_string (P := P) w t u ty e i (.int .u8 0) ht hu hi hz ⟨g, 0, none⟩ n cap xs (by rw [hsize]; simpa using hxl) holds ⟨l.toArray⟩ (by rw [hss]; omega) (by rw [hss]; simp only [maxLen] at h63; omega) (by rw [hby, hss]; exact growslice_fits (by omega) (by omega))
      rw [strCells_sv, hss] at hr
      have hge := grownCap_ge w (n + l.length) cap e
      have hcm2 : grownCap w (n + l.length) cap e ≤ maxLen := grownCap_le_maxLen w (n + l.length) cap e h63
      refine fin _ _ hr ⟨hlen, .inr ⟨w.heap.size, _, _, (0, 0), rfl, Nat.zero_le _, heap_alloc_new w.drew _, Nat.zero_le _, hge, hcm2, ?_, ?_⟩⟩ (fun h => by omega) ⟨rfl, rfl, rfl, by simp, fun k hk _ => alloc_old w.drew _ k hk⟩ (fun k hk => .inr (by simp only [Value.ownBlock, Option.some.injEq] at hk; omega))
      · have hz1 : (Value.int IntKind.u8 0).cells.size = 1 := rfl
        simp only [Array.size_append, List.size_toArray, size_zeroCells, hz1, hxl, List.length_map]
        omega
      · simp only [Array.toList_append, List.append_assoc]
        rw [← List.append_assoc, ← hlen]
        exact List.take_left
section buffers
variable {C : Cx} {all : Array Oper} {ops : List Oper} {Q : Qt} {E : Env} {H H' R : List HA} {d ty t t' t2 e g off : Nat} {pos : String} {af : Array Edge} {gd : Option (Nat × Bool)} {x y : Operand}
theorem EL.appendB {ti ts te : TI} {el : TypeId} {ad : Option Addr} {n cap : Nat} {cs : List Value} {l : List UInt8} (hg : guardOk all E gd = some true) (hx : E.ev x = some (.slice ad n cap)) (hy : E.ev y = some (Sv l)) (ht : C.T.f t = some ti) (hu : ti.u = .slice el) (hts : C.T.f t2 = some ts) (hus : ts.u = .string) (hte : C.T.f el = some te)
    (hz1 : te.zero = .int .u8 0) (hs1 : te.size = 1) (hb1 : te.bytes = 1) (hd : Nat.blt d C.n = true) (p : Pick H (HA.buf (.slice ad n cap) el n cs) R) (hb : n + l.length ≤ 140737488355328)
    (k : ∀ ad' cap', EL C all ops Q ((d, .slice ad' (n + l.length) cap') :: E) (HA.buf (.slice ad' (n + l.length) cap') el (n + l.length) (cs ++ l.map Uv) :: R)) :
    EL C all (⟨some d, .call { callee := .builtin .append, args := #[x, y], argTypes := #[t, t2] }, ty, pos, af, gd⟩ :: ops) Q E H := by
  intro a w ha
  simp only [wpListIn, guardOk_wanted (o := ⟨some d, .call { callee := .builtin .append, args := #[x, y], argTypes := #[t, t2] }, ty, pos, af, gd⟩) hg ha.1, if_true]
  refine ⟨fun _ _ => trivial, ?_⟩
  rw [sem_plain (by simp)]
  have hT := (C.T.ok t ti ht).u
  rw [hu] at hT
  have hS := (C.T.ok t2 ts hts).u
  rw [hus] at hS
  obtain ⟨i, hi, hz, hs, hby⟩ := (C.T.ok el te hte).info
  rw [hz1] at hz; rw [hs1] at hs; rw [hb1] at hby
  have hs1' := ha.2.perm p.perm
  obtain ⟨ad', cap', w', hr, hown', hgr, hat⟩ := run_appendB (P := C.P) w t t2 ty el i hT hS hi hz hs hby (.slice ad n cap) n cs hs1'.head l hb
  have hrun : (execOp a.eval ⟨some d, .call { callee := .builtin .append, args := #[x, y], argTypes := #[t, t2] }, ty, pos, af, gd⟩).run C.P w = .ok (.value (.slice ad' (n + l.length) cap')) w' := by
    simp only [execOp, ha.1.ev hx, ha.1.ev hy, resolve, invoke, builtin, Sem.run_bind, Sem.run_pure, List.map_toArray, List.map_cons, List.map_nil, hr, Result.andThen]
  rw [hrun]
  refine k ad' cap' _ _ ⟨ha.1.put (by simpa using hd) _, ?_⟩
  refine hs1'.turned hgr (fun k hk => by simp [HA.buf, hk]) hown' (fun g hg => ?_) ?_
  · have hg' : Value.ownBlock (.slice ad' (n + l.length) cap') = some g := by simpa [HA.buf] using hg
    obtain ⟨h1, h2⟩ := hat g hg'
    refine ⟨h2, ?_⟩
    rcases h1 with h1 | h1
    · left; simp [HA.buf, ← h1]
    · exact .inr h1
  · show (Value.ownBlock (.slice ad' (n + l.length) cap')).toList.Nodup
    cases Value.ownBlock (.slice ad' (n + l.length) cap') <;> simp
theorem buf_form {w : World} {e n len cap : Nat} {ad : Option Addr} {cs : List Value} (h : ownsB w e (.slice ad len cap) n cs) : len = n ∧ cs.length = n ∧ ((n = 0 ∧ ad = none ∧ cap = 0) ∨ (0 < n ∧ cap ≠ 0 ∧ ∃ g cur fz, ad = some ⟨g, 0, none⟩ ∧ w.heap[g]? = some (.cells cur e fz) ∧ fz.2 ≤ n ∧ n ≤ cap ∧ cur.size = cap ∧ cur.toList.take n = cs)) := by
  have hl : cs.length = n := by simpa using h.1.1
  rcases h.1.2 with ⟨h1, h2⟩ | ⟨g, cap', cur, fz, hv, hb, hh, hf, r1, r2, r3, r4⟩
  · injection h1 with ha hlen hc
    exact ⟨by omega, hl, .inl ⟨h2, ha, hc⟩⟩
  · injection hv with ha hlen hc
    subst hc
    have hn0 : 0 < n := by
      rcases Nat.eq_zero_or_pos n with h0 | h0
      · have := h.2 h0
        injection this with ha' _ _
        rw [ha] at ha'; cases ha'
      · exact h0
    exact ⟨hlen, hl, .inr ⟨hn0, by omega, g, cur, fz, ha, hh, by simpa using hf, r1, by simpa using r3, by simpa using r4⟩⟩
theorem RV.sliceData {ad : Option Addr} {n cap : Nat} {cs : List Value} (hx : E.ev x = some (.slice ad n cap)) (hm : Mem H (HA.buf (.slice ad n cap) e n cs)) : RunV C E H ⟨some d, .call { callee := .builtin .unsafeSliceData, args := #[x], argTypes := #[t] }, ty, pos, af, gd⟩ (.pointer ad) := by
  intro a w ha
  have hf := buf_form (ha.2.all _ hm.mem)
  have hr : (Builtin.unsafeSliceData_ #[t] ty #[.slice ad n cap]).run C.P w = .ok (.pointer ad) w := by
    rcases hf.2.2 with ⟨_, rfl, _⟩ | ⟨_, hc, g, cur, fz, rfl, _⟩
    · exact run_unsafeSliceData_nil w _ _ _ _
    · exact run_unsafeSliceData_row w _ _ _ _ _ hc
  simp only [execOp, ha.1.ev hx, resolve, invoke, builtin, Sem.run_bind, Sem.run_pure, List.map_toArray, List.map_cons, List.map_nil, hr, Result.andThen]
theorem freeze_own {w : World} {e n cap : Nat} {ad : Option Addr} {cs : List Value} {g : Nat} (h : ownsB w e (.slice ad n cap) n cs) (hg : ad = some ⟨g, 0, none⟩) : ownsB (w.freeze ⟨g, 0, none⟩ n) e (.slice ad n cap) n cs := by
  refine ⟨⟨h.1.1, ?_⟩, h.2⟩
  subst hg
  rcases h.1.2 with ⟨hv, _⟩ | ⟨g', cap', cur, fz, hv, hbg, hh, hfz, rest⟩
  · cases hv
  · injection hv with ha _ hc
    injection ha with ha
    injection ha with hgg _ _
    subst hgg; subst hc
    unfold World.freeze
    split
    · exact .inr ⟨g, _, cur, fz, rfl, hbg, hh, hfz, rest⟩
    · obtain ⟨lo, hi⟩ := fz
      refine .inr ⟨g, _, cur, (if lo == hi then (0, 0 + n) else (min lo 0, max hi (0 + n))), rfl, hbg, ?_, ?_, rest⟩
      · simp [Array.getElem?_modify, hh]
      · simp only at hfz
        split <;> simp <;> omega
theorem EL.unsafeStr {tp : TI} {el t3 : TypeId} {ad : Option Addr} {n cap : Nat} {bs : List UInt8} (hg : guardOk all E gd = some true) (hx : E.ev x = some (.pointer ad)) (hy : E.ev y = some (Iv (n : Nat))) (ht : C.T.f t = some tp) (hu : tp.u = .pointer el) (hce : C.P.cellsOf el = 1) (hd : Nat.blt d C.n = true)
    (p : PickSet H (HA.buf (.slice ad n cap) el n (bs.map Uv)) (HA.buf (.slice ad n cap) el n (bs.map Uv)) H) (h63 : n ≤ 9223372036854775807)
    (k : EL C all ops Q ((d, Sv bs) :: E) H) : EL C all (⟨some d, .call { callee := .builtin .unsafeString, args := #[x, y], argTypes := #[t, t3] }, ty, pos, af, gd⟩ :: ops) Q E H := by
  intro a w ha
  simp only [wpListIn, guardOk_wanted (o := ⟨some d, .call { callee := .builtin .unsafeString, args := #[x, y], argTypes := #[t, t3] }, ty, pos, af, gd⟩) hg ha.1, if_true]
  refine ⟨fun _ _ => trivial, ?_⟩
  rw [sem_plain (by simp)]
  have hT := (C.T.ok t tp ht).u
  rw [hu] at hT
  obtain ⟨R, p1, p2⟩ := p.split
  have hs1 := ha.2.perm p1
  have hown : ownsB w el (.slice ad n cap) n (bs.map Uv) := hs1.head
  have hf := buf_form hown
  have hbl : bs.length = n := by simpa using hf.2.1
  have key : ∃ w', (Builtin.unsafeString_ #[t, t3] ty #[.pointer ad, Iv (n : Nat)]).run C.P w = .ok (Sv bs) w' ∧ Sat C.w0 C.B (HA.buf (.slice ad n cap) el n (bs.map Uv) :: R) w' := by
    rcases hf.2.2 with ⟨h0, rfl, rfl⟩ | ⟨h0, hc, g, cur, fz, rfl, hh, hfz, hnc, hcs, htake⟩
    · subst h0
      obtain rfl : bs = [] := List.eq_nil_of_length_eq_zero hbl
      exact ⟨w, run_unsafeString_none w t t3 ty none, hs1⟩
    · have hcell : ∀ j z, bs[j]? = some z → w.cell? ((⟨g, 0, none⟩ : Addr).add j) = some (.int .u8 z.toNat) := fun j z hj => hown.1.cells (g := g) rfl j _ (by simp [hj])
      have hr := run_unsafeString_row (P := C.P) w t t3 ty el hT hce g cur.size (by simp [World.shape?, hh]) bs (by intro e; subst e; simp at hbl; omega) (by omega) (by omega) hcell
      rw [hbl] at hr
      refine ⟨_, hr, ?_⟩
      have hsz : (w.freeze ⟨g, 0, none⟩ n).heap.size = w.heap.size := by unfold World.freeze; split <;> simp
      refine hs1.step (by unfold World.freeze; split <;> rfl) (by unfold World.freeze; split <;> rfl) (by unfold World.freeze; split <;> rfl) (by rw [hsz]; exact Nat.le_refl _) (fun k hk hn => ?_) (freeze_own hown rfl) (fun g' hg' => ?_) (by simp [HA.buf, Value.ownBlock])
      · have hkg : k ≠ g := fun e => hn (by simp [HA.buf, Value.ownBlock, e])
        unfold World.freeze
        split
        · rfl
        · simp only [Array.getElem?_modify]; rw [if_neg (Ne.symm hkg)]
      · have hgg : g' = g := by simpa [HA.buf, Value.ownBlock] using hg'
        subst hgg
        exact ⟨by rw [hsz]; exact (Array.getElem?_eq_some_iff.1 hh).1, .inl hg'⟩
  obtain ⟨w', hr, hs'⟩ := key
  have hrun : (execOp a.eval ⟨some d, .call { callee := .builtin .unsafeString, args := #[x, y], argTypes := #[t, t3] }, ty, pos, af, gd⟩).run C.P w = .ok (.value (Sv bs)) w' := by
    simp only [execOp, ha.1.ev hx, ha.1.ev hy, resolve, invoke, builtin, Sem.run_bind, Sem.run_pure, List.map_toArray, List.map_cons, List.map_nil, hr, Result.andThen]
  rw [hrun]
  exact k _ _ ⟨ha.1.put (by simpa using hd) _, hs'.perm p2.symm⟩
theorem RV.toUnsafe {ti tj te : TI} {el : TypeId} {cs : Array Value} {fr : Nat × Nat} {eb : Nat} (hx : E.ev x = some (Pv g 0)) (ht : C.T.f t = some ti) (hu : ti.u = .pointer el) (ht' : C.T.f t' = some tj) (hu' : tj.u = .unsafePointer) (hte : C.T.f el = some te) (hz : te.size ≠ 0) (hm : Mem H (HA.blk g (.cells cs eb fr))) (hc : 0 < cs.size) :
    RunV C E H ⟨some d, .convert t t' x, ty, pos, af, gd⟩ (Pv g 0) := fun a w ha => by
  have hT := (C.T.ok t ti ht).u
  rw [hu] at hT
  have hT' := (C.T.ok t' tj ht').u
  rw [hu'] at hT'
  obtain ⟨i, hi, _, hs, _⟩ := (C.T.ok el te hte).info
  have hb : w.heap[g]? = some (.cells cs eb fr) := ha.2.all _ hm.mem
  have := run_to_unsafe (P := C.P) w (src := t) (dst := t') (⟨g, 0, none⟩ : Addr) hT hT' hi (by rw [hs]; exact hz) (e := eb) (cells := cs.size) (by simp [World.shape?, hb]) hc
  simp only [execOp, ha.1.ev hx, Sem.run_bind, Sem.run_pure, this, Result.andThen]
theorem RV.fromUnsafe {ti tj te : TI} {el : TypeId} {cs : Array Value} {fr : Nat × Nat} {eb : Nat} (hx : E.ev x = some (Pv g 0)) (ht : C.T.f t = some ti) (hu : ti.u = .unsafePointer) (ht' : C.T.f t' = some tj) (hu' : tj.u = .pointer el) (hte : C.T.f el = some te) (hm : Mem H (HA.blk g (.cells cs eb fr))) (hl : liesAt C.P C.P.depth eb (cs.size / C.P.cellsOf eb) 0 el 1 = true) :
    RunV C E H ⟨some d, .convert t t' x, ty, pos, af, gd⟩ (Pv g 0) := fun a w ha => by
  have hT := (C.T.ok t ti ht).u
  rw [hu] at hT
  have hT' := (C.T.ok t' tj ht').u
  rw [hu'] at hT'
  obtain ⟨i, hi, _, hs, _⟩ := (C.T.ok el te hte).info
  have hb : w.heap[g]? = some (.cells cs eb fr) := ha.2.all _ hm.mem
  have := run_from_unsafe (P := C.P) w (src := t) (dst := t') (⟨g, 0, none⟩ : Addr) hT hT' hi (e := eb) (cells := cs.size) (by simp [World.shape?, hb]) hl
  simp only [execOp, ha.1.ev hx, Sem.run_bind, Sem.run_pure, this, Result.andThen]
theorem RV.neqPs {ti te : TI} {el : TypeId} {ad : Addr} (hx : E.ev x = some (.pointer (some ad))) (hy : E.ev y = some (.pointer (some ad))) (ht : C.T.f t = some ti) (hu : ti.u = .pointer el) (hte : C.T.f el = some te) :
    RunV C E H ⟨some d, .binOp .neq t x y t', ty, pos, af, gd⟩ (.bool false) := fun a w ha => by
  have hT := (C.T.ok t ti ht).u
  rw [hu] at hT
  obtain ⟨i, hi, _⟩ := (C.T.ok el te hte).info
  have := run_neq_ptr_same (P := C.P) w ad hT hi
  have h2 : (if (!true) = true then (pure () : Sem Unit) else pure ()).run C.P w = .ok () w := rfl
  simp only [execOp, ha.1.ev hx, ha.1.ev hy, eqGuard, Sem.run_bind, Sem.run_pure, Result.andThen, h2, this]
theorem RV.subK {kd : IntKind} {m n : Nat} (hx : E.ev x = some (.int kd (m : Nat))) (hy : E.ev y = some (.int kd (n : Nat))) (hle : n ≤ m) (hr : m ≤ kmax kd) : RunV C E H ⟨some d, .binOp .sub t x y t', ty, pos, af, gd⟩ (.int kd ((m - n : Nat) : Int)) :=
  RV.sub_ _ hx hy (by rw [show (m : Int) - (n : Int) = ((m - n : Nat) : Int) by omega]; exact wrap_of_le kd (m - n) (by omega))
end buffers
end Go.Proofs.YtcoajnpneableaaDoor.Sl
namespace Go.Proofs.YtcoajnpneableaaDoor
open Go Go.RowKit Sl
set_option maxRecDepth 100000
set_option maxHeartbeats 8000000
set_option linter.unusedVariables false
set_option linter.unusedSimpArgs false
attribute [local irreducible] ES EL PX wps
theorem isDig_int (b : UInt8) : isDig b = (decide (48 ≤ (b.toNat : Int)) && decide ((b.toNat : Int) ≤ 57)) := by
  unfold isDig
  rw [Bool.eq_iff_iff]
  simp only [decide_eq_true_eq, Bool.and_eq_true]
  omega
theorem numGo_le (t : List UInt8) : ∀ (k n a : Nat), n ≤ 256 → a + k ≤ t.length → (numGo t k n a).1 ≤ 256 ∧ a ≤ (numGo t k n a).2 ∧ (numGo t k n a).2 ≤ a + k
  | 0, n, a, hn, _ => ⟨hn, Nat.le_refl _, Nat.le_refl _⟩
  | k + 1, n, a, hn, ha => by
    rw [numGo]
    split
    · have := numGo_le t k (min (10 * n + ((t.getD a 0).toNat - 48)) 256) (a + 1) (by omega) (by omega)
      omega
    · exact ⟨hn, Nat.le_refl _, by simp only; omega⟩
theorem numM_le (t : List UInt8) (a : Nat) (h : a ≤ t.length) : -1 ≤ (numM t a).1 ∧ (numM t a).1 ≤ 256 ∧ a ≤ (numM t a).2 ∧ (numM t a).2 ≤ t.length := by
  have := numGo_le t (t.length - a) 0 a (by omega) (by omega)
  unfold numM
  dsimp only
  split <;> omega
theorem number_c (t : List UInt8) (a : Nat) (ha : a ≤ t.length) (ht : t.length ≤ 1073741824) (w : World) : Pure Tryd.prog 54 #[Sv t, Iv (a : Nat)] (fun _ : Unit => .tuple #[Iv (numM t a).1, Iv ((numM t a).2 : Nat)]) (fun _ => []) w := by
  refine calls_of_ES TB Tryd.func54 rfl _ Tryd.ntmps54 rfl (Sat.start w) ?_
  refine .go ?_; repeat constructor
  refine EL.assign rfl rfl rfl ?_
  refine EL.assign rfl rfl rfl ?_
  refine .go ?_; repeat constructor
  refine EL.move rfl rfl rfl ?_
  refine EL.assign rfl rfl rfl ?_
  refine EL.assign rfl rfl rfl ?_
  refine .go ?_; repeat constructor
  obtain ⟨res, hres⟩ : ∃ res, res = numGo t (t.length - a) 0 a := ⟨_, rfl⟩
  have hm : numM t a = (if res.2 = a then -1 else (res.1 : Int), res.2) := by rw [hres]; rfl
  rw [hm]
  refine ES.loop (σ := Nat × Nat) (fun (n, c) => n ≤ 256 ∧ a ≤ c ∧ c ≤ t.length ∧ numGo t (t.length - c) n c = res) (fun (n, c) => [(0, Sv t), (1, Iv (c : Nat)), (6, Iv (n : Nat)), (7, Iv (a : Nat))]) (fun _ => []) (fun (n, c) => t.length - c) (0, a) ⟨by omega, Nat.le_refl _, ha, hres.symm⟩ ⟨rfl, rfl, rfl, rfl, trivial⟩ (.i (by repeat constructor)) ?_
  rintro ⟨n, c⟩ ⟨hn, hac, hc, hgo⟩
  dsimp only at hn hac hc hgo ⊢
  refine .go ?_; repeat constructor
  refine EL.cutX (X := Unit) (fun _ => [(0, Sv t), (1, Iv (c : Nat)), (6, Iv (n : Nat)), (7, Iv (a : Nat)), (24, .bool (decide ((c : Int) < (t.length : Int)) && isDig (t.getD c 0)))]) (fun _ => []) ?_ (fun _ => ?_)
  · refine .go ?_; repeat constructor
    refine EL.move rfl rfl rfl ?_
    refine EL.move rfl rfl rfl ?_
    refine EL.lenS rfl rfl rfl rfl rfl ?_
    refine EL.lss rfl rfl rfl rfl ?_
    refine EL.move rfl rfl rfl ?_
    first | refine EL.splitD (d := 13) rfl (fun hp13 => ?_) (fun hp13 => ?_) | refine EL.splitN (d := 13) rfl (fun hp13 => ?_) (fun hp13 => ?_) | refine EL.splitB (d := 13) rfl (fun hp13 => ?_) (fun hp13 => ?_)
    · refine EL.move rfl rfl rfl ?_
      refine EL.move rfl rfl rfl ?_
      refine EL.indexSN rfl rfl rfl rfl rfl rfl (by omega) ?_
      refine EL.geq rfl rfl rfl rfl ?_
      refine EL.pickT rfl rfl rfl rfl ?_
      refine EL.move rfl rfl rfl ?_
      first | refine EL.splitD (d := 19) rfl (fun hp19 => ?_) (fun hp19 => ?_) | refine EL.splitN (d := 19) rfl (fun hp19 => ?_) (fun hp19 => ?_) | refine EL.splitB (d := 19) rfl (fun hp19 => ?_) (fun hp19 => ?_)
      · refine EL.move rfl rfl rfl ?_
        refine EL.move rfl rfl rfl ?_
        refine EL.indexSN rfl rfl rfl rfl rfl rfl (by omega) ?_
        refine EL.leq rfl rfl rfl rfl ?_
        refine EL.pickT rfl rfl rfl rfl ?_
        exact EL.endX () ⟨rfl, rfl, rfl, rfl, getA rfl (congrArg Value.bool (by rw [isDig_int]; simp_all <;> omega)), trivial⟩ (.i (by repeat constructor))
      · refine EL.pass rfl rfl rfl ?_
        refine EL.pass rfl rfl rfl ?_
        refine EL.pass rfl rfl rfl ?_
        refine EL.pass rfl rfl rfl ?_
        refine EL.pickF rfl rfl rfl rfl ?_
        exact EL.endX () ⟨rfl, rfl, rfl, rfl, getA rfl (congrArg Value.bool (by rw [isDig_int]; simp_all <;> omega)), trivial⟩ (.i (by repeat constructor))
    · refine EL.pass rfl rfl rfl ?_
      refine EL.pass rfl rfl rfl ?_
      refine EL.pass rfl rfl rfl ?_
      refine EL.pass rfl rfl rfl ?_
      refine EL.pickF rfl rfl rfl rfl ?_
      refine EL.move rfl rfl rfl ?_
      refine EL.pass rfl rfl rfl ?_
      refine EL.pass rfl rfl rfl ?_
      refine EL.pass rfl rfl rfl ?_
      refine EL.pass rfl rfl rfl ?_
      refine EL.pickF rfl rfl rfl rfl ?_
      exact EL.endX () ⟨rfl, rfl, rfl, rfl, getA rfl (congrArg Value.bool (by rw [isDig_int]; simp_all <;> omega)), trivial⟩ (.i (by repeat constructor))
  refine ES.cond rfl (fun hd => ?_) (fun hd => ?_)
  · rw [Bool.and_eq_true, decide_eq_true_eq] at hd
    have hlt : c < t.length := by omega
    have hdig := hd.2
    have hb : 48 ≤ (t.getD c 0).toNat ∧ (t.getD c 0).toNat ≤ 57 := by unfold isDig at hdig; exact of_decide_eq_true hdig
    obtain ⟨k, hk⟩ : ∃ k, t.length - c = k + 1 := ⟨t.length - c - 1, by omega⟩
    rw [hk, numGo, if_pos ⟨hlt, hd.2⟩] at hgo
    refine .go ?_; repeat constructor
    refine EL.move rfl rfl rfl ?_
    refine EL.mulN (m := 10) rfl rfl rfl rfl rfl (by omega) ?_
    refine EL.move rfl rfl rfl ?_
    refine EL.move rfl rfl rfl ?_
    refine EL.indexSN rfl rfl rfl rfl rfl rfl (by omega) ?_
    refine EL.ofRV (RV.subK (n := 48) rfl rfl (by omega) (by simp only [kmax]; omega)) rfl rfl rfl (by intro c h; cases h) ?_
    refine EL.convN rfl rfl rfl rfl rfl rfl (by simp only [kmax]; omega) ?_
    refine EL.addN rfl rfl rfl rfl rfl (by omega) ?_
    refine EL.ofRV (RV.minI rfl rfl) rfl rfl rfl (by intro c h; cases h) ?_
    refine EL.assign rfl rfl rfl ?_
    refine .go ?_; repeat constructor
    refine EL.move rfl rfl rfl ?_
    refine EL.add1 rfl rfl rfl rfl (by omega) ?_
    refine EL.assign rfl rfl rfl ?_
    refine .go ?_; repeat constructor
    refine PX.loop (min (10 * n + ((t.getD c 0).toNat - 48)) 256, c + 1) ⟨by simp only; omega, by simp only; omega, by simp only; omega, by simp only; rw [show t.length - (c + 1) = k by omega]; exact hgo⟩ (by simp only; omega) ⟨rfl, rfl, getA rfl (congrArg Iv (by omega)), rfl, trivial⟩ (.i (by repeat constructor))
  · have hr : res = (n, c) := by
      rw [← hgo]
      cases hk : t.length - c with
      | zero => rfl
      | succ k =>
        rw [numGo, if_neg]
        rintro ⟨h1, h2⟩
        rw [h2, decide_eq_true (by omega)] at hd
        cases hd
    rw [hr]
    refine .go ?_; repeat constructor
    refine EL.move rfl rfl rfl ?_
    refine EL.move rfl rfl rfl ?_
    refine EL.eqlI rfl rfl rfl rfl ?_
    refine .go ?_; repeat constructor
    refine ES.cutC (X := Unit) (fun _ => [(1, Iv (c : Nat)), (6, Iv (if c = a then -1 else (n : Int)))]) (fun _ => []) ?_ (fun _ => ?_)
    · refine ES.condD rfl (fun he => ?_) (fun hne => ?_)
      · refine .go ?_; repeat constructor
        refine EL.assign rfl rfl rfl ?_
        refine .go ?_; repeat constructor
        exact PX.cutX () ⟨rfl, getA rfl (congrArg Iv (by rw [if_pos (by omega)])), trivial⟩ (.i (by repeat constructor))
      · refine .go ?_; repeat constructor
        exact PX.cutX () ⟨rfl, getA rfl (congrArg Iv (by rw [if_neg (by omega)])), trivial⟩ (.i (by repeat constructor))
    refine .go ?_; repeat constructor
    refine EL.move rfl rfl rfl ?_
    refine EL.move rfl rfl rfl ?_
    refine EL.assign rfl rfl rfl ?_
    refine EL.assign rfl rfl rfl ?_
    refine .go ?_; repeat constructor
    exact PX.ret rfl Tryd.results54 (.cons (.tmp rfl) (.cons (.tmp rfl) .nil)) (fun w hs => ⟨(), rfl, hs.ent (.i (by repeat constructor))⟩)
def ivV (o : Option (Nat × Int × Nat)) : Value := match o with
  | none => .tuple #[Iv 0, Iv 0, Iv 0, .bool false]
  | some (lo, hi, n) => .tuple #[Iv (lo : Nat), Iv hi, Iv (n : Nat), .bool true]
theorem iv_le {t : List UInt8} {a lo n : Nat} {hi : Int} (h : ivM t a = some (lo, hi, n)) : lo ≤ 255 ∧ -1 ≤ hi ∧ hi ≤ 255 ∧ (0 ≤ hi → (lo : Int) ≤ hi) ∧ a < n ∧ n ≤ t.length := by
  have hbeyond : t.length < a → numM t a = (-1, a) := fun h => by
    unfold numM
    rw [show t.length - a = 0 by omega]
    simp [numGo]
  have h1 := numM_le t a
  unfold ivM at h
  dsimp only at h
  obtain ⟨h2, hh⟩ : ∃ h2, h2 = (if (numM t a).2 < t.length ∧ t.getD (numM t a).2 0 = 44 then numM t ((numM t a).2 + 1) else numM t a) := ⟨_, rfl⟩
  rw [← hh] at h
  generalize hl : numM t a = l at h h1 hh hbeyond
  by_cases hb : l.1 < 0 ∨ 255 < l.1 ∨ 255 < h2.1 ∨ (0 ≤ h2.1 ∧ h2.1 < l.1)
  · rw [if_pos hb] at h; cases h
  rw [if_neg hb] at h
  by_cases hb2 : t.length < h2.2 + 2 ∨ (t.drop h2.2).take 2 ≠ [92, 125]
  · rw [if_pos hb2] at h; cases h
  rw [if_neg hb2] at h
  simp only [Option.some.injEq, Prod.mk.injEq] at h
  obtain ⟨rfl, rfl, rfl⟩ := h
  simp only [not_or, Nat.not_lt] at hb hb2
  have ha : a ≤ t.length := by
    rcases Nat.lt_or_ge t.length a with h3 | h3
    · have := hbeyond h3
      subst this
      simp only at hb
      omega
    · exact h3
  have h4 := h1 ha
  have h5 : -1 ≤ h2.1 ∧ a ≤ h2.2 := by
    rw [hh]
    split
    · have := numM_le t (l.2 + 1) (by omega); omega
    · omega
  omega
theorem interval_c (t : List UInt8) (a : Nat) (ha : a ≤ t.length) (ht : t.length ≤ 1073741824) (w : World) : Pure Tryd.prog 39 #[Sv t, Iv (a : Nat)] (fun _ : Unit => ivV (ivM t a)) (fun _ => []) w := by
  have hl := numM_le t a ha
  have hnc := number_c t a ha ht
  have hiv : ivM t a = (let l := numM t a
    let h := if l.2 < t.length ∧ t.getD l.2 0 = 44 then numM t (l.2 + 1) else l
    if l.1 < 0 ∨ 255 < l.1 ∨ 255 < h.1 ∨ (0 ≤ h.1 ∧ h.1 < l.1) then none
    else if t.length < h.2 + 2 ∨ (t.drop h.2).take 2 ≠ [92, 125] then none
    else some (l.1.toNat, h.1, h.2 + 2)) := rfl
  dsimp only at hiv
  generalize numM t a = l at hl hnc hiv
  obtain ⟨l1, l2⟩ := l
  dsimp only at hl hnc hiv
  have h44 : (((t.getD l2 0).toNat : Int) = 44) ↔ t.getD l2 0 = 44 := u8_lit (t.getD l2 0) 44 (by omega)
  refine calls_of_ES TB Tryd.func39 rfl _ Tryd.ntmps39 rfl (Sat.start w) ?_
  refine .go ?_; repeat constructor
  refine EL.assign rfl rfl rfl ?_
  refine EL.assign rfl rfl rfl ?_
  refine EL.assign rfl rfl rfl ?_
  refine EL.assign rfl rfl rfl ?_
  refine .go ?_; repeat constructor
  refine EL.move rfl rfl rfl ?_
  refine EL.move rfl rfl rfl ?_
  refine EL.callP rfl rfl rfl ent54 rfl hnc ?_
  refine EL.move rfl rfl rfl ?_
  refine EL.extract rfl rfl rfl rfl ?_
  refine EL.extract rfl rfl rfl rfl ?_
  refine EL.assign rfl rfl rfl ?_
  refine EL.assign rfl rfl rfl ?_
  refine .go ?_; repeat constructor
  refine EL.move rfl rfl rfl ?_
  refine EL.assign rfl rfl rfl ?_
  refine .go ?_; repeat constructor
  refine EL.cutX (X := Unit) (fun _ => [(0, Sv t), (1, Iv (l2 : Nat)), (4, Iv l1), (5, Iv l1), (24, .bool (decide (l2 < t.length ∧ t.getD l2 0 = 44)))]) (fun _ => []) ?_ (fun _ => ?_)
  · refine .go ?_; repeat constructor
    refine EL.move rfl rfl rfl ?_
    refine EL.move rfl rfl rfl ?_
    refine EL.lenS rfl rfl rfl rfl rfl ?_
    refine EL.lss rfl rfl rfl rfl ?_
    refine EL.move rfl rfl rfl ?_
    first | refine EL.splitD (d := 19) rfl (fun hp19 => ?_) (fun hp19 => ?_) | refine EL.splitN (d := 19) rfl (fun hp19 => ?_) (fun hp19 => ?_) | refine EL.splitB (d := 19) rfl (fun hp19 => ?_) (fun hp19 => ?_)
    · refine EL.move rfl rfl rfl ?_
      refine EL.move rfl rfl rfl ?_
      refine EL.indexSN rfl rfl rfl rfl rfl rfl (by omega) ?_
      refine EL.eqlI rfl rfl rfl rfl ?_
      refine EL.pickT rfl rfl rfl rfl ?_
      exact EL.endX () ⟨rfl, rfl, rfl, rfl, getA rfl (congrArg Value.bool (by rw [Bool.eq_iff_iff]; simp only [decide_eq_true_eq, ← h44]; first | omega | (simp only [Bool.false_eq_true, false_iff]; omega))), trivial⟩ (.i (by repeat constructor))
    · refine EL.pass rfl rfl rfl ?_
      refine EL.pass rfl rfl rfl ?_
      refine EL.pass rfl rfl rfl ?_
      refine EL.pass rfl rfl rfl ?_
      refine EL.pickF rfl rfl rfl rfl ?_
      exact EL.endX () ⟨rfl, rfl, rfl, rfl, getA rfl (congrArg Value.bool (by rw [Bool.eq_iff_iff]; simp only [decide_eq_true_eq, ← h44]; first | omega | (simp only [Bool.false_eq_true, false_iff]; omega))), trivial⟩ (.i (by repeat constructor))
  obtain ⟨h, hh⟩ : ∃ h, h = (if l2 < t.length ∧ t.getD l2 0 = 44 then numM t (l2 + 1) else (l1, l2)) := ⟨_, rfl⟩
  rw [← hh] at hiv
  have hle : -1 ≤ h.1 ∧ h.1 ≤ 256 ∧ h.2 ≤ t.length := by
    rw [hh]
    split
    · have := numM_le t (l2 + 1) (by omega); omega
    · omega
  refine ES.cutC (X := Unit) (fun _ => [(0, Sv t), (1, Iv (h.2 : Nat)), (4, Iv l1), (5, Iv h.1)]) (fun _ => []) ?_ (fun _ => ?_)
  · refine ES.condD rfl (fun hc => ?_) (fun hc => ?_)
    · rw [if_pos hc] at hh
      subst hh
      have hnc2 := number_c t (l2 + 1) (by omega) ht
      refine .go ?_; repeat constructor
      refine EL.move rfl rfl rfl ?_
      refine EL.move rfl rfl rfl ?_
      refine EL.add1 rfl rfl rfl rfl (by omega) ?_
      refine EL.callP rfl rfl rfl ent54 rfl hnc2 ?_
      refine EL.move rfl rfl rfl ?_
      refine EL.extract rfl rfl rfl rfl ?_
      refine EL.extract rfl rfl rfl rfl ?_
      refine EL.assign rfl rfl rfl ?_
      refine EL.assign rfl rfl rfl ?_
      refine .go ?_; repeat constructor
      exact PX.cutX () ⟨rfl, rfl, rfl, rfl, trivial⟩ (.i (by repeat constructor))
    · rw [if_neg hc] at hh
      subst hh
      refine .go ?_; repeat constructor
      exact PX.cutX () ⟨rfl, rfl, rfl, rfl, trivial⟩ (.i (by repeat constructor))
  obtain ⟨h1, h2⟩ := h
  dsimp only at hiv hle ⊢
  refine .go ?_; repeat constructor
  refine EL.cutX (X := Unit) (fun _ => [(0, Sv t), (1, Iv (h2 : Nat)), (4, Iv l1), (5, Iv h1), (50, .bool (decide (l1 < 0 ∨ 255 < l1 ∨ 255 < h1 ∨ (0 ≤ h1 ∧ h1 < l1))))]) (fun _ => []) ?_ (fun _ => ?_)
  · refine .go ?_; repeat constructor
    refine EL.move rfl rfl rfl ?_
    refine EL.lss rfl rfl rfl rfl ?_
    refine EL.move rfl rfl rfl ?_
    first | refine EL.splitD (d := 34) rfl (fun hp34 => ?_) (fun hp34 => ?_) | refine EL.splitN (d := 34) rfl (fun hp34 => ?_) (fun hp34 => ?_) | refine EL.splitB (d := 34) rfl (fun hp34 => ?_) (fun hp34 => ?_)
    · refine EL.pass rfl rfl rfl ?_
      refine EL.pass rfl rfl rfl ?_
      refine EL.pickT rfl rfl rfl rfl ?_
      refine EL.move rfl rfl rfl ?_
      refine EL.pass rfl rfl rfl ?_
      refine EL.pass rfl rfl rfl ?_
      refine EL.pickT rfl rfl rfl rfl ?_
      refine EL.move rfl rfl rfl ?_
      refine EL.pass rfl rfl rfl ?_
      refine EL.pass rfl rfl rfl ?_
      refine EL.pass rfl rfl rfl ?_
      refine EL.pass rfl rfl rfl ?_
      refine EL.pass rfl rfl rfl ?_
      refine EL.pass rfl rfl rfl ?_
      refine EL.pass rfl rfl rfl ?_
      refine EL.pickT rfl rfl rfl rfl ?_
      exact EL.endX () ⟨rfl, rfl, rfl, rfl, getA rfl (congrArg Value.bool (by rw [Bool.eq_iff_iff]; simp only [decide_eq_true_eq, true_iff, Bool.false_eq_true, false_iff]; omega)), trivial⟩ (.i (by repeat constructor))
    · refine EL.move rfl rfl rfl ?_
      refine EL.gtr rfl rfl rfl rfl ?_
      refine EL.pickF rfl rfl rfl rfl ?_
      refine EL.move rfl rfl rfl ?_
      first | refine EL.splitD (d := 38) rfl (fun hp38 => ?_) (fun hp38 => ?_) | refine EL.splitN (d := 38) rfl (fun hp38 => ?_) (fun hp38 => ?_) | refine EL.splitB (d := 38) rfl (fun hp38 => ?_) (fun hp38 => ?_)
      · refine EL.pass rfl rfl rfl ?_
        refine EL.pass rfl rfl rfl ?_
        refine EL.pickT rfl rfl rfl rfl ?_
        refine EL.move rfl rfl rfl ?_
        refine EL.pass rfl rfl rfl ?_
        refine EL.pass rfl rfl rfl ?_
        refine EL.pass rfl rfl rfl ?_
        refine EL.pass rfl rfl rfl ?_
        refine EL.pass rfl rfl rfl ?_
        refine EL.pass rfl rfl rfl ?_
        refine EL.pass rfl rfl rfl ?_
        refine EL.pickT rfl rfl rfl rfl ?_
        exact EL.endX () ⟨rfl, rfl, rfl, rfl, getA rfl (congrArg Value.bool (by rw [Bool.eq_iff_iff]; simp only [decide_eq_true_eq, true_iff, Bool.false_eq_true, false_iff]; omega)), trivial⟩ (.i (by repeat constructor))
      · refine EL.move rfl rfl rfl ?_
        refine EL.gtr rfl rfl rfl rfl ?_
        refine EL.pickF rfl rfl rfl rfl ?_
        refine EL.move rfl rfl rfl ?_
        first | refine EL.splitD (d := 42) rfl (fun hp42 => ?_) (fun hp42 => ?_) | refine EL.splitN (d := 42) rfl (fun hp42 => ?_) (fun hp42 => ?_) | refine EL.splitB (d := 42) rfl (fun hp42 => ?_) (fun hp42 => ?_)
        · refine EL.pass rfl rfl rfl ?_
          refine EL.pass rfl rfl rfl ?_
          refine EL.pass rfl rfl rfl ?_
          refine EL.pass rfl rfl rfl ?_
          refine EL.pass rfl rfl rfl ?_
          refine EL.pass rfl rfl rfl ?_
          refine EL.pass rfl rfl rfl ?_
          refine EL.pickT rfl rfl rfl rfl ?_
          exact EL.endX () ⟨rfl, rfl, rfl, rfl, getA rfl (congrArg Value.bool (by rw [Bool.eq_iff_iff]; simp only [decide_eq_true_eq, true_iff, Bool.false_eq_true, false_iff]; omega)), trivial⟩ (.i (by repeat constructor))
        · refine EL.move rfl rfl rfl ?_
          refine EL.geq rfl rfl rfl rfl ?_
          refine EL.move rfl rfl rfl ?_
          first | refine EL.splitD (d := 45) rfl (fun hp45 => ?_) (fun hp45 => ?_) | refine EL.splitN (d := 45) rfl (fun hp45 => ?_) (fun hp45 => ?_) | refine EL.splitB (d := 45) rfl (fun hp45 => ?_) (fun hp45 => ?_)
          · refine EL.move rfl rfl rfl ?_
            refine EL.move rfl rfl rfl ?_
            refine EL.lss rfl rfl rfl rfl ?_
            refine EL.pickT rfl rfl rfl rfl ?_
            refine EL.pickF rfl rfl rfl rfl ?_
            exact EL.endX () ⟨rfl, rfl, rfl, rfl, getA rfl (congrArg Value.bool (by rw [Bool.eq_iff_iff]; simp only [decide_eq_true_eq, true_iff, Bool.false_eq_true, false_iff]; omega)), trivial⟩ (.i (by repeat constructor))
          · refine EL.pass rfl rfl rfl ?_
            refine EL.pass rfl rfl rfl ?_
            refine EL.pass rfl rfl rfl ?_
            refine EL.pickF rfl rfl rfl rfl ?_
            refine EL.pickF rfl rfl rfl rfl ?_
            exact EL.endX () ⟨rfl, rfl, rfl, rfl, getA rfl (congrArg Value.bool (by rw [Bool.eq_iff_iff]; simp only [decide_eq_true_eq, true_iff, Bool.false_eq_true, false_iff]; omega)), trivial⟩ (.i (by repeat constructor))
  refine ES.condD rfl (fun hc => ?_) (fun hc => ?_)
  · rw [if_pos hc] at hiv
    rw [hiv]
    refine .go ?_; repeat constructor
    refine EL.assign rfl rfl rfl ?_
    refine EL.assign rfl rfl rfl ?_
    refine EL.assign rfl rfl rfl ?_
    refine EL.assign rfl rfl rfl ?_
    refine .go ?_; repeat constructor
    exact PX.ret rfl Tryd.results39 (.cons (.tmp rfl) (.cons (.tmp rfl) (.cons (.tmp rfl) (.cons (.tmp rfl) .nil)))) (fun w hs => ⟨(), rfl, hs.ent (.i (by repeat constructor))⟩)
  rw [if_neg hc] at hiv
  refine .go ?_; repeat constructor
  refine EL.cutX (X := Unit) (fun _ => [(0, Sv t), (1, Iv (h2 : Nat)), (4, Iv l1), (5, Iv h1), (63, .bool (decide (t.length < h2 + 2 ∨ (t.drop h2).take 2 ≠ [92, 125])))]) (fun _ => []) ?_ (fun _ => ?_)
  · refine .go ?_; repeat constructor
    refine EL.move rfl rfl rfl ?_
    refine EL.addN (n := 2) rfl rfl rfl rfl rfl (by omega) ?_
    refine EL.move rfl rfl rfl ?_
    refine EL.lenS rfl rfl rfl rfl rfl ?_
    refine EL.gtr rfl rfl rfl rfl ?_
    refine EL.move rfl rfl rfl ?_
    first | refine EL.splitD (d := 56) rfl (fun hp56 => ?_) (fun hp56 => ?_) | refine EL.splitN (d := 56) rfl (fun hp56 => ?_) (fun hp56 => ?_) | refine EL.splitB (d := 56) rfl (fun hp56 => ?_) (fun hp56 => ?_)
    · refine EL.pass rfl rfl rfl ?_
      refine EL.pass rfl rfl rfl ?_
      refine EL.pass rfl rfl rfl ?_
      refine EL.pass rfl rfl rfl ?_
      refine EL.pass rfl rfl rfl ?_
      refine EL.pass rfl rfl rfl ?_
      refine EL.pickT rfl rfl rfl rfl ?_
      exact EL.endX () ⟨rfl, rfl, rfl, rfl, getA rfl (congrArg Value.bool (by rw [Bool.eq_iff_iff]; simp only [decide_eq_true_eq, true_iff, Bool.not_eq_true', decide_eq_false_iff_not]; first | exact .inl (by omega) | exact ⟨fun hx => .inr (by rw [show h2 + 2 - h2 = 2 by omega] at hx; exact hx), fun hx => hx.elim (fun h => absurd h (by omega)) (fun h => by rw [show h2 + 2 - h2 = 2 by omega]; exact h)⟩)), trivial⟩ (.i (by repeat constructor))
    · refine EL.move rfl rfl rfl ?_
      refine EL.move rfl rfl rfl ?_
      refine EL.move rfl rfl rfl ?_
      refine EL.addN (n := 2) rfl rfl rfl rfl rfl (by omega) ?_
      refine EL.sliceS rfl rfl rfl rfl rfl ⟨_, rfl⟩ ⟨_, rfl⟩ (by omega) (by omega) ?_
      refine EL.neqS rfl rfl rfl rfl ?_
      refine EL.pickF rfl rfl rfl rfl ?_
      exact EL.endX () ⟨rfl, rfl, rfl, rfl, getA rfl (congrArg Value.bool (by rw [Bool.eq_iff_iff]; simp only [decide_eq_true_eq, true_iff, Bool.not_eq_true', decide_eq_false_iff_not]; first | exact .inl (by omega) | exact ⟨fun hx => .inr (by rw [show h2 + 2 - h2 = 2 by omega] at hx; exact hx), fun hx => hx.elim (fun h => absurd h (by omega)) (fun h => by rw [show h2 + 2 - h2 = 2 by omega]; exact h)⟩)), trivial⟩ (.i (by repeat constructor))
  refine ES.condD rfl (fun hc2 => ?_) (fun hc2 => ?_)
  · rw [if_pos hc2] at hiv
    rw [hiv]
    refine .go ?_; repeat constructor
    refine EL.assign rfl rfl rfl ?_
    refine EL.assign rfl rfl rfl ?_
    refine EL.assign rfl rfl rfl ?_
    refine EL.assign rfl rfl rfl ?_
    refine .go ?_; repeat constructor
    exact PX.ret rfl Tryd.results39 (.cons (.tmp rfl) (.cons (.tmp rfl) (.cons (.tmp rfl) (.cons (.tmp rfl) .nil)))) (fun w hs => ⟨(), rfl, hs.ent (.i (by repeat constructor))⟩)
  · rw [if_neg hc2] at hiv
    rw [hiv]
    have hl1 : ((l1.toNat : Nat) : Int) = l1 := by omega
    refine .go ?_; repeat constructor
    refine EL.move rfl rfl rfl ?_
    refine EL.move rfl rfl rfl ?_
    refine EL.move rfl rfl rfl ?_
    refine EL.addN (n := 2) rfl rfl rfl rfl rfl (by omega) ?_
    refine EL.assign rfl rfl rfl ?_
    refine EL.assign rfl rfl rfl ?_
    refine EL.assign rfl rfl rfl ?_
    refine EL.assign rfl rfl rfl ?_
    refine .go ?_; repeat constructor
    refine PX.ret rfl Tryd.results39 (.cons (.tmp rfl) (.cons (.tmp rfl) (.cons (.tmp rfl) (.cons (.tmp rfl) .nil)))) (fun w hs => ⟨(), ?_, hs.ent (.i (by repeat constructor))⟩)
    simp only [ivV, hl1]
    rfl
theorem alnum_c (b : UInt8) (w : World) : Pure Tryd.prog 40 #[Uv b] (fun _ : Unit => .bool (isAln b)) (fun _ => []) w := by
  have hd := isDig_int b
  refine calls_of_ES TB Tryd.func40 rfl _ Tryd.ntmps40 rfl (Sat.start w) ?_
  refine .go ?_; repeat constructor
  refine EL.assign rfl rfl rfl ?_
  refine .go ?_; repeat constructor
  refine EL.cutX (X := Unit) (fun _ => [(2, .bool (isAln b))]) (fun _ => []) ?_ (fun _ => ?_)
  · refine .go ?_; repeat constructor
    refine EL.move rfl rfl rfl ?_
    refine EL.geq rfl rfl rfl rfl ?_
    refine EL.move rfl rfl rfl ?_
    first | refine EL.splitD (d := 5) rfl (fun hp5 => ?_) (fun hp5 => ?_) | refine EL.splitN (d := 5) rfl (fun hp5 => ?_) (fun hp5 => ?_) | refine EL.splitB (d := 5) rfl (fun hp5 => ?_) (fun hp5 => ?_)
    · refine EL.move rfl rfl rfl ?_
      refine EL.leq rfl rfl rfl rfl ?_
      refine EL.pickT rfl rfl rfl rfl ?_
      refine EL.move rfl rfl rfl ?_
      first | refine EL.splitD (d := 9) rfl (fun hp9 => ?_) (fun hp9 => ?_) | refine EL.splitN (d := 9) rfl (fun hp9 => ?_) (fun hp9 => ?_) | refine EL.splitB (d := 9) rfl (fun hp9 => ?_) (fun hp9 => ?_)
      · refine EL.pass rfl rfl rfl ?_
        refine EL.pass rfl rfl rfl ?_
        refine EL.pass rfl rfl rfl ?_
        refine EL.pass rfl rfl rfl ?_
        refine EL.pass rfl rfl rfl ?_
        refine EL.pass rfl rfl rfl ?_
        refine EL.pass rfl rfl rfl ?_
        refine EL.pass rfl rfl rfl ?_
        refine EL.pickT rfl rfl rfl rfl ?_
        refine EL.assign rfl rfl rfl ?_
        exact EL.endX () ⟨getA rfl (congrArg Value.bool (by unfold isAln; rw [hd, Bool.eq_iff_iff]; simp only [decide_eq_true_eq, true_iff, Bool.false_eq_true, false_iff, Bool.or_eq_true, Bool.and_eq_true, not_or, not_and]; omega)), trivial⟩ (.i (by repeat constructor))
      · refine EL.move rfl rfl rfl ?_
        refine EL.orU8 32 rfl rfl rfl rfl rfl ?_
        refine EL.geq rfl rfl rfl rfl ?_
        refine EL.move rfl rfl rfl ?_
        first | refine EL.splitD (d := 13) rfl (fun hp13 => ?_) (fun hp13 => ?_) | refine EL.splitN (d := 13) rfl (fun hp13 => ?_) (fun hp13 => ?_) | refine EL.splitB (d := 13) rfl (fun hp13 => ?_) (fun hp13 => ?_)
        · refine EL.move rfl rfl rfl ?_
          refine EL.orU8 32 rfl rfl rfl rfl rfl ?_
          refine EL.leq rfl rfl rfl rfl ?_
          refine EL.pickT rfl rfl rfl rfl ?_
          refine EL.pickF rfl rfl rfl rfl ?_
          refine EL.assign rfl rfl rfl ?_
          exact EL.endX () ⟨getA rfl (congrArg Value.bool (by unfold isAln; rw [hd, Bool.eq_iff_iff]; simp only [decide_eq_true_eq, true_iff, Bool.false_eq_true, false_iff, Bool.or_eq_true, Bool.and_eq_true, not_or, not_and]; omega)), trivial⟩ (.i (by repeat constructor))
        · refine EL.pass rfl rfl rfl ?_
          refine EL.pass rfl rfl rfl ?_
          refine EL.pass rfl rfl rfl ?_
          refine EL.pickF rfl rfl rfl rfl ?_
          refine EL.pickF rfl rfl rfl rfl ?_
          refine EL.assign rfl rfl rfl ?_
          exact EL.endX () ⟨getA rfl (congrArg Value.bool (by unfold isAln; rw [hd, Bool.eq_iff_iff]; simp only [decide_eq_true_eq, true_iff, Bool.false_eq_true, false_iff, Bool.or_eq_true, Bool.and_eq_true, not_or, not_and]; omega)), trivial⟩ (.i (by repeat constructor))
    · refine EL.pass rfl rfl rfl ?_
      refine EL.pass rfl rfl rfl ?_
      refine EL.pickF rfl rfl rfl rfl ?_
      refine EL.move rfl rfl rfl ?_
      refine EL.move rfl rfl rfl ?_
      refine EL.orU8 32 rfl rfl rfl rfl rfl ?_
      refine EL.geq rfl rfl rfl rfl ?_
      refine EL.move rfl rfl rfl ?_
      first | refine EL.splitD (d := 13) rfl (fun hp13 => ?_) (fun hp13 => ?_) | refine EL.splitN (d := 13) rfl (fun hp13 => ?_) (fun hp13 => ?_) | refine EL.splitB (d := 13) rfl (fun hp13 => ?_) (fun hp13 => ?_)
      · refine EL.move rfl rfl rfl ?_
        refine EL.orU8 32 rfl rfl rfl rfl rfl ?_
        refine EL.leq rfl rfl rfl rfl ?_
        refine EL.pickT rfl rfl rfl rfl ?_
        refine EL.pickF rfl rfl rfl rfl ?_
        refine EL.assign rfl rfl rfl ?_
        exact EL.endX () ⟨getA rfl (congrArg Value.bool (by unfold isAln; rw [hd, Bool.eq_iff_iff]; simp only [decide_eq_true_eq, true_iff, Bool.false_eq_true, false_iff, Bool.or_eq_true, Bool.and_eq_true, not_or, not_and]; omega)), trivial⟩ (.i (by repeat constructor))
      · refine EL.pass rfl rfl rfl ?_
        refine EL.pass rfl rfl rfl ?_
        refine EL.pass rfl rfl rfl ?_
        refine EL.pickF rfl rfl rfl rfl ?_
        refine EL.pickF rfl rfl rfl rfl ?_
        refine EL.assign rfl rfl rfl ?_
        exact EL.endX () ⟨getA rfl (congrArg Value.bool (by unfold isAln; rw [hd, Bool.eq_iff_iff]; simp only [decide_eq_true_eq, true_iff, Bool.false_eq_true, false_iff, Bool.or_eq_true, Bool.and_eq_true, not_or, not_and]; omega)), trivial⟩ (.i (by repeat constructor))
  refine .go ?_; repeat constructor
  exact PX.ret rfl Tryd.results40 (.cons (.tmp rfl) .nil) (fun w hs => ⟨(), rfl, hs.ent (.i (by repeat constructor))⟩)
def tokCells (k : Tok) : Array Value := #[Iv (k.kind : Nat), Iv (k.at_ : Nat), Wv k.set.a, Wv k.set.b, Wv k.set.c, Wv k.set.d, Iv k.lo, Iv k.hi, Iv k.e]
abbrev tokV (k : Tok) : Value := .agg (tokCells k)
theorem bad_c (a : Nat) (e : Int) (w : World) : Pure Tryd.prog 30 #[Iv (a : Nat), Iv e] (fun _ : Unit => tokV (badT a e)) (fun _ => []) w := by
  refine calls_of_ES TB Tryd.func30 rfl _ Tryd.ntmps30 rfl (Sat.start w) ?_
  refine .go ?_; repeat constructor
  (refine EL.alloc rfl rfl rfl ?_; intro g4)
  refine .go ?_; repeat constructor
  refine EL.move rfl rfl rfl ?_
  refine EL.move rfl rfl rfl ?_
  refine EL.buildS (tokCells (badT a e)) rfl rfl rfl rfl rfl rfl rfl ?_
  (apply EL.storeAll; exact rfl; exact rfl; exact rfl; exact rfl; exact rfl; (case p => repeat constructor); exact rfl; (case h1 => exact (by first | rfl | exact all1 rfl | (intro u hu; simp only [List.mem_cons, List.not_mem_nil, or_false] at hu; rcases hu with rfl | rfl | rfl | rfl <;> rfl) | (intro u hu; simp at hu; rcases hu with rfl | rfl | rfl | rfl <;> rfl) | (intro u hu; simp at hu; rcases hu with rfl | rfl | rfl <;> rfl) | (intro u hu; simp at hu; rcases hu with rfl | rfl <;> rfl) | (intro u hu; simp at hu; obtain ⟨_, _, rfl⟩ := hu; rfl))))
  refine .go ?_; repeat constructor
  exact PX.ret rfl Tryd.results30 (.cons (.blkA rfl rfl rfl (by repeat constructor) rfl) .nil) (fun w hs => ⟨(), rfl, hs.ent (.i (by repeat constructor))⟩)
theorem one_c (a : Nat) (b : UInt8) (w : World) : Pure Tryd.prog 32 #[Iv (a : Nat), Uv b] (fun _ : Unit => tokV (oneT a b)) (fun _ => []) w := by
  refine calls_of_ES TB Tryd.func32 rfl _ Tryd.ntmps32 rfl (Sat.start w) ?_
  refine .go ?_; repeat constructor
  (refine EL.alloc rfl rfl rfl ?_; intro g4)
  refine .go ?_; repeat constructor
  refine EL.move rfl rfl rfl ?_
  refine EL.move rfl rfl rfl ?_
  (refine EL.buildSlice1 rfl rfl rfl rfl rfl rfl rfl rfl rfl rfl ?_; intro b7)
  refine EL.bytesS (bs := [b]) rfl rfl rfl rfl rfl rfl rfl rfl rfl (by repeat constructor) ?_
  refine EL.callP rfl rfl rfl ent45 rfl (of_c [b] (by simp)) ?_
  refine EL.buildS (tokCells (oneT a b)) rfl rfl rfl rfl rfl rfl rfl ?_
  (apply EL.storeAll; exact rfl; exact rfl; exact rfl; exact rfl; exact rfl; (case p => repeat constructor); exact rfl; (case h1 => exact (by first | rfl | exact all1 rfl | (intro u hu; simp only [List.mem_cons, List.not_mem_nil, or_false] at hu; rcases hu with rfl | rfl | rfl | rfl <;> rfl) | (intro u hu; simp at hu; rcases hu with rfl | rfl | rfl | rfl <;> rfl) | (intro u hu; simp at hu; rcases hu with rfl | rfl | rfl <;> rfl) | (intro u hu; simp at hu; rcases hu with rfl | rfl <;> rfl) | (intro u hu; simp at hu; obtain ⟨_, _, rfl⟩ := hu; rfl))))
  refine .go ?_; repeat constructor
  exact PX.ret rfl Tryd.results32 (.cons (.blkA rfl rfl rfl (by repeat constructor) rfl) .nil) (fun w hs => ⟨(), rfl, hs.ent (.i (by repeat constructor))⟩)
end Go.Proofs.YtcoajnpneableaaDoor
namespace Go.Proofs.YtcoajnpneableaaDoor
open Go Go.RowKit Sl
set_option maxRecDepth 100000
set_option maxHeartbeats 8000000
set_option linter.unusedVariables false
set_option linter.unusedSimpArgs false
attribute [local irreducible] ES EL PX wps
theorem escT_at (t : List UInt8) (a : Nat) (b : Bool) (ha : a < t.length) : (escT t a b).1.kind ≠ 7 → a < (escT t a b).2 ∧ (escT t a b).2 ≤ t.length := by
  unfold escT
  dsimp only
  split
  · intro h; exact absurd rfl h
  repeat' split
  all_goals (intro h; first | exact absurd rfl h | (simp only; omega) | skip)
  rename_i lo hi n h2 h3
  have := iv_le h2
  simp only; omega
theorem readT_at (t : List UInt8) (a : Nat) (f b : Bool) (ha : a < t.length) : (readT t a f b).1.kind ≠ 7 → a < (readT t a f b).2 ∧ (readT t a f b).2 ≤ t.length := by
  unfold readT
  dsimp only
  split
  · exact escT_at t a b ha
  · split
    · split
      · intro h; exact absurd rfl h
      · rename_i h1
        intro _
        have := brack_next t a (by simpa using h1)
        simp only; omega
    · repeat' split
      all_goals (intro _; simp only; omega)
theorem escaped_c (t : List UInt8) (a : Nat) (bg : Bool) (ha : a < t.length) (ht : t.length ≤ 1073741824) (w : World) :
    Pure Tryd.prog 28 #[Sv t, Iv (a : Nat), .bool bg] (fun _ : Unit => .tuple #[tokV (escT t a bg).1, Iv ((escT t a bg).2 : Nat)]) (fun _ => []) w := by
  have hesc : escT t a bg = (if a + 1 = t.length then (badT a 6, a)
    else
      let b := t.getD (a + 1) 0
      if b.toNat = 40 then (⟨3, a, zeroS, 0, 0, 0⟩, a + 2)
      else if b.toNat = 41 then (⟨4, a, zeroS, 0, 0, 0⟩, a + 2)
      else if b.toNat = 123 then
        match ivM t (a + 2) with
        | none => (badT a 9, a)
        | some (lo, hi, n) => if bg = true then (badT a 9, a) else (⟨5, a, zeroS, (lo : Int), hi, 0⟩, n)
      else if b.toNat = 125 then (badT a 9, a)
      else if b.toNat = 110 then (oneT a 10, a + 2)
      else if 49 ≤ b.toNat ∧ b.toNat ≤ 57 then (⟨6, a, zeroS, ((b.toNat - 48 : Nat) : Int), 0, 0⟩, a + 2)
      else if isAln b = true then (badT a 12, a)
      else (oneT a b, a + 2)) := rfl
  obtain ⟨b, hb⟩ : ∃ b, b = t.getD (a + 1) 0 := ⟨_, rfl⟩
  have hb8 := b.toNat_lt
  rw [← hb] at hesc
  dsimp only at hesc
  generalize escT t a bg = r at hesc ⊢
  refine calls_of_ES TB Tryd.func28 rfl _ Tryd.ntmps28 rfl (Sat.start w) ?_
  refine .go ?_; repeat constructor
  (refine EL.alloc rfl rfl rfl ?_; intro g6)
  refine EL.assign rfl rfl rfl ?_
  refine .go ?_; repeat constructor
  refine EL.move rfl rfl rfl ?_
  refine EL.add1 rfl rfl rfl rfl (by omega) ?_
  refine EL.move rfl rfl rfl ?_
  refine EL.lenS rfl rfl rfl rfl rfl ?_
  refine EL.eqlI rfl rfl rfl rfl ?_
  refine .go ?_; repeat constructor
  refine ES.condD rfl (fun he => ?_) (fun hne => ?_)
  · rw [if_pos (by omega)] at hesc
    subst hesc
    refine .go ?_; repeat constructor
    refine EL.move rfl rfl rfl ?_
    refine EL.callP rfl rfl rfl ent30 rfl (bad_c a 6) ?_
    refine EL.move rfl rfl rfl ?_
    (apply EL.storeAll; exact rfl; exact rfl; exact rfl; exact rfl; exact rfl; (case p => repeat constructor); exact rfl; (case h1 => exact (by first | rfl | exact all1 rfl | (intro u hu; simp only [List.mem_cons, List.not_mem_nil, or_false] at hu; rcases hu with rfl | rfl | rfl | rfl <;> rfl) | (intro u hu; simp at hu; rcases hu with rfl | rfl | rfl | rfl <;> rfl) | (intro u hu; simp at hu; rcases hu with rfl | rfl | rfl <;> rfl) | (intro u hu; simp at hu; rcases hu with rfl | rfl <;> rfl) | (intro u hu; simp at hu; obtain ⟨_, _, rfl⟩ := hu; rfl))))
    refine EL.assign rfl rfl rfl ?_
    refine .go ?_; repeat constructor
    exact PX.ret rfl Tryd.results28 (.cons (.blkA rfl rfl rfl (by repeat constructor) rfl) (.cons (.tmp rfl) .nil)) (fun w hs => ⟨(), rfl, hs.ent (.i (by repeat constructor))⟩)
  rw [if_neg (by omega)] at hesc
  have hlt : a + 1 < t.length := by omega
  refine .go ?_; repeat constructor
  refine EL.move rfl rfl rfl ?_
  refine EL.move rfl rfl rfl ?_
  refine EL.add1 rfl rfl rfl rfl (by omega) ?_
  refine EL.indexSN rfl rfl rfl rfl rfl rfl (by omega) ?_
  refine EL.rew (d := 24) (v' := Uv b) rfl (by rw [hb]) ?_
  refine EL.assign rfl rfl rfl ?_
  refine .go ?_; repeat constructor
  refine .go ?_; repeat constructor
  refine EL.move rfl rfl rfl ?_
  refine EL.eqlI rfl rfl rfl rfl ?_
  refine EL.assign rfl rfl rfl ?_
  refine .go ?_; repeat constructor
  refine ES.condD rfl (fun h1 => ?_) (fun h1 => ?_)
  · rw [if_pos (by omega)] at hesc
    subst hesc
    refine .go ?_; repeat constructor
    refine EL.move rfl rfl rfl ?_
    refine EL.buildS (tokCells ⟨3, a, zeroS, 0, 0, 0⟩) rfl rfl rfl rfl rfl rfl rfl ?_
    refine EL.move rfl rfl rfl ?_
    refine EL.addN (n := 2) rfl rfl rfl rfl rfl (by omega) ?_
    (apply EL.storeAll; exact rfl; exact rfl; exact rfl; exact rfl; exact rfl; (case p => repeat constructor); exact rfl; (case h1 => exact (by first | rfl | exact all1 rfl | (intro u hu; simp only [List.mem_cons, List.not_mem_nil, or_false] at hu; rcases hu with rfl | rfl | rfl | rfl <;> rfl) | (intro u hu; simp at hu; rcases hu with rfl | rfl | rfl | rfl <;> rfl) | (intro u hu; simp at hu; rcases hu with rfl | rfl | rfl <;> rfl) | (intro u hu; simp at hu; rcases hu with rfl | rfl <;> rfl) | (intro u hu; simp at hu; obtain ⟨_, _, rfl⟩ := hu; rfl))))
    refine EL.assign rfl rfl rfl ?_
    refine .go ?_; repeat constructor
    exact PX.ret rfl Tryd.results28 (.cons (.blkA rfl rfl rfl (by repeat constructor) rfl) (.cons (.tmp rfl) .nil)) (fun w hs => ⟨(), rfl, hs.ent (.i (by repeat constructor))⟩)
  rw [if_neg (by omega)] at hesc
  refine .go ?_; repeat constructor
  refine EL.move rfl rfl rfl ?_
  refine EL.eqlI rfl rfl rfl rfl ?_
  refine EL.assign rfl rfl rfl ?_
  refine .go ?_; repeat constructor
  refine ES.condD rfl (fun h2 => ?_) (fun h2 => ?_)
  · rw [if_pos (by omega)] at hesc
    subst hesc
    refine .go ?_; repeat constructor
    refine EL.move rfl rfl rfl ?_
    refine EL.buildS (tokCells ⟨4, a, zeroS, 0, 0, 0⟩) rfl rfl rfl rfl rfl rfl rfl ?_
    refine EL.move rfl rfl rfl ?_
    refine EL.addN (n := 2) rfl rfl rfl rfl rfl (by omega) ?_
    (apply EL.storeAll; exact rfl; exact rfl; exact rfl; exact rfl; exact rfl; (case p => repeat constructor); exact rfl; (case h1 => exact (by first | rfl | exact all1 rfl | (intro u hu; simp only [List.mem_cons, List.not_mem_nil, or_false] at hu; rcases hu with rfl | rfl | rfl | rfl <;> rfl) | (intro u hu; simp at hu; rcases hu with rfl | rfl | rfl | rfl <;> rfl) | (intro u hu; simp at hu; rcases hu with rfl | rfl | rfl <;> rfl) | (intro u hu; simp at hu; rcases hu with rfl | rfl <;> rfl) | (intro u hu; simp at hu; obtain ⟨_, _, rfl⟩ := hu; rfl))))
    refine EL.assign rfl rfl rfl ?_
    refine .go ?_; repeat constructor
    exact PX.ret rfl Tryd.results28 (.cons (.blkA rfl rfl rfl (by repeat constructor) rfl) (.cons (.tmp rfl) .nil)) (fun w hs => ⟨(), rfl, hs.ent (.i (by repeat constructor))⟩)
  rw [if_neg (by omega)] at hesc
  refine .go ?_; repeat constructor
  refine EL.move rfl rfl rfl ?_
  refine EL.eqlI rfl rfl rfl rfl ?_
  refine EL.assign rfl rfl rfl ?_
  refine .go ?_; repeat constructor
  refine ES.condD rfl (fun h3 => ?_) (fun h3 => ?_)
  · rw [if_pos (by omega)] at hesc
    have hic := interval_c t (a + 2) (by omega) ht
    cases hiv : ivM t (a + 2) with
    | none =>
      rw [hiv] at hesc hic
      dsimp only at hesc
      subst hesc
      refine .go ?_; repeat constructor
      refine EL.move rfl rfl rfl ?_
      refine EL.move rfl rfl rfl ?_
      refine EL.addN (n := 2) rfl rfl rfl rfl rfl (by omega) ?_
      refine EL.callP rfl rfl rfl ent39 rfl hic ?_
      refine EL.move rfl rfl rfl ?_
      refine EL.extract rfl rfl rfl rfl ?_
      refine EL.extract rfl rfl rfl rfl ?_
      refine EL.extract rfl rfl rfl rfl ?_
      refine EL.extract rfl rfl rfl rfl ?_
      refine EL.assign rfl rfl rfl ?_
      refine EL.assign rfl rfl rfl ?_
      refine EL.assign rfl rfl rfl ?_
      refine EL.assign rfl rfl rfl ?_
      refine .go ?_; repeat constructor
      refine EL.move rfl rfl rfl ?_
      refine EL.not rfl rfl rfl ?_
      refine EL.move rfl rfl rfl ?_
      refine EL.rew (d := 58) (v' := .bool true) rfl (by first | rfl | (decide) | (simp)) ?_
      refine EL.pass rfl rfl rfl ?_
      refine EL.pickT rfl rfl rfl rfl ?_
      refine .go ?_; repeat constructor
      refine ES.condT rfl ?_
      refine .go ?_; repeat constructor
      refine EL.move rfl rfl rfl ?_
      refine EL.callP rfl rfl rfl ent30 rfl (bad_c a 9) ?_
      refine EL.move rfl rfl rfl ?_
      (apply EL.storeAll; exact rfl; exact rfl; exact rfl; exact rfl; exact rfl; (case p => repeat constructor); exact rfl; (case h1 => exact (by first | rfl | exact all1 rfl | (intro u hu; simp only [List.mem_cons, List.not_mem_nil, or_false] at hu; rcases hu with rfl | rfl | rfl | rfl <;> rfl) | (intro u hu; simp at hu; rcases hu with rfl | rfl | rfl | rfl <;> rfl) | (intro u hu; simp at hu; rcases hu with rfl | rfl | rfl <;> rfl) | (intro u hu; simp at hu; rcases hu with rfl | rfl <;> rfl) | (intro u hu; simp at hu; obtain ⟨_, _, rfl⟩ := hu; rfl))))
      refine EL.assign rfl rfl rfl ?_
      refine .go ?_; repeat constructor
      exact PX.ret rfl Tryd.results28 (.cons (.blkA rfl rfl rfl (by repeat constructor) rfl) (.cons (.tmp rfl) .nil)) (fun w hs => ⟨(), rfl, hs.ent (.i (by repeat constructor))⟩)
    | some x =>
      obtain ⟨lo, hi, n⟩ := x
      have hle := iv_le hiv
      rw [hiv] at hesc hic
      dsimp only at hesc
      refine .go ?_; repeat constructor
      refine EL.move rfl rfl rfl ?_
      refine EL.move rfl rfl rfl ?_
      refine EL.addN (n := 2) rfl rfl rfl rfl rfl (by omega) ?_
      refine EL.callP rfl rfl rfl ent39 rfl hic ?_
      refine EL.move rfl rfl rfl ?_
      refine EL.extract rfl rfl rfl rfl ?_
      refine EL.extract rfl rfl rfl rfl ?_
      refine EL.extract rfl rfl rfl rfl ?_
      refine EL.extract rfl rfl rfl rfl ?_
      refine EL.assign rfl rfl rfl ?_
      refine EL.assign rfl rfl rfl ?_
      refine EL.assign rfl rfl rfl ?_
      refine EL.assign rfl rfl rfl ?_
      refine .go ?_; repeat constructor
      refine EL.move rfl rfl rfl ?_
      refine EL.not rfl rfl rfl ?_
      refine EL.move rfl rfl rfl ?_
      refine EL.rew (d := 58) (v' := .bool false) rfl (by first | rfl | (decide) | (simp)) ?_
      refine EL.move rfl rfl rfl ?_
      refine EL.pickF rfl rfl rfl rfl ?_
      refine .go ?_; repeat constructor
      refine ES.cond rfl (fun hbg => ?_) (fun hbg => ?_)
      · rw [if_pos hbg] at hesc
        subst hesc
        refine .go ?_; repeat constructor
        refine EL.move rfl rfl rfl ?_
        refine EL.callP rfl rfl rfl ent30 rfl (bad_c a 9) ?_
        refine EL.move rfl rfl rfl ?_
        (apply EL.storeAll; exact rfl; exact rfl; exact rfl; exact rfl; exact rfl; (case p => repeat constructor); exact rfl; (case h1 => exact (by first | rfl | exact all1 rfl | (intro u hu; simp only [List.mem_cons, List.not_mem_nil, or_false] at hu; rcases hu with rfl | rfl | rfl | rfl <;> rfl) | (intro u hu; simp at hu; rcases hu with rfl | rfl | rfl | rfl <;> rfl) | (intro u hu; simp at hu; rcases hu with rfl | rfl | rfl <;> rfl) | (intro u hu; simp at hu; rcases hu with rfl | rfl <;> rfl) | (intro u hu; simp at hu; obtain ⟨_, _, rfl⟩ := hu; rfl))))
        refine EL.assign rfl rfl rfl ?_
        refine .go ?_; repeat constructor
        exact PX.ret rfl Tryd.results28 (.cons (.blkA rfl rfl rfl (by repeat constructor) rfl) (.cons (.tmp rfl) .nil)) (fun w hs => ⟨(), rfl, hs.ent (.i (by repeat constructor))⟩)
      · rw [if_neg (by rw [hbg]; decide)] at hesc
        subst hesc
        refine .go ?_; repeat constructor
        refine EL.move rfl rfl rfl ?_
        refine EL.move rfl rfl rfl ?_
        refine EL.move rfl rfl rfl ?_
        refine EL.buildS (tokCells ⟨5, a, zeroS, (lo : Int), hi, 0⟩) rfl rfl rfl rfl rfl rfl rfl ?_
        refine EL.move rfl rfl rfl ?_
        (apply EL.storeAll; exact rfl; exact rfl; exact rfl; exact rfl; exact rfl; (case p => repeat constructor); exact rfl; (case h1 => exact (by first | rfl | exact all1 rfl | (intro u hu; simp only [List.mem_cons, List.not_mem_nil, or_false] at hu; rcases hu with rfl | rfl | rfl | rfl <;> rfl) | (intro u hu; simp at hu; rcases hu with rfl | rfl | rfl | rfl <;> rfl) | (intro u hu; simp at hu; rcases hu with rfl | rfl | rfl <;> rfl) | (intro u hu; simp at hu; rcases hu with rfl | rfl <;> rfl) | (intro u hu; simp at hu; obtain ⟨_, _, rfl⟩ := hu; rfl))))
        refine EL.assign rfl rfl rfl ?_
        refine .go ?_; repeat constructor
        exact PX.ret rfl Tryd.results28 (.cons (.blkA rfl rfl rfl (by repeat constructor) rfl) (.cons (.tmp rfl) .nil)) (fun w hs => ⟨(), rfl, hs.ent (.i (by repeat constructor))⟩)
  rw [if_neg (by omega)] at hesc
  refine .go ?_; repeat constructor
  refine EL.move rfl rfl rfl ?_
  refine EL.eqlI rfl rfl rfl rfl ?_
  refine EL.assign rfl rfl rfl ?_
  refine .go ?_; repeat constructor
  refine ES.condD rfl (fun h4 => ?_) (fun h4 => ?_)
  · rw [if_pos (by omega)] at hesc
    subst hesc
    refine .go ?_; repeat constructor
    refine EL.move rfl rfl rfl ?_
    refine EL.callP rfl rfl rfl ent30 rfl (bad_c a 9) ?_
    refine EL.move rfl rfl rfl ?_
    (apply EL.storeAll; exact rfl; exact rfl; exact rfl; exact rfl; exact rfl; (case p => repeat constructor); exact rfl; (case h1 => exact (by first | rfl | exact all1 rfl | (intro u hu; simp only [List.mem_cons, List.not_mem_nil, or_false] at hu; rcases hu with rfl | rfl | rfl | rfl <;> rfl) | (intro u hu; simp at hu; rcases hu with rfl | rfl | rfl | rfl <;> rfl) | (intro u hu; simp at hu; rcases hu with rfl | rfl | rfl <;> rfl) | (intro u hu; simp at hu; rcases hu with rfl | rfl <;> rfl) | (intro u hu; simp at hu; obtain ⟨_, _, rfl⟩ := hu; rfl))))
    refine EL.assign rfl rfl rfl ?_
    refine .go ?_; repeat constructor
    exact PX.ret rfl Tryd.results28 (.cons (.blkA rfl rfl rfl (by repeat constructor) rfl) (.cons (.tmp rfl) .nil)) (fun w hs => ⟨(), rfl, hs.ent (.i (by repeat constructor))⟩)
  rw [if_neg (by omega)] at hesc
  refine .go ?_; repeat constructor
  refine EL.move rfl rfl rfl ?_
  refine EL.eqlI rfl rfl rfl rfl ?_
  refine EL.assign rfl rfl rfl ?_
  refine .go ?_; repeat constructor
  refine ES.condD rfl (fun h5 => ?_) (fun h5 => ?_)
  · rw [if_pos (by omega)] at hesc
    subst hesc
    refine .go ?_; repeat constructor
    refine EL.move rfl rfl rfl ?_
    refine EL.callP rfl rfl rfl ent32 rfl (one_c a 10) ?_
    refine EL.move rfl rfl rfl ?_
    refine EL.addN (n := 2) rfl rfl rfl rfl rfl (by omega) ?_
    (apply EL.storeAll; exact rfl; exact rfl; exact rfl; exact rfl; exact rfl; (case p => repeat constructor); exact rfl; (case h1 => exact (by first | rfl | exact all1 rfl | (intro u hu; simp only [List.mem_cons, List.not_mem_nil, or_false] at hu; rcases hu with rfl | rfl | rfl | rfl <;> rfl) | (intro u hu; simp at hu; rcases hu with rfl | rfl | rfl | rfl <;> rfl) | (intro u hu; simp at hu; rcases hu with rfl | rfl | rfl <;> rfl) | (intro u hu; simp at hu; rcases hu with rfl | rfl <;> rfl) | (intro u hu; simp at hu; obtain ⟨_, _, rfl⟩ := hu; rfl))))
    refine EL.assign rfl rfl rfl ?_
    refine .go ?_; repeat constructor
    exact PX.ret rfl Tryd.results28 (.cons (.blkA rfl rfl rfl (by repeat constructor) rfl) (.cons (.tmp rfl) .nil)) (fun w hs => ⟨(), rfl, hs.ent (.i (by repeat constructor))⟩)
  rw [if_neg (by omega)] at hesc
  refine .go ?_; repeat constructor
  refine EL.cutX (X := Unit) (fun _ => [(0, Sv t), (1, Iv (a : Nat)), (6, Pv g6 0), (8, Uv b), (82, .bool (decide (49 ≤ b.toNat ∧ b.toNat ≤ 57)))]) (fun _ => [HA.blk g6 (.cells #[.int .i64 0, .int .i64 0, .int .u64 0, .int .u64 0, .int .u64 0, .int .u64 0, .int .i64 0, .int .i64 0, .int .i64 0] 53)]) ?_ (fun _ => ?_)
  · refine .go ?_; repeat constructor
    refine EL.move rfl rfl rfl ?_
    refine EL.geq rfl rfl rfl rfl ?_
    refine EL.move rfl rfl rfl ?_
    first | refine EL.splitD (d := 85) rfl (fun hp85 => ?_) (fun hp85 => ?_) | refine EL.splitN (d := 85) rfl (fun hp85 => ?_) (fun hp85 => ?_) | refine EL.splitB (d := 85) rfl (fun hp85 => ?_) (fun hp85 => ?_)
    · refine EL.move rfl rfl rfl ?_
      refine EL.leq rfl rfl rfl rfl ?_
      refine EL.pickT rfl rfl rfl rfl ?_
      refine EL.assign rfl rfl rfl ?_
      exact EL.endX () ⟨rfl, rfl, rfl, rfl, getA rfl (congrArg Value.bool (by rw [Bool.eq_iff_iff]; simp only [decide_eq_true_eq, true_iff, Bool.false_eq_true, false_iff]; omega)), trivial⟩ (.i (by repeat constructor))
    · refine EL.pass rfl rfl rfl ?_
      refine EL.pass rfl rfl rfl ?_
      refine EL.pickF rfl rfl rfl rfl ?_
      refine EL.assign rfl rfl rfl ?_
      exact EL.endX () ⟨rfl, rfl, rfl, rfl, getA rfl (congrArg Value.bool (by rw [Bool.eq_iff_iff]; simp only [decide_eq_true_eq, true_iff, Bool.false_eq_true, false_iff]; omega)), trivial⟩ (.i (by repeat constructor))
  refine ES.condD rfl (fun h6 => ?_) (fun h6 => ?_)
  · rw [if_pos h6] at hesc
    subst hesc
    refine .go ?_; repeat constructor
    refine EL.move rfl rfl rfl ?_
    refine EL.move rfl rfl rfl ?_
    refine EL.ofRV (RV.subK (n := 48) rfl rfl (by omega) (by simp only [kmax]; omega)) rfl rfl rfl (by intro c h; cases h) ?_
    refine EL.convN rfl rfl rfl rfl rfl rfl (by simp only [kmax]; omega) ?_
    refine EL.buildS (tokCells ⟨6, a, zeroS, ((b.toNat - 48 : Nat) : Int), 0, 0⟩) rfl rfl rfl rfl rfl rfl rfl ?_
    refine EL.move rfl rfl rfl ?_
    refine EL.addN (n := 2) rfl rfl rfl rfl rfl (by omega) ?_
    (apply EL.storeAll; exact rfl; exact rfl; exact rfl; exact rfl; exact rfl; (case p => repeat constructor); exact rfl; (case h1 => exact (by first | rfl | exact all1 rfl | (intro u hu; simp only [List.mem_cons, List.not_mem_nil, or_false] at hu; rcases hu with rfl | rfl | rfl | rfl <;> rfl) | (intro u hu; simp at hu; rcases hu with rfl | rfl | rfl | rfl <;> rfl) | (intro u hu; simp at hu; rcases hu with rfl | rfl | rfl <;> rfl) | (intro u hu; simp at hu; rcases hu with rfl | rfl <;> rfl) | (intro u hu; simp at hu; obtain ⟨_, _, rfl⟩ := hu; rfl))))
    refine EL.assign rfl rfl rfl ?_
    refine .go ?_; repeat constructor
    exact PX.ret rfl Tryd.results28 (.cons (.blkA rfl rfl rfl (by repeat constructor) rfl) (.cons (.tmp rfl) .nil)) (fun w hs => ⟨(), rfl, hs.ent (.i (by repeat constructor))⟩)
  rw [if_neg h6] at hesc
  refine .go ?_; repeat constructor
  refine EL.move rfl rfl rfl ?_
  refine EL.callP rfl rfl rfl ent40 rfl (alnum_c b) ?_
  refine EL.assign rfl rfl rfl ?_
  refine .go ?_; repeat constructor
  refine ES.cond rfl (fun h7 => ?_) (fun h7 => ?_)
  · rw [if_pos h7] at hesc
    subst hesc
    refine .go ?_; repeat constructor
    refine EL.move rfl rfl rfl ?_
    refine EL.callP rfl rfl rfl ent30 rfl (bad_c a 12) ?_
    refine EL.move rfl rfl rfl ?_
    (apply EL.storeAll; exact rfl; exact rfl; exact rfl; exact rfl; exact rfl; (case p => repeat constructor); exact rfl; (case h1 => exact (by first | rfl | exact all1 rfl | (intro u hu; simp only [List.mem_cons, List.not_mem_nil, or_false] at hu; rcases hu with rfl | rfl | rfl | rfl <;> rfl) | (intro u hu; simp at hu; rcases hu with rfl | rfl | rfl | rfl <;> rfl) | (intro u hu; simp at hu; rcases hu with rfl | rfl | rfl <;> rfl) | (intro u hu; simp at hu; rcases hu with rfl | rfl <;> rfl) | (intro u hu; simp at hu; obtain ⟨_, _, rfl⟩ := hu; rfl))))
    refine EL.assign rfl rfl rfl ?_
    refine .go ?_; repeat constructor
    exact PX.ret rfl Tryd.results28 (.cons (.blkA rfl rfl rfl (by repeat constructor) rfl) (.cons (.tmp rfl) .nil)) (fun w hs => ⟨(), rfl, hs.ent (.i (by repeat constructor))⟩)
  · rw [if_neg (by rw [h7]; decide)] at hesc
    subst hesc
    refine .go ?_; repeat constructor
    refine EL.move rfl rfl rfl ?_
    refine EL.move rfl rfl rfl ?_
    refine EL.callP rfl rfl rfl ent32 rfl (one_c a b) ?_
    refine EL.move rfl rfl rfl ?_
    refine EL.addN (n := 2) rfl rfl rfl rfl rfl (by omega) ?_
    (apply EL.storeAll; exact rfl; exact rfl; exact rfl; exact rfl; exact rfl; (case p => repeat constructor); exact rfl; (case h1 => exact (by first | rfl | exact all1 rfl | (intro u hu; simp only [List.mem_cons, List.not_mem_nil, or_false] at hu; rcases hu with rfl | rfl | rfl | rfl <;> rfl) | (intro u hu; simp at hu; rcases hu with rfl | rfl | rfl | rfl <;> rfl) | (intro u hu; simp at hu; rcases hu with rfl | rfl | rfl <;> rfl) | (intro u hu; simp at hu; rcases hu with rfl | rfl <;> rfl) | (intro u hu; simp at hu; obtain ⟨_, _, rfl⟩ := hu; rfl))))
    refine EL.assign rfl rfl rfl ?_
    refine .go ?_; repeat constructor
    exact PX.ret rfl Tryd.results28 (.cons (.blkA rfl rfl rfl (by repeat constructor) rfl) (.cons (.tmp rfl) .nil)) (fun w hs => ⟨(), rfl, hs.ent (.i (by repeat constructor))⟩)
theorem readTok_c (t : List UInt8) (a : Nat) (fi bg : Bool) (ha : a < t.length) (ht : t.length ≤ 1073741824) (w : World) (hG : GR w w.heap.size) :
    Pure Tryd.prog 15 #[Sv t, Iv (a : Nat), .bool fi, .bool bg] (fun _ : Unit => .tuple #[tokV (readT t a fi bg).1, Iv ((readT t a fi bg).2 : Nat)]) (fun _ => []) w := by
  have hrd : readT t a fi bg = (let b := t.getD a 0
    if b.toNat = 92 then escT t a bg
    else if b.toNat = 91 then (if (brackM t a).e ≠ 0 then (badT a (brackM t a).e, a) else (byteT a (brackM t a).set, (brackM t a).at_))
    else if b.toNat = 46 then (byteT a (notS zeroS), a + 1)
    else if b.toNat = 42 ∧ bg = false then (⟨5, a, zeroS, 0, -1, 0⟩, a + 1)
    else if b.toNat = 94 ∧ fi = true then (⟨1, a, zeroS, 0, 0, 0⟩, a + 1)
    else if b.toNat = 36 ∧ eolM t a = true then (⟨2, a, zeroS, 0, 0, 0⟩, a + 1)
    else (oneT a b, a + 1)) := rfl
  obtain ⟨b, hb⟩ : ∃ b, b = t.getD a 0 := ⟨_, rfl⟩
  have hb8 := b.toNat_lt
  rw [← hb] at hrd
  dsimp only at hrd
  generalize readT t a fi bg = r at hrd ⊢
  refine calls_of_ES TB Tryd.func15 rfl _ Tryd.ntmps15 rfl (Sat.start w) ?_
  refine .go ?_; repeat constructor
  (refine EL.alloc rfl rfl rfl ?_; intro g8)
  refine EL.assign rfl rfl rfl ?_
  refine .go ?_; repeat constructor
  refine .go ?_; repeat constructor
  refine EL.move rfl rfl rfl ?_
  refine EL.move rfl rfl rfl ?_
  refine EL.indexSN rfl rfl rfl rfl rfl rfl (by omega) ?_
  refine EL.rew (d := 16) (v' := Uv b) rfl (by rw [hb]) ?_
  refine EL.assign rfl rfl rfl ?_
  refine .go ?_; repeat constructor
  refine .go ?_; repeat constructor
  refine EL.move rfl rfl rfl ?_
  refine EL.eqlI rfl rfl rfl rfl ?_
  refine EL.assign rfl rfl rfl ?_
  refine .go ?_; repeat constructor
  refine ES.condD rfl (fun h1 => ?_) (fun h1 => ?_)
  · rw [if_pos (by omega)] at hrd
    subst hrd
    refine .go ?_; repeat constructor
    refine EL.move rfl rfl rfl ?_
    refine EL.move rfl rfl rfl ?_
    refine EL.move rfl rfl rfl ?_
    refine EL.callP rfl rfl rfl ent28 rfl (escaped_c t a bg ha ht) ?_
    refine EL.extract rfl rfl rfl rfl ?_
    refine EL.extract rfl rfl rfl rfl ?_
    (apply EL.storeAll; exact rfl; exact rfl; exact rfl; exact rfl; exact rfl; (case p => repeat constructor); exact rfl; (case h1 => exact (by first | rfl | exact all1 rfl | (intro u hu; simp only [List.mem_cons, List.not_mem_nil, or_false] at hu; rcases hu with rfl | rfl | rfl | rfl <;> rfl) | (intro u hu; simp at hu; rcases hu with rfl | rfl | rfl | rfl <;> rfl) | (intro u hu; simp at hu; rcases hu with rfl | rfl | rfl <;> rfl) | (intro u hu; simp at hu; rcases hu with rfl | rfl <;> rfl) | (intro u hu; simp at hu; obtain ⟨_, _, rfl⟩ := hu; rfl))))
    refine EL.assign rfl rfl rfl ?_
    refine .go ?_; repeat constructor
    exact PX.ret rfl Tryd.results15 (.cons (.blkA rfl rfl rfl (by repeat constructor) rfl) (.cons (.tmp rfl) .nil)) (fun w hs => ⟨(), rfl, hs.ent (.i (by repeat constructor))⟩)
  rw [if_neg (by omega)] at hrd
  refine .go ?_; repeat constructor
  refine EL.move rfl rfl rfl ?_
  refine EL.eqlI rfl rfl rfl rfl ?_
  refine EL.assign rfl rfl rfl ?_
  refine .go ?_; repeat constructor
  refine ES.condD rfl (fun h2 => ?_) (fun h2 => ?_)
  · rw [if_pos (by omega)] at hrd
    have hbp := brParse_c t a ht (by omega)
    generalize brackM t a = q at hrd hbp
    obtain ⟨⟨s0, s1, s2, s3⟩, qa, qe⟩ := q
    dsimp only at hrd hbp
    refine .go ?_; repeat constructor
    refine EL.move rfl rfl rfl ?_
    refine EL.move rfl rfl rfl ?_
    refine EL.callPw rfl rfl rfl ent29 rfl (fun w hs => hbp w (GR.sat hG hs)) ?_
    refine EL.move rfl rfl rfl ?_
    refine EL.extract rfl rfl rfl rfl ?_
    refine EL.extract rfl rfl rfl rfl ?_
    refine EL.extract rfl rfl rfl rfl ?_
    (refine EL.alloc rfl rfl rfl ?_; intro g11)
    (apply EL.storeAll; exact rfl; exact rfl; exact rfl; exact rfl; exact rfl; (case p => repeat constructor); exact rfl; (case h1 => exact (by first | rfl | exact all1 rfl | (intro u hu; simp only [List.mem_cons, List.not_mem_nil, or_false] at hu; rcases hu with rfl | rfl | rfl | rfl <;> rfl) | (intro u hu; simp at hu; rcases hu with rfl | rfl | rfl | rfl <;> rfl) | (intro u hu; simp at hu; rcases hu with rfl | rfl | rfl <;> rfl) | (intro u hu; simp at hu; rcases hu with rfl | rfl <;> rfl) | (intro u hu; simp at hu; obtain ⟨_, _, rfl⟩ := hu; rfl))))
    refine EL.assign rfl rfl rfl ?_
    refine EL.assign rfl rfl rfl ?_
    refine .go ?_; repeat constructor
    refine EL.move rfl rfl rfl ?_
    refine EL.neqI rfl rfl rfl rfl ?_
    refine .go ?_; repeat constructor
    refine ES.condN rfl (fun h3 => ?_) (fun h3 => ?_)
    · rw [if_pos h3] at hrd
      subst hrd
      refine .go ?_; repeat constructor
      refine EL.move rfl rfl rfl ?_
      refine EL.move rfl rfl rfl ?_
      refine EL.callP rfl rfl rfl ent30 rfl (bad_c a qe) ?_
      refine EL.move rfl rfl rfl ?_
      (apply EL.storeAll; exact rfl; exact rfl; exact rfl; exact rfl; exact rfl; (case p => repeat constructor); exact rfl; (case h1 => exact (by first | rfl | exact all1 rfl | (intro u hu; simp only [List.mem_cons, List.not_mem_nil, or_false] at hu; rcases hu with rfl | rfl | rfl | rfl <;> rfl) | (intro u hu; simp at hu; rcases hu with rfl | rfl | rfl | rfl <;> rfl) | (intro u hu; simp at hu; rcases hu with rfl | rfl | rfl <;> rfl) | (intro u hu; simp at hu; rcases hu with rfl | rfl <;> rfl) | (intro u hu; simp at hu; obtain ⟨_, _, rfl⟩ := hu; rfl))))
      refine EL.assign rfl rfl rfl ?_
      refine .go ?_; repeat constructor
      exact PX.ret rfl Tryd.results15 (.cons (.blkA rfl rfl rfl (by repeat constructor) rfl) (.cons (.tmp rfl) .nil)) (fun w hs => ⟨(), rfl, hs.ent (.i (by repeat constructor))⟩)
    · rw [if_neg (by simpa using h3)] at hrd
      subst hrd
      refine .go ?_; repeat constructor
      refine EL.move rfl rfl rfl ?_
      (apply EL.loadAggB; exact rfl; exact rfl; exact rfl; exact rfl; exact rfl; (case hm => repeat constructor); exact rfl)
      refine EL.buildS (tokCells (byteT a ⟨s0, s1, s2, s3⟩)) rfl rfl rfl rfl rfl rfl rfl ?_
      refine EL.move rfl rfl rfl ?_
      (apply EL.storeAll; exact rfl; exact rfl; exact rfl; exact rfl; exact rfl; (case p => repeat constructor); exact rfl; (case h1 => exact (by first | rfl | exact all1 rfl | (intro u hu; simp only [List.mem_cons, List.not_mem_nil, or_false] at hu; rcases hu with rfl | rfl | rfl | rfl <;> rfl) | (intro u hu; simp at hu; rcases hu with rfl | rfl | rfl | rfl <;> rfl) | (intro u hu; simp at hu; rcases hu with rfl | rfl | rfl <;> rfl) | (intro u hu; simp at hu; rcases hu with rfl | rfl <;> rfl) | (intro u hu; simp at hu; obtain ⟨_, _, rfl⟩ := hu; rfl))))
      refine EL.assign rfl rfl rfl ?_
      refine .go ?_; repeat constructor
      exact PX.ret rfl Tryd.results15 (.cons (.blkA rfl rfl rfl (by repeat constructor) rfl) (.cons (.tmp rfl) .nil)) (fun w hs => ⟨(), rfl, hs.ent (.i (by repeat constructor))⟩)
  rw [if_neg (by omega)] at hrd
  refine .go ?_; repeat constructor
  refine EL.move rfl rfl rfl ?_
  refine EL.eqlI rfl rfl rfl rfl ?_
  refine EL.assign rfl rfl rfl ?_
  refine .go ?_; repeat constructor
  refine ES.condD rfl (fun h3 => ?_) (fun h3 => ?_)
  · rw [if_pos (by omega)] at hrd
    subst hrd
    refine .go ?_; repeat constructor
    refine EL.move rfl rfl rfl ?_
    refine EL.buildZA rfl rfl rfl rfl rfl ?_
    refine EL.callP rfl rfl rfl ent31 rfl (not_c zeroS) ?_
    refine EL.buildS (tokCells (byteT a (notS zeroS))) rfl rfl rfl rfl rfl rfl rfl ?_
    refine EL.move rfl rfl rfl ?_
    refine EL.add1 rfl rfl rfl rfl (by omega) ?_
    (apply EL.storeAll; exact rfl; exact rfl; exact rfl; exact rfl; exact rfl; (case p => repeat constructor); exact rfl; (case h1 => exact (by first | rfl | exact all1 rfl | (intro u hu; simp only [List.mem_cons, List.not_mem_nil, or_false] at hu; rcases hu with rfl | rfl | rfl | rfl <;> rfl) | (intro u hu; simp at hu; rcases hu with rfl | rfl | rfl | rfl <;> rfl) | (intro u hu; simp at hu; rcases hu with rfl | rfl | rfl <;> rfl) | (intro u hu; simp at hu; rcases hu with rfl | rfl <;> rfl) | (intro u hu; simp at hu; obtain ⟨_, _, rfl⟩ := hu; rfl))))
    refine EL.assign rfl rfl rfl ?_
    refine .go ?_; repeat constructor
    exact PX.ret rfl Tryd.results15 (.cons (.blkA rfl rfl rfl (by repeat constructor) rfl) (.cons (.tmp rfl) .nil)) (fun w hs => ⟨(), rfl, hs.ent (.i (by repeat constructor))⟩)
  rw [if_neg (by omega)] at hrd
  refine .go ?_; repeat constructor
  refine EL.cutX (X := Unit) (fun _ => [(0, Sv t), (1, Iv (a : Nat)), (2, .bool fi), (8, Pv g8 0), (10, Uv b), (60, .bool (decide ((b.toNat : Int) = 42) && !bg))]) (fun _ => [HA.blk g8 (.cells #[.int .i64 0, .int .i64 0, .int .u64 0, .int .u64 0, .int .u64 0, .int .u64 0, .int .i64 0, .int .i64 0, .int .i64 0] 53)]) ?_ (fun _ => ?_)
  · refine .go ?_; repeat constructor
    refine EL.move rfl rfl rfl ?_
    refine EL.eqlI rfl rfl rfl rfl ?_
    refine EL.move rfl rfl rfl ?_
    first | refine EL.splitD (d := 63) rfl (fun hp63 => ?_) (fun hp63 => ?_) | refine EL.splitN (d := 63) rfl (fun hp63 => ?_) (fun hp63 => ?_) | refine EL.splitB (d := 63) rfl (fun hp63 => ?_) (fun hp63 => ?_)
    · refine EL.move rfl rfl rfl ?_
      refine EL.not rfl rfl rfl ?_
      refine EL.pickT rfl rfl rfl rfl ?_
      refine EL.assign rfl rfl rfl ?_
      exact EL.endX () ⟨rfl, rfl, rfl, rfl, rfl, getA rfl (congrArg Value.bool (by simp_all)), trivial⟩ (.i (by repeat constructor))
    · refine EL.pass rfl rfl rfl ?_
      refine EL.pass rfl rfl rfl ?_
      refine EL.pickF rfl rfl rfl rfl ?_
      refine EL.assign rfl rfl rfl ?_
      exact EL.endX () ⟨rfl, rfl, rfl, rfl, rfl, getA rfl (congrArg Value.bool (by simp_all)), trivial⟩ (.i (by repeat constructor))
  refine ES.cond rfl (fun h4 => ?_) (fun h4 => ?_)
  · rw [Bool.and_eq_true, decide_eq_true_eq] at h4
    rw [if_pos ⟨by omega, by simpa using h4.2⟩] at hrd
    subst hrd
    refine .go ?_; repeat constructor
    refine EL.move rfl rfl rfl ?_
    refine EL.buildS (tokCells ⟨5, a, zeroS, 0, -1, 0⟩) rfl rfl rfl rfl rfl rfl rfl ?_
    refine EL.move rfl rfl rfl ?_
    refine EL.add1 rfl rfl rfl rfl (by omega) ?_
    (apply EL.storeAll; exact rfl; exact rfl; exact rfl; exact rfl; exact rfl; (case p => repeat constructor); exact rfl; (case h1 => exact (by first | rfl | exact all1 rfl | (intro u hu; simp only [List.mem_cons, List.not_mem_nil, or_false] at hu; rcases hu with rfl | rfl | rfl | rfl <;> rfl) | (intro u hu; simp at hu; rcases hu with rfl | rfl | rfl | rfl <;> rfl) | (intro u hu; simp at hu; rcases hu with rfl | rfl | rfl <;> rfl) | (intro u hu; simp at hu; rcases hu with rfl | rfl <;> rfl) | (intro u hu; simp at hu; obtain ⟨_, _, rfl⟩ := hu; rfl))))
    refine EL.assign rfl rfl rfl ?_
    refine .go ?_; repeat constructor
    exact PX.ret rfl Tryd.results15 (.cons (.blkA rfl rfl rfl (by repeat constructor) rfl) (.cons (.tmp rfl) .nil)) (fun w hs => ⟨(), rfl, hs.ent (.i (by repeat constructor))⟩)
  rw [if_neg (by rintro ⟨h5, h6⟩; rw [decide_eq_true (by omega), h6] at h4; cases h4)] at hrd
  refine .go ?_; repeat constructor
  refine EL.cutX (X := Unit) (fun _ => [(0, Sv t), (1, Iv (a : Nat)), (8, Pv g8 0), (10, Uv b), (71, .bool (decide ((b.toNat : Int) = 94) && fi))]) (fun _ => [HA.blk g8 (.cells #[.int .i64 0, .int .i64 0, .int .u64 0, .int .u64 0, .int .u64 0, .int .u64 0, .int .i64 0, .int .i64 0, .int .i64 0] 53)]) ?_ (fun _ => ?_)
  · refine .go ?_; repeat constructor
    refine EL.move rfl rfl rfl ?_
    refine EL.eqlI rfl rfl rfl rfl ?_
    refine EL.move rfl rfl rfl ?_
    first | refine EL.splitD (d := 74) rfl (fun hp74 => ?_) (fun hp74 => ?_) | refine EL.splitN (d := 74) rfl (fun hp74 => ?_) (fun hp74 => ?_) | refine EL.splitB (d := 74) rfl (fun hp74 => ?_) (fun hp74 => ?_)
    · refine EL.move rfl rfl rfl ?_
      refine EL.pickT rfl rfl rfl rfl ?_
      refine EL.assign rfl rfl rfl ?_
      exact EL.endX () ⟨rfl, rfl, rfl, rfl, getA rfl (congrArg Value.bool (by simp_all)), trivial⟩ (.i (by repeat constructor))
    · refine EL.pass rfl rfl rfl ?_
      refine EL.pickF rfl rfl rfl rfl ?_
      refine EL.assign rfl rfl rfl ?_
      exact EL.endX () ⟨rfl, rfl, rfl, rfl, getA rfl (congrArg Value.bool (by simp_all)), trivial⟩ (.i (by repeat constructor))
  refine ES.cond rfl (fun h5 => ?_) (fun h5 => ?_)
  · rw [Bool.and_eq_true, decide_eq_true_eq] at h5
    rw [if_pos ⟨by omega, h5.2⟩] at hrd
    subst hrd
    refine .go ?_; repeat constructor
    refine EL.move rfl rfl rfl ?_
    refine EL.buildS (tokCells ⟨1, a, zeroS, 0, 0, 0⟩) rfl rfl rfl rfl rfl rfl rfl ?_
    refine EL.move rfl rfl rfl ?_
    refine EL.add1 rfl rfl rfl rfl (by omega) ?_
    (apply EL.storeAll; exact rfl; exact rfl; exact rfl; exact rfl; exact rfl; (case p => repeat constructor); exact rfl; (case h1 => exact (by first | rfl | exact all1 rfl | (intro u hu; simp only [List.mem_cons, List.not_mem_nil, or_false] at hu; rcases hu with rfl | rfl | rfl | rfl <;> rfl) | (intro u hu; simp at hu; rcases hu with rfl | rfl | rfl | rfl <;> rfl) | (intro u hu; simp at hu; rcases hu with rfl | rfl | rfl <;> rfl) | (intro u hu; simp at hu; rcases hu with rfl | rfl <;> rfl) | (intro u hu; simp at hu; obtain ⟨_, _, rfl⟩ := hu; rfl))))
    refine EL.assign rfl rfl rfl ?_
    refine .go ?_; repeat constructor
    exact PX.ret rfl Tryd.results15 (.cons (.blkA rfl rfl rfl (by repeat constructor) rfl) (.cons (.tmp rfl) .nil)) (fun w hs => ⟨(), rfl, hs.ent (.i (by repeat constructor))⟩)
  rw [if_neg (by rintro ⟨h6, h7⟩; rw [decide_eq_true (by omega), h7] at h5; cases h5)] at hrd
  refine .go ?_; repeat constructor
  refine EL.cutX (X := Unit) (fun _ => [(0, Sv t), (1, Iv (a : Nat)), (8, Pv g8 0), (10, Uv b), (81, .bool (decide ((b.toNat : Int) = 36) && eolM t a))]) (fun _ => [HA.blk g8 (.cells #[.int .i64 0, .int .i64 0, .int .u64 0, .int .u64 0, .int .u64 0, .int .u64 0, .int .i64 0, .int .i64 0, .int .i64 0] 53)]) ?_ (fun _ => ?_)
  · refine .go ?_; repeat constructor
    refine EL.move rfl rfl rfl ?_
    refine EL.eqlI rfl rfl rfl rfl ?_
    refine EL.move rfl rfl rfl ?_
    first | refine EL.splitD (d := 84) rfl (fun hp84 => ?_) (fun hp84 => ?_) | refine EL.splitN (d := 84) rfl (fun hp84 => ?_) (fun hp84 => ?_) | refine EL.splitB (d := 84) rfl (fun hp84 => ?_) (fun hp84 => ?_)
    · refine EL.move rfl rfl rfl ?_
      refine EL.add1 rfl rfl rfl rfl (by omega) ?_
      refine EL.move rfl rfl rfl ?_
      refine EL.lenS rfl rfl rfl rfl rfl ?_
      refine EL.eqlI rfl rfl rfl rfl ?_
      refine EL.move rfl rfl rfl ?_
      first | refine EL.splitD (d := 90) rfl (fun hp90 => ?_) (fun hp90 => ?_) | refine EL.splitN (d := 90) rfl (fun hp90 => ?_) (fun hp90 => ?_) | refine EL.splitB (d := 90) rfl (fun hp90 => ?_) (fun hp90 => ?_)
      · refine EL.pass rfl rfl rfl ?_
        refine EL.pass rfl rfl rfl ?_
        refine EL.pass rfl rfl rfl ?_
        refine EL.pass rfl rfl rfl ?_
        refine EL.pass rfl rfl rfl ?_
        refine EL.pass rfl rfl rfl ?_
        refine EL.pass rfl rfl rfl ?_
        refine EL.pass rfl rfl rfl ?_
        refine EL.pass rfl rfl rfl ?_
        refine EL.pass rfl rfl rfl ?_
        refine EL.pass rfl rfl rfl ?_
        refine EL.pass rfl rfl rfl ?_
        refine EL.pass rfl rfl rfl ?_
        refine EL.pass rfl rfl rfl ?_
        refine EL.pickT rfl rfl rfl rfl ?_
        refine EL.pickT rfl rfl rfl rfl ?_
        refine EL.assign rfl rfl rfl ?_
        exact EL.endX () ⟨rfl, rfl, rfl, rfl, getA rfl (congrArg Value.bool (by unfold eolM; rw [Bool.eq_iff_iff]; simp only [decide_eq_true_eq, Bool.and_eq_true, Bool.or_eq_true, true_iff, Bool.false_eq_true, false_iff]; first | omega | exact ⟨by omega, .inl (by omega)⟩ | (rw [show a + 3 - (a + 1) = 2 by omega]; exact ⟨fun h => ⟨by omega, .inr ⟨by omega, h⟩⟩, fun h => h.2.elim (fun h => absurd h (by omega)) (fun h => h.2)⟩) | exact fun h => h.2.elim (fun h => absurd h (by omega)) (fun h => absurd h.1 (by omega)))), trivial⟩ (.i (by repeat constructor))
      · refine EL.move rfl rfl rfl ?_
        refine EL.addN (n := 2) rfl rfl rfl rfl rfl (by omega) ?_
        refine EL.move rfl rfl rfl ?_
        refine EL.lenS rfl rfl rfl rfl rfl ?_
        refine EL.lss rfl rfl rfl rfl ?_
        refine EL.move rfl rfl rfl ?_
        first | refine EL.splitD (d := 96) rfl (fun hp96 => ?_) (fun hp96 => ?_) | refine EL.splitN (d := 96) rfl (fun hp96 => ?_) (fun hp96 => ?_) | refine EL.splitB (d := 96) rfl (fun hp96 => ?_) (fun hp96 => ?_)
        · refine EL.move rfl rfl rfl ?_
          refine EL.move rfl rfl rfl ?_
          refine EL.add1 rfl rfl rfl rfl (by omega) ?_
          refine EL.move rfl rfl rfl ?_
          refine EL.addN (n := 3) rfl rfl rfl rfl rfl (by omega) ?_
          refine EL.sliceS rfl rfl rfl rfl rfl ⟨_, rfl⟩ ⟨_, rfl⟩ (by omega) (by omega) ?_
          refine EL.eqlS rfl rfl rfl rfl ?_
          refine EL.pickT rfl rfl rfl rfl ?_
          refine EL.pickF rfl rfl rfl rfl ?_
          refine EL.pickT rfl rfl rfl rfl ?_
          refine EL.assign rfl rfl rfl ?_
          exact EL.endX () ⟨rfl, rfl, rfl, rfl, getA rfl (congrArg Value.bool (by unfold eolM; rw [Bool.eq_iff_iff]; simp only [decide_eq_true_eq, Bool.and_eq_true, Bool.or_eq_true, true_iff, Bool.false_eq_true, false_iff]; first | omega | exact ⟨by omega, .inl (by omega)⟩ | (rw [show a + 3 - (a + 1) = 2 by omega]; exact ⟨fun h => ⟨by omega, .inr ⟨by omega, h⟩⟩, fun h => h.2.elim (fun h => absurd h (by omega)) (fun h => h.2)⟩) | exact fun h => h.2.elim (fun h => absurd h (by omega)) (fun h => absurd h.1 (by omega)))), trivial⟩ (.i (by repeat constructor))
        · refine EL.pass rfl rfl rfl ?_
          refine EL.pass rfl rfl rfl ?_
          refine EL.pass rfl rfl rfl ?_
          refine EL.pass rfl rfl rfl ?_
          refine EL.pass rfl rfl rfl ?_
          refine EL.pass rfl rfl rfl ?_
          refine EL.pass rfl rfl rfl ?_
          refine EL.pickF rfl rfl rfl rfl ?_
          refine EL.pickF rfl rfl rfl rfl ?_
          refine EL.pickT rfl rfl rfl rfl ?_
          refine EL.assign rfl rfl rfl ?_
          exact EL.endX () ⟨rfl, rfl, rfl, rfl, getA rfl (congrArg Value.bool (by unfold eolM; rw [Bool.eq_iff_iff]; simp only [decide_eq_true_eq, Bool.and_eq_true, Bool.or_eq_true, true_iff, Bool.false_eq_true, false_iff]; first | omega | exact ⟨by omega, .inl (by omega)⟩ | (rw [show a + 3 - (a + 1) = 2 by omega]; exact ⟨fun h => ⟨by omega, .inr ⟨by omega, h⟩⟩, fun h => h.2.elim (fun h => absurd h (by omega)) (fun h => h.2)⟩) | exact fun h => h.2.elim (fun h => absurd h (by omega)) (fun h => absurd h.1 (by omega)))), trivial⟩ (.i (by repeat constructor))
    · refine EL.pass rfl rfl rfl ?_
      refine EL.pass rfl rfl rfl ?_
      refine EL.pass rfl rfl rfl ?_
      refine EL.pass rfl rfl rfl ?_
      refine EL.pass rfl rfl rfl ?_
      refine EL.pass rfl rfl rfl ?_
      refine EL.pass rfl rfl rfl ?_
      refine EL.pass rfl rfl rfl ?_
      refine EL.pass rfl rfl rfl ?_
      refine EL.pass rfl rfl rfl ?_
      refine EL.pass rfl rfl rfl ?_
      refine EL.pass rfl rfl rfl ?_
      refine EL.pass rfl rfl rfl ?_
      refine EL.pass rfl rfl rfl ?_
      refine EL.pass rfl rfl rfl ?_
      refine EL.pass rfl rfl rfl ?_
      refine EL.pass rfl rfl rfl ?_
      refine EL.pass rfl rfl rfl ?_
      refine EL.pass rfl rfl rfl ?_
      refine EL.pass rfl rfl rfl ?_
      refine EL.pass rfl rfl rfl ?_
      refine EL.pickF rfl rfl rfl rfl ?_
      refine EL.assign rfl rfl rfl ?_
      exact EL.endX () ⟨rfl, rfl, rfl, rfl, getA rfl (congrArg Value.bool (by unfold eolM; rw [Bool.eq_iff_iff]; simp only [decide_eq_true_eq, Bool.and_eq_true, Bool.or_eq_true, true_iff, Bool.false_eq_true, false_iff]; first | omega | exact ⟨by omega, .inl (by omega)⟩ | (rw [show a + 3 - (a + 1) = 2 by omega]; exact ⟨fun h => ⟨by omega, .inr ⟨by omega, h⟩⟩, fun h => h.2.elim (fun h => absurd h (by omega)) (fun h => h.2)⟩) | exact fun h => h.2.elim (fun h => absurd h (by omega)) (fun h => absurd h.1 (by omega)))), trivial⟩ (.i (by repeat constructor))
  refine ES.cond rfl (fun h6 => ?_) (fun h6 => ?_)
  · rw [Bool.and_eq_true, decide_eq_true_eq] at h6
    rw [if_pos ⟨by omega, h6.2⟩] at hrd
    subst hrd
    refine .go ?_; repeat constructor
    refine EL.move rfl rfl rfl ?_
    refine EL.buildS (tokCells ⟨2, a, zeroS, 0, 0, 0⟩) rfl rfl rfl rfl rfl rfl rfl ?_
    refine EL.move rfl rfl rfl ?_
    refine EL.add1 rfl rfl rfl rfl (by omega) ?_
    (apply EL.storeAll; exact rfl; exact rfl; exact rfl; exact rfl; exact rfl; (case p => repeat constructor); exact rfl; (case h1 => exact (by first | rfl | exact all1 rfl | (intro u hu; simp only [List.mem_cons, List.not_mem_nil, or_false] at hu; rcases hu with rfl | rfl | rfl | rfl <;> rfl) | (intro u hu; simp at hu; rcases hu with rfl | rfl | rfl | rfl <;> rfl) | (intro u hu; simp at hu; rcases hu with rfl | rfl | rfl <;> rfl) | (intro u hu; simp at hu; rcases hu with rfl | rfl <;> rfl) | (intro u hu; simp at hu; obtain ⟨_, _, rfl⟩ := hu; rfl))))
    refine EL.assign rfl rfl rfl ?_
    refine .go ?_; repeat constructor
    exact PX.ret rfl Tryd.results15 (.cons (.blkA rfl rfl rfl (by repeat constructor) rfl) (.cons (.tmp rfl) .nil)) (fun w hs => ⟨(), rfl, hs.ent (.i (by repeat constructor))⟩)
  · rw [if_neg (by rintro ⟨h7, h8⟩; rw [decide_eq_true (by omega), h8] at h6; cases h6)] at hrd
    subst hrd
    refine .go ?_; repeat constructor
    refine EL.move rfl rfl rfl ?_
    refine EL.move rfl rfl rfl ?_
    refine EL.callP rfl rfl rfl ent32 rfl (one_c a b) ?_
    refine EL.move rfl rfl rfl ?_
    refine EL.add1 rfl rfl rfl rfl (by omega) ?_
    (apply EL.storeAll; exact rfl; exact rfl; exact rfl; exact rfl; exact rfl; (case p => repeat constructor); exact rfl; (case h1 => exact (by first | rfl | exact all1 rfl | (intro u hu; simp only [List.mem_cons, List.not_mem_nil, or_false] at hu; rcases hu with rfl | rfl | rfl | rfl <;> rfl) | (intro u hu; simp at hu; rcases hu with rfl | rfl | rfl | rfl <;> rfl) | (intro u hu; simp at hu; rcases hu with rfl | rfl | rfl <;> rfl) | (intro u hu; simp at hu; rcases hu with rfl | rfl <;> rfl) | (intro u hu; simp at hu; obtain ⟨_, _, rfl⟩ := hu; rfl))))
    refine EL.assign rfl rfl rfl ?_
    refine .go ?_; repeat constructor
    exact PX.ret rfl Tryd.results15 (.cons (.blkA rfl rfl rfl (by repeat constructor) rfl) (.cons (.tmp rfl) .nil)) (fun w hs => ⟨(), rfl, hs.ent (.i (by repeat constructor))⟩)
end Go.Proofs.YtcoajnpneableaaDoor
namespace Go.Proofs.YtcoajnpneableaaDoor.Sl
open Go Go.RowKit
set_option linter.unusedVariables false
set_option linter.unusedSimpArgs false
section draws2
variable {C : Cx} {all : Array Oper} {Q : Qt}
def bindsT (all : Array Oper) : Nat → Nat → Nat → Bool
  | 0, _, _ => false
  | f + 1, j, k => match all[j]? with
    | some o => o.after.any fun e => Region.binds .any e && (Nat.beq e.on k || bindsT all f e.on k)
    | none => false
def lateBinds (all : Array Oper) (m : Nat) : Bool := (List.range all.size).all fun j => Nat.blt j m || (List.range m).all fun k => bindsT all 7 j k
theorem bindsT_done {L : Array Bool} (hcl : Closed all L) : ∀ (f j k : Nat) (oj : Oper), bindsT all f j k = true → all[j]? = some oj → (∀ e ∈ oj.after, Region.binds .any e = true → L.getD e.on false = true) → L.getD k false = true
  | 0, _, _, _, h, _, _ => by cases h
  | f + 1, j, k, oj, h, hj, hall => by
    simp only [bindsT, hj] at h
    obtain ⟨e, he, h2⟩ := Array.any_eq_true'.1 h
    simp only [Bool.and_eq_true, Bool.or_eq_true] at h2
    have hd := hall e he h2.1
    rcases h2.2 with h3 | h3
    · rw [Nat.eq_of_beq_eq_true h3] at hd; exact hd
    · cases f with
      | zero => cases h3
      | succ f =>
        cases ho : all[e.on]? with
        | none => simp only [bindsT, ho] at h3; cases h3
        | some o => exact bindsT_done hcl (f + 1) e.on k o h3 ho (fun e' he' hb' => hcl e.on o ho hd e' he' hb')
theorem late_not {m : Nat} {L : Array Bool} (hb : lateBinds all m = true) (hcl : Closed all L) {i j : Nat} {oj : Oper} (hi : L.getD i false = true → False) (him : i < m) (hj : all[j]? = some oj) (hjm : m ≤ j)
    (h : (∀ e ∈ oj.after, Region.binds .any e = true → L.getD e.on false = true)) : False := by
  have hlt : j < all.size := (Array.getElem?_eq_some_iff.1 hj).1
  have h1 := List.all_eq_true.1 hb j (List.mem_range.2 hlt)
  simp only [Bool.or_eq_true] at h1
  rcases h1 with h1 | h1
  · have : j < m := by simpa using h1
    omega
  · exact hi (bindsT_done hcl 7 j i oj (List.all_eq_true.1 h1 i (List.mem_range.2 him)) hj h)
def someLate (m : Nat) (L : Array Bool) : Bool := (List.range L.size).any fun k => Nat.ble m k && L.getD k false
theorem someLate_true {m : Nat} {L : Array Bool} (h : someLate m L = true) : ∃ k, m ≤ k ∧ L.getD k false = true := by
  obtain ⟨k, _, h2⟩ := List.any_eq_true.1 h
  simp only [Bool.and_eq_true] at h2
  exact ⟨k, Nat.le_of_ble_eq_true h2.1, h2.2⟩
theorem someLate_of {m : Nat} {L : Array Bool} {k : Nat} (hk : m ≤ k) (h : L.getD k false = true) : someLate m L = true := by
  have hlt : k < L.size := by
    rcases Nat.lt_or_ge k L.size with h' | h'
    · exact h'
    · simp [Array.getElem?_eq_none h'] at h
  exact List.any_eq_true.2 ⟨k, List.mem_range.2 hlt, by rw [h, Nat.ble_eq_true_of_le hk]; rfl⟩
def KS (C : Cx) (Hs : List HA) (m : Nat) (L : Array Bool) (w : World) : Prop := Sat C.w0 C.B [] w ∧ (someLate m L = false → Sat C.w0 C.B Hs w)
def wpAnyG (C : Cx) (all : Array Oper) (Q : Qt) (Hs : List HA) (m : Nat) : Nat → Array Bool → Act → World → Prop
  | 0, L, a, w => Region.ready .any all L = [] ∧ Q .normal a w
  | f + 1, L, a, w => (Region.ready .any all L = [] → Q .normal a w) ∧
    ∀ i ∈ Region.ready .any all L, wpOpIn (F0 C.r) 0 C.P all Q i (fun a' w' => KS C Hs m (L.setIfInBounds i true) w' ∧ wpAnyG C all Q Hs m f (L.setIfInBounds i true) a' w') a w
theorem wpAnyG.any {Hs : List HA} {m : Nat} : ∀ (f : Nat) (L : Array Bool) (a : Act) (w : World), wpAnyG C all Q Hs m f L a w → wpAnyIn (F0 C.r) 0 C.P .any all Q f L a w
  | 0, _, _, _, h => h
  | f + 1, _, _, _, h => ⟨h.1, fun i hi => wpOpIn_mono (fun a' w' h' => wpAnyG.any f _ a' w' h'.2) (h.2 i hi)⟩
theorem ready_undone {L : Array Bool} {i : Nat} (h : i ∈ Region.ready .any all L) : L.getD i false = true → False := fun h1 => by
  have h0 := (mem_ready.1 h).1
  rcases Nat.lt_or_ge i L.size with h' | h'
  · simp [h'] at h0 h1; rw [h0] at h1; cases h1
  · simp [Array.getElem?_eq_none h'] at h1
def need (Hs : List HA) (m i : Nat) : List HA := bif Nat.blt i m then Hs else []
theorem KS.need {Hs : List HA} {m i : Nat} {L : Array Bool} {w : World} (hb : lateBinds all m = true) (hcl : Closed all L) (hsz : L.size = all.size) (hi : i ∈ Region.ready .any all L) (h : KS C Hs m L w) : Sat C.w0 C.B (need Hs m i) w := by
  unfold Sl.need
  cases hm : Nat.blt i m with
  | false => exact h.1
  | true =>
    have him : i < m := by simpa using hm
    refine h.2 ?_
    cases hl : someLate m L with
    | false => rfl
    | true =>
      obtain ⟨k, hk, hd⟩ := someLate_true hl
      have hks : k < all.size := by
        rw [← hsz]
        rcases Nat.lt_or_ge k L.size with h' | h'
        · exact h'
        · simp [Array.getElem?_eq_none h'] at hd
      exact (late_not hb hcl (ready_undone hi) him (Array.getElem?_eq_getElem hks) hk (fun e he hb' => hcl k _ (Array.getElem?_eq_getElem hks) hd e he hb')).elim
theorem KS.back {Hs : List HA} {m i j : Nat} {L : Array Bool} {w : World} (hb : lateBinds all m = true) (hcl : Closed all L) (hi : i ∈ Region.ready .any all L) (hj : j ∈ Region.ready .any all L) (hji : j ≠ i) (h : KS C Hs m ((L.setIfInBounds i true).setIfInBounds j true) w) : KS C Hs m (L.setIfInBounds j true) w := by
  refine ⟨h.1, fun hl => h.2 ?_⟩
  cases hl2 : someLate m ((L.setIfInBounds i true).setIfInBounds j true) with
  | false => rfl
  | true =>
    exfalso
    obtain ⟨k, hk, hd⟩ := someLate_true hl2
    obtain ⟨hiun, oi, hoi, halli⟩ := mem_ready.1 hi
    obtain ⟨hjun, oj, hoj, hallj⟩ := mem_ready.1 hj
    by_cases hkj : j = k
    · subst hkj
      have hs : j < L.size := by
        rcases Nat.lt_or_ge j L.size with h' | h'
        · exact h'
        · simp [Array.getElem?_eq_none h'] at hjun
      have : someLate m (L.setIfInBounds j true) = true := someLate_of hk (by simp [hs])
      rw [this] at hl; cases hl
    · rw [getD_set_ne false hkj] at hd
      by_cases hki : i = k
      · subst hki
        rcases Nat.lt_or_ge j m with hjm | hjm
        · exact late_not hb hcl (ready_undone hj) hjm hoi hk halli
        · have hs : j < L.size := by
            rcases Nat.lt_or_ge j L.size with h' | h'
            · exact h'
            · simp [Array.getElem?_eq_none h'] at hjun
          have : someLate m (L.setIfInBounds j true) = true := someLate_of hjm (by simp [hs])
          rw [this] at hl; cases hl
      · rw [getD_set_ne false hki] at hd
        have : someLate m (L.setIfInBounds j true) = true := someLate_of hk (by rw [getD_set_ne false hkj]; exact hd)
        rw [this] at hl; cases hl
theorem KS.quiet {Hs : List HA} {m i : Nat} {L : Array Bool} {w : World} (h : KS C Hs m L w) : KS C Hs m (L.setIfInBounds i true) w := by
  refine ⟨h.1, fun hl => h.2 ?_⟩
  cases hl2 : someLate m L with
  | false => rfl
  | true =>
    obtain ⟨k, hk, hd⟩ := someLate_true hl2
    rw [someLate_of hk (getD_set_done hd)] at hl; cases hl
theorem wpAnyG.first {i : Nat} {oi : Oper} {v : Value} (hi : all[i]? = some oi) (hnd : noDefer all = true) (hQ : ∀ c a w, ¬ Q (.panic c) a w) {Hs : List HA} {m : Nat} (hb : lateBinds all m = true) :
    ∀ (f : Nat) (L : Array Bool) (a : Act) (w : World), (∀ j oj, all[j]? = some oj → j ≠ i → L.getD j true = false → (∀ e ∈ oj.after, Region.binds .any e = true → e.on ≠ i) → oi.apart all oj = true) →
      Closed all L → L.size = all.size → i ∈ Region.ready .any all L → YieldsS C all (Sat C.w0 C.B (need Hs m i)) oi v a → KS C Hs m L w → wpAnyG C all Q Hs m f (L.setIfInBounds i true) (a.put oi.dst v) w → wpAnyG C all Q Hs m (f + 1) L a w := by
  have hdi := noDefer_spec hnd hi
  intro f
  induction f with
  | zero =>
    intro L a w _ hcl hsz hr hy hS H
    refine ⟨fun h => (by rw [h] at hr; cases hr), fun j hj => ?_⟩
    by_cases hji : j = i
    · subst hji; exact hy.step hi hdi.1 (hS.need hb hcl hsz hr) ⟨hS.quiet, H⟩
    · have := ready_mono hj hji
      rw [H.1] at this
      cases this
  | succ f ih =>
    intro L a w hfree hcl hsz hr hy hS H
    refine ⟨fun h => (by rw [h] at hr; cases hr), fun j hj => ?_⟩
    by_cases hji : j = i
    · subst hji; exact hy.step hi hdi.1 (hS.need hb hcl hsz hr) ⟨hS.quiet, H⟩
    · have h1 := H.2 j (ready_mono hj hji)
      obtain ⟨hjun, oj, hoj, hall⟩ := mem_ready.1 hj
      have hnot : ∀ e ∈ oj.after, Region.binds .any e = true → e.on ≠ i := fun e he hb heq => by
        have h1 := hall e he hb
        rw [heq] at h1
        exact ready_undone hr h1
      have hdj := noDefer_spec hnd hoj
      have h2 := YieldsS.other hoj (hfree j oj hoj hji hjun hnot) hdi.2 hdj.2 hdj.1 hQ hy h1
      refine wpOpIn_mono (fun a' w' h3 => ⟨h3.2.1.back hb hcl hr hj hji, ih (L.setIfInBounds j true) a' w' (fun k ok hk hki hun hno => ?_) (hcl.set hj) (by rw [Array.size_setIfInBounds]; exact hsz) (ready_mono hr (Ne.symm hji)) h3.1 (h3.2.1.back hb hcl hr hj hji) ?_⟩) h2
      · refine hfree k ok hk hki ?_ hno
        by_cases hjk : j = k
        · subst hjk; exact hjun
        · rw [getD_set_ne true hjk] at hun; exact hun
      · rw [Array.setIfInBounds_comm _ _ hji]
        exact h3.2.2
def EG (C : Cx) (all : Array Oper) (Hs : List HA) (m f : Nat) (L : Array Bool) (E : Env) (H : List HA) (Q : Qt) : Prop := lateBinds all m = true → L.size = all.size → ∀ a w, At C E H a w → KS C Hs m L w → wpAnyG C all Q Hs m f L a w
variable {Hs : List HA} {m f : Nat} {L : Array Bool} {E E' : Env} {H H' : List HA}
theorem EG.take (i : Nat) {o : Oper} {d : Nat} {v : Value} (hi : all[i]? = some o) (hnd : noDefer all = true) (hQ : ∀ c a w, ¬ Q (.panic c) a w) (ht : takeOk all L i = true) (hg : guardOk all E o.guard = some true) (hd : o.dst = some d) (hdn : Nat.blt d C.n = true)
    (hv : RunV C E (need Hs m i) o v) (k : EG C all Hs m f (L.setIfInBounds i true) ((d, v) :: E) H Q) : EG C all Hs m (f + 1) L E H Q := by
  intro hb hsz a w ha hs
  simp only [takeOk, Bool.and_eq_true] at ht
  have hr : i ∈ Region.ready .any all L := by simpa using ht.1.2
  refine wpAnyG.first hi hnd hQ hb f L a w (fun j oj => Region.free_spec hi ht.1.1 j oj) (closedB_spec ht.2) hsz hr (.inl ⟨guardOk_wanted hg ha.1, fun w' hS => hv a w' ⟨ha.1, hS⟩⟩) hs ?_
  rw [hd]
  exact k hb (by rw [Array.size_setIfInBounds]; exact hsz) _ _ ⟨ha.1.put (by simpa using hdn) v, ha.2⟩ hs.quiet
def GK (C : Cx) (all : Array Oper) (Hs : List HA) (m f : Nat) (L : Array Bool) (Q : Qt) : Qt := fun e a w => match e with
  | .normal => KS C Hs m L w ∧ wpAnyG C all Q Hs m f L a w
  | e => Q e a w
theorem loud_opG {i : Nat} {o : Oper} (hi : all[i]? = some o) (k : EL C all [o] (GK C all Hs m f (L.setIfInBounds i true) Q) E H) {a : Act} {w : World} (ha : At C E H a w) :
    wpOpIn (F0 C.r) 0 C.P all Q i (fun a' w' => KS C Hs m (L.setIfInBounds i true) w' ∧ wpAnyG C all Q Hs m f (L.setIfInBounds i true) a' w') a w := by
  have hk := k a w ha
  have hD : ∀ e a w, GK C all Hs m f (L.setIfInBounds i true) Q e a w → match e with | .normal => KS C Hs m (L.setIfInBounds i true) w ∧ wpAnyG C all Q Hs m f (L.setIfInBounds i true) a w | e => Q e a w := fun e a w h => by
    cases e with
    | normal => exact h
    | _ => exact h
  unfold wpOpIn
  simp only [hi]
  simp only [wpListIn] at hk
  split
  · rename_i hw
    simp only [hw, if_true] at hk
    refine ⟨fun _ _ => trivial, ?_⟩
    have h2 := hk.2
    generalize (o.semAt (F0 C.r).round a.eval).run C.P w = r at *
    cases r with
    | ok x w' =>
      cases x <;> simp only [Oper.uponIn] at h2 ⊢
      case value u => exact hD _ _ _ h2
      case skip => exact hD _ _ _ h2
      case defer d => exact hD _ _ _ h2
      case enter f args =>
        refine ⟨h2.1, CallsIn.mono h2.2 fun e w'' he => ?_⟩
        cases e with
        | returned u => exact hD _ _ _ he
        | panicked c => exact hD _ _ _ he
        | outgrown =>
          obtain ⟨a', w3, h3⟩ := he
          exact ⟨a', w3, hD _ _ _ h3⟩
      case row row args => exact ⟨h2.1, RowsIn.mono h2.2 fun u w'' he => hD _ _ _ he⟩
      case round l f tmps assign body =>
        refine ⟨h2.1, RoundIn.mono h2.2 fun e w'' he => ?_⟩
        cases e with
        | returned u => exact hD _ _ _ he
        | panicked c => exact hD _ _ _ he
        | outgrown =>
          obtain ⟨a', w3, h3⟩ := he
          exact ⟨a', w3, hD _ _ _ h3⟩
    | halt x w' =>
      cases x <;> simp only [Oper.uponIn] at h2 ⊢
      case panic u => exact hD _ _ _ h2
  · rename_i hw
    simp only [hw] at hk
    exact ⟨fun _ _ => trivial, hD _ _ _ hk.2⟩
def EGone (C : Cx) (all : Array Oper) (Hs : List HA) (m f : Nat) (L : Array Bool) (E : Env) (H : List HA) (Q : Qt) (j : Nat) : Prop := ∃ o, all[j]? = some o ∧ EL C all [o] (GK C all Hs m f (L.setIfInBounds j true) Q) E H
def EGall (C : Cx) (all : Array Oper) (Hs : List HA) (m f : Nat) (L : Array Bool) (E : Env) (H : List HA) (Q : Qt) : List Nat → Prop
  | [] => True
  | j :: r => EGone C all Hs m f L E H Q j ∧ EGall C all Hs m f L E H Q r
theorem EGall.get : ∀ {js : List Nat}, EGall C all Hs m f L E H Q js → ∀ j ∈ js, EGone C all Hs m f L E H Q j
  | j :: r, h, k, hk => by
    rcases List.mem_cons.1 hk with rfl | hk
    · exact h.1
    · exact EGall.get h.2 k hk
theorem EG.fork (i : Nat) (js : List Nat) (hr : (Region.ready .any all L == i :: js) = true) (h : EGall C all Hs m f L E H Q (i :: js)) : EG C all Hs m (f + 1) L E H Q := by
  intro hb hsz a w ha hs
  have hR : Region.ready .any all L = i :: js := by simpa using hr
  refine ⟨fun h => (by rw [hR] at h; cases h), fun j hj => ?_⟩
  rw [hR] at hj
  obtain ⟨o, ho, k⟩ := h.get j hj
  exact loud_opG ho k ha
theorem EG.loud (i : Nat) {o : Oper} (hi : all[i]? = some o) (hr : readyIs all L i = true) (k : EL C all [o] (GK C all Hs m f (L.setIfInBounds i true) Q) E H) : EG C all Hs m (f + 1) L E H Q := by
  intro hb hsz a w ha hs
  have hR : Region.ready .any all L = [i] := by
    unfold readyIs at hr
    split at hr
    · rename_i j hj; rw [hj, Nat.eq_of_beq_eq_true hr]
    · cases hr
  refine ⟨fun h => (by rw [hR] at h; cases h), fun j hj => ?_⟩
  rw [hR] at hj
  obtain rfl : j = i := by simpa using hj
  exact loud_opG hi k ha
theorem EG.next (hb : lateBinds all m = true) (hsz : Nat.beq L.size all.size = true) (hs : Ent H Hs) (k : EG C all Hs m f L E H Q) : EL C all [] (GK C all Hs m f L Q) E H := fun a w ha =>
  have hk : KS C Hs m L w := ⟨ha.2.ent (.nil _), fun _ => ha.2.ent hs⟩
  ⟨hk, k hb (Nat.eq_of_beq_eq_true hsz) a w ha hk⟩
theorem EG.nextL (hb : lateBinds all m = true) (hsz : Nat.beq L.size all.size = true) (hl : someLate m L = true) (k : EG C all Hs m f L E H Q) : EL C all [] (GK C all Hs m f L Q) E H := fun a w ha =>
  have hk : KS C Hs m L w := ⟨ha.2.ent (.nil _), fun h => by rw [hl] at h; cases h⟩
  ⟨hk, k hb (Nat.eq_of_beq_eq_true hsz) a w ha hk⟩
theorem EG.done (hr : (match Region.ready .any all L with | [] => true | _ => false) = true) (k : PX C Q .normal E H) : EG C all Hs m f L E H Q := by
  intro hb hsz a w ha hs
  have hR : Region.ready .any all L = [] := by
    split at hr
    · assumption
    · cases hr
  cases f with
  | zero => exact ⟨hR, k a w ha⟩
  | succ f => exact ⟨fun _ => k a w ha, fun i hi => absurd hi (by rw [hR]; simp)⟩
theorem ES.drawG {X : Type} {id : Nat} {ops : Array Oper} {cs : List Code} (Ex : X → Env) (Hx : X → List HA) (m : Nat) (Hs : List HA) (hm : C.P.follows .mixedOrders = true) (hb : lateBinds ops m = true) (hs : Ent H Hs)
    (h : EG C ops Hs m ops.size (Array.replicate ops.size false) E H (CutX C Ex Hx)) (k : ∀ x, ES C cs Q (Ex x) (Hx x)) : ES C (.region id ops true :: cs) Q E H := by
  intro a w ha
  have h1 := wpAnyG.any _ _ _ _ (h hb (by simp) a { w with drawn := w.drawn + 1 } ⟨ha.1, ha.2.drewN _⟩ ⟨(ha.2.ent (.nil _)).drewN _, fun _ => (ha.2.ent hs).drewN _⟩)
  have h2 := wpIn_region_any (id := id) hm h1
  refine wpIn_mono h2 ?_
  intro e a' w' hq
  cases e with
  | normal =>
    obtain ⟨_, x, hat⟩ := hq
    exact k x a' w' hat
  | _ => cases (hq.1 : _ = Exit.normal)
end draws2
end Go.Proofs.YtcoajnpneableaaDoor.Sl
namespace Go.Proofs.YtcoajnpneableaaDoor
open Go Go.RowKit Sl
set_option maxRecDepth 100000
set_option maxHeartbeats 8000000
set_option linter.unusedVariables false
set_option linter.unusedSimpArgs false
attribute [local irreducible] ES EL PX wps
abbrev yt (t : List UInt8) : List (List Value) := (toksM t).map fun k => [tokV k]
theorem toks_len (t : List UInt8) : ∀ (n a : Nat) (f b : Bool), (toksGo t n a f b).length ≤ n
  | 0, _, _, _ => Nat.zero_le _
  | n + 1, a, f, b => by
    rw [toksGo]
    split
    · simp
    · dsimp only
      split
      · simp
      · have := toks_len t n (readT t a f b).2 (decide ((readT t a f b).1.kind = 3)) (decide ((readT t a f b).1.kind = 3) || decide ((readT t a f b).1.kind = 1))
        simp only [List.length_cons]; omega
theorem tok1_iter (gs : Nat) (t : List UInt8) (ht : t.length ≤ 1073741824) (W0 : World) (B0 : Nat) (hG : GR W0 B0) : Iter Tryd.prog 14 #[Pv gs 0] (yt t) [HA.blk gs (.cells #[Sv t] 9)] W0 B0 := by
  intro l I Ix hY A R W hI hs
  replace hs : Sat W0 B0 (HA.blk gs (.cells #[Sv t] 9) :: A :: R) W := hs
  refine calls_of_ES TB Tryd.func14 rfl _ Tryd.ntmps14 rfl hs ?_
  refine .go ?_; repeat constructor
  refine EL.assign rfl rfl rfl ?_
  refine EL.assign rfl rfl rfl ?_
  refine .go ?_; repeat constructor
  refine EL.assign rfl rfl rfl ?_
  refine .go ?_; repeat constructor
  refine ES.loop (σ := Nat × Nat × Nat × Bool × Bool × HA) (fun (i, n, a, f, b, A) => a ≤ t.length ∧ t.length ≤ n + a ∧ toksGo t n a f b = (toksM t).drop i ∧ i ≤ (toksM t).length ∧ I i A) (fun (i, n, a, f, b, A) => [(0, .func (.yield l) #[] #[]), (1, Pv gs 0), (3, .bool f), (4, .bool b), (5, Iv (a : Nat))])
    (fun (i, n, a, f, b, A) => HA.blk gs (.cells #[Sv t] 9) :: A :: R) (fun (i, n, a, f, b, A) => t.length - a) (0, t.length, 0, true, true, A) ⟨Nat.zero_le _, by omega, rfl, Nat.zero_le _, hI⟩ ⟨rfl, rfl, rfl, rfl, rfl, trivial⟩ (.i (by repeat constructor)) ?_
  rintro ⟨i, n, a, f, b, A⟩ ⟨ha, hn, hgo, hi, hI⟩
  dsimp only at ha hn hgo hi hI ⊢
  refine .go ?_; repeat constructor
  refine EL.move rfl rfl rfl ?_
  (apply EL.loadB; exact rfl; exact rfl; exact rfl; exact rfl; exact rfl; (case hm => repeat constructor); exact rfl)
  refine EL.lenS rfl rfl rfl rfl rfl ?_
  refine EL.lss rfl rfl rfl rfl ?_
  refine .go ?_; repeat constructor
  refine ES.condD rfl (fun hlt => ?_) (fun hge => ?_)
  · have hlt' : a < t.length := by omega
    obtain ⟨m, rfl⟩ : ∃ m, n = m + 1 := ⟨n - 1, by omega⟩
    rw [toksGo, if_neg (by omega)] at hgo
    dsimp only at hgo
    have hnx := readT_at t a f b hlt'
    have hrc := readTok_c t a f b hlt' ht
    generalize readT t a f b = r at hgo hnx hrc
    obtain ⟨k, nx⟩ := r
    dsimp only at hgo hnx hrc
    have hat : (toksM t)[i]? = some k := by
      have : ((toksM t).drop i)[0]? = some k := by rw [← hgo]; split <;> rfl
      simpa using this
    have hilt : i < (toksM t).length := (List.getElem?_eq_some_iff.1 hat).1
    have hx : (yt t)[i]? = some [tokV k] := by rw [List.getElem?_map, hat]; rfl
    refine .go ?_; repeat constructor
    (apply EL.loadB; exact rfl; exact rfl; exact rfl; exact rfl; exact rfl; (case hm => repeat constructor); exact rfl)
    refine EL.move rfl rfl rfl ?_
    refine EL.move rfl rfl rfl ?_
    refine EL.move rfl rfl rfl ?_
    refine EL.callPw rfl rfl rfl ent15 rfl (fun w hs => hrc w (GR.sat hG hs)) ?_
    refine EL.move rfl rfl rfl ?_
    refine EL.extract rfl rfl rfl rfl ?_
    refine EL.extract rfl rfl rfl rfl ?_
    (refine EL.alloc rfl rfl rfl ?_; intro g6)
    (apply EL.storeAll; exact rfl; exact rfl; exact rfl; exact rfl; exact rfl; (case p => repeat constructor); exact rfl; (case h1 => exact (by first | rfl | exact all1 rfl | (intro u hu; simp only [List.mem_cons, List.not_mem_nil, or_false] at hu; rcases hu with rfl | rfl | rfl | rfl <;> rfl) | (intro u hu; simp at hu; rcases hu with rfl | rfl | rfl | rfl <;> rfl) | (intro u hu; simp at hu; rcases hu with rfl | rfl | rfl <;> rfl) | (intro u hu; simp at hu; rcases hu with rfl | rfl <;> rfl) | (intro u hu; simp at hu; obtain ⟨_, _, rfl⟩ := hu; rfl))))
    refine EL.assign rfl rfl rfl ?_
    refine .go ?_; repeat constructor
    refine EL.fieldAddr rfl rfl rfl rfl rfl rfl rfl rfl ?_
    (apply EL.loadB; exact rfl; exact rfl; exact rfl; exact rfl; exact rfl; (case hm => repeat constructor); exact rfl)
    refine EL.eqlI rfl rfl rfl rfl ?_
    refine EL.assign rfl rfl rfl ?_
    refine .go ?_; repeat constructor
    refine EL.cutX (X := Unit) (fun _ => [(0, .func (.yield l) #[] #[]), (1, Pv gs 0), (3, .bool (decide (k.kind = 3))), (4, .bool (decide (k.kind = 3) || decide (k.kind = 1))), (6, Pv g6 0), (7, Iv (nx : Nat))]) (fun _ => HA.blk g6 (.cells (tokCells k) 53) :: HA.blk gs (.cells #[Sv t] 9) :: A :: R) ?_ (fun _ => ?_)
    · refine .go ?_; repeat constructor
      refine EL.move rfl rfl rfl ?_
      refine EL.move rfl rfl rfl ?_
      first | refine EL.splitD (d := 24) rfl (fun hp24 => ?_) (fun hp24 => ?_) | refine EL.splitN (d := 24) rfl (fun hp24 => ?_) (fun hp24 => ?_) | refine EL.splitB (d := 24) rfl (fun hp24 => ?_) (fun hp24 => ?_)
      · refine EL.pass rfl rfl rfl ?_
        refine EL.pass rfl rfl rfl ?_
        refine EL.pass rfl rfl rfl ?_
        refine EL.pickT rfl rfl rfl rfl ?_
        refine EL.assign rfl rfl rfl ?_
        exact EL.endX () ⟨rfl, rfl, getA rfl (congrArg Value.bool (by rw [Bool.eq_iff_iff]; simp only [decide_eq_true_eq]; omega)), getA rfl (congrArg Value.bool (by rw [Bool.eq_iff_iff]; simp only [decide_eq_true_eq, Bool.or_eq_true, true_iff]; omega)), rfl, rfl, trivial⟩ (.i (by repeat constructor))
      · refine EL.fieldAddr rfl rfl rfl rfl rfl rfl rfl rfl ?_
        (apply EL.loadB; exact rfl; exact rfl; exact rfl; exact rfl; exact rfl; (case hm => repeat constructor); exact rfl)
        refine EL.eqlI rfl rfl rfl rfl ?_
        refine EL.pickF rfl rfl rfl rfl ?_
        refine EL.assign rfl rfl rfl ?_
        exact EL.endX () ⟨rfl, rfl, getA rfl (congrArg Value.bool (by rw [Bool.eq_iff_iff]; simp only [decide_eq_true_eq]; omega)), getA rfl (congrArg Value.bool (by rw [Bool.eq_iff_iff]; simp only [decide_eq_true_eq, Bool.or_eq_true, true_iff]; omega)), rfl, rfl, trivial⟩ (.i (by repeat constructor))
    refine .go ?_; repeat constructor
    refine EL.move rfl rfl rfl ?_
    (apply EL.loadAggB; exact rfl; exact rfl; exact rfl; exact rfl; exact rfl; (case hm => repeat constructor); exact rfl)
    refine EL.yield rfl rfl rfl rfl hY hI hx (by repeat constructor) (fun A' hI' => ?_) (fun A' hX' => ?_)
    · refine EL.not rfl rfl rfl ?_
      refine EL.move rfl rfl rfl ?_
      refine EL.rew (d := 33) (v' := .bool false) rfl (by first | rfl | (decide) | (simp)) ?_
      refine EL.fieldAddr rfl rfl rfl rfl rfl rfl rfl rfl ?_
      (apply EL.loadB; exact rfl; exact rfl; exact rfl; exact rfl; exact rfl; (case hm => repeat constructor); exact rfl)
      refine EL.eqlI rfl rfl rfl rfl ?_
      refine EL.pickF rfl rfl rfl rfl ?_
      refine .go ?_; repeat constructor
      refine ES.condD rfl (fun h7 => ?_) (fun h7 => ?_)
      · rw [if_pos (by omega)] at hgo
        have hlen : (yt t).length = i + 1 := by
          have := congrArg List.length hgo
          simp only [List.length_cons, List.length_nil, List.length_drop] at this
          simp only [List.length_map]; omega
        refine .go ?_; repeat constructor
        exact PX.ret rfl Tryd.results14 .nil (fun w hs => ⟨⟨_, rfl⟩, .inl ⟨A', by rw [hlen]; exact hI', hs.ent (.i (by repeat constructor))⟩⟩)
      · rw [if_neg (by omega)] at hgo
        have hb2 := hnx (by omega)
        refine .go ?_; repeat constructor
        refine EL.move rfl rfl rfl ?_
        refine EL.assign rfl rfl rfl ?_
        refine .go ?_; repeat constructor
        refine PX.loop (i + 1, m, nx, decide (k.kind = 3), decide (k.kind = 3) || decide (k.kind = 1), A') ⟨hb2.2, by simp only; omega, by simp only; have := congrArg List.tail hgo; simpa [List.tail_drop] using this, by simp only; omega, hI'⟩ (by simp only; omega) ⟨rfl, rfl, rfl, rfl, rfl, trivial⟩ (.i (by repeat constructor))
    · refine EL.not rfl rfl rfl ?_
      refine EL.move rfl rfl rfl ?_
      refine EL.rew (d := 33) (v' := .bool true) rfl (by first | rfl | (decide) | (simp)) ?_
      refine EL.pass rfl rfl rfl ?_
      refine EL.pass rfl rfl rfl ?_
      refine EL.pass rfl rfl rfl ?_
      refine EL.pickT rfl rfl rfl rfl ?_
      refine .go ?_; repeat constructor
      refine ES.condT rfl ?_
      refine .go ?_; repeat constructor
      exact PX.ret rfl Tryd.results14 .nil (fun w hs => ⟨⟨_, rfl⟩, .inr ⟨_, A', hX', hs.ent (.i (by repeat constructor))⟩⟩)
  · have hlen : (yt t).length = i := by
      have h1 : toksGo t n a f b = [] := by
        cases n with
        | zero => rfl
        | succ n => rw [toksGo, if_pos (by omega)]
      rw [h1] at hgo
      have := congrArg List.length hgo
      simp only [List.length_nil, List.length_drop] at this
      simp only [List.length_map]; omega
    refine .go ?_; repeat constructor
    exact PX.end rfl Tryd.results14 .nil (fun w hs => ⟨⟨_, rfl⟩, .inl ⟨A, by rw [hlen]; exact hI, hs.ent (.i (by repeat constructor))⟩⟩)
theorem tokens_c (t : List UInt8) (w : World) : Pure Tryd.prog 8 #[Sv t] (fun g : Nat => .func (.func 14) #[] #[Pv g 0]) (fun g => [HA.blk g (.cells #[Sv t] 9)]) w := by
  refine calls_of_ES TB Tryd.func8 rfl _ Tryd.ntmps8 rfl (Sat.start w) ?_
  refine .go ?_; repeat constructor
  (refine EL.box rfl rfl rfl ?_; intro g1)
  refine EL.assign rfl rfl rfl ?_
  refine .go ?_; repeat constructor
  refine EL.makeFunc rfl rfl rfl ?_
  refine EL.assign rfl rfl rfl ?_
  refine .go ?_; repeat constructor
  exact PX.ret rfl Tryd.results8 (.cons (.tmp rfl) .nil) (fun w hs => ⟨g1, rfl, hs.ent (.i (by repeat constructor))⟩)
def frC (kad : Option Addr) (n kcap : Nat) (sad : Option Addr) (m scap gr at_ : Nat) : List Value := [.slice kad n kcap, .slice sad m scap, Iv (gr : Nat), Iv (at_ : Nat)]
theorem pre_at (pre cs : List Value) (k i : Nat) (h : pre.length = k) : (pre ++ cs)[k + i]? = cs[i]? := by
  rw [List.getElem?_append_right (by omega), h]; congr 1; omega
theorem pre_set (pre cs : List Value) (k i : Nat) (u : Value) (h : pre.length = k) : (pre ++ cs).set (k + i) u = pre ++ cs.set i u := by
  rw [List.set_append_right _ _ (by omega), h]; congr 2; omega
abbrev FB (fg m fcap : Nat) (cs : List Value) : HA := HA.row (.slice (some ⟨fg, 0, none⟩) m fcap) 44 4 m cs
abbrev PB (g fg m fcap : Nat) (rest : List Value) : HA := HA.blk g (.cells (Value.slice (some ⟨fg, 0, none⟩) m fcap :: rest).toArray 48)
abbrev KR (kad : Option Addr) (n kcap : Nat) (kcs : List Value) : HA := HA.row (.slice kad n kcap) 27 9 n kcs
abbrev ZR (sad : Option Addr) (scap : Nat) (zs : List Nat) : HA := HA.row (.slice sad zs.length scap) 3 1 zs.length (zs.map fun z : Nat => Iv (z : Nat))
theorem put_end (kcs z9 rc : List Value) (off : Nat) (h1 : kcs.length = off) (h2 : z9.length = rc.length) : putAt (kcs ++ z9) off rc = kcs ++ rc := by
  unfold putAt
  rw [List.take_left' h1, List.drop_of_length_le (by rw [List.length_append]; omega), List.append_nil]
theorem top_c (g fg k fcap : Nat) (rest cs : List Value) (hk : k ≤ 4096) :
    Mut Tryd.prog 10 #[Pv g 0] [PB g fg (k + 1) fcap rest, FB fg (k + 1) fcap cs] (fun _ : Unit => Pv fg (k * 4)) (fun _ => [PB g fg (k + 1) fcap rest, FB fg (k + 1) fcap cs]) := by
  intro w0 B R w h
  replace h : Sat w0 B (PB g fg (k + 1) fcap rest :: FB fg (k + 1) fcap cs :: R) w := h
  refine calls_of_ES TB Tryd.func10 rfl _ Tryd.ntmps10 rfl h ?_
  refine .go ?_; repeat constructor
  refine EL.assign rfl rfl rfl ?_
  refine .go ?_; repeat constructor
  refine ES.draw (X := Unit) (fun _ => [(2, Pv fg (k * 4))]) (fun _ => PB g fg (k + 1) fcap rest :: FB fg (k + 1) fcap cs :: R) (PB g fg (k + 1) fcap rest :: FB fg (k + 1) fcap cs :: R) mixed (.i (by repeat constructor)) ?_ (fun _ => ?_)
  · refine ED.take 0 rfl (by decide +kernel) CutX.no_panic (by decide +kernel) rfl rfl rfl (RV.move rfl) ?_
    refine ED.take 1 rfl (by decide +kernel) CutX.no_panic (by decide +kernel) rfl rfl rfl (RV.nilCheck rfl) ?_
    refine ED.take 2 rfl (by decide +kernel) CutX.no_panic (by decide +kernel) rfl rfl rfl (RV.fieldAddr rfl rfl rfl rfl rfl rfl) ?_
    refine ED.take 3 rfl (by decide +kernel) CutX.no_panic (by decide +kernel) rfl rfl rfl (RV.loadB rfl rfl rfl (by repeat constructor) rfl) ?_
    refine ED.take 4 rfl (by decide +kernel) CutX.no_panic (by decide +kernel) rfl rfl rfl (RV.move rfl) ?_
    refine ED.take 5 rfl (by decide +kernel) CutX.no_panic (by decide +kernel) rfl rfl rfl (RV.nilCheck rfl) ?_
    refine ED.take 6 rfl (by decide +kernel) CutX.no_panic (by decide +kernel) rfl rfl rfl (RV.fieldAddr rfl rfl rfl rfl rfl rfl) ?_
    refine ED.take 7 rfl (by decide +kernel) CutX.no_panic (by decide +kernel) rfl rfl rfl (RV.loadB rfl rfl rfl (by repeat constructor) rfl) ?_
    refine ED.take 8 rfl (by decide +kernel) CutX.no_panic (by decide +kernel) rfl rfl rfl (RV.lenL rfl rfl rfl) ?_
    refine ED.take 9 rfl (by decide +kernel) CutX.no_panic (by decide +kernel) rfl rfl rfl (RV.sub1 rfl rfl (by omega) (by omega)) ?_
    refine ED.take 10 rfl (by decide +kernel) CutX.no_panic (by decide +kernel) rfl rfl rfl (RV.indexAddrL rfl rfl rfl rfl rfl (by omega)) ?_
    refine ED.take 11 rfl (by decide +kernel) CutX.no_panic (by decide +kernel) rfl rfl rfl (RV.assign rfl) ?_
    refine ED.done (by decide +kernel) ?_
    exact PX.cutX () ⟨getA rfl (congrArg (Pv fg) (Nat.zero_add _)), trivial⟩ (.i (by repeat constructor))
  refine .go ?_; repeat constructor
  exact PX.ret rfl Tryd.results10 (.cons (.tmp rfl) .nil) (fun w hs => ⟨(), rfl, hs.ent (.i (by repeat constructor))⟩)
theorem put_c (g fg k fcap : Nat) (rest pre : List Value) (hpre : pre.length = k * 4) (hk : k ≤ 4096) (kad : Option Addr) (n kcap : Nat) (sad : Option Addr) (scap gr at_ : Nat) (kcs rc : List Value) (zs : List Nat) (z : Nat) (hn : n ≤ 65536) (hz : zs.length ≤ 65536) (hkl : kcs.length = n * 9) (hrc : rc.length = 9) (h1 : ∀ u ∈ rc, u.oneCell' = true) :
    Mut Tryd.prog 16 #[Pv g 0, .agg rc.toArray, Iv (z : Nat)] [PB g fg (k + 1) fcap rest, FB fg (k + 1) fcap (pre ++ frC kad n kcap sad zs.length scap gr at_), KR kad n kcap kcs, ZR sad scap zs]
      (fun _ : (Option Addr × Nat) × (Option Addr × Nat) => Iv 0)
      (fun x => [PB g fg (k + 1) fcap rest, FB fg (k + 1) fcap (pre ++ frC x.1.1 (n + 1) x.1.2 x.2.1 (zs.length + 1) x.2.2 gr at_), KR x.1.1 (n + 1) x.1.2 (kcs ++ rc), ZR x.2.1 x.2.2 (zs ++ [z])]) := by
  intro w0 B R w h
  replace h : Sat w0 B (PB g fg (k + 1) fcap rest :: FB fg (k + 1) fcap (pre ++ frC kad n kcap sad zs.length scap gr at_) :: KR kad n kcap kcs :: ZR sad scap zs :: R) w := h
  have htop := top_c g fg k fcap rest (pre ++ frC kad n kcap sad zs.length scap gr at_) hk
  refine calls_of_ES TB Tryd.func16 rfl _ Tryd.ntmps16 rfl h ?_
  refine .go ?_; repeat constructor
  (refine EL.box rfl rfl rfl ?_; intro g4)
  refine EL.assign rfl rfl rfl ?_
  refine .go ?_; repeat constructor
  refine EL.move rfl rfl rfl ?_
  refine EL.callM1 rfl rfl rfl ent10 rfl htop (by repeat constructor) ?_
  refine EL.assign rfl rfl rfl ?_
  refine .go ?_; repeat constructor
  refine ES.drawG (X := Nat × Nat) (fun x => [(0, Pv g 0), (2, Iv (z : Nat)), (7, Pv fg (k * 4))]) (fun x => PB g fg (k + 1) fcap rest :: FB fg (k + 1) fcap (pre ++ frC (some ⟨x.1, 0, none⟩) (n + 1) x.2 sad zs.length scap gr at_) :: KR (some ⟨x.1, 0, none⟩) (n + 1) x.2 (kcs ++ rc) :: ZR sad scap zs :: R) 7
    (HA.blk g4 (.cells rc.toArray 27) :: FB fg (k + 1) fcap (pre ++ frC kad n kcap sad zs.length scap gr at_) :: R) mixed (by decide +kernel) (.i (by repeat constructor)) ?_ (fun x => ?_)
  · refine EG.take 0 rfl (by decide +kernel) CutX.no_panic (by decide +kernel) rfl rfl rfl (RV.move rfl) ?_
    refine EG.take 1 rfl (by decide +kernel) CutX.no_panic (by decide +kernel) rfl rfl rfl (RV.nilCheck rfl) ?_
    refine EG.take 2 rfl (by decide +kernel) CutX.no_panic (by decide +kernel) rfl rfl rfl (RV.fieldAddr rfl rfl rfl rfl rfl rfl) ?_
    refine EG.take 3 rfl (by decide +kernel) CutX.no_panic (by decide +kernel) rfl rfl rfl (RV.loadR rfl rfl rfl (by repeat constructor) (pre_at pre _ (k * 4) 0 hpre)) ?_
    refine EG.take 4 rfl (by decide +kernel) CutX.no_panic (by decide +kernel) rfl rfl rfl (RV.loadBA rc rfl rfl rfl (by rw [hrc]; rfl) (by repeat constructor) (by simp)) ?_
    refine EG.take 5 rfl (by decide +kernel) CutX.no_panic (by decide +kernel) rfl rfl rfl (RV.lenL rfl rfl rfl) ?_
    refine EG.loud 6 rfl (by decide +kernel) ?_
    (refine EL.buildSlice1 rfl rfl rfl rfl rfl rfl rfl rfl rfl rfl ?_; intro b16)
    refine EG.next (by decide +kernel) rfl (.i (by repeat constructor)) ?_
    refine EG.loud 7 rfl (by decide +kernel) ?_
    (refine EL.append1 rfl rfl rfl rfl rfl rfl rfl rfl rfl (by repeat constructor) (by repeat constructor) (by first | (intro u hu; simp [Value.cells] at hu; subst hu; rfl) | exact all1 rfl) (by rfl) (by unfold maxLen; omega) (by first | omega | (show 1 * _ ≤ _; omega) | (show 8 * _ ≤ _; omega) | (show 16 * _ ≤ _; omega) | (show 24 * _ ≤ _; omega) | (show _ * 1 ≤ _; omega) | (show _ * 8 ≤ _; omega) | (show _ * 16 ≤ _; omega) | (show _ * 24 ≤ _; omega) | exact Nat.le_trans (Nat.mul_le_mul_right _ (show _ ≤ 1073741824 by omega)) (by decide)) ?_; intro a17 c17)
    refine EG.nextL (by decide +kernel) rfl (by decide +kernel) ?_
    refine EG.take 8 rfl (by decide +kernel) CutX.no_panic (by decide +kernel) rfl rfl rfl (RV.indexAddrL (i := n) rfl rfl rfl rfl rfl (by omega)) ?_
    refine EG.take 10 rfl (by decide +kernel) CutX.no_panic (by decide +kernel) rfl rfl rfl (RV.nilCheck rfl) ?_
    refine EG.take 11 rfl (by decide +kernel) CutX.no_panic (by decide +kernel) rfl rfl rfl (RV.fieldAddr rfl rfl rfl rfl rfl rfl) ?_
    refine EG.fork 9 [12] (by decide +kernel) ⟨⟨_, rfl, ?_⟩, ⟨_, rfl, ?_⟩, trivial⟩
    · (refine EL.storeRA (vs := rc) rfl rfl rfl rfl (by rw [hrc]; rfl) (by repeat constructor) (by rw [List.length_append, hkl, hrc]; exact Nat.le_of_eq (by show 0 + n * 9 + 9 = n * 9 + 9; omega)) h1 ?_; refine EL.rowEq (v := .slice (some ⟨a17, 0, none⟩) (n + 1) c17) (by repeat constructor) (put_end _ _ _ _ (by rw [hkl]; show n * 9 = 0 + n * 9; omega) (by rw [hrc]; rfl)) ?_)
      refine EG.nextL (by decide +kernel) rfl (by decide +kernel) ?_
      refine EG.loud 12 rfl (by decide +kernel) ?_
      (refine EL.storeR rfl rfl rfl rfl rfl rfl (by repeat constructor) (by rw [List.length_append, hpre]; show k * 4 + 0 < k * 4 + 4; omega) ?_; refine EL.rowEq (v := .slice (some ⟨fg, 0, none⟩) (k + 1) fcap) (by repeat constructor) (pre_set pre _ (k * 4) 0 _ hpre) ?_)
      refine EG.nextL (by decide +kernel) rfl (by decide +kernel) ?_
      refine EG.done (by decide +kernel) ?_
      exact PX.cutX (a17, c17) ⟨rfl, rfl, rfl, trivial⟩ (.i (by repeat constructor))
    · (refine EL.storeR rfl rfl rfl rfl rfl rfl (by repeat constructor) (by rw [List.length_append, hpre]; show k * 4 + 0 < k * 4 + 4; omega) ?_; refine EL.rowEq (v := .slice (some ⟨fg, 0, none⟩) (k + 1) fcap) (by repeat constructor) (pre_set pre _ (k * 4) 0 _ hpre) ?_)
      refine EG.nextL (by decide +kernel) rfl (by decide +kernel) ?_
      refine EG.loud 9 rfl (by decide +kernel) ?_
      (refine EL.storeRA (vs := rc) rfl rfl rfl rfl (by rw [hrc]; rfl) (by repeat constructor) (by rw [List.length_append, hkl, hrc]; exact Nat.le_of_eq (by show 0 + n * 9 + 9 = n * 9 + 9; omega)) h1 ?_; refine EL.rowEq (v := .slice (some ⟨a17, 0, none⟩) (n + 1) c17) (by repeat constructor) (put_end _ _ _ _ (by rw [hkl]; show n * 9 = 0 + n * 9; omega) (by rw [hrc]; rfl)) ?_)
      refine EG.nextL (by decide +kernel) rfl (by decide +kernel) ?_
      refine EG.done (by decide +kernel) ?_
      exact PX.cutX (a17, c17) ⟨rfl, rfl, rfl, trivial⟩ (.i (by repeat constructor))
  obtain ⟨kg, kc⟩ := x
  dsimp only
  refine .go ?_; repeat constructor
  refine EL.move rfl rfl rfl ?_
  refine EL.move rfl rfl rfl ?_
  refine EL.nilCheck rfl rfl rfl ?_
  refine EL.fieldAddr rfl rfl rfl rfl rfl rfl rfl rfl ?_
  refine EL.loadR rfl rfl rfl rfl rfl (by repeat constructor) (pre_at pre _ (k * 4) 1 hpre) ?_
  refine EL.move rfl rfl rfl ?_
  (refine EL.buildSlice1 rfl rfl rfl rfl rfl rfl rfl rfl rfl rfl ?_; intro b27)
  (refine EL.append1 rfl rfl rfl rfl rfl rfl rfl rfl rfl (by repeat constructor) (by repeat constructor) (by first | (intro u hu; simp [Value.cells] at hu; subst hu; rfl) | exact all1 rfl) (by rfl) (by unfold maxLen; omega) (by first | omega | (show 1 * _ ≤ _; omega) | (show 8 * _ ≤ _; omega) | (show 16 * _ ≤ _; omega) | (show 24 * _ ≤ _; omega) | (show _ * 1 ≤ _; omega) | (show _ * 8 ≤ _; omega) | (show _ * 16 ≤ _; omega) | (show _ * 24 ≤ _; omega) | exact Nat.le_trans (Nat.mul_le_mul_right _ (show _ ≤ 1073741824 by omega)) (by decide)) ?_; intro a28 c28)
  refine EL.nilCheck rfl rfl rfl ?_
  refine EL.fieldAddr rfl rfl rfl rfl rfl rfl rfl rfl ?_
  (refine EL.storeR rfl rfl rfl rfl rfl rfl (by repeat constructor) (by rw [List.length_append, hpre]; show k * 4 + 1 < k * 4 + 4; omega) ?_; refine EL.rowEq (v := .slice (some ⟨fg, 0, none⟩) (k + 1) fcap) (by repeat constructor) (pre_set pre _ (k * 4) 1 _ hpre) ?_)
  refine .go ?_; repeat constructor
  refine EL.assign rfl rfl rfl ?_
  refine .go ?_; repeat constructor
  refine PX.ret rfl Tryd.results16 (.cons (.tmp rfl) .nil) (fun w hs => ⟨((some ⟨kg, 0, none⟩, kc), (some ⟨a28, 0, none⟩, c28)), rfl, ?_⟩)
  show Sat w0 B (PB g fg (k + 1) fcap rest :: FB fg (k + 1) fcap (pre ++ frC (some ⟨kg, 0, none⟩) (n + 1) kc (some ⟨a28, 0, none⟩) (zs.length + 1) c28 gr at_) :: KR (some ⟨kg, 0, none⟩) (n + 1) kc (kcs ++ rc) :: HA.row (.slice (some ⟨a28, 0, none⟩) (zs ++ [z]).length c28) 3 1 (zs ++ [z]).length ((zs ++ [z]).map fun z : Nat => Iv (z : Nat)) :: R) w
  rw [List.length_append, List.length_singleton, List.map_append]
  exact hs.ent (.i (by repeat constructor))
end Go.Proofs.YtcoajnpneableaaDoor
namespace Go.Proofs.YtcoajnpneableaaDoor
open Go Go.RowKit Sl
set_option maxRecDepth 100000
set_option maxHeartbeats 8000000
set_option linter.unusedVariables false
set_option linter.unusedSimpArgs false
attribute [local irreducible] ES EL PX wps
abbrev PR (groups : Nat) (sh : List Bool) (size : Nat) : List Value := Iv (groups : Nat) :: (sh.map Value.bool ++ [Iv (size : Nat)])
theorem setIf_list (l : List Value) (i : Nat) (u : Value) : l.toArray.setIfInBounds i u = (l.set i u).toArray := by simp
theorem pr_size_get (v : Value) (gr size : Nat) (sh : List Bool) (h : sh.length = 10) : (v :: PR gr sh size).toArray[12]? = some (Iv (size : Nat)) := by
  simp only [List.getElem?_toArray, PR, List.getElem?_cons_succ]
  rw [List.getElem?_append_right (by simp; omega)]
  simp [h]
theorem pr_size_set (v : Value) (gr size s2 : Nat) (sh : List Bool) (h : sh.length = 10) : (v :: PR gr sh size).toArray.setIfInBounds 12 (Iv (s2 : Nat)) = (v :: PR gr sh s2).toArray := by
  rw [setIf_list]
  simp only [PR, List.set_cons_succ]
  rw [List.set_append_right _ _ (by simp; omega)]
  simp [h]
theorem pr_shut_get (v : Value) (gr size i : Nat) (sh : List Bool) (hi : i < sh.length) : (v :: PR gr sh size).toArray[2 + i]? = some (.bool (sh.getD i false)) := by
  rw [List.getElem?_toArray, show 2 + i = i + 1 + 1 by omega]
  simp only [PR, List.getElem?_cons_succ]
  rw [List.getElem?_append_left (by simpa using hi), List.getElem?_map, List.getElem?_eq_getElem hi]
  simp [List.getD_eq_getElem?_getD, List.getElem?_eq_getElem hi]
theorem pr_shut_set (v : Value) (gr size i : Nat) (sh : List Bool) (b : Bool) (hi : i < sh.length) : (v :: PR gr sh size).toArray.setIfInBounds (2 + i) (.bool b) = (v :: PR gr (sh.set i b) size).toArray := by
  rw [setIf_list, show 2 + i = i + 1 + 1 by omega]
  simp only [PR, List.set_cons_succ]
  rw [List.set_append_left _ _ (by simpa using hi), List.map_set]
theorem pr_shut_put (v : Value) (gr size i n : Nat) (sh : List Bool) (b : Bool) (hi : i < sh.length) (hn : n = 2 + i) : (v :: PR gr sh size).toArray.setIfInBounds n (.bool b) = (v :: PR gr (sh.set i b) size).toArray := by
  rw [hn]; exact pr_shut_set v gr size i sh b hi
theorem pr_groups_set (v : Value) (gr g2 size : Nat) (sh : List Bool) : (v :: PR gr sh size).toArray.setIfInBounds 1 (Iv (g2 : Nat)) = (v :: PR g2 sh size).toArray := by
  rw [setIf_list]; rfl
theorem pr_frames_set (v u : Value) (rest : List Value) : (v :: rest).toArray.setIfInBounds 0 u = (u :: rest).toArray := by
  rw [setIf_list]; rfl
theorem pr_len (v : Value) (gr size : Nat) (sh : List Bool) (h : sh.length = 10) : (v :: PR gr sh size).toArray.size = 13 := by simp [h]
theorem grow_c (g fg m fcap gr size s2 : Nat) (sh : List Bool) (d : Int) (hsh : sh.length = 10) (hd : (size : Int) + d = (s2 : Nat)) (hs : s2 ≤ 1073741824) :
    Mut Tryd.prog 17 #[Pv g 0, Iv d] [PB g fg m fcap (PR gr sh size)] (fun _ : Unit => Iv (growE s2)) (fun _ => [PB g fg m fcap (PR gr sh s2)]) := by
  intro w0 B R w h
  replace h : Sat w0 B (PB g fg m fcap (PR gr sh size) :: R) w := h
  have hge : growE s2 = if 256 < s2 then 13 else 0 := rfl
  refine calls_of_ES TB Tryd.func17 rfl _ Tryd.ntmps17 rfl h ?_
  refine .go ?_; repeat constructor
  refine EL.assign rfl rfl rfl ?_
  refine .go ?_; repeat constructor
  refine EL.move rfl rfl rfl ?_
  refine EL.nilCheck rfl rfl rfl ?_
  refine EL.fieldAddr rfl rfl rfl rfl rfl rfl rfl rfl ?_
  refine EL.loadB rfl rfl rfl rfl rfl (by repeat constructor) (pr_size_get _ gr size sh hsh) ?_
  refine EL.move rfl rfl rfl ?_
  refine EL.add ((s2 : Nat) : Int) rfl rfl rfl rfl (by rw [hd]; exact wrap_i64 _ (by omega) (by omega)) ?_
  refine EL.nilCheck rfl rfl rfl ?_
  refine EL.fieldAddr rfl rfl rfl rfl rfl rfl rfl rfl ?_
  (refine EL.storeB rfl rfl rfl rfl rfl rfl (by repeat constructor) (by rw [pr_len _ _ _ _ hsh]; decide) ?_; refine EL.blkEq (g := g) (by repeat constructor) (congrArg (fun a => Obj.cells a 48 (0, 0)) (pr_size_set _ gr size s2 sh hsh)) ?_)
  refine .go ?_; repeat constructor
  refine EL.move rfl rfl rfl ?_
  refine EL.nilCheck rfl rfl rfl ?_
  refine EL.fieldAddr rfl rfl rfl rfl rfl rfl rfl rfl ?_
  refine EL.loadB rfl rfl rfl rfl rfl (by repeat constructor) (pr_size_get _ gr s2 sh hsh) ?_
  refine EL.gtr rfl rfl rfl rfl ?_
  refine .go ?_; repeat constructor
  refine ES.condD rfl (fun hgt => ?_) (fun hle => ?_)
  · rw [if_pos (by omega)] at hge
    rw [hge]
    refine .go ?_; repeat constructor
    refine EL.assign rfl rfl rfl ?_
    refine .go ?_; repeat constructor
    exact PX.ret rfl Tryd.results17 (.cons (.tmp rfl) .nil) (fun w hs => ⟨(), rfl, hs.ent (.i (by repeat constructor))⟩)
  · rw [if_neg (by omega)] at hge
    rw [hge]
    refine .go ?_; repeat constructor
    refine EL.assign rfl rfl rfl ?_
    refine .go ?_; repeat constructor
    exact PX.ret rfl Tryd.results17 (.cons (.tmp rfl) .nil) (fun w hs => ⟨(), rfl, hs.ent (.i (by repeat constructor))⟩)
theorem open_full (g fg m fcap : Nat) (rest : List Value) (a : Nat) :
    Mut Tryd.prog 18 #[Pv g 0, Iv (a : Nat)] [PB g fg m fcap (Iv 9 :: rest)] (fun _ : Unit => Iv 4) (fun _ => []) := by
  intro w0 B R w h
  replace h : Sat w0 B (PB g fg m fcap (Iv 9 :: rest) :: R) w := h
  refine calls_of_ES TB Tryd.func18 rfl _ Tryd.ntmps18 rfl h ?_
  refine .go ?_; repeat constructor
  refine EL.assign rfl rfl rfl ?_
  refine .go ?_; repeat constructor
  refine EL.move rfl rfl rfl ?_
  refine EL.nilCheck rfl rfl rfl ?_
  refine EL.fieldAddr rfl rfl rfl rfl rfl rfl rfl rfl ?_
  (apply EL.loadB; exact rfl; exact rfl; exact rfl; exact rfl; exact rfl; (case hm => repeat constructor); exact rfl)
  refine EL.eqlI rfl rfl rfl rfl ?_
  refine .go ?_; repeat constructor
  refine ES.condK true rfl (decide_eq_true rfl) ?_
  refine .go ?_; repeat constructor
  refine EL.assign rfl rfl rfl ?_
  refine .go ?_; repeat constructor
  exact PX.ret rfl Tryd.results18 (.cons (.tmp rfl) .nil) (fun w hs => ⟨(), rfl, hs.ent (.i (by repeat constructor))⟩)
theorem open_c (g fg m fcap gr size a : Nat) (sh : List Bool) (cs : List Value) (hgr : gr < 9) (hm : m ≤ 4096) :
    Mut Tryd.prog 18 #[Pv g 0, Iv (a : Nat)] [PB g fg m fcap (PR gr sh size), FB fg m fcap cs] (fun _ : Nat × Nat => Iv 0) (fun x => [PB g x.1 (m + 1) x.2 (PR (gr + 1) sh size), FB x.1 (m + 1) x.2 (cs ++ frC none 0 0 none 0 0 (gr + 1) a)]) := by
  intro w0 B R w h
  replace h : Sat w0 B (PB g fg m fcap (PR gr sh size) :: FB fg m fcap cs :: R) w := h
  refine calls_of_ES TB Tryd.func18 rfl _ Tryd.ntmps18 rfl h ?_
  refine .go ?_; repeat constructor
  refine EL.assign rfl rfl rfl ?_
  refine .go ?_; repeat constructor
  refine EL.move rfl rfl rfl ?_
  refine EL.nilCheck rfl rfl rfl ?_
  refine EL.fieldAddr rfl rfl rfl rfl rfl rfl rfl rfl ?_
  (apply EL.loadB; exact rfl; exact rfl; exact rfl; exact rfl; exact rfl; (case hm => repeat constructor); exact rfl)
  refine EL.eqlI rfl rfl rfl rfl ?_
  refine .go ?_; repeat constructor
  refine ES.condK false rfl (decide_eq_false (by omega)) ?_
  refine .go ?_; repeat constructor
  refine EL.move rfl rfl rfl ?_
  refine EL.nilCheck rfl rfl rfl ?_
  refine EL.fieldAddr rfl rfl rfl rfl rfl rfl rfl rfl ?_
  (apply EL.loadB; exact rfl; exact rfl; exact rfl; exact rfl; exact rfl; (case hm => repeat constructor); exact rfl)
  refine EL.add1 rfl rfl rfl rfl (by omega) ?_
  refine EL.nilCheck rfl rfl rfl ?_
  refine EL.fieldAddr rfl rfl rfl rfl rfl rfl rfl rfl ?_
  (refine EL.storeB rfl rfl rfl rfl rfl rfl (by repeat constructor) (by simp) ?_; refine EL.blkEq (g := g) (by repeat constructor) (congrArg (fun a => Obj.cells a 48 (0, 0)) (pr_groups_set _ gr (gr + 1) size sh)) ?_)
  refine .go ?_; repeat constructor
  refine ES.draw (X := Nat × Nat) (fun x => []) (fun x => PB g x.1 (m + 1) x.2 (PR (gr + 1) sh size) :: FB x.1 (m + 1) x.2 (cs ++ frC none 0 0 none 0 0 (gr + 1) a) :: R) (PB g fg m fcap (PR (gr + 1) sh size) :: R) mixed (.i (by repeat constructor)) ?_ (fun x => ?_)
  · refine ED.take 0 rfl (by decide +kernel) CutX.no_panic (by decide +kernel) rfl rfl rfl (RV.move rfl) ?_
    refine ED.take 1 rfl (by decide +kernel) CutX.no_panic (by decide +kernel) rfl rfl rfl (RV.move rfl) ?_
    refine ED.take 2 rfl (by decide +kernel) CutX.no_panic (by decide +kernel) rfl rfl rfl (RV.nilCheck rfl) ?_
    refine ED.take 3 rfl (by decide +kernel) CutX.no_panic (by decide +kernel) rfl rfl rfl (RV.fieldAddr rfl rfl rfl rfl rfl rfl) ?_
    refine ED.take 4 rfl (by decide +kernel) CutX.no_panic (by decide +kernel) rfl rfl rfl (RV.loadB rfl rfl rfl (by repeat constructor) rfl) ?_
    refine ED.take 5 rfl (by decide +kernel) CutX.no_panic (by decide +kernel) rfl rfl rfl (RV.move rfl) ?_
    refine ED.take 6 rfl (by decide +kernel) CutX.no_panic (by decide +kernel) rfl rfl rfl (RV.nilCheck rfl) ?_
    refine ED.take 7 rfl (by decide +kernel) CutX.no_panic (by decide +kernel) rfl rfl rfl (RV.fieldAddr rfl rfl rfl rfl rfl rfl) ?_
    refine ED.take 8 rfl (by decide +kernel) CutX.no_panic (by decide +kernel) rfl rfl rfl (RV.loadB rfl rfl rfl (by repeat constructor) rfl) ?_
    refine ED.take 9 rfl (by decide +kernel) CutX.no_panic (by decide +kernel) rfl rfl rfl (RV.move rfl) ?_
    refine ED.take 10 rfl (by decide +kernel) CutX.no_panic (by decide +kernel) rfl rfl rfl (RV.buildS #[.slice none 0 0, .slice none 0 0, _, _] rfl rfl rfl rfl rfl) ?_
    refine ED.loud 11 rfl (by decide +kernel) ?_
    (refine EL.buildSlice1 rfl rfl rfl rfl rfl rfl rfl rfl rfl rfl ?_; intro b28)
    refine ED.next (.i (by repeat constructor)) ?_
    refine ED.loud 12 rfl (by decide +kernel) ?_
    (refine EL.append1 rfl rfl rfl rfl rfl rfl rfl rfl rfl (by repeat constructor) (by repeat constructor) (by first | (intro u hu; simp [Value.cells] at hu; subst hu; rfl) | exact all1 rfl) (by rfl) (by unfold maxLen; omega) (by first | omega | (show 1 * _ ≤ _; omega) | (show 8 * _ ≤ _; omega) | (show 16 * _ ≤ _; omega) | (show 24 * _ ≤ _; omega) | (show _ * 1 ≤ _; omega) | (show _ * 8 ≤ _; omega) | (show _ * 16 ≤ _; omega) | (show _ * 24 ≤ _; omega) | exact Nat.le_trans (Nat.mul_le_mul_right _ (show _ ≤ 1073741824 by omega)) (by decide)) ?_; intro a29 c29)
    refine ED.next (.i (by repeat constructor)) ?_
    refine ED.take 13 rfl (by decide +kernel) CutX.no_panic (by decide +kernel) rfl rfl rfl (RV.nilCheck rfl) ?_
    refine ED.take 14 rfl (by decide +kernel) CutX.no_panic (by decide +kernel) rfl rfl rfl (RV.fieldAddr rfl rfl rfl rfl rfl rfl) ?_
    refine ED.last 15 rfl (by decide +kernel) (by decide +kernel) (by decide +kernel) ?_
    (refine EL.storeB rfl rfl rfl rfl rfl rfl (by repeat constructor) (by simp) ?_; refine EL.blkEq (g := g) (by repeat constructor) (congrArg (fun a => Obj.cells a 48 (0, 0)) (pr_frames_set _ _ _)) ?_)
    refine EL.endQ ?_
    exact PX.cutX (a29, c29) trivial (.i (by repeat constructor))
  refine .go ?_; repeat constructor
  refine EL.assign rfl rfl rfl ?_
  refine .go ?_; repeat constructor
  exact PX.ret rfl Tryd.results18 (.cons (.tmp rfl) .nil) (fun w hs => ⟨x, rfl, hs.ent (.i (by repeat constructor))⟩)
end Go.Proofs.YtcoajnpneableaaDoor
namespace Go.Proofs.YtcoajnpneableaaDoor
open Go Go.RowKit Sl
set_option maxRecDepth 100000
set_option maxHeartbeats 8000000
set_option linter.unusedVariables false
set_option linter.unusedSimpArgs false
attribute [local irreducible] ES EL PX wps
theorem Sat.repTree {w0 w : World} {B e b lo : Nat} {hi : Int} {R : List HA} {fp : List Nat} {init : List RE} {last : RE} {kcs c9 : List Value} (hc9 : c9 = kcs.drop (init.length * 9)) (h : Sat w0 B (HA.row (.slice (some ⟨b, 0, none⟩) 1 1) e 9 1 c9 :: HA.forest fp (init ++ [last]) kcs :: R) w) :
    Sat w0 B (HA.forest (b :: fp) (init ++ [.rep lo hi last]) (kcs.take (init.length * 9) ++ reCells (.rep lo hi last) (.slice (some ⟨b, 0, none⟩) 1 1)) :: R) w :=
  Sat.rule (Hs := [HA.row (.slice (some ⟨b, 0, none⟩) 1 1) e 9 1 c9, HA.forest fp (init ++ [last]) kcs]) h (by simp only [fps, List.flatMap_cons, List.flatMap_nil, HA.forest, HA.row, List.append_nil]; exact List.Perm.refl _) (fun hh => by
    have h1 : w.ownsRow 0 e 9 (.slice (some ⟨b, 0, none⟩) 1 1) 1 c9 := hh (HA.row (.slice (some ⟨b, 0, none⟩) 1 1) e 9 1 c9) (by simp)
    have h2 : Forest (· ∈ fp) w (init ++ [last]) kcs := hh (HA.forest fp (init ++ [last]) kcs) (by simp)
    have h3 : Forest (· ∈ b :: fp) w (init ++ [last]) kcs := h2.mono (fun g hg => List.mem_cons_of_mem _ hg)
    have h4 := h3.take init.length
    have h5 := h3.drop init.length
    rw [List.take_left] at h4
    rw [List.drop_left, ← hc9] at h5
    exact h4.append (Forest.one (.rep lo hi last) (some ⟨b, 0, none⟩) 1 c9 (Nat.le_refl 1) h5 (fun _ => ⟨b, 0, rfl, List.mem_cons_self, row_reads h1⟩)))
theorem set_last (zs0 : List Nat) (z z2 n : Nat) (h : zs0.length = n) : ((zs0 ++ [z]).map fun z : Nat => Iv (z : Nat)).set n (Iv (z2 : Nat)) = ((zs0 ++ [z2]).map fun z : Nat => Iv (z : Nat)) := by
  subst h
  rw [List.map_append, List.map_append, List.set_append_right _ _ (by simp)]
  simp
theorem put_last (kcs rc : List Value) (off : Nat) (h1 : kcs.length = off + rc.length) : putAt kcs off rc = kcs.take off ++ rc := by
  unfold putAt
  rw [List.drop_of_length_le (by omega), List.append_nil]
theorem rep_c (g fg k fcap gr size : Nat) (sh : List Bool) (hsh : sh.length = 10) (pre : List Value) (hpre : pre.length = k * 4) (hk : k ≤ 4096) (kad : Option Addr) (kcap : Nat) (sad : Option Addr) (scap fgr fat : Nat) (init : List RE) (last : RE) (kcs : List Value) (zs0 : List Nat) (z : Nat) (fp : List Nat) (lo : Nat) (hi : Int)
    (hz0 : zs0.length = init.length) (hn : init.length ≤ 65536) (hlo : lo ≤ 255) (hh0 : -1 ≤ hi) (hh1 : hi ≤ 255) (hz : z ≤ 256) (hzs : z ≤ size) (hsz : size ≤ 256) (hkl : kcs.length = (init.length + 1) * 9) :
    Mut Tryd.prog 20 #[Pv g 0, Iv (lo : Nat), Iv hi] [PB g fg (k + 1) fcap (PR gr sh size), FB fg (k + 1) fcap (pre ++ frC kad (init.length + 1) kcap sad (zs0.length + 1) scap fgr fat), KR kad (init.length + 1) kcap kcs, HA.row (.slice sad (zs0.length + 1) scap) 3 1 (zs0.length + 1) ((zs0 ++ [z]).map fun z : Nat => Iv (z : Nat)), HA.forest fp (init ++ [last]) kcs]
      (fun _ : Nat => Iv (growE (size - z + z * timesM lo hi)))
      (fun b => [PB g fg (k + 1) fcap (PR gr sh (size - z + z * timesM lo hi)), FB fg (k + 1) fcap (pre ++ frC kad (init.length + 1) kcap sad (zs0.length + 1) scap fgr fat), KR kad (init.length + 1) kcap (kcs.take (init.length * 9) ++ reCells (.rep lo hi last) (.slice (some ⟨b, 0, none⟩) 1 1)), HA.row (.slice sad (zs0.length + 1) scap) 3 1 (zs0.length + 1) ((zs0 ++ [z * timesM lo hi]).map fun z : Nat => Iv (z : Nat)), HA.forest (b :: fp) (init ++ [.rep lo hi last]) (kcs.take (init.length * 9) ++ reCells (.rep lo hi last) (.slice (some ⟨b, 0, none⟩) 1 1))]) := by
  intro w0 B R w h
  replace h : Sat w0 B (PB g fg (k + 1) fcap (PR gr sh size) :: FB fg (k + 1) fcap (pre ++ frC kad (init.length + 1) kcap sad (zs0.length + 1) scap fgr fat) :: KR kad (init.length + 1) kcap kcs :: HA.row (.slice sad (zs0.length + 1) scap) 3 1 (zs0.length + 1) ((zs0 ++ [z]).map fun z : Nat => Iv (z : Nat)) :: HA.forest fp (init ++ [last]) kcs :: R) w := h
  obtain ⟨kg, rfl⟩ := (row_form (h.all (KR kad (init.length + 1) kcap kcs) (by simp))).2.2.2.2 (by omega)
  obtain ⟨sg, rfl⟩ := (row_form (h.all (HA.row (.slice sad (zs0.length + 1) scap) 3 1 (zs0.length + 1) ((zs0 ++ [z]).map fun z : Nat => Iv (z : Nat))) (by simp))).2.2.2.2 (by omega)
  have htop := top_c g fg k fcap (PR gr sh size) (pre ++ frC (some ⟨kg, 0, none⟩) (init.length + 1) kcap (some ⟨sg, 0, none⟩) (zs0.length + 1) scap fgr fat) hk
  obtain ⟨tm, htm⟩ : ∃ tm, tm = timesM lo hi := ⟨_, rfl⟩
  have htm2 : tm ≤ 255 ∨ tm ≤ 256 := by rw [htm]; unfold timesM; split <;> omega
  have hmul : z * tm ≤ 256 * 256 := Nat.mul_le_mul hz (by omega)
  rw [← htm]
  obtain ⟨c9, hc9⟩ : ∃ c9, c9 = kcs.drop (init.length * 9) := ⟨_, rfl⟩
  have hc9l : c9.length = 9 := by rw [hc9, List.length_drop]; omega
  obtain ⟨H0, hH0⟩ : ∃ H0, H0 = HA.forest fp (init ++ [last]) kcs := ⟨_, rfl⟩
  rw [← hH0] at h
  refine calls_of_ES TB Tryd.func20 rfl _ Tryd.ntmps20 rfl h ?_
  refine .go ?_; repeat constructor
  refine EL.assign rfl rfl rfl ?_
  refine .go ?_; repeat constructor
  refine EL.move rfl rfl rfl ?_
  refine EL.callM1 rfl rfl rfl ent10 rfl htop (by repeat constructor) ?_
  refine EL.assign rfl rfl rfl ?_
  refine .go ?_; repeat constructor
  refine EL.move rfl rfl rfl ?_
  refine EL.nilCheck rfl rfl rfl ?_
  refine EL.fieldAddr rfl rfl rfl rfl rfl rfl rfl rfl ?_
  refine EL.loadR rfl rfl rfl rfl rfl (by repeat constructor) (pre_at pre _ (k * 4) 0 hpre) ?_
  refine EL.lenL rfl rfl rfl rfl rfl ?_
  refine EL.sub1 rfl rfl rfl rfl (by omega) (by omega) ?_
  refine EL.assign rfl rfl rfl ?_
  refine .go ?_; repeat constructor
  refine EL.move rfl rfl rfl ?_
  refine EL.assign rfl rfl rfl ?_
  refine .go ?_; repeat constructor
  refine .go ?_; repeat constructor
  refine EL.move rfl rfl rfl ?_
  refine EL.lss rfl rfl rfl rfl ?_
  refine .go ?_; repeat constructor
  refine ES.cutC (X := Unit) (fun _ => [(0, Pv g 0), (1, Iv (lo : Nat)), (2, Iv hi), (7, Pv fg (k * 4)), (8, Iv (init.length : Nat)), (9, Iv (tm : Nat))]) (fun _ => PB g fg (k + 1) fcap (PR gr sh size) :: FB fg (k + 1) fcap (pre ++ frC (some ⟨kg, 0, none⟩) (init.length + 1) kcap (some ⟨sg, 0, none⟩) (zs0.length + 1) scap fgr fat) :: KR (some ⟨kg, 0, none⟩) (init.length + 1) kcap kcs :: HA.row (.slice (some ⟨sg, 0, none⟩) (zs0.length + 1) scap) 3 1 (zs0.length + 1) ((zs0 ++ [z]).map fun z : Nat => Iv (z : Nat)) :: H0 :: R) ?_ (fun _ => ?_)
  · refine ES.condD rfl (fun hneg => ?_) (fun hpos => ?_)
    · refine .go ?_; repeat constructor
      refine EL.move rfl rfl rfl ?_
      refine EL.ofRV (RV.maxI rfl rfl) rfl rfl rfl (by intro c h; cases h) ?_
      refine EL.assign rfl rfl rfl ?_
      refine .go ?_; repeat constructor
      exact PX.cutX () ⟨rfl, rfl, rfl, rfl, rfl, getA rfl (congrArg Iv (by rw [htm]; unfold timesM; rw [if_pos hneg]; omega)), trivial⟩ (.i (by repeat constructor))
    · refine .go ?_; repeat constructor
      exact PX.cutX () ⟨rfl, rfl, rfl, rfl, rfl, getA rfl (congrArg Iv (by rw [htm]; unfold timesM; rw [if_neg hpos]; omega)), trivial⟩ (.i (by repeat constructor))
  refine .go ?_; repeat constructor
  refine EL.move rfl rfl rfl ?_
  refine EL.nilCheck rfl rfl rfl ?_
  refine EL.fieldAddr rfl rfl rfl rfl rfl rfl rfl rfl ?_
  refine EL.loadR rfl rfl rfl rfl rfl (by repeat constructor) (pre_at pre _ (k * 4) 1 hpre) ?_
  refine EL.move rfl rfl rfl ?_
  refine EL.indexAddrL1 rfl rfl rfl rfl rfl rfl rfl rfl (by omega) ?_
  refine EL.loadR (v := Iv (z : Nat)) rfl rfl rfl rfl rfl (by repeat constructor) (by rw [List.map_append, List.getElem?_append_right (by simp [hz0])]; simp [hz0]) ?_
  refine EL.assign rfl rfl rfl ?_
  refine .go ?_; repeat constructor
  refine ES.draw (X := Nat) (fun b => [(0, Pv g 0), (7, Pv fg (k * 4)), (8, Iv (init.length : Nat)), (9, Iv (tm : Nat)), (10, Iv (z : Nat))]) (fun b => PB g fg (k + 1) fcap (PR gr sh size) :: FB fg (k + 1) fcap (pre ++ frC (some ⟨kg, 0, none⟩) (init.length + 1) kcap (some ⟨sg, 0, none⟩) (zs0.length + 1) scap fgr fat) :: KR (some ⟨kg, 0, none⟩) (init.length + 1) kcap (kcs.take (init.length * 9) ++ reCells (.rep lo hi last) (.slice (some ⟨b, 0, none⟩) 1 1)) :: HA.row (.slice (some ⟨sg, 0, none⟩) (zs0.length + 1) scap) 3 1 (zs0.length + 1) ((zs0 ++ [z]).map fun z : Nat => Iv (z : Nat)) :: HA.row (.slice (some ⟨b, 0, none⟩) 1 1) 27 9 1 c9 :: H0 :: R)
    (FB fg (k + 1) fcap (pre ++ frC (some ⟨kg, 0, none⟩) (init.length + 1) kcap (some ⟨sg, 0, none⟩) (zs0.length + 1) scap fgr fat) :: KR (some ⟨kg, 0, none⟩) (init.length + 1) kcap kcs :: R) mixed (.i (by repeat constructor)) ?_ (fun b => ?_)
  · refine ED.take 0 rfl (by decide +kernel) CutX.no_panic (by decide +kernel) rfl rfl rfl (RV.move rfl) ?_
    refine ED.take 1 rfl (by decide +kernel) CutX.no_panic (by decide +kernel) rfl rfl rfl (RV.nilCheck rfl) ?_
    refine ED.take 2 rfl (by decide +kernel) CutX.no_panic (by decide +kernel) rfl rfl rfl (RV.fieldAddr rfl rfl rfl rfl rfl rfl) ?_
    refine ED.take 3 rfl (by decide +kernel) CutX.no_panic (by decide +kernel) rfl rfl rfl (RV.loadR rfl rfl rfl (by repeat constructor) (pre_at pre _ (k * 4) 0 hpre)) ?_
    refine ED.take 4 rfl (by decide +kernel) CutX.no_panic (by decide +kernel) rfl rfl rfl (RV.move rfl) ?_
    refine ED.take 5 rfl (by decide +kernel) CutX.no_panic (by decide +kernel) rfl rfl rfl (RV.move rfl) ?_
    refine ED.take 6 rfl (by decide +kernel) CutX.no_panic (by decide +kernel) rfl rfl rfl (RV.move rfl) ?_
    refine ED.take 7 rfl (by decide +kernel) CutX.no_panic (by decide +kernel) rfl rfl rfl (RV.move rfl) ?_
    refine ED.take 8 rfl (by decide +kernel) CutX.no_panic (by decide +kernel) rfl rfl rfl (RV.nilCheck rfl) ?_
    refine ED.take 9 rfl (by decide +kernel) CutX.no_panic (by decide +kernel) rfl rfl rfl (RV.fieldAddr rfl rfl rfl rfl rfl rfl) ?_
    refine ED.take 10 rfl (by decide +kernel) CutX.no_panic (by decide +kernel) rfl rfl rfl (RV.loadR rfl rfl rfl (by repeat constructor) (pre_at pre _ (k * 4) 0 hpre)) ?_
    refine ED.take 11 rfl (by decide +kernel) CutX.no_panic (by decide +kernel) rfl rfl rfl (RV.move rfl) ?_
    refine ED.take 12 rfl (by decide +kernel) CutX.no_panic (by decide +kernel) rfl rfl rfl (RV.indexAddrL rfl rfl rfl rfl rfl (by omega)) ?_
    refine ED.take 13 rfl (by decide +kernel) CutX.no_panic (by decide +kernel) rfl rfl rfl (RV.loadRA c9 rfl rfl rfl (by rw [hc9l]; rfl) (by repeat constructor) (by rw [hc9l, show 0 + init.length * ty27.size = init.length * 9 from Nat.zero_add _, ← hc9, List.take_of_length_le (by omega)])) ?_
    refine ED.loud 14 rfl (by decide +kernel) ?_
    (refine EL.buildSlice1 rfl rfl rfl rfl rfl rfl (by show c9.toArray.size = 9; simp [hc9l]) rfl rfl rfl ?_; intro b45)
    refine ED.next (.i (by repeat constructor)) ?_
    refine ED.take 15 rfl (by decide +kernel) CutX.no_panic (by decide +kernel) rfl rfl rfl (RV.buildS (reCells (.rep lo hi last) (.slice (some ⟨b45, 0, none⟩) 1 1)).toArray rfl rfl rfl rfl rfl) ?_
    refine ED.take 16 rfl (by decide +kernel) CutX.no_panic (by decide +kernel) rfl rfl rfl (RV.indexAddrL rfl rfl rfl rfl rfl (by omega)) ?_
    refine ED.last 17 rfl (by decide +kernel) (by decide +kernel) (by decide +kernel) ?_
    (refine EL.storeRA (vs := reCells (.rep lo hi last) (.slice (some ⟨b45, 0, none⟩) 1 1)) rfl rfl rfl rfl rfl (by repeat constructor) (by rw [hkl]; show 0 + init.length * 9 + 9 ≤ _; omega) (all1 rfl) ?_; refine EL.rowEq (v := .slice (some ⟨kg, 0, none⟩) (init.length + 1) kcap) (by repeat constructor) (put_last _ _ _ (by rw [hkl]; show (init.length + 1) * 9 = 0 + init.length * 9 + 9; omega)) ?_)
    refine EL.endQ ?_
    exact PX.cutX b45 ⟨rfl, rfl, rfl, rfl, rfl, trivial⟩ (by rw [show 0 + init.length * ty27.size = init.length * 9 from Nat.zero_add _]; exact (.i (by repeat constructor)))
  have hgr := grow_c g fg (k + 1) fcap gr size (size - z + z * tm) sh (((z * tm : Nat) : Int) - (z : Int)) hsh (by omega) (by omega)
  refine .go ?_; repeat constructor
  refine EL.move rfl rfl rfl ?_
  refine EL.nilCheck rfl rfl rfl ?_
  refine EL.fieldAddr rfl rfl rfl rfl rfl rfl rfl rfl ?_
  refine EL.loadR rfl rfl rfl rfl rfl (by repeat constructor) (pre_at pre _ (k * 4) 1 hpre) ?_
  refine EL.move rfl rfl rfl ?_
  refine EL.move rfl rfl rfl ?_
  refine EL.move rfl rfl rfl ?_
  refine EL.mulN rfl rfl rfl rfl rfl (by omega) ?_
  refine EL.indexAddrL1 rfl rfl rfl rfl rfl rfl rfl rfl (by omega) ?_
  (refine EL.storeR rfl rfl rfl rfl rfl rfl (by repeat constructor) (by simp [hz0]) ?_; refine EL.rowEq (v := .slice (some ⟨sg, 0, none⟩) (zs0.length + 1) scap) (by repeat constructor) (set_last zs0 z (z * tm) init.length hz0) ?_)
  refine .go ?_; repeat constructor
  refine EL.move rfl rfl rfl ?_
  refine EL.move rfl rfl rfl ?_
  refine EL.move rfl rfl rfl ?_
  refine EL.mulN rfl rfl rfl rfl rfl (by omega) ?_
  refine EL.move rfl rfl rfl ?_
  refine EL.sub_ (((z * tm : Nat) : Int) - (z : Int)) rfl rfl rfl rfl (wrap_i64 _ (by omega) (by omega)) ?_
  refine EL.callM1 rfl rfl rfl ent17 rfl hgr (by repeat constructor) ?_
  refine EL.assign rfl rfl rfl ?_
  refine .go ?_; repeat constructor
  refine PX.ret rfl Tryd.results20 (.cons (.tmp rfl) .nil) (fun w hs => ⟨b, rfl, ?_⟩)
  rw [hH0] at hs
  have h2 := Sat.repTree (lo := lo) (hi := hi) hc9 (hs.ent (H' := HA.row (.slice (some ⟨b, 0, none⟩) 1 1) 27 9 1 c9 :: HA.forest fp (init ++ [last]) kcs :: PB g fg (k + 1) fcap (PR gr sh (size - z + z * tm)) :: FB fg (k + 1) fcap (pre ++ frC (some ⟨kg, 0, none⟩) (init.length + 1) kcap (some ⟨sg, 0, none⟩) (zs0.length + 1) scap fgr fat) :: KR (some ⟨kg, 0, none⟩) (init.length + 1) kcap (kcs.take (init.length * 9) ++ reCells (.rep lo hi last) (.slice (some ⟨b, 0, none⟩) 1 1)) :: HA.row (.slice (some ⟨sg, 0, none⟩) (zs0.length + 1) scap) 3 1 (zs0.length + 1) ((zs0 ++ [z * tm]).map fun z : Nat => Iv (z : Nat)) :: R) (.i (by repeat constructor)))
  exact h2.ent (.i (by repeat constructor))
end Go.Proofs.YtcoajnpneableaaDoor
namespace Go.Proofs.YtcoajnpneableaaDoor
open Go Go.RowKit Sl
set_option maxRecDepth 100000
set_option maxHeartbeats 8000000
set_option linter.unusedVariables false
set_option linter.unusedSimpArgs false
attribute [local irreducible] ES EL PX wps
theorem close_none (g fg fcap : Nat) (rest : List Value) :
    Mut Tryd.prog 19 #[Pv g 0] [PB g fg 1 fcap rest] (fun _ : Unit => Iv 10) (fun _ => []) := by
  intro w0 B R w h
  replace h : Sat w0 B (PB g fg 1 fcap rest :: R) w := h
  refine calls_of_ES TB Tryd.func19 rfl _ Tryd.ntmps19 rfl h ?_
  refine .go ?_; repeat constructor
  refine EL.assign rfl rfl rfl ?_
  refine .go ?_; repeat constructor
  refine EL.move rfl rfl rfl ?_
  refine EL.nilCheck rfl rfl rfl ?_
  refine EL.fieldAddr rfl rfl rfl rfl rfl rfl rfl rfl ?_
  (apply EL.loadB; exact rfl; exact rfl; exact rfl; exact rfl; exact rfl; (case hm => repeat constructor); exact rfl)
  refine EL.lenL rfl rfl rfl rfl rfl ?_
  refine EL.eqlI rfl rfl rfl rfl ?_
  refine .go ?_; repeat constructor
  refine ES.condK true rfl (decide_eq_true rfl) ?_
  refine .go ?_; repeat constructor
  refine EL.assign rfl rfl rfl ?_
  refine .go ?_; repeat constructor
  exact PX.ret rfl Tryd.results19 (.cons (.tmp rfl) .nil) (fun w hs => ⟨(), rfl, hs.ent (.i (by repeat constructor))⟩)
abbrev grC (tgr : Nat) (tks : List RE) (b : Nat) : List Value := reCells (.group tgr (.cat tks)) (.slice (some ⟨b, 0, none⟩) 1 1)
theorem take_sum (zs : List Nat) (i : Nat) (h : i < zs.length) : (zs.take (i + 1)).sum = (zs.take i).sum + zs.getD i 0 := by
  rw [List.take_succ_eq_append_getElem h, List.sum_append]
  simp [List.getD_eq_getElem?_getD, List.getElem?_eq_getElem h]
theorem take_sum_le (zs : List Nat) (i : Nat) : (zs.take i).sum ≤ zs.sum := by
  conv => rhs; rw [← List.take_append_drop i zs]
  rw [List.sum_append]; omega
theorem close_c (g fg k fcap gr size : Nat) (sh : List Bool) (hsh : sh.length = 10) (pre : List Value) (hpre : pre.length = k * 4) (hk : k + 2 ≤ 4096)
    (pad : Option Addr) (pcap : Nat) (psad : Option Addr) (pscap pgr pat : Nat) (pks : List RE) (pkcs : List Value) (pzs : List Nat) (pfp : List Nat) (hpn : pks.length ≤ 65535) (hpz : pzs.length ≤ 65535) (hpl : pkcs.length = pks.length * 9)
    (kad : Option Addr) (kcap : Nat) (sad : Option Addr) (scap tgr tat : Nat) (tks : List RE) (tkcs : List Value) (tzs : List Nat) (tfp : List Nat) (htg : tgr ≤ 9) (hts : tzs.sum ≤ 256) (htn : tzs.length ≤ 65535) :
    Mut Tryd.prog 19 #[Pv g 0] [PB g fg (k + 2) fcap (PR gr sh size), FB fg (k + 2) fcap ((pre ++ frC pad pks.length pcap psad pzs.length pscap pgr pat) ++ frC kad tks.length kcap sad tzs.length scap tgr tat), KR pad pks.length pcap pkcs, ZR psad pscap pzs, HA.forest pfp pks pkcs, KR kad tks.length kcap tkcs, ZR sad scap tzs, HA.forest tfp tks tkcs]
      (fun _ : ((Option Addr × Nat) × (Option Addr × Nat)) × Nat => Iv 0)
      (fun x => [PB g fg (k + 1) fcap (PR gr (sh.set tgr true) size), FB fg (k + 1) fcap (pre ++ frC x.1.1.1 (pks.length + 1) x.1.1.2 x.1.2.1 (pzs.length + 1) x.1.2.2 pgr pat), KR x.1.1.1 (pks.length + 1) x.1.1.2 (pkcs ++ grC tgr tks x.2), ZR x.1.2.1 x.1.2.2 (pzs ++ [tzs.sum]), HA.forest (pfp ++ ([x.2] ++ ((Value.slice kad tks.length kcap).ownBlock.toList ++ tfp))) (pks ++ [.group tgr (.cat tks)]) (pkcs ++ grC tgr tks x.2)]) := by
  intro w0 B R w h
  have hcap : k + 2 ≤ fcap := (row_form (h.all (FB fg (k + 2) fcap ((pre ++ frC pad pks.length pcap psad pzs.length pscap pgr pat) ++ frC kad tks.length kcap sad tzs.length scap tgr tat)) (by simp))).2.1
  obtain ⟨F0, hF0⟩ : ∃ F0, F0 = HA.forest pfp pks pkcs := ⟨_, rfl⟩
  obtain ⟨F1, hF1⟩ : ∃ F1, F1 = HA.forest tfp tks tkcs := ⟨_, rfl⟩
  obtain ⟨K1, hK1⟩ : ∃ K1, K1 = KR kad tks.length kcap tkcs := ⟨_, rfl⟩
  replace h : Sat w0 B (PB g fg (k + 2) fcap (PR gr sh size) :: FB fg (k + 2) fcap ((pre ++ frC pad pks.length pcap psad pzs.length pscap pgr pat) ++ frC kad tks.length kcap sad tzs.length scap tgr tat) :: KR pad pks.length pcap pkcs :: ZR psad pscap pzs :: F0 :: K1 :: ZR sad scap tzs :: F1 :: R) w := by rw [hF0, hF1, hK1]; exact h
  have hp2 : (pre ++ frC pad pks.length pcap psad pzs.length pscap pgr pat).length = (k + 1) * 4 := by rw [List.length_append, hpre]; simp [frC]; omega
  have htop := top_c g fg (k + 1) fcap (PR gr sh size) ((pre ++ frC pad pks.length pcap psad pzs.length pscap pgr pat) ++ frC kad tks.length kcap sad tzs.length scap tgr tat) (by omega)
  have htl := take_sum_le tzs
  refine calls_of_ES TB Tryd.func19 rfl _ Tryd.ntmps19 rfl h ?_
  refine .go ?_; repeat constructor
  refine EL.assign rfl rfl rfl ?_
  refine .go ?_; repeat constructor
  refine EL.move rfl rfl rfl ?_
  refine EL.nilCheck rfl rfl rfl ?_
  refine EL.fieldAddr rfl rfl rfl rfl rfl rfl rfl rfl ?_
  (apply EL.loadB; exact rfl; exact rfl; exact rfl; exact rfl; exact rfl; (case hm => repeat constructor); exact rfl)
  refine EL.lenL rfl rfl rfl rfl rfl ?_
  refine EL.eqlI rfl rfl rfl rfl ?_
  refine .go ?_; repeat constructor
  refine ES.condK false rfl (decide_eq_false (by omega)) ?_
  refine .go ?_; repeat constructor
  refine EL.move rfl rfl rfl ?_
  refine EL.callM1 rfl rfl rfl ent10 rfl htop (by repeat constructor) ?_
  refine EL.nilCheck rfl rfl rfl ?_
  refine EL.ofRV (RV.loadRA (frC kad tks.length kcap sad tzs.length scap tgr tat) rfl rfl rfl rfl (by repeat constructor) (by rw [List.drop_left' hp2]; rfl)) rfl rfl rfl (by intro c h; cases h) ?_
  (refine EL.alloc rfl rfl rfl ?_; intro g3)
  (apply EL.storeAll; exact rfl; exact rfl; exact rfl; exact rfl; exact rfl; (case p => repeat constructor); exact rfl; (case h1 => exact (by first | rfl | exact all1 rfl | (intro u hu; simp only [List.mem_cons, List.not_mem_nil, or_false] at hu; rcases hu with rfl | rfl | rfl | rfl <;> rfl) | (intro u hu; simp at hu; rcases hu with rfl | rfl | rfl | rfl <;> rfl) | (intro u hu; simp at hu; rcases hu with rfl | rfl | rfl <;> rfl) | (intro u hu; simp at hu; rcases hu with rfl | rfl <;> rfl) | (intro u hu; simp at hu; obtain ⟨_, _, rfl⟩ := hu; rfl))))
  refine .go ?_; repeat constructor
  refine ES.draw (X := Unit) (fun _ => [(0, Pv g 0), (3, Pv g3 0)]) (fun _ => HA.blk g3 (.cells (frC kad tks.length kcap sad tzs.length scap tgr tat).toArray 44) :: PB g fg (k + 1) fcap (PR gr sh size) :: FB fg (k + 2) fcap ((pre ++ frC pad pks.length pcap psad pzs.length pscap pgr pat) ++ frC kad tks.length kcap sad tzs.length scap tgr tat) :: KR pad pks.length pcap pkcs :: ZR psad pscap pzs :: F0 :: K1 :: ZR sad scap tzs :: F1 :: R) (PB g fg (k + 2) fcap (PR gr sh size) :: R) mixed (.i (by repeat constructor)) ?_ (fun _ => ?_)
  · refine ED.take 0 rfl (by decide +kernel) CutX.no_panic (by decide +kernel) rfl rfl rfl (RV.move rfl) ?_
    refine ED.take 1 rfl (by decide +kernel) CutX.no_panic (by decide +kernel) rfl rfl rfl (RV.move rfl) ?_
    refine ED.take 2 rfl (by decide +kernel) CutX.no_panic (by decide +kernel) rfl rfl rfl (RV.nilCheck rfl) ?_
    refine ED.take 3 rfl (by decide +kernel) CutX.no_panic (by decide +kernel) rfl rfl rfl (RV.fieldAddr rfl rfl rfl rfl rfl rfl) ?_
    refine ED.take 4 rfl (by decide +kernel) CutX.no_panic (by decide +kernel) rfl rfl rfl (RV.loadB rfl rfl rfl (by repeat constructor) rfl) ?_
    refine ED.take 5 rfl (by decide +kernel) CutX.no_panic (by decide +kernel) rfl rfl rfl (RV.move rfl) ?_
    refine ED.take 6 rfl (by decide +kernel) CutX.no_panic (by decide +kernel) rfl rfl rfl (RV.nilCheck rfl) ?_
    refine ED.take 7 rfl (by decide +kernel) CutX.no_panic (by decide +kernel) rfl rfl rfl (RV.fieldAddr rfl rfl rfl rfl rfl rfl) ?_
    refine ED.take 8 rfl (by decide +kernel) CutX.no_panic (by decide +kernel) rfl rfl rfl (RV.loadB rfl rfl rfl (by repeat constructor) rfl) ?_
    refine ED.take 9 rfl (by decide +kernel) CutX.no_panic (by decide +kernel) rfl rfl rfl (RV.lenL rfl rfl rfl) ?_
    refine ED.take 10 rfl (by decide +kernel) CutX.no_panic (by decide +kernel) rfl rfl rfl (RV.sub1 rfl rfl (by omega) (by omega)) ?_
    refine ED.take 11 rfl (by decide +kernel) CutX.no_panic (by decide +kernel) rfl rfl rfl (RV.sliceHi (hi := k + 1) rfl rfl rfl rfl rfl (by omega)) ?_
    refine ED.take 12 rfl (by decide +kernel) CutX.no_panic (by decide +kernel) rfl rfl rfl (RV.nilCheck rfl) ?_
    refine ED.take 13 rfl (by decide +kernel) CutX.no_panic (by decide +kernel) rfl rfl rfl (RV.fieldAddr rfl rfl rfl rfl rfl rfl) ?_
    refine ED.last 14 rfl (by decide +kernel) (by decide +kernel) (by decide +kernel) ?_
    (refine EL.storeB rfl rfl rfl rfl rfl rfl (by repeat constructor) (by simp) ?_; refine EL.blkEq (g := g) (by repeat constructor) (congrArg (fun a => Obj.cells a 48 (0, 0)) (pr_frames_set _ _ _)) ?_)
    refine EL.endQ ?_
    exact PX.cutX () ⟨rfl, rfl, trivial⟩ (.i (by repeat constructor))
  refine ES.imp (H' := HA.blk g3 (.cells (frC kad tks.length kcap sad tzs.length scap tgr tat).toArray 44) :: PB g fg (k + 1) fcap (PR gr sh size) :: FB fg (k + 1) fcap (pre ++ frC pad pks.length pcap psad pzs.length pscap pgr pat) :: KR pad pks.length pcap pkcs :: ZR psad pscap pzs :: F0 :: K1 :: ZR sad scap tzs :: F1 :: R) (fun w hs => ?_) ?_
  · have h1 := Sat.cutRow (m := k + 1) (hs.ent (H' := FB fg (k + 2) fcap ((pre ++ frC pad pks.length pcap psad pzs.length pscap pgr pat) ++ frC kad tks.length kcap sad tzs.length scap tgr tat) :: HA.blk g3 (.cells (frC kad tks.length kcap sad tzs.length scap tgr tat).toArray 44) :: PB g fg (k + 1) fcap (PR gr sh size) :: KR pad pks.length pcap pkcs :: ZR psad pscap pzs :: F0 :: K1 :: ZR sad scap tzs :: F1 :: R) (.i (by repeat constructor))) (by omega)
    rw [List.take_left' hp2] at h1
    exact h1.ent (.i (by repeat constructor))
  refine .g0 ?_; repeat constructor
  refine ES.drawG (X := Unit) (fun _ => [(0, Pv g 0), (3, Pv g3 0)]) (fun _ => HA.blk g3 (.cells (frC kad tks.length kcap sad tzs.length scap tgr tat).toArray 44) :: PB g fg (k + 1) fcap (PR gr (sh.set tgr true) size) :: FB fg (k + 1) fcap (pre ++ frC pad pks.length pcap psad pzs.length pscap pgr pat) :: KR pad pks.length pcap pkcs :: ZR psad pscap pzs :: F0 :: K1 :: ZR sad scap tzs :: F1 :: R) 6 (HA.blk g3 (.cells (frC kad tks.length kcap sad tzs.length scap tgr tat).toArray 44) :: R) mixed (by decide +kernel) (.i (by repeat constructor)) ?_ (fun _ => ?_)
  · refine EG.take 0 rfl (by decide +kernel) CutX.no_panic (by decide +kernel) rfl rfl rfl (RV.move rfl) ?_
    refine EG.take 1 rfl (by decide +kernel) CutX.no_panic (by decide +kernel) rfl rfl rfl (RV.fieldAddr rfl rfl rfl rfl rfl rfl) ?_
    refine EG.take 2 rfl (by decide +kernel) CutX.no_panic (by decide +kernel) rfl rfl rfl (RV.loadB rfl rfl rfl (by repeat constructor) rfl) ?_
    refine EG.take 3 rfl (by decide +kernel) CutX.no_panic (by decide +kernel) rfl rfl rfl (RV.nilCheck rfl) ?_
    refine EG.take 4 rfl (by decide +kernel) CutX.no_panic (by decide +kernel) rfl rfl rfl (RV.fieldAddr rfl rfl rfl rfl rfl rfl) ?_
    refine EG.take 5 rfl (by decide +kernel) CutX.no_panic (by decide +kernel) rfl rfl rfl (RV.indexAddrA rfl rfl rfl rfl rfl (by omega)) ?_
    refine EG.loud 6 rfl (by decide +kernel) ?_
    (refine EL.storeB rfl rfl rfl rfl rfl rfl (by repeat constructor) (by rw [pr_len _ _ _ _ hsh]; show 0 + 2 + tgr * 1 < 13; omega) ?_; refine EL.blkEq (g := g) (by repeat constructor) (congrArg (fun a => Obj.cells a 48 (0, 0)) (pr_shut_put _ gr size tgr _ sh true (by omega) (by show 0 + 2 + tgr * 1 = 2 + tgr; omega))) ?_)
    refine EG.nextL (by decide +kernel) rfl (by decide +kernel) ?_
    refine EG.done (by decide +kernel) ?_
    exact PX.cutX () ⟨rfl, rfl, trivial⟩ (.i (by repeat constructor))
  refine .go ?_; repeat constructor
  refine EL.assign rfl rfl rfl ?_
  refine .go ?_; repeat constructor
  refine EL.fieldAddr rfl rfl rfl rfl rfl rfl rfl rfl ?_
  (apply EL.loadB; exact rfl; exact rfl; exact rfl; exact rfl; exact rfl; (case hm => repeat constructor); exact rfl)
  refine EL.lenL rfl rfl rfl rfl rfl ?_
  refine EL.move rfl rfl rfl ?_
  refine .go ?_; repeat constructor
  refine ES.loop (σ := Nat) (fun i => i ≤ tzs.length) (fun i => [(0, Pv g 0), (3, Pv g3 0), (4, Iv ((tzs.take i).sum : Nat)), (38, .slice sad tzs.length scap), (39, Iv (tzs.length : Nat)), (40, Iv (i : Nat))])
    (fun i => HA.blk g3 (.cells (frC kad tks.length kcap sad tzs.length scap tgr tat).toArray 44) :: PB g fg (k + 1) fcap (PR gr (sh.set tgr true) size) :: FB fg (k + 1) fcap (pre ++ frC pad pks.length pcap psad pzs.length pscap pgr pat) :: KR pad pks.length pcap pkcs :: ZR psad pscap pzs :: F0 :: K1 :: ZR sad scap tzs :: F1 :: R) (fun i => tzs.length - i) 0 (Nat.zero_le _) ⟨rfl, rfl, rfl, rfl, rfl, rfl, trivial⟩ (.i (by repeat constructor)) ?_
  intro i hi
  dsimp only at hi ⊢
  refine .go ?_; repeat constructor
  refine EL.lss rfl rfl rfl rfl ?_
  refine .go ?_; repeat constructor
  refine ES.condD rfl (fun hlt => ?_) (fun hge => ?_)
  · have hlt' : i < tzs.length := by omega
    refine ES.rowForm (e := 3) (sz := 1) (n := tzs.length) (cs := tzs.map fun z : Nat => Iv (z : Nat)) (ad := sad) (len := tzs.length) (cap := scap) (by repeat constructor) (fun hf => ?_)
    obtain ⟨sg, rfl⟩ := hf.2.2.2.2 (by omega)
    have hs1 := take_sum tzs i hlt'
    have hs2 := htl (i + 1)
    refine .go ?_; repeat constructor
    refine EL.indexAddrL1 rfl rfl rfl rfl rfl rfl rfl rfl (by omega) ?_
    refine EL.loadRm (fun z : Nat => Iv (z : Nat)) 0 rfl rfl rfl rfl rfl (by repeat constructor) hlt' ?_
    refine EL.assign rfl rfl rfl ?_
    refine .go ?_; repeat constructor
    refine EL.move rfl rfl rfl ?_
    refine EL.move rfl rfl rfl ?_
    refine EL.addN rfl rfl rfl rfl rfl (by omega) ?_
    refine EL.assign rfl rfl rfl ?_
    refine .go ?_; repeat constructor
    refine .go ?_; repeat constructor
    refine EL.add1 rfl rfl rfl rfl (by omega) ?_
    refine EL.move rfl rfl rfl ?_
    refine .go ?_; repeat constructor
    exact PX.loop (i + 1) (by omega) (by omega) ⟨rfl, rfl, getA rfl (congrArg (fun n : Nat => Iv (n : Nat)) hs1.symm), rfl, rfl, rfl, trivial⟩ (.i (by repeat constructor))
  obtain rfl : i = tzs.length := by omega
  rw [List.take_length]
  have hput := fun b => put_c g fg k fcap (PR gr (sh.set tgr true) size) pre hpre (by omega) pad pks.length pcap psad pscap pgr pat pkcs (grC tgr tks b) pzs tzs.sum (by omega) (by omega) hpl rfl (all1 rfl)
  refine .go ?_; repeat constructor
  refine EL.move rfl rfl rfl ?_
  refine EL.fieldAddr rfl rfl rfl rfl rfl rfl rfl rfl ?_
  (apply EL.loadB; exact rfl; exact rfl; exact rfl; exact rfl; exact rfl; (case hm => repeat constructor); exact rfl)
  refine EL.fieldAddr rfl rfl rfl rfl rfl rfl rfl rfl ?_
  (apply EL.loadB; exact rfl; exact rfl; exact rfl; exact rfl; exact rfl; (case hm => repeat constructor); exact rfl)
  refine EL.buildS (reCells (.cat tks) (.slice kad tks.length kcap)).toArray rfl rfl rfl rfl rfl rfl rfl ?_
  (refine EL.buildSlice1 rfl rfl rfl rfl rfl rfl rfl rfl rfl rfl ?_; intro b54)
  (refine EL.buildS (grC tgr tks b54).toArray rfl rfl rfl rfl rfl rfl rfl ?_)
  refine EL.move rfl rfl rfl ?_
  (refine EL.callM rfl rfl rfl ent16 rfl (hput b54) (by repeat constructor) ?_; intro x)
  refine EL.assign rfl rfl rfl ?_
  refine .go ?_; repeat constructor
  refine PX.ret rfl Tryd.results19 (.cons (.tmp rfl) .nil) (fun w hs => ⟨(x, b54), rfl, ?_⟩)
  rw [hF0, hF1, hK1] at hs
  have h1 := Sat.seal (.cat tks) rfl (hs.ent (H' := KR kad tks.length kcap tkcs :: HA.forest tfp tks tkcs :: HA.row (.slice (some ⟨b54, 0, none⟩) 1 1) 27 9 1 (reCells (.cat tks) (.slice kad tks.length kcap)) :: HA.forest pfp pks pkcs :: PB g fg (k + 1) fcap (PR gr (sh.set tgr true) size) :: FB fg (k + 1) fcap (pre ++ frC x.1.1 (pks.length + 1) x.1.2 x.2.1 (pzs.length + 1) x.2.2 pgr pat) :: KR x.1.1 (pks.length + 1) x.1.2 (pkcs ++ grC tgr tks b54) :: ZR x.2.1 x.2.2 (pzs ++ [tzs.sum]) :: R) (.i (by repeat constructor)))
  have h2 := Sat.seal (.group tgr (.cat tks)) rfl (h1.ent (H' := HA.row (.slice (some ⟨b54, 0, none⟩) 1 1) 27 9 1 (reCells (.cat tks) (.slice kad tks.length kcap)) :: HA.forest ((Value.slice kad tks.length kcap).ownBlock.toList ++ tfp) [.cat tks] (reCells (.cat tks) (.slice kad tks.length kcap)) :: HA.forest pfp pks pkcs :: PB g fg (k + 1) fcap (PR gr (sh.set tgr true) size) :: FB fg (k + 1) fcap (pre ++ frC x.1.1 (pks.length + 1) x.1.2 x.2.1 (pzs.length + 1) x.2.2 pgr pat) :: KR x.1.1 (pks.length + 1) x.1.2 (pkcs ++ grC tgr tks b54) :: ZR x.2.1 x.2.2 (pzs ++ [tzs.sum]) :: R) (.i (by repeat constructor)))
  have h3 := Sat.forestApp (h2.ent (H' := HA.forest pfp pks pkcs :: HA.forest ([b54] ++ ((Value.slice kad tks.length kcap).ownBlock.toList ++ tfp)) [.group tgr (.cat tks)] (grC tgr tks b54) :: PB g fg (k + 1) fcap (PR gr (sh.set tgr true) size) :: FB fg (k + 1) fcap (pre ++ frC x.1.1 (pks.length + 1) x.1.2 x.2.1 (pzs.length + 1) x.2.2 pgr pat) :: KR x.1.1 (pks.length + 1) x.1.2 (pkcs ++ grC tgr tks b54) :: ZR x.2.1 x.2.2 (pzs ++ [tzs.sum]) :: R) (.i (by repeat constructor)))
  exact h3.ent (.i (by repeat constructor))
end Go.Proofs.YtcoajnpneableaaDoor
namespace Go.Proofs.YtcoajnpneableaaDoor
open Go Go.RowKit Sl
set_option maxRecDepth 100000
set_option maxHeartbeats 8000000
set_option linter.unusedVariables false
set_option linter.unusedSimpArgs false
attribute [local irreducible] ES EL PX wps
structure POk (p : PS) (N : Nat) : Prop where
  ok : p.Ok
  deep : p.rest.length ≤ p.groups
  kids : ∀ f ∈ p.top :: p.rest, f.kids.length ≤ N
structure TokOk (p : PS) (k : Tok) : Prop where
  rep : k.kind = 5 → p.top.kids ≠ [] ∧ 0 ≤ k.lo ∧ k.lo ≤ 255 ∧ -1 ≤ k.hi ∧ k.hi ≤ 255 ∧ (0 ≤ k.hi → k.lo ≤ k.hi)
  back : k.kind = 6 → 1 ≤ k.lo ∧ k.lo ≤ 9
theorem ps0_pok : POk ps0 0 := ⟨ps0_ok, by simp [ps0], by simp [ps0]⟩
theorem takeM_0 {p : PS} {k : Tok} (h : k.kind = 0) : takeM p k = ({ p with top := p.top.put (.byte k.set) 1, size := p.size + 1 }, growE (p.size + 1)) := by unfold takeM; rw [h]; rfl
theorem takeM_1 {p : PS} {k : Tok} (h : k.kind = 1) : takeM p k = ({ p with top := p.top.put .bol 0 }, 0) := by unfold takeM; rw [h]; rfl
theorem takeM_2 {p : PS} {k : Tok} (h : k.kind = 2) : takeM p k = ({ p with top := p.top.put .eol 0 }, 0) := by unfold takeM; rw [h]; rfl
theorem takeM_3 {p : PS} {k : Tok} (h : k.kind = 3) : takeM p k = if p.groups = 9 then (p, 4) else ({ p with top := ⟨[], [], p.groups + 1, k.at_⟩, rest := p.top :: p.rest, groups := p.groups + 1 }, 0) := by unfold takeM; rw [h]; rfl
theorem takeM_4 {p : PS} {k : Tok} (h : k.kind = 4) : takeM p k = match p.rest with
    | [] => (p, 10)
    | f :: r => ({ p with top := f.put (.group p.top.group (.cat p.top.kids)) p.top.sizes.sum, rest := r, shut := p.shut.set p.top.group true }, 0) := by unfold takeM; rw [h]; rfl
theorem takeM_5 {p : PS} {k : Tok} (h : k.kind = 5) : takeM p k =
    let old := p.top.sizes.getLastD 0
    let f := { p.top with kids := p.top.kids.dropLast ++ [.rep k.lo.toNat k.hi (p.top.kids.getLastD .bol)], sizes := p.top.sizes.dropLast ++ [old * timesM k.lo.toNat k.hi] }
    ({ p with top := f, size := p.size - old + old * timesM k.lo.toNat k.hi }, growE (p.size - old + old * timesM k.lo.toNat k.hi)) := by unfold takeM; rw [h]; rfl
theorem takeM_6 {p : PS} {k : Tok} (h : k.kind = 6) : takeM p k = if p.shut.getD k.lo.toNat false = true then ({ p with top := p.top.put (.back k.lo.toNat) 1, size := p.size + 1 }, growE (p.size + 1)) else (p, 11) := by unfold takeM; rw [h]; rfl
theorem takeM_7 {p : PS} {k : Tok} (h : 7 ≤ k.kind) : takeM p k = (p, k.e) := by
  unfold takeM
  split <;> first | rfl | omega
theorem growE_le {n : Nat} (h : growE n = 0) : n ≤ 256 := by
  unfold growE at h; split at h <;> omega
theorem put_kids (f : Frame) (r : RE) (n : Nat) : (f.put r n).kids = f.kids ++ [r] := rfl
theorem put_tot (f : Frame) (r : RE) (n : Nat) : (f.put r n).tot = f.tot + n := by simp [Frame.tot, Frame.put]
theorem POk.put {p : PS} {N : Nat} (h : POk p N) (r : RE) (n : Nat) (hs : p.size + n ≤ 256) : POk { p with top := p.top.put r n, size := p.size + n } (N + 1) := by
  refine ⟨⟨?_, ?_, hs, h.ok.shut, h.ok.groups, ?_⟩, h.deep, ?_⟩
  · intro f hf
    rcases List.mem_cons.1 hf with rfl | hf
    · have := h.ok.len p.top (by simp)
      simp [Frame.put, this]
    · exact h.ok.len f (by simp [hf])
  · have := h.ok.tot
    show p.size + n = (p.top.put r n).tot + (p.rest.map Frame.tot).sum
    rw [put_tot]; omega
  · intro f hf
    rcases List.mem_cons.1 hf with rfl | hf
    · exact h.ok.num p.top (by simp)
    · exact h.ok.num f (by simp [hf])
  · intro f hf
    rcases List.mem_cons.1 hf with rfl | hf
    · have := h.kids p.top (by simp)
      simp only [put_kids, List.length_append, List.length_singleton]; omega
    · have := h.kids f (by simp [hf]); omega
theorem dropLast_last {α : Type _} (l : List α) (d : α) (h : l ≠ []) : l = l.dropLast ++ [l.getLastD d] := by
  rw [List.getLastD_eq_getLast?, List.getLast?_eq_some_getLast h]
  exact (List.dropLast_concat_getLast h).symm
theorem takeM_ok {p : PS} {N : Nat} {k : Tok} (h : POk p N) (hk : TokOk p k) (he : (takeM p k).2 = 0) (h7 : k.kind ≤ 6) : POk (takeM p k).1 (N + 1) := by
  rcases (by omega : k.kind = 0 ∨ k.kind = 1 ∨ k.kind = 2 ∨ k.kind = 3 ∨ k.kind = 4 ∨ k.kind = 5 ∨ k.kind = 6) with h0 | h0 | h0 | h0 | h0 | h0 | h0
  · rw [takeM_0 h0] at he ⊢
    exact h.put _ 1 (growE_le he)
  · rw [takeM_1 h0]
    exact h.put _ 0 h.ok.le
  · rw [takeM_2 h0]
    exact h.put _ 0 h.ok.le
  · rw [takeM_3 h0] at he ⊢
    split at he
    · cases he
    · rename_i hg
      rw [if_neg hg]
      have h9 := h.ok.groups
      refine ⟨⟨?_, ?_, h.ok.le, h.ok.shut, by simp only; omega, ?_⟩, by simp only [List.length_cons]; have := h.deep; omega, ?_⟩
      · intro f hf
        rcases List.mem_cons.1 hf with rfl | hf
        · rfl
        · exact h.ok.len f hf
      · have := h.ok.tot
        simp only [List.map_cons, List.sum_cons]
        simp only [Frame.tot, List.sum_nil] at this ⊢
        omega
      · intro f hf
        rcases List.mem_cons.1 hf with rfl | hf
        · simp only; omega
        · exact h.ok.num f hf
      · intro f hf
        rcases List.mem_cons.1 hf with rfl | hf
        · simp
        · have := h.kids f hf; omega
  · rw [takeM_4 h0] at he ⊢
    obtain ⟨top, rest, groups, shut, size⟩ := p
    cases rest with
    | nil => cases he
    | cons f r =>
      dsimp only
      have hdeep := h.deep
      have hok := h.ok
      refine ⟨⟨?_, ?_, h.ok.le, by simp [h.ok.shut], h.ok.groups, ?_⟩, by simp only [List.length_cons] at hdeep ⊢; omega, ?_⟩
      · intro f' hf
        rcases List.mem_cons.1 hf with rfl | hf
        · have := h.ok.len f (by simp)
          simp [Frame.put, this]
        · exact h.ok.len f' (by simp [hf])
      · have := h.ok.tot
        simp only [List.map_cons, List.sum_cons] at this
        show size = (f.put _ _).tot + (r.map Frame.tot).sum
        rw [put_tot]
        simp only [Frame.tot] at this ⊢
        omega
      · intro f' hf
        rcases List.mem_cons.1 hf with rfl | hf
        · exact h.ok.num f (by simp)
        · exact h.ok.num f' (by simp [hf])
      · intro f' hf
        rcases List.mem_cons.1 hf with rfl | hf
        · have := h.kids f (by simp)
          simp only [put_kids, List.length_append, List.length_singleton]; omega
        · have := h.kids f' (by simp [hf]); omega
  · rw [takeM_5 h0] at he ⊢
    dsimp only at he ⊢
    have hne := (hk.rep h0).1
    have hl := h.ok.len p.top (by simp)
    have hse : p.top.sizes ≠ [] := by
      intro e; rw [e] at hl; exact hne (List.eq_nil_of_length_eq_zero hl)
    have hz := dropLast_last p.top.sizes 0 hse
    have hsum : p.top.sizes.sum = p.top.sizes.dropLast.sum + p.top.sizes.getLastD 0 := by
      conv => lhs; rw [hz]
      simp
    refine ⟨⟨?_, ?_, growE_le he, h.ok.shut, h.ok.groups, ?_⟩, h.deep, ?_⟩
    · intro f hf
      rcases List.mem_cons.1 hf with rfl | hf
      · simp [hl]
      · exact h.ok.len f (by simp [hf])
    · have := h.ok.tot
      simp only [Frame.tot, List.sum_append, List.sum_cons, List.sum_nil] at this ⊢
      omega
    · intro f hf
      rcases List.mem_cons.1 hf with rfl | hf
      · exact h.ok.num p.top (by simp)
      · exact h.ok.num f (by simp [hf])
    · intro f hf
      rcases List.mem_cons.1 hf with rfl | hf
      · have := h.kids p.top (by simp)
        simp only [List.length_append, List.length_singleton, List.length_dropLast]; omega
      · have := h.kids f (by simp [hf]); omega
  · rw [takeM_6 h0] at he ⊢
    split at he
    · rename_i hs
      rw [if_pos hs]
      exact h.put _ 1 (growE_le he)
    · cases he
structure FV where
  kad : Option Addr
  kcap : Nat
  sad : Option Addr
  scap : Nat
  kcs : List Value
  fp : List Nat
deriving Inhabited
abbrev FV.cells (v : FV) (f : Frame) : List Value := frC v.kad f.kids.length v.kcap v.sad f.sizes.length v.scap f.group f.at_
abbrev FV.hs (v : FV) (f : Frame) : List HA := [KR v.kad f.kids.length v.kcap v.kcs, ZR v.sad v.scap f.sizes, HA.forest v.fp f.kids v.kcs]
def preC : List (Frame × FV) → List Value
  | [] => []
  | (f, v) :: r => preC r ++ v.cells f
def restH : List (Frame × FV) → List HA
  | [] => []
  | (f, v) :: r => v.hs f ++ restH r
theorem preC_len : ∀ r, (preC r).length = r.length * 4
  | [] => rfl
  | (f, v) :: r => by simp only [preC, List.length_append, preC_len r, List.length_cons, frC, List.length_nil]; omega
abbrev PH (g fg fcap : Nat) (p : PS) (tv : FV) (rv : List (Frame × FV)) : List HA :=
  PB g fg (rv.length + 1) fcap (PR p.groups p.shut p.size) :: FB fg (rv.length + 1) fcap (preC rv ++ tv.cells p.top) :: (tv.hs p.top ++ restH rv)
theorem Sat.tailL {w0 w : World} {B : Nat} {R : List HA} : ∀ {A : List HA}, Sat w0 B (A ++ R) w → Sat w0 B R w
  | [], h => h
  | _ :: A, h => Sat.tailL (A := A) h.tail
structure TX where
  fg : Nat
  fcap : Nat
  tv : FV
  rv : List (Frame × FV)
abbrev TXs (p : PS) : Type := { x : TX // x.rv.map Prod.fst = p.rest }
def TXs.any (p : PS) : TXs p := ⟨⟨0, 0, default, p.rest.map fun f => (f, default)⟩, by simp only [List.map_map]; exact List.map_id _⟩
def tkH (g : Nat) (r : PS × Int) (x : TXs r.1) : List HA := if r.2 = 0 then PH g x.1.fg x.1.fcap r.1 x.1.tv x.1.rv else []
theorem tk_ok {w0 w : World} {B g : Nat} {R : List HA} {r : PS × Int} (x : TXs r.1) (h : Sat w0 B (PH g x.1.fg x.1.fcap r.1 x.1.tv x.1.rv ++ R) w) : Sat w0 B (tkH g r x ++ R) w := by
  unfold tkH
  split
  · exact h
  · exact Sat.tailL h
theorem tk_err {w0 w : World} {B g : Nat} {R : List HA} {r : PS × Int} (x : TXs r.1) (hr : r.2 ≠ 0) (h : Sat w0 B R w) : Sat w0 B (tkH g r x ++ R) w := by
  unfold tkH
  rw [if_neg hr]
  exact h
theorem leafForest {w0 w : World} {B : Nat} {R : List HA} {fp : List Nat} {ks : List RE} {cs : List Value} (r : RE) (hr : r.kids = []) (h : Sat w0 B (HA.forest fp ks cs :: R) w) : Sat w0 B (HA.forest fp (ks ++ [r]) (cs ++ reCells r (.slice none 0 0)) :: R) w :=
  Sat.forestEq h (fun _ _ hf => hf.append (Forest.leaf r hr))
theorem putLeaf_c (g fg fcap : Nat) (p : PS) (tv : FV) (rv : List (Frame × FV)) (hrv : rv.length ≤ 9) (hn : p.top.kids.length ≤ 65535) (hz : p.top.sizes.length ≤ 65535) (r : RE) (hr : r.kids = []) (z : Nat) :
    Mut Tryd.prog 16 #[Pv g 0, .agg (reCells r (.slice none 0 0)).toArray, Iv (z : Nat)] (PH g fg fcap p tv rv)
      (fun _ : (Option Addr × Nat) × (Option Addr × Nat) => Iv 0)
      (fun x => PH g fg fcap { p with top := p.top.put r z } ⟨x.1.1, x.1.2, x.2.1, x.2.2, tv.kcs ++ reCells r (.slice none 0 0), tv.fp⟩ rv) := by
  intro w0 B R w h
  have hkl : tv.kcs.length = p.top.kids.length * 9 := (row_form (h.all (KR tv.kad p.top.kids.length tv.kcap tv.kcs) (by simp))).2.2.2.1
  have hc := put_c g fg rv.length fcap (PR p.groups p.shut p.size) (preC rv) (preC_len rv) (by omega) tv.kad p.top.kids.length tv.kcap tv.sad tv.scap p.top.group p.top.at_ tv.kcs (reCells r (.slice none 0 0)) p.top.sizes z (by omega) (by omega) hkl rfl (all1 rfl)
  have h1 : Sat w0 B ([PB g fg (rv.length + 1) fcap (PR p.groups p.shut p.size), FB fg (rv.length + 1) fcap (preC rv ++ frC tv.kad p.top.kids.length tv.kcap tv.sad p.top.sizes.length tv.scap p.top.group p.top.at_), KR tv.kad p.top.kids.length tv.kcap tv.kcs, ZR tv.sad tv.scap p.top.sizes] ++ (HA.forest tv.fp p.top.kids tv.kcs :: (restH rv ++ R))) w := h
  refine (hc w0 B _ w h1).mono ?_
  rintro e w' ⟨x, he, hs⟩
  refine ⟨x, he, ?_⟩
  have h2 := leafForest r hr (hs.ent (H' := HA.forest tv.fp p.top.kids tv.kcs :: PB g fg (rv.length + 1) fcap (PR p.groups p.shut p.size) :: FB fg (rv.length + 1) fcap (preC rv ++ frC x.1.1 (p.top.kids.length + 1) x.1.2 x.2.1 (p.top.sizes.length + 1) x.2.2 p.top.group p.top.at_) :: KR x.1.1 (p.top.kids.length + 1) x.1.2 (tv.kcs ++ reCells r (.slice none 0 0)) :: ZR x.2.1 x.2.2 (p.top.sizes ++ [z]) :: (restH rv ++ R)) (.i (by repeat constructor)))
  have e1 : (p.top.put r z).kids.length = p.top.kids.length + 1 := by simp [Frame.put]
  have e2 : (p.top.put r z).sizes.length = p.top.sizes.length + 1 := by simp [Frame.put]
  show Sat w0 B (PB g fg (rv.length + 1) fcap (PR p.groups p.shut p.size) :: FB fg (rv.length + 1) fcap (preC rv ++ frC x.1.1 (p.top.put r z).kids.length x.1.2 x.2.1 (p.top.put r z).sizes.length x.2.2 p.top.group p.top.at_) :: KR x.1.1 (p.top.put r z).kids.length x.1.2 (tv.kcs ++ reCells r (.slice none 0 0)) :: ZR x.2.1 x.2.2 (p.top.sizes ++ [z]) :: HA.forest tv.fp (p.top.kids ++ [r]) (tv.kcs ++ reCells r (.slice none 0 0)) :: (restH rv ++ R)) w'
  rw [e1, e2]
  exact h2.ent (.i (by repeat constructor))
end Go.Proofs.YtcoajnpneableaaDoor
namespace Go.Proofs.YtcoajnpneableaaDoor
open Go Go.RowKit Sl
set_option maxRecDepth 100000
set_option maxHeartbeats 8000000
set_option linter.unusedVariables false
set_option linter.unusedSimpArgs false
attribute [local irreducible] ES EL PX wps
theorem Takes.behind (A : HA) : ∀ (Hq R : List HA), Takes (A :: (Hq ++ R)) Hq (A :: R)
  | [], R => .nil _
  | X :: T, R => .cons (.there (.here _ _)) (Takes.behind A T R)
theorem Sat.dropMid {w0 w : World} {B : Nat} {L R : List HA} {A : HA} (h : Sat w0 B (L ++ A :: R) w) : Sat w0 B (L ++ R) w :=
  (h.perm List.perm_middle).tail
abbrev tkB (g3 : Nat) (k : Tok) : HA := HA.blk g3 (.cells (tokCells k) 53)
theorem take_c (g fg fcap : Nat) (p : PS) (tv : FV) (rv : List (Frame × FV)) (hrv : rv.map Prod.fst = p.rest) (N : Nat) (hN : N ≤ 60000) (hp : POk p N) (k : Tok) (hk : TokOk p k) :
    Mut Tryd.prog 9 #[Pv g 0, tokV k] (PH g fg fcap p tv rv) (fun _ : TXs (takeM p k).1 => Iv (takeM p k).2) (fun x => tkH g (takeM p k) x) := by
  intro w0 B R w h
  have hrl : rv.length = p.rest.length := by rw [← hrv, List.length_map]
  have hr9 : rv.length ≤ 9 := by have := hp.deep; have := hp.ok.groups; omega
  have hkn := hp.kids p.top (by simp)
  have hlen := hp.ok.len p.top (by simp)
  have hpl := fun (r : RE) (hr : r.kids = []) (z : Nat) => putLeaf_c g fg fcap p tv rv hr9 (by omega) (by omega) r hr z
  have hsz := hp.ok.le
  have hsh := hp.ok.shut
  have hgl := hp.ok.groups
  have hnum := hp.ok.num
  have htot := hp.ok.tot
  have hgrow := grow_c g fg (rv.length + 1) fcap p.groups p.size (p.size + 1) p.shut 1 hsh (by omega) (by omega)
  replace h : Sat w0 B (PB g fg (rv.length + 1) fcap (PR p.groups p.shut p.size) :: FB fg (rv.length + 1) fcap (preC rv ++ tv.cells p.top) :: KR tv.kad p.top.kids.length tv.kcap tv.kcs :: ZR tv.sad tv.scap p.top.sizes :: HA.forest tv.fp p.top.kids tv.kcs :: (restH rv ++ R)) w := h
  have htl0 : tv.kcs.length = p.top.kids.length * 9 := (row_form (h.all (KR tv.kad p.top.kids.length tv.kcap tv.kcs) (by simp))).2.2.2.1
  have hvl0 : ∀ f v r, rv = (f, v) :: r → v.kcs.length = f.kids.length * 9 := fun f v r e => by
    subst e
    exact (row_form (h.all (KR v.kad f.kids.length v.kcap v.kcs) (by simp [restH]))).2.2.2.1
  refine calls_of_ES TB Tryd.func9 rfl _ Tryd.ntmps9 rfl h ?_
  refine .go ?_; repeat constructor
  (refine EL.box rfl rfl rfl ?_; intro g3)
  refine EL.assign rfl rfl rfl ?_
  refine .go ?_; repeat constructor
  refine EL.fieldAddr rfl rfl rfl rfl rfl rfl rfl rfl ?_
  (apply EL.loadB; exact rfl; exact rfl; exact rfl; exact rfl; exact rfl; (case hm => repeat constructor); exact rfl)
  refine .go ?_; repeat constructor
  refine EL.eqlI rfl rfl rfl rfl ?_
  refine EL.assign rfl rfl rfl ?_
  refine .go ?_; repeat constructor
  refine ES.condD rfl (fun h0 => ?_) (fun h0 => ?_)
  · have hk0 : k.kind = 0 := by omega
    rw [takeM_0 hk0]
    refine .go ?_; repeat constructor
    refine EL.move rfl rfl rfl ?_
    refine EL.fieldAddr rfl rfl rfl rfl rfl rfl rfl rfl ?_
    refine EL.ofRV (RV.loadBA [Wv k.set.a, Wv k.set.b, Wv k.set.c, Wv k.set.d] rfl rfl rfl rfl (by repeat constructor) rfl) rfl rfl rfl (by intro c h; cases h) ?_
    refine EL.buildS (reCells (.byte k.set) (.slice none 0 0)).toArray rfl rfl rfl rfl rfl rfl rfl ?_
    (refine EL.callM rfl rfl rfl ent16 rfl (hpl (.byte k.set) rfl 1) (Takes.behind (tkB g3 k) (PH g fg fcap p tv rv) R) ?_; intro x; refine EL.imp (H' := PH g fg fcap { p with top := p.top.put (.byte k.set) 1 } ⟨x.1.1, x.1.2, x.2.1, x.2.2, tv.kcs ++ reCells (.byte k.set) (.slice none 0 0), tv.fp⟩ rv ++ R) (fun w hs => Sat.dropMid hs) ?_)
    refine .go ?_; repeat constructor
    refine EL.move rfl rfl rfl ?_
    refine EL.callM1 rfl rfl rfl ent17 rfl hgrow (.cons (.here _ _) (.nil _)) ?_
    refine EL.assign rfl rfl rfl ?_
    refine .go ?_; repeat constructor
    exact PX.ret rfl Tryd.results9 (.cons (.tmp rfl) .nil) (fun w hs => ⟨⟨⟨fg, fcap, ⟨x.1.1, x.1.2, x.2.1, x.2.2, tv.kcs ++ reCells (.byte k.set) (.slice none 0 0), tv.fp⟩, rv⟩, hrv⟩, rfl, tk_ok _ hs⟩)
  refine .go ?_; repeat constructor
  refine EL.eqlI rfl rfl rfl rfl ?_
  refine EL.assign rfl rfl rfl ?_
  refine .go ?_; repeat constructor
  refine ES.condD rfl (fun h1 => ?_) (fun h1 => ?_)
  · have hk0 : k.kind = 1 := by omega
    rw [takeM_1 hk0]
    refine .go ?_; repeat constructor
    refine EL.move rfl rfl rfl ?_
    refine EL.buildS (reCells .bol (.slice none 0 0)).toArray rfl rfl rfl rfl rfl rfl rfl ?_
    (refine EL.callM rfl rfl rfl ent16 rfl (hpl .bol rfl 0) (Takes.behind (tkB g3 k) (PH g fg fcap p tv rv) R) ?_; intro x)
    refine EL.assign rfl rfl rfl ?_
    refine .go ?_; repeat constructor
    exact PX.ret rfl Tryd.results9 (.cons (.tmp rfl) .nil) (fun w hs => ⟨⟨⟨fg, fcap, ⟨x.1.1, x.1.2, x.2.1, x.2.2, tv.kcs ++ reCells .bol (.slice none 0 0), tv.fp⟩, rv⟩, hrv⟩, rfl, tk_ok _ (Sat.dropMid hs)⟩)
  refine .go ?_; repeat constructor
  refine EL.eqlI rfl rfl rfl rfl ?_
  refine EL.assign rfl rfl rfl ?_
  refine .go ?_; repeat constructor
  refine ES.condD rfl (fun h2 => ?_) (fun h2 => ?_)
  · have hk0 : k.kind = 2 := by omega
    rw [takeM_2 hk0]
    refine .go ?_; repeat constructor
    refine EL.move rfl rfl rfl ?_
    refine EL.buildS (reCells .eol (.slice none 0 0)).toArray rfl rfl rfl rfl rfl rfl rfl ?_
    (refine EL.callM rfl rfl rfl ent16 rfl (hpl .eol rfl 0) (Takes.behind (tkB g3 k) (PH g fg fcap p tv rv) R) ?_; intro x)
    refine EL.assign rfl rfl rfl ?_
    refine .go ?_; repeat constructor
    exact PX.ret rfl Tryd.results9 (.cons (.tmp rfl) .nil) (fun w hs => ⟨⟨⟨fg, fcap, ⟨x.1.1, x.1.2, x.2.1, x.2.2, tv.kcs ++ reCells .eol (.slice none 0 0), tv.fp⟩, rv⟩, hrv⟩, rfl, tk_ok _ (Sat.dropMid hs)⟩)
  refine .go ?_; repeat constructor
  refine EL.eqlI rfl rfl rfl rfl ?_
  refine EL.assign rfl rfl rfl ?_
  refine .go ?_; repeat constructor
  refine ES.condD rfl (fun h3 => ?_) (fun h3 => ?_)
  · have hk0 : k.kind = 3 := by omega
    rw [takeM_3 hk0]
    by_cases hg9 : p.groups = 9
    · rw [if_pos hg9]
      have hop := open_full g fg (rv.length + 1) fcap (p.shut.map Value.bool ++ [Iv (p.size : Nat)]) k.at_
      rw [hg9]
      refine .go ?_; repeat constructor
      refine EL.move rfl rfl rfl ?_
      refine EL.fieldAddr rfl rfl rfl rfl rfl rfl rfl rfl ?_
      (apply EL.loadB; exact rfl; exact rfl; exact rfl; exact rfl; exact rfl; (case hm => repeat constructor); exact rfl)
      refine EL.callM1 rfl rfl rfl ent18 rfl hop (by repeat constructor) ?_
      refine EL.assign rfl rfl rfl ?_
      refine .go ?_; repeat constructor
      exact PX.ret rfl Tryd.results9 (.cons (.tmp rfl) .nil) (fun w hs => ⟨TXs.any _, rfl, tk_err _ (fun e => by cases e) (Sat.tailL (A := restH rv) (hs.ent (.i (by repeat constructor))))⟩)
    · rw [if_neg hg9]
      have hop := open_c g fg (rv.length + 1) fcap p.groups p.size k.at_ p.shut (preC rv ++ tv.cells p.top) (by omega) (by omega)
      refine .go ?_; repeat constructor
      refine EL.move rfl rfl rfl ?_
      refine EL.fieldAddr rfl rfl rfl rfl rfl rfl rfl rfl ?_
      (apply EL.loadB; exact rfl; exact rfl; exact rfl; exact rfl; exact rfl; (case hm => repeat constructor); exact rfl)
      (refine EL.callM rfl rfl rfl ent18 rfl hop (by repeat constructor) ?_; intro x)
      refine EL.assign rfl rfl rfl ?_
      refine .go ?_; repeat constructor
      refine PX.ret rfl Tryd.results9 (.cons (.tmp rfl) .nil) (fun w hs => ⟨⟨⟨x.1, x.2, ⟨none, 0, none, 0, [], []⟩, (p.top, tv) :: rv⟩, by rw [List.map_cons, hrv]⟩, rfl, tk_ok _ ?_⟩)
      have h1 := Sat.forest0 ((hs.nilRow 3 1).nilRow 27 9) [] [] (fun _ _ => .nil)
      exact h1.ent (H' := PB g x.1 (rv.length + 1 + 1) x.2 (PR (p.groups + 1) p.shut p.size) :: FB x.1 (rv.length + 1 + 1) x.2 (preC rv ++ tv.cells p.top ++ frC none 0 0 none 0 0 (p.groups + 1) k.at_) :: KR none 0 0 [] :: ZR none 0 [] :: HA.forest [] [] [] :: KR tv.kad p.top.kids.length tv.kcap tv.kcs :: ZR tv.sad tv.scap p.top.sizes :: HA.forest tv.fp p.top.kids tv.kcs :: (restH rv ++ R)) (.i (by repeat constructor))
  refine .go ?_; repeat constructor
  refine EL.eqlI rfl rfl rfl rfl ?_
  refine EL.assign rfl rfl rfl ?_
  refine .go ?_; repeat constructor
  refine ES.condD rfl (fun h4 => ?_) (fun h4 => ?_)
  · have hk0 : k.kind = 4 := by omega
    rw [takeM_4 hk0]
    cases rv with
    | nil =>
      rw [← hrv]
      have hcl := close_none g fg fcap (PR p.groups p.shut p.size)
      refine .go ?_; repeat constructor
      refine EL.move rfl rfl rfl ?_
      refine EL.callM1 rfl rfl rfl ent19 rfl hcl (by repeat constructor) ?_
      refine EL.assign rfl rfl rfl ?_
      refine .go ?_; repeat constructor
      exact PX.ret rfl Tryd.results9 (.cons (.tmp rfl) .nil) (fun w hs => ⟨TXs.any _, rfl, tk_err _ (fun e => by cases e) (hs.ent (.i (by repeat constructor)))⟩)
    | cons fv rv =>
      obtain ⟨f, v⟩ := fv
      have hrest : p.rest = f :: rv.map Prod.fst := by rw [← hrv]; rfl
      have hfl := hp.ok.len f (by rw [hrest]; simp)
      have hfk := hp.kids f (by rw [hrest]; simp)
      have hvl : v.kcs.length = f.kids.length * 9 := hvl0 f v rv rfl
      rw [hrest] at htot ⊢
      simp only [List.map_cons, List.sum_cons, Frame.tot] at htot
      simp only [List.length_cons] at hr9
      have htg := hnum p.top (by simp)
      have hcl := close_c g fg rv.length fcap p.groups p.size p.shut hsh (preC rv) (preC_len rv) (by omega) v.kad v.kcap v.sad v.scap f.group f.at_ f.kids v.kcs f.sizes v.fp (by omega) (by omega) hvl tv.kad tv.kcap tv.sad tv.scap p.top.group p.top.at_ p.top.kids tv.kcs p.top.sizes tv.fp htg (by omega) (by omega)
      refine .go ?_; repeat constructor
      refine EL.move rfl rfl rfl ?_
      (refine EL.callM rfl rfl rfl ent19 rfl hcl (by repeat constructor) ?_; intro x)
      refine EL.assign rfl rfl rfl ?_
      refine .go ?_; repeat constructor
      refine PX.ret rfl Tryd.results9 (.cons (.tmp rfl) .nil) (fun w hs => ⟨⟨⟨fg, fcap, ⟨x.1.1.1, x.1.1.2, x.1.2.1, x.1.2.2, v.kcs ++ grC p.top.group p.top.kids x.2, v.fp ++ ([x.2] ++ ((Value.slice tv.kad p.top.kids.length tv.kcap).ownBlock.toList ++ tv.fp))⟩, rv⟩, rfl⟩, rfl, tk_ok _ ?_⟩)
      have e1 : (f.put (.group p.top.group (.cat p.top.kids)) p.top.sizes.sum).kids.length = f.kids.length + 1 := by simp [Frame.put]
      have e2 : (f.put (.group p.top.group (.cat p.top.kids)) p.top.sizes.sum).sizes.length = f.sizes.length + 1 := by simp [Frame.put]
      show Sat w0 B (PB g fg (rv.length + 1) fcap (PR p.groups (p.shut.set p.top.group true) p.size) :: FB fg (rv.length + 1) fcap (preC rv ++ frC x.1.1.1 (f.put (.group p.top.group (.cat p.top.kids)) p.top.sizes.sum).kids.length x.1.1.2 x.1.2.1 (f.put (.group p.top.group (.cat p.top.kids)) p.top.sizes.sum).sizes.length x.1.2.2 f.group f.at_) :: KR x.1.1.1 (f.put (.group p.top.group (.cat p.top.kids)) p.top.sizes.sum).kids.length x.1.1.2 (v.kcs ++ grC p.top.group p.top.kids x.2) :: ZR x.1.2.1 x.1.2.2 (f.sizes ++ [p.top.sizes.sum]) :: HA.forest (v.fp ++ ([x.2] ++ ((Value.slice tv.kad p.top.kids.length tv.kcap).ownBlock.toList ++ tv.fp))) (f.kids ++ [.group p.top.group (.cat p.top.kids)]) (v.kcs ++ grC p.top.group p.top.kids x.2) :: (restH rv ++ R)) w
      rw [e1, e2]
      exact hs.ent (.i (by repeat constructor))
  refine .go ?_; repeat constructor
  refine EL.eqlI rfl rfl rfl rfl ?_
  refine EL.assign rfl rfl rfl ?_
  refine .go ?_; repeat constructor
  refine ES.condD rfl (fun h5 => ?_) (fun h5 => ?_)
  · have hk0 : k.kind = 5 := by omega
    obtain ⟨hne, hlo0, hlo1, hhi0, hhi1, _⟩ := hk.rep hk0
    rw [takeM_5 hk0]
    have hse : p.top.sizes ≠ [] := by
      intro e; rw [e] at hlen; exact hne (List.eq_nil_of_length_eq_zero hlen)
    have hki := dropLast_last p.top.kids .bol hne
    have hzi := dropLast_last p.top.sizes 0 hse
    generalize p.top.kids.dropLast = init at hki ⊢
    generalize p.top.kids.getLastD .bol = last at hki ⊢
    generalize p.top.sizes.dropLast = zs0 at hzi ⊢
    generalize p.top.sizes.getLastD 0 = z at hzi ⊢
    have hkl2 : p.top.kids.length = init.length + 1 := by rw [hki]; simp
    have hzl2 : p.top.sizes.length = zs0.length + 1 := by rw [hzi]; simp
    have hz2 : z ≤ p.size := by
      have : p.top.tot = zs0.sum + z := by unfold Frame.tot; rw [hzi]; simp
      omega
    have hlo : ((k.lo.toNat : Nat) : Int) = k.lo := by omega
    have hrc := rep_c g fg rv.length fcap p.groups p.size p.shut hsh (preC rv) (preC_len rv) (by omega) tv.kad tv.kcap tv.sad tv.scap p.top.group p.top.at_ init last tv.kcs zs0 z tv.fp k.lo.toNat k.hi (by omega) (by omega) (by omega) (by omega) (by omega) (by omega) hz2 hsz (by rw [htl0, hkl2])
    rw [hlo] at hrc
    dsimp only
    refine ES.imp (H' := PB g fg (rv.length + 1) fcap (PR p.groups p.shut p.size) :: FB fg (rv.length + 1) fcap (preC rv ++ frC tv.kad (init.length + 1) tv.kcap tv.sad (zs0.length + 1) tv.scap p.top.group p.top.at_) :: KR tv.kad (init.length + 1) tv.kcap tv.kcs :: HA.row (.slice tv.sad (zs0.length + 1) tv.scap) 3 1 (zs0.length + 1) ((zs0 ++ [z]).map fun z : Nat => Iv (z : Nat)) :: HA.forest tv.fp (init ++ [last]) tv.kcs :: tkB g3 k :: (restH rv ++ R)) (fun w hs => ?_) ?_
    · have e0 := hs.ent (H' := PB g fg (rv.length + 1) fcap (PR p.groups p.shut p.size) :: FB fg (rv.length + 1) fcap (preC rv ++ tv.cells p.top) :: KR tv.kad p.top.kids.length tv.kcap tv.kcs :: ZR tv.sad tv.scap p.top.sizes :: HA.forest tv.fp p.top.kids tv.kcs :: tkB g3 k :: (restH rv ++ R)) (.i (by repeat constructor))
      dsimp only [FV.cells, ZR] at e0
      rw [hkl2, hzl2] at e0
      rw [hki, hzi] at e0
      exact e0
    refine .go ?_; repeat constructor
    refine EL.move rfl rfl rfl ?_
    refine EL.fieldAddr rfl rfl rfl rfl rfl rfl rfl rfl ?_
    (apply EL.loadB; exact rfl; exact rfl; exact rfl; exact rfl; exact rfl; (case hm => repeat constructor); exact rfl)
    refine EL.fieldAddr rfl rfl rfl rfl rfl rfl rfl rfl ?_
    (apply EL.loadB; exact rfl; exact rfl; exact rfl; exact rfl; exact rfl; (case hm => repeat constructor); exact rfl)
    (refine EL.callM rfl rfl rfl ent20 rfl hrc (by repeat constructor) ?_; intro x)
    refine EL.assign rfl rfl rfl ?_
    refine .go ?_; repeat constructor
    refine PX.ret rfl Tryd.results9 (.cons (.tmp rfl) .nil) (fun w hs => ⟨⟨⟨fg, fcap, ⟨tv.kad, tv.kcap, tv.sad, tv.scap, tv.kcs.take (init.length * 9) ++ reCells (.rep k.lo.toNat k.hi last) (.slice (some ⟨x, 0, none⟩) 1 1), x :: tv.fp⟩, rv⟩, hrv⟩, rfl, tk_ok _ ?_⟩)
    have e1 : (init ++ [RE.rep k.lo.toNat k.hi last]).length = init.length + 1 := by simp
    have e2 : (zs0 ++ [z * timesM k.lo.toNat k.hi]).length = zs0.length + 1 := by simp
    show Sat w0 B (PB g fg (rv.length + 1) fcap (PR p.groups p.shut (p.size - z + z * timesM k.lo.toNat k.hi)) :: FB fg (rv.length + 1) fcap (preC rv ++ frC tv.kad (init ++ [RE.rep k.lo.toNat k.hi last]).length tv.kcap tv.sad (zs0 ++ [z * timesM k.lo.toNat k.hi]).length tv.scap p.top.group p.top.at_) :: KR tv.kad (init ++ [RE.rep k.lo.toNat k.hi last]).length tv.kcap (tv.kcs.take (init.length * 9) ++ reCells (.rep k.lo.toNat k.hi last) (.slice (some ⟨x, 0, none⟩) 1 1)) :: HA.row (.slice tv.sad (zs0 ++ [z * timesM k.lo.toNat k.hi]).length tv.scap) 3 1 (zs0 ++ [z * timesM k.lo.toNat k.hi]).length ((zs0 ++ [z * timesM k.lo.toNat k.hi]).map fun z : Nat => Iv (z : Nat)) :: HA.forest (x :: tv.fp) (init ++ [.rep k.lo.toNat k.hi last]) (tv.kcs.take (init.length * 9) ++ reCells (.rep k.lo.toNat k.hi last) (.slice (some ⟨x, 0, none⟩) 1 1)) :: (restH rv ++ R)) w
    rw [e1, e2]
    exact hs.ent (.i (by repeat constructor))
  refine .go ?_; repeat constructor
  refine EL.eqlI rfl rfl rfl rfl ?_
  refine EL.assign rfl rfl rfl ?_
  refine .go ?_; repeat constructor
  refine ES.condD rfl (fun h6 => ?_) (fun h6 => ?_)
  · have hk0 : k.kind = 6 := by omega
    obtain ⟨hlo1, hlo2⟩ := hk.back hk0
    rw [takeM_6 hk0]
    obtain ⟨lo, hlo⟩ : ∃ lo : Nat, k.lo = (lo : Int) := ⟨k.lo.toNat, by omega⟩
    have hlo' : k.lo.toNat = lo := by omega
    rw [hlo']
    refine ES.imp (H' := HA.blk g3 (.cells #[Iv (k.kind : Nat), Iv (k.at_ : Nat), Wv k.set.a, Wv k.set.b, Wv k.set.c, Wv k.set.d, Iv (lo : Nat), Iv k.hi, Iv k.e] 53) :: PB g fg (rv.length + 1) fcap (PR p.groups p.shut p.size) :: FB fg (rv.length + 1) fcap (preC rv ++ tv.cells p.top) :: KR tv.kad p.top.kids.length tv.kcap tv.kcs :: ZR tv.sad tv.scap p.top.sizes :: HA.forest tv.fp p.top.kids tv.kcs :: (restH rv ++ R)) (fun w hs => ?_) ?_
    · rw [← hlo]; exact hs.ent (.i (by repeat constructor))
    refine .g0 ?_; repeat constructor
    refine ES.draw (X := Unit) (fun _ => [(0, Pv g 0), (3, Pv g3 0), (53, .bool (!(p.shut.getD lo false)))]) (fun _ => HA.blk g3 (.cells #[Iv (k.kind : Nat), Iv (k.at_ : Nat), Wv k.set.a, Wv k.set.b, Wv k.set.c, Wv k.set.d, Iv (lo : Nat), Iv k.hi, Iv k.e] 53) :: PB g fg (rv.length + 1) fcap (PR p.groups p.shut p.size) :: FB fg (rv.length + 1) fcap (preC rv ++ tv.cells p.top) :: KR tv.kad p.top.kids.length tv.kcap tv.kcs :: ZR tv.sad tv.scap p.top.sizes :: HA.forest tv.fp p.top.kids tv.kcs :: (restH rv ++ R)) (PB g fg (rv.length + 1) fcap (PR p.groups p.shut p.size) :: HA.blk g3 (.cells #[Iv (k.kind : Nat), Iv (k.at_ : Nat), Wv k.set.a, Wv k.set.b, Wv k.set.c, Wv k.set.d, Iv (lo : Nat), Iv k.hi, Iv k.e] 53) :: (restH rv ++ R)) mixed (.i (by repeat constructor)) ?_ (fun _ => ?_)
    · refine ED.take 0 rfl (by decide +kernel) CutX.no_panic (by decide +kernel) rfl rfl rfl (RV.move rfl) ?_
      refine ED.take 1 rfl (by decide +kernel) CutX.no_panic (by decide +kernel) rfl rfl rfl (RV.fieldAddr rfl rfl rfl rfl rfl rfl) ?_
      refine ED.take 2 rfl (by decide +kernel) CutX.no_panic (by decide +kernel) rfl rfl rfl (RV.loadB rfl rfl rfl (by repeat constructor) rfl) ?_
      refine ED.take 3 rfl (by decide +kernel) CutX.no_panic (by decide +kernel) rfl rfl rfl (RV.nilCheck rfl) ?_
      refine ED.take 4 rfl (by decide +kernel) CutX.no_panic (by decide +kernel) rfl rfl rfl (RV.fieldAddr rfl rfl rfl rfl rfl rfl) ?_
      refine ED.take 5 rfl (by decide +kernel) CutX.no_panic (by decide +kernel) rfl rfl rfl (RV.indexAddrA (i := lo) rfl rfl rfl rfl rfl (by omega)) ?_
      refine ED.take 6 rfl (by decide +kernel) CutX.no_panic (by decide +kernel) rfl rfl rfl (RV.loadB rfl rfl rfl (by repeat constructor) (by have := pr_shut_get (.slice (some ⟨fg, 0, none⟩) (rv.length + 1) fcap) p.groups p.size lo p.shut (by omega); rw [show 2 + lo = 0 + 2 + lo * 1 by omega] at this; exact this)) ?_
      refine ED.take 7 rfl (by decide +kernel) CutX.no_panic (by decide +kernel) rfl rfl rfl (RV.not rfl) ?_
      refine ED.done (by decide +kernel) ?_
      exact PX.cutX () ⟨rfl, rfl, rfl, trivial⟩ (.i (by repeat constructor))
    refine ES.cond rfl (fun hs => ?_) (fun hs => ?_)
    · rw [if_neg (by simpa using hs)]
      refine .go ?_; repeat constructor
      refine EL.assign rfl rfl rfl ?_
      refine .go ?_; repeat constructor
      exact PX.ret rfl Tryd.results9 (.cons (.tmp rfl) .nil) (fun w hs => ⟨TXs.any _, rfl, tk_err _ (fun e => by cases e) (Sat.tailL (A := restH rv) (hs.ent (.i (by repeat constructor))))⟩)
    · rw [if_pos (by simpa using hs)]
      refine .go ?_; repeat constructor
      refine EL.move rfl rfl rfl ?_
      refine EL.fieldAddr rfl rfl rfl rfl rfl rfl rfl rfl ?_
      (apply EL.loadB; exact rfl; exact rfl; exact rfl; exact rfl; exact rfl; (case hm => repeat constructor); exact rfl)
      refine EL.buildS (reCells (.back lo) (.slice none 0 0)).toArray rfl rfl rfl rfl rfl rfl rfl ?_
      (refine EL.callM rfl rfl rfl ent16 rfl (hpl (.back lo) rfl 1) (Takes.behind (HA.blk g3 (.cells #[Iv (k.kind : Nat), Iv (k.at_ : Nat), Wv k.set.a, Wv k.set.b, Wv k.set.c, Wv k.set.d, Iv (lo : Nat), Iv k.hi, Iv k.e] 53)) (PH g fg fcap p tv rv) R) ?_; intro x; refine EL.imp (H' := PH g fg fcap { p with top := p.top.put (.back lo) 1 } ⟨x.1.1, x.1.2, x.2.1, x.2.2, tv.kcs ++ reCells (.back lo) (.slice none 0 0), tv.fp⟩ rv ++ R) (fun w hs => Sat.dropMid hs) ?_)
      refine .go ?_; repeat constructor
      refine EL.move rfl rfl rfl ?_
      refine EL.callM1 rfl rfl rfl ent17 rfl hgrow (.cons (.here _ _) (.nil _)) ?_
      refine EL.assign rfl rfl rfl ?_
      refine .go ?_; repeat constructor
      exact PX.ret rfl Tryd.results9 (.cons (.tmp rfl) .nil) (fun w hs => ⟨⟨⟨fg, fcap, ⟨x.1.1, x.1.2, x.2.1, x.2.2, tv.kcs ++ reCells (.back lo) (.slice none 0 0), tv.fp⟩, rv⟩, hrv⟩, rfl, tk_ok _ hs⟩)
  refine .go ?_; repeat constructor
  refine EL.fieldAddr rfl rfl rfl rfl rfl rfl rfl rfl ?_
  (apply EL.loadB; exact rfl; exact rfl; exact rfl; exact rfl; exact rfl; (case hm => repeat constructor); exact rfl)
  refine EL.assign rfl rfl rfl ?_
  refine .go ?_; repeat constructor
  rw [takeM_7 (by omega)]
  exact PX.ret rfl Tryd.results9 (.cons (.tmp rfl) .nil) (fun w hs => ⟨⟨⟨fg, fcap, tv, rv⟩, hrv⟩, rfl, tk_ok _ (hs.ent (H' := PB g fg (rv.length + 1) fcap (PR p.groups p.shut p.size) :: FB fg (rv.length + 1) fcap (preC rv ++ tv.cells p.top) :: KR tv.kad p.top.kids.length tv.kcap tv.kcs :: ZR tv.sad tv.scap p.top.sizes :: HA.forest tv.fp p.top.kids tv.kcs :: (restH rv ++ R)) (.i (by repeat constructor)))⟩)
end Go.Proofs.YtcoajnpneableaaDoor
