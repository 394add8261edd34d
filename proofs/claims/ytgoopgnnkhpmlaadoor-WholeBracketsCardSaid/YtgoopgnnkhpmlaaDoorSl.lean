/- THE BASE: walks by a symbolic frame (which slots hold what) and a list of heap assertions with footprints. Nothing of the program stands here: it serves any. -/
import Derived.WalkKit
import Derived.WalkSpells
import Derived.WalkLawsBesides
import Derived.RangeFuncNested
import Derived.RangeFuncBound
import Derived.RangeFuncCalls
import Derived.RangeFuncLeaves
import Derived.OwnWalkIn
import Derived.Maps.AppendAt
import Derived.Laws.Rows
import Derived.Laws.CopyRow
import Derived.Lib.ConvBytes
import Derived.Laws.BytesArg
namespace Go.Proofs.YtgoopgnnkhpmlaaDoor.Sl
open Go Go.RowKit
set_option linter.unusedVariables false
set_option linter.unusedSimpArgs false

/-! ### The symbolic frame -/
abbrev Env := List (Nat × Value)
def Env.get : Env → Nat → Option Value
  | [], _ => none
  | (k, v) :: r, d => bif Nat.beq k d then some v else Env.get r d
def Env.ev (E : Env) : Operand → Option Value
  | .tmp t => E.get t
  | .const v => some v
  | .global g => some (.pointer (some ⟨g, 0, none⟩))
  | .func f => some (.func (.func f) #[] #[])
theorem Env.get_cons (k : Nat) (v : Value) (E : Env) (d : Nat) : Env.get ((k, v) :: E) d = if k = d then some v else E.get d := by
  simp only [Env.get]
  by_cases h : k = d
  · subst h; simp
  · have : Nat.beq k d = false := by
      cases hb : Nat.beq k d with
      | false => rfl
      | true => exact absurd (Nat.eq_of_beq_eq_true hb) h
    simp [this, h]

structure Fits (n : Nat) (D : List Deferred) (E : Env) (a : Act) : Prop where
  dfr : a.defers = D
  size : a.tmps.size = n
  get : ∀ d v, E.get d = some v → a.tmps[d]? = some v

theorem Fits.put {n : Nat} {D : List Deferred} {E : Env} {a : Act} (h : Fits n D E a) {d : Nat} (hd : d < n) (v : Value) : Fits n D ((d, v) :: E) (a.put (some d) v) := by
  refine ⟨h.dfr, by simp [Act.put, h.size], fun d' v' hg => ?_⟩
  rw [Env.get_cons] at hg
  simp only [Act.put, Array.getElem?_setIfInBounds]
  by_cases e : d = d'
  · subst e
    simp only [if_true] at hg ⊢
    have : d < a.tmps.size := by rw [h.size]; exact hd
    simp [this, Option.some.inj hg]
  · simp only [e, if_false] at hg ⊢
    exact h.get d' v' hg
theorem Fits.put_none {n : Nat} {D : List Deferred} {E : Env} {a : Act} (h : Fits n D E a) (v : Value) : Fits n D E (a.put none v) := h
theorem Fits.ev {n : Nat} {D : List Deferred} {E : Env} {a : Act} (h : Fits n D E a) {x : Operand} {v : Value} (hx : E.ev x = some v) : a.eval x = v := by
  cases x with
  | tmp t =>
    have := h.get t v hx
    simp [Act.eval, Array.getD_eq_getD_getElem?, this]
  | const u => simpa [Env.ev, Act.eval] using hx
  | global g => simpa [Env.ev, Act.eval] using hx
  | func f => simpa [Env.ev, Act.eval] using hx
/-- E has what E' has. -/
def Has (E : Env) : Env → Prop
  | [] => True
  | (d, v) :: r => E.get d = some v ∧ Has E r
theorem Has.get {E : Env} : ∀ {E' : Env}, Has E E' → ∀ d v, E'.get d = some v → E.get d = some v
  | [], _, d, v, h => by simp [Env.get] at h
  | (k, u) :: r, hh, d, v, h => by
    rw [Env.get_cons] at h
    by_cases e : k = d
    · subst e; rw [if_pos rfl] at h; rw [← Option.some.inj h]; exact hh.1
    · rw [if_neg e] at h; exact hh.2.get d v h
theorem Fits.has {n : Nat} {D : List Deferred} {E E' : Env} {a : Act} (h : Fits n D E a) (hh : Has E E') : Fits n D E' a := ⟨h.dfr, h.size, fun d v hg => h.get d v (hh.get d v hg)⟩

/-! ### Heap assertions -/
structure HA where
  fp : List Nat
  holds : World → Prop
  loc : ∀ w w' : World, (∀ g ∈ fp, w'.heap[g]? = w.heap[g]?) → holds w → holds w'
/-- Block g is o. -/
def HA.blk (g : Nat) (o : Obj) : HA := ⟨[g], fun w => w.heap[g]? = some o, fun _ _ h hw => (h g (by simp)).trans hw⟩
theorem ownsRow_loc {w w' : World} {b : Nat} {e : TypeId} {sz n : Nat} {v : Value} {cs : List Value} (h : ∀ g ∈ v.ownBlock.toList, w'.heap[g]? = w.heap[g]?) (ho : w.ownsRow b e sz v n cs) : w'.ownsRow b e sz v n cs := by
  refine ⟨ho.1, ?_⟩
  rcases ho.2 with h1 | ⟨g, cap, cur, hv, hb, hh, r⟩
  · exact .inl h1
  · refine .inr ⟨g, cap, cur, hv, hb, ?_, r⟩
    rw [h g (by subst hv; simp [Value.ownBlock])]; exact hh
/-- The slice value v, n elements of type e (sz cells each), owns the cells cs. -/
def HA.row (v : Value) (e : TypeId) (sz n : Nat) (cs : List Value) : HA := ⟨v.ownBlock.toList, fun w => w.ownsRow 0 e sz v n cs, fun _ _ h hw => ownsRow_loc h hw⟩

def fps (H : List HA) : List Nat := H.flatMap HA.fp
theorem fps_cons (A : HA) (H : List HA) : fps (A :: H) = A.fp ++ fps H := by simp [fps]
theorem fps_append (H H' : List HA) : fps (H ++ H') = fps H ++ fps H' := by simp [fps]

structure Sat (w0 : World) (B : Nat) (H : List HA) (w : World) : Prop where
  below : Below B w0 w
  base : B ≤ w.heap.size
  nodup : (fps H).Nodup
  lo : ∀ g ∈ fps H, B ≤ g ∧ g < w.heap.size
  all : ∀ A ∈ H, A.holds w

theorem Sat.perm {w0 : World} {B : Nat} {H H' : List HA} {w : World} (h : Sat w0 B H w) (p : H.Perm H') : Sat w0 B H' w := by
  have pf : (fps H).Perm (fps H') := by unfold fps; exact p.flatMap_right _
  exact ⟨h.below, h.base, pf.nodup_iff.1 h.nodup, fun g hg => h.lo g (pf.mem_iff.2 hg), fun A hA => h.all A (p.mem_iff.2 hA)⟩
theorem Sat.left {w0 : World} {B : Nat} {H H' : List HA} {w : World} (h : Sat w0 B (H ++ H') w) : Sat w0 B H w :=
  ⟨h.below, h.base, by have := h.nodup; rw [fps_append] at this; exact (List.nodup_append.1 this).1, fun g hg => h.lo g (by rw [fps_append]; simp [hg]), fun A hA => h.all A (by simp [hA])⟩
theorem Sat.tail {w0 : World} {B : Nat} {A : HA} {H : List HA} {w : World} (h : Sat w0 B (A :: H) w) : Sat w0 B H w :=
  ⟨h.below, h.base, by have := h.nodup; rw [fps_cons] at this; exact (List.nodup_append.1 this).2.1, fun g hg => h.lo g (by rw [fps_cons]; simp [hg]), fun A hA => h.all A (by simp [hA])⟩
theorem Sat.head {w0 : World} {B : Nat} {A : HA} {H : List HA} {w : World} (h : Sat w0 B (A :: H) w) : A.holds w := h.all A (by simp)
/-- The start: nothing is owned. -/
theorem Sat.start (w : World) : Sat w w.heap.size [] w := ⟨Below.refl _ _, Nat.le_refl _, by simp [fps], by simp [fps], by simp⟩

/-- Taking one assertion out. -/
inductive Pick : List HA → HA → List HA → Prop
  | here (A : HA) (H : List HA) : Pick (A :: H) A H
  | there {X A : HA} {H H' : List HA} (p : Pick H A H') : Pick (X :: H) A (X :: H')
theorem Pick.perm {H : List HA} {A : HA} {H' : List HA} (p : Pick H A H') : H.Perm (A :: H') := by
  induction p with
  | here => exact .refl _
  | there p ih => exact (ih.cons _).trans (.swap ..)
/-- Putting another in its place. -/
inductive PickSet : List HA → HA → HA → List HA → Prop
  | here (A A' : HA) (H : List HA) : PickSet (A :: H) A A' (A' :: H)
  | there {X A A' : HA} {H H' : List HA} (p : PickSet H A A' H') : PickSet (X :: H) A A' (X :: H')
theorem PickSet.split {H : List HA} {A A' : HA} {H' : List HA} (p : PickSet H A A' H') : ∃ R, H.Perm (A :: R) ∧ H'.Perm (A' :: R) := by
  induction p with
  | here A A' H => exact ⟨H, .refl _, .refl _⟩
  | @there X A A' H H' p ih =>
    obtain ⟨R, h1, h2⟩ := ih
    exact ⟨X :: R, (h1.cons _).trans (.swap ..), (h2.cons _).trans (.swap ..)⟩
/-- H has A. -/
inductive Mem : List HA → HA → Prop
  | here (A : HA) (H : List HA) : Mem (A :: H) A
  | there {X A : HA} {H : List HA} (p : Mem H A) : Mem (X :: H) A
theorem Mem.mem {H : List HA} {A : HA} (p : Mem H A) : A ∈ H := by
  induction p with
  | here => simp
  | there p ih => exact List.mem_cons_of_mem _ ih
/-- H has (and may have more than) what H' has. -/
inductive Ent : List HA → List HA → Prop
  | nil (H : List HA) : Ent H []
  | cons {H : List HA} {A : HA} {R T : List HA} (p : Pick H A R) (t : Ent R T) : Ent H (A :: T)
theorem Ent.drop {H T : List HA} {A : HA} (h : Ent H T) : Ent (A :: H) T := by
  induction h with
  | nil H => exact .nil _
  | @cons H A' R T p t ih => exact .cons (.there p) ih
theorem Ent.refl : ∀ H : List HA, Ent H H
  | [] => .nil _
  | A :: H => .cons (.here A H) (Ent.refl H)
theorem Ent.perm {H T : List HA} (h : Ent H T) : ∃ R, H.Perm (T ++ R) := by
  induction h with
  | nil H => exact ⟨H, .refl _⟩
  | @cons H A R T p t ih =>
    obtain ⟨X, hX⟩ := ih
    exact ⟨X, p.perm.trans (hX.cons _)⟩
theorem Sat.ent {w0 : World} {B : Nat} {H H' : List HA} {w : World} (h : Sat w0 B H w) (e : Ent H H') : Sat w0 B H' w := by
  obtain ⟨R, p⟩ := e.perm
  exact (h.perm p).left

/-- What is kept while the world turns at new blocks, and at blocks that A owned, alone. -/
theorem Sat.step {w0 : World} {B : Nat} {A A' : HA} {H : List HA} {w w' : World} (h : Sat w0 B (A :: H) w) (ho : w'.os = w.os) (ht : w'.tape = w.tape) (hu : w'.output = w.output) (hs : w.heap.size ≤ w'.heap.size)
    (hk : ∀ k, k < w.heap.size → k ∉ A.fp → w'.heap[k]? = w.heap[k]?) (hA : A'.holds w') (hf : ∀ g ∈ A'.fp, g < w'.heap.size ∧ (g ∈ A.fp ∨ w.heap.size ≤ g)) (hn : A'.fp.Nodup) : Sat w0 B (A' :: H) w' := by
  have hnd := h.nodup
  rw [fps_cons] at hnd
  obtain ⟨n1, n2, n3⟩ := List.nodup_append.1 hnd
  have lo1 : ∀ g ∈ A.fp, B ≤ g ∧ g < w.heap.size := fun g hg => h.lo g (by rw [fps_cons]; simp [hg])
  have lo2 : ∀ g ∈ fps H, B ≤ g ∧ g < w.heap.size := fun g hg => h.lo g (by rw [fps_cons]; simp [hg])
  refine ⟨h.below.trans ⟨ho, ht, hu, hs, fun k hkB => hk k (by have := h.base; omega) (fun hm => by have := (lo1 k hm).1; omega)⟩, Nat.le_trans h.base hs, ?_, ?_, ?_⟩
  · rw [fps_cons]
    refine List.nodup_append.2 ⟨hn, n2, fun g hg g' hg' e => ?_⟩
    subst e
    rcases (hf g hg).2 with h1 | h1
    · exact n3 g h1 g hg' rfl
    · have := (lo2 g hg').2; omega
  · intro g hg
    rw [fps_cons] at hg
    rcases List.mem_append.1 hg with hg | hg
    · refine ⟨?_, (hf g hg).1⟩
      rcases (hf g hg).2 with h1 | h1
      · exact (lo1 g h1).1
      · have := h.base; omega
    · have := lo2 g hg; exact ⟨this.1, by omega⟩
  · intro X hX
    rcases List.mem_cons.1 hX with rfl | hX
    · exact hA
    · refine X.loc w w' (fun g hg => ?_) (h.all X (by simp [hX]))
      have hgf : g ∈ fps H := List.mem_flatMap.2 ⟨X, hX, hg⟩
      exact hk g (lo2 g hgf).2 (fun hm => n3 g hm g hgf rfl)
theorem Sat.drewN {w0 : World} {B : Nat} {H : List HA} {w : World} (h : Sat w0 B H w) (n : Nat) : Sat w0 B H { w with drawn := n } :=
  ⟨⟨h.below.os, h.below.tape, h.below.output, h.below.size, h.below.block⟩, h.base, h.nodup, h.lo, fun A hA => A.loc w _ (fun _ _ => rfl) (h.all A hA)⟩
/-- A new block. -/
theorem Sat.alloc {w0 : World} {B : Nat} {H : List HA} {w : World} (h : Sat w0 B H w) (o : Obj) : Sat w0 B (HA.blk w.heap.size o :: H) (w.alloc o) := by
  have hsz : (w.alloc o).heap.size = w.heap.size + 1 := by simp
  refine ⟨h.below.alloc h.base o, by rw [hsz]; have := h.base; omega, ?_, ?_, ?_⟩
  · rw [fps_cons]
    refine List.nodup_append.2 ⟨by simp [HA.blk], h.nodup, fun g hg g' hg' e => ?_⟩
    simp only [HA.blk, List.mem_singleton] at hg
    have := (h.lo g' hg').2
    omega
  · intro g hg
    rw [fps_cons] at hg
    rcases List.mem_append.1 hg with hg | hg
    · simp only [HA.blk, List.mem_singleton] at hg
      subst hg
      exact ⟨h.base, by rw [hsz]; omega⟩
    · have := h.lo g hg; exact ⟨this.1, by rw [hsz]; omega⟩
  · intro X hX
    rcases List.mem_cons.1 hX with rfl | hX
    · exact heap_alloc_new w o
    · refine X.loc w _ (fun g hg => ?_) (h.all X hX)
      exact Below.heap_alloc w o g (h.lo g (List.mem_flatMap.2 ⟨X, hX, hg⟩)).2
/-- What a call over all memory as old memory has left, beside what is owned. -/
theorem Sat.join {w0 : World} {B : Nat} {H H' : List HA} {w w' : World} (h : Sat w0 B H w) (h' : Sat w w.heap.size H' w') : Sat w0 B (H' ++ H) w' := by
  refine ⟨h.below.trans (h'.below.mono h.base), Nat.le_trans h.base h'.base, ?_, ?_, ?_⟩
  · rw [fps_append]
    refine List.nodup_append.2 ⟨h'.nodup, h.nodup, fun g hg g' hg' e => ?_⟩
    have := (h'.lo g hg).1
    have := (h.lo g' hg').2
    omega
  · intro g hg
    rw [fps_append] at hg
    rcases List.mem_append.1 hg with hg | hg
    · have := h'.lo g hg; have := h.base; omega
    · have := h.lo g hg; have := h'.base; omega
  · intro X hX
    rcases List.mem_append.1 hX with hX | hX
    · exact h'.all X hX
    · refine X.loc w _ (fun g hg => ?_) (h.all X hX)
      exact h'.below.block g (h.lo g (List.mem_flatMap.2 ⟨X, hX, hg⟩)).2

end Go.Proofs.YtgoopgnnkhpmlaaDoor.Sl
