/- Texts of this claim, bundled. -/
import Derived.WalkKit
import Derived.WalkSpells
import Derived.WalkLawsBesides
import Derived.RangeFuncNested
import Derived.RangeFuncBound
import Derived.RangeFuncCalls
import Derived.RangeFuncLeaves
import Derived.OwnWalkIn
import Derived.Maps.AppendAt
import Derived.Laws.Rows
import Derived.Laws.CopyRow
import Derived.Lib.ConvBytes
import Derived.Laws.BytesArg
import Derived.Lib.Strings
import Derived.Shelf.Abstract
import Derived.OrdersIn
import Derived.ArgAppend
import Derived.Test.YthcbjbkheodejaaGreatRows
import Derived.Test.YthcbjbkheodejaaGreatShelf
import Derived.Lib.IndexMore
import Derived.Lib.FrozenHead2
import Derived.LaidEql
import Derived.MapKept
import Derived.Laws.StructEq
import Derived.ProofKit
import Derived.OpenShut
import Derived.HandedShaped
import Derived.JoinedCond
import Derived.OpenVars
set_option linter.unusedVariables false
set_option linter.unusedSimpArgs false
namespace Go.Proofs.YthcbjbkheodejaaGreat.Sl
open Go Go.RowKit
abbrev Env := List (Nat × Value)
def Env.get : Env → Nat → Option Value
  | [], _ => none
  | (k, v) :: r, d => bif Nat.beq k d then some v else Env.get r d
def Env.ev (E : Env) : Operand → Option Value
  | .tmp t => E.get t
  | .const v => some v
  | .global g => some (.pointer (some ⟨g, 0, none⟩))
  | .func f => some (.func (.func f) #[] #[])
theorem Env.get_cons (k : Nat) (v : Value) (E : Env) (d : Nat) : Env.get ((k, v) :: E) d = if k = d then some v else E.get d := by
  simp only [Env.get]
  by_cases h : k = d
  · subst h; simp
  · have : Nat.beq k d = false := by
      cases hb : Nat.beq k d with
      | false => rfl
      | true => exact absurd (Nat.eq_of_beq_eq_true hb) h
    simp [this, h]
structure Fits (n : Nat) (D : List Deferred) (E : Env) (a : Act) : Prop where
  dfr : a.defers = D
  size : a.tmps.size = n
  get : ∀ d v, E.get d = some v → a.tmps[d]? = some v
theorem Fits.put {n : Nat} {D : List Deferred} {E : Env} {a : Act} (h : Fits n D E a) {d : Nat} (hd : d < n) (v : Value) : Fits n D ((d, v) :: E) (a.put (some d) v) := by
  refine ⟨h.dfr, by simp [Act.put, h.size], fun d' v' hg => ?_⟩
  rw [Env.get_cons] at hg
  simp only [Act.put, Array.getElem?_setIfInBounds]
  by_cases e : d = d'
  · subst e
    simp only [if_true] at hg ⊢
    have : d < a.tmps.size := by rw [h.size]; exact hd
    simp [this, Option.some.inj hg]
  · simp only [e, if_false] at hg ⊢
    exact h.get d' v' hg
theorem Fits.ev {n : Nat} {D : List Deferred} {E : Env} {a : Act} (h : Fits n D E a) {x : Operand} {v : Value} (hx : E.ev x = some v) : a.eval x = v := by
  cases x with
  | tmp t =>
    have := h.get t v hx
    simp [Act.eval, Array.getD_eq_getD_getElem?, this]
  | const u => simpa [Env.ev, Act.eval] using hx
  | global g => simpa [Env.ev, Act.eval] using hx
  | func f => simpa [Env.ev, Act.eval] using hx
def Has (E : Env) : Env → Prop
  | [] => True
  | (d, v) :: r => E.get d = some v ∧ Has E r
theorem Has.get {E : Env} : ∀ {E' : Env}, Has E E' → ∀ d v, E'.get d = some v → E.get d = some v
  | [], _, d, v, h => by simp [Env.get] at h
  | (k, u) :: r, hh, d, v, h => by
    rw [Env.get_cons] at h
    by_cases e : k = d
    · subst e; rw [if_pos rfl] at h; rw [← Option.some.inj h]; exact hh.1
    · rw [if_neg e] at h; exact hh.2.get d v h
theorem Fits.has {n : Nat} {D : List Deferred} {E E' : Env} {a : Act} (h : Fits n D E a) (hh : Has E E') : Fits n D E' a := ⟨h.dfr, h.size, fun d v hg => h.get d v (hh.get d v hg)⟩
structure HA where
  fp : List Nat
  holds : World → Prop
  loc : ∀ w w' : World, (∀ g ∈ fp, w'.heap[g]? = w.heap[g]?) → holds w → holds w'
def HA.blk (g : Nat) (o : Obj) : HA := ⟨[g], fun w => w.heap[g]? = some o, fun _ _ h hw => (h g (by simp)).trans hw⟩
theorem ownsRow_loc {w w' : World} {b : Nat} {e : TypeId} {sz n : Nat} {v : Value} {cs : List Value} (h : ∀ g ∈ v.ownBlock.toList, w'.heap[g]? = w.heap[g]?) (ho : w.ownsRow b e sz v n cs) : w'.ownsRow b e sz v n cs := by
  refine ⟨ho.1, ?_⟩
  rcases ho.2 with h1 | ⟨g, cap, cur, hv, hb, hh, r⟩
  · exact .inl h1
  · refine .inr ⟨g, cap, cur, hv, hb, ?_, r⟩
    rw [h g (by subst hv; simp [Value.ownBlock])]; exact hh
def HA.row (v : Value) (e : TypeId) (sz n : Nat) (cs : List Value) : HA := ⟨v.ownBlock.toList, fun w => w.ownsRow 0 e sz v n cs, fun _ _ h hw => ownsRow_loc h hw⟩
def fps (H : List HA) : List Nat := H.flatMap HA.fp
theorem fps_cons (A : HA) (H : List HA) : fps (A :: H) = A.fp ++ fps H := by simp [fps]
theorem fps_append (H H' : List HA) : fps (H ++ H') = fps H ++ fps H' := by simp [fps]
structure Sat (w0 : World) (B : Nat) (H : List HA) (w : World) : Prop where
  below : Below B w0 w
  base : B ≤ w.heap.size
  nodup : (fps H).Nodup
  lo : ∀ g ∈ fps H, B ≤ g ∧ g < w.heap.size
  all : ∀ A ∈ H, A.holds w
theorem Sat.perm {w0 : World} {B : Nat} {H H' : List HA} {w : World} (h : Sat w0 B H w) (p : H.Perm H') : Sat w0 B H' w := by
  have pf : (fps H).Perm (fps H') := by unfold fps; exact p.flatMap_right _
  exact ⟨h.below, h.base, pf.nodup_iff.1 h.nodup, fun g hg => h.lo g (pf.mem_iff.2 hg), fun A hA => h.all A (p.mem_iff.2 hA)⟩
theorem Sat.left {w0 : World} {B : Nat} {H H' : List HA} {w : World} (h : Sat w0 B (H ++ H') w) : Sat w0 B H w :=
  ⟨h.below, h.base, by have := h.nodup; rw [fps_append] at this; exact (List.nodup_append.1 this).1, fun g hg => h.lo g (by rw [fps_append]; simp [hg]), fun A hA => h.all A (by simp [hA])⟩
theorem Sat.tail {w0 : World} {B : Nat} {A : HA} {H : List HA} {w : World} (h : Sat w0 B (A :: H) w) : Sat w0 B H w :=
  ⟨h.below, h.base, by have := h.nodup; rw [fps_cons] at this; exact (List.nodup_append.1 this).2.1, fun g hg => h.lo g (by rw [fps_cons]; simp [hg]), fun A hA => h.all A (by simp [hA])⟩
theorem Sat.head {w0 : World} {B : Nat} {A : HA} {H : List HA} {w : World} (h : Sat w0 B (A :: H) w) : A.holds w := h.all A (by simp)
theorem Sat.start (w : World) : Sat w w.heap.size [] w := ⟨Below.refl _ _, Nat.le_refl _, by simp [fps], by simp [fps], by simp⟩
inductive Pick : List HA → HA → List HA → Prop
  | here (A : HA) (H : List HA) : Pick (A :: H) A H
  | there {X A : HA} {H H' : List HA} (p : Pick H A H') : Pick (X :: H) A (X :: H')
theorem Pick.perm {H : List HA} {A : HA} {H' : List HA} (p : Pick H A H') : H.Perm (A :: H') := by
  induction p with
  | here => exact .refl _
  | there p ih => exact (ih.cons _).trans (.swap ..)
inductive PickSet : List HA → HA → HA → List HA → Prop
  | here (A A' : HA) (H : List HA) : PickSet (A :: H) A A' (A' :: H)
  | there {X A A' : HA} {H H' : List HA} (p : PickSet H A A' H') : PickSet (X :: H) A A' (X :: H')
theorem PickSet.split {H : List HA} {A A' : HA} {H' : List HA} (p : PickSet H A A' H') : ∃ R, H.Perm (A :: R) ∧ H'.Perm (A' :: R) := by
  induction p with
  | here A A' H => exact ⟨H, .refl _, .refl _⟩
  | @there X A A' H H' p ih =>
    obtain ⟨R, h1, h2⟩ := ih
    exact ⟨X :: R, (h1.cons _).trans (.swap ..), (h2.cons _).trans (.swap ..)⟩
inductive Mem : List HA → HA → Prop
  | here (A : HA) (H : List HA) : Mem (A :: H) A
  | there {X A : HA} {H : List HA} (p : Mem H A) : Mem (X :: H) A
theorem Mem.mem {H : List HA} {A : HA} (p : Mem H A) : A ∈ H := by
  induction p with
  | here => simp
  | there p ih => exact List.mem_cons_of_mem _ ih
inductive Ent : List HA → List HA → Prop
  | nil (H : List HA) : Ent H []
  | cons {H : List HA} {A : HA} {R T : List HA} (p : Pick H A R) (t : Ent R T) : Ent H (A :: T)
theorem Ent.drop {H T : List HA} {A : HA} (h : Ent H T) : Ent (A :: H) T := by
  induction h with
  | nil H => exact .nil _
  | @cons H A' R T p t ih => exact .cons (.there p) ih
theorem Ent.refl : ∀ H : List HA, Ent H H
  | [] => .nil _
  | A :: H => .cons (.here A H) (Ent.refl H)
theorem Ent.perm {H T : List HA} (h : Ent H T) : ∃ R, H.Perm (T ++ R) := by
  induction h with
  | nil H => exact ⟨H, .refl _⟩
  | @cons H A R T p t ih =>
    obtain ⟨X, hX⟩ := ih
    exact ⟨X, p.perm.trans (hX.cons _)⟩
theorem Sat.ent {w0 : World} {B : Nat} {H H' : List HA} {w : World} (h : Sat w0 B H w) (e : Ent H H') : Sat w0 B H' w := by
  obtain ⟨R, p⟩ := e.perm
  exact (h.perm p).left
theorem Sat.step {w0 : World} {B : Nat} {A A' : HA} {H : List HA} {w w' : World} (h : Sat w0 B (A :: H) w) (ho : w'.os = w.os) (ht : w'.tape = w.tape) (hu : w'.output = w.output) (hs : w.heap.size ≤ w'.heap.size)
    (hk : ∀ k, k < w.heap.size → k ∉ A.fp → w'.heap[k]? = w.heap[k]?) (hA : A'.holds w') (hf : ∀ g ∈ A'.fp, g < w'.heap.size ∧ (g ∈ A.fp ∨ w.heap.size ≤ g)) (hn : A'.fp.Nodup) : Sat w0 B (A' :: H) w' := by
  have hnd := h.nodup
  rw [fps_cons] at hnd
  obtain ⟨n1, n2, n3⟩ := List.nodup_append.1 hnd
  have lo1 : ∀ g ∈ A.fp, B ≤ g ∧ g < w.heap.size := fun g hg => h.lo g (by rw [fps_cons]; simp [hg])
  have lo2 : ∀ g ∈ fps H, B ≤ g ∧ g < w.heap.size := fun g hg => h.lo g (by rw [fps_cons]; simp [hg])
  refine ⟨h.below.trans ⟨ho, ht, hu, hs, fun k hkB => hk k (by have := h.base; omega) (fun hm => by have := (lo1 k hm).1; omega)⟩, Nat.le_trans h.base hs, ?_, ?_, ?_⟩
  · rw [fps_cons]
    refine List.nodup_append.2 ⟨hn, n2, fun g hg g' hg' e => ?_⟩
    subst e
    rcases (hf g hg).2 with h1 | h1
    · exact n3 g h1 g hg' rfl
    · have := (lo2 g hg').2; omega
  · intro g hg
    rw [fps_cons] at hg
    rcases List.mem_append.1 hg with hg | hg
    · refine ⟨?_, (hf g hg).1⟩
      rcases (hf g hg).2 with h1 | h1
      · exact (lo1 g h1).1
      · have := h.base; omega
    · have := lo2 g hg; exact ⟨this.1, by omega⟩
  · intro X hX
    rcases List.mem_cons.1 hX with rfl | hX
    · exact hA
    · refine X.loc w w' (fun g hg => ?_) (h.all X (by simp [hX]))
      have hgf : g ∈ fps H := List.mem_flatMap.2 ⟨X, hX, hg⟩
      exact hk g (lo2 g hgf).2 (fun hm => n3 g hm g hgf rfl)
theorem Sat.drewN {w0 : World} {B : Nat} {H : List HA} {w : World} (h : Sat w0 B H w) (n : Nat) : Sat w0 B H { w with drawn := n } :=
  ⟨⟨h.below.os, h.below.tape, h.below.output, h.below.size, h.below.block⟩, h.base, h.nodup, h.lo, fun A hA => A.loc w _ (fun _ _ => rfl) (h.all A hA)⟩
theorem Sat.alloc {w0 : World} {B : Nat} {H : List HA} {w : World} (h : Sat w0 B H w) (o : Obj) : Sat w0 B (HA.blk w.heap.size o :: H) (w.alloc o) := by
  have hsz : (w.alloc o).heap.size = w.heap.size + 1 := by simp
  refine ⟨h.below.alloc h.base o, by rw [hsz]; have := h.base; omega, ?_, ?_, ?_⟩
  · rw [fps_cons]
    refine List.nodup_append.2 ⟨by simp [HA.blk], h.nodup, fun g hg g' hg' e => ?_⟩
    simp only [HA.blk, List.mem_singleton] at hg
    have := (h.lo g' hg').2
    omega
  · intro g hg
    rw [fps_cons] at hg
    rcases List.mem_append.1 hg with hg | hg
    · simp only [HA.blk, List.mem_singleton] at hg
      subst hg
      exact ⟨h.base, by rw [hsz]; omega⟩
    · have := h.lo g hg; exact ⟨this.1, by rw [hsz]; omega⟩
  · intro X hX
    rcases List.mem_cons.1 hX with rfl | hX
    · exact heap_alloc_new w o
    · refine X.loc w _ (fun g hg => ?_) (h.all X hX)
      exact Below.heap_alloc w o g (h.lo g (List.mem_flatMap.2 ⟨X, hX, hg⟩)).2
theorem Sat.join {w0 : World} {B : Nat} {H H' : List HA} {w w' : World} (h : Sat w0 B H w) (h' : Sat w w.heap.size H' w') : Sat w0 B (H' ++ H) w' := by
  refine ⟨h.below.trans (h'.below.mono h.base), Nat.le_trans h.base h'.base, ?_, ?_, ?_⟩
  · rw [fps_append]
    refine List.nodup_append.2 ⟨h'.nodup, h.nodup, fun g hg g' hg' e => ?_⟩
    have := (h'.lo g hg).1
    have := (h.lo g' hg').2
    omega
  · intro g hg
    rw [fps_append] at hg
    rcases List.mem_append.1 hg with hg | hg
    · have := h'.lo g hg; have := h.base; omega
    · have := h.lo g hg; have := h'.base; omega
  · intro X hX
    rcases List.mem_append.1 hX with hX | hX
    · exact h'.all X hX
    · refine X.loc w _ (fun g hg => ?_) (h.all X hX)
      exact h'.below.block g (h.lo g (List.mem_flatMap.2 ⟨X, hX, hg⟩)).2
end Go.Proofs.YthcbjbkheodejaaGreat.Sl
namespace Go.Proofs.YthcbjbkheodejaaGreat.Sl
open Go Go.RowKit
def F0 (r : Option Nat) : Fence := { fn := fun _ => True, depth := none, alive := false, round := r }
structure TI where
  u : TypeDesc
  size : Nat
  bytes : Nat
  zero : Value
structure TyOk (P : Program) (t : Nat) (ti : TI) : Prop where
  u : P.underlying t = some ti.u
  i : (P.info? t).map (fun i => (i.zero, i.size, i.bytes)) = some (some ti.zero, ti.size, ti.bytes)
structure TyTab (P : Program) where
  f : Nat → Option TI
  ok : ∀ t ti, f t = some ti → TyOk P t ti
structure Cx where
  P : Program
  T : TyTab P
  r : Option Nat
  n : Nat
  D : List Deferred
  w0 : World
  B : Nat
abbrev Qt := Exit → Act → World → Prop
def At (C : Cx) (E : Env) (H : List HA) (a : Act) (w : World) : Prop := Fits C.n C.D E a ∧ Sat C.w0 C.B H w
def wps (C : Cx) : List Code → Qt → Act → World → Prop
  | [], Q => Q .normal
  | c :: cs, Q => c.wpIn (F0 C.r) 0 C.P (Exit.then (wps C cs Q) Q)
def ES (C : Cx) (cs : List Code) (Q : Qt) (E : Env) (H : List HA) : Prop := ∀ a w, At C E H a w → wps C cs Q a w
def PX (C : Cx) (Q : Qt) (e : Exit) (E : Env) (H : List HA) : Prop := ∀ a w, At C E H a w → Q e a w
def EL (C : Cx) (all : Array Oper) (ops : List Oper) (Q : Qt) (E : Env) (H : List HA) : Prop := ∀ a w, At C E H a w → wpListIn (F0 C.r) 0 C.P all Q ops a w
section control
variable {C : Cx} {cs : List Code} {Q : Qt} {E E' : Env} {H H' : List HA} {id : Nat}
theorem At.sub {a : Act} {w : World} (h : At C E H a w) (he : Has E E') (hh : Ent H H') : At C E' H' a w := ⟨h.1.has he, h.2.ent hh⟩
theorem ES.sub (he : Has E E') (hh : Ent H H') (k : ES C cs Q E' H') : ES C cs Q E H := fun a w h => k a w (h.sub he hh)
theorem EL.sub {all : Array Oper} {ops : List Oper} (he : Has E E') (hh : Ent H H') (k : EL C all ops Q E' H') : EL C all ops Q E H := fun a w h => k a w (h.sub he hh)
theorem ES.perm (hh : H.Perm H') (k : ES C cs Q E H') : ES C cs Q E H := fun a w h => k a w ⟨h.1, h.2.perm hh⟩
theorem ES.nil (k : PX C Q .normal E H) : ES C [] Q E H := k
theorem ES.skip (k : ES C cs Q E H) : ES C (.skip :: cs) Q E H := fun a w h => wpIn_skip (k a w h)
theorem ES.label {l : Nat} (k : ES C cs Q E H) : ES C (.label l :: cs) Q E H := fun a w h => wpIn_label (k a w h)
theorem ES.seq {x y : Code} (k : ES C (x :: y :: cs) Q E H) : ES C (.seq x y :: cs) Q E H := by
  intro a w h
  refine wpIn_seq (wpIn_mono (k a w h) ?_)
  intro e a w h
  cases e <;> exact h
theorem ES.ret (k : PX C Q .ret E H) : ES C (.ret :: cs) Q E H := fun a w h => wpIn_ret (k a w h)
theorem ES.exit (k : PX C Q (.exit id) E H) : ES C (.exit id :: cs) Q E H := fun a w h => wpIn_exit (k a w h)
theorem ES.block {c : Code} (k : ES C [c] (Exit.inBlock id (Exit.then (wps C cs Q) Q)) E H) : ES C (.block id c :: cs) Q E H := by
  intro a w h
  refine wpIn_block (wpIn_mono (k a w h) ?_)
  intro e a w h
  cases e <;> exact h
theorem ES.cond {c : Operand} {x y : Code} {t : Bool} (hc : E.ev c = some (.bool t)) (ht : t = true → ES C (x :: cs) Q E H) (hf : t = false → ES C (y :: cs) Q E H) : ES C (.cond c x y :: cs) Q E H :=
  fun a w h => wpIn_cond_split (h.1.ev hc) (fun e => ht e a w h) (fun e => hf e a w h)
theorem ES.condT {c : Operand} {x y : Code} (hc : E.ev c = some (.bool true)) (ht : ES C (x :: cs) Q E H) : ES C (.cond c x y :: cs) Q E H :=
  ES.cond hc (fun _ => ht) (fun e => by cases e)
theorem ES.condF {c : Operand} {x y : Code} (hc : E.ev c = some (.bool false)) (hf : ES C (y :: cs) Q E H) : ES C (.cond c x y :: cs) Q E H :=
  ES.cond hc (fun e => by cases e) (fun _ => hf)
theorem ES.condD {c : Operand} {x y : Code} {p : Prop} [Decidable p] (hc : E.ev c = some (.bool (decide p))) (ht : p → ES C (x :: cs) Q E H) (hf : ¬ p → ES C (y :: cs) Q E H) : ES C (.cond c x y :: cs) Q E H :=
  ES.cond hc (fun e => ht (of_decide_eq_true e)) (fun e => hf (of_decide_eq_false e))
theorem ES.condN {c : Operand} {x y : Code} {p : Prop} [Decidable p] (hc : E.ev c = some (.bool (!decide p))) (ht : ¬ p → ES C (x :: cs) Q E H) (hf : p → ES C (y :: cs) Q E H) : ES C (.cond c x y :: cs) Q E H :=
  ES.cond hc (fun e => ht (by simpa using e)) (fun e => hf (by simpa using e))
theorem ES.condK {c : Operand} {x y : Code} {t : Bool} (b : Bool) (hc : E.ev c = some (.bool t)) (hb : t = b) (h : ES C ((bif b then x else y) :: cs) Q E H) : ES C (.cond c x y :: cs) Q E H := by
  subst hb
  refine ES.cond hc (fun e => ?_) (fun e => ?_) <;> (rw [e] at h; exact h)
def LoopK {σ : Type} (C : Cx) (I : σ → Prop) (Ei : σ → Env) (Hi : σ → List HA) (μ : σ → Nat) (s : σ) : Act → World → Prop := fun a w => ∃ s', I s' ∧ μ s' < μ s ∧ At C (Ei s') (Hi s') a w
theorem least_of {σ : Type} (p : σ → Prop) (μ : σ → Nat) (h : ∃ s, p s) : ∃ s, p s ∧ ∀ s', p s' → μ s ≤ μ s' := by
  obtain ⟨s, hs⟩ := h
  have key : ∀ n s, μ s = n → p s → ∃ s, p s ∧ ∀ s', p s' → μ s ≤ μ s' := by
    intro n
    induction n using Nat.strongRecOn with
    | _ n ih =>
      intro s hn hs
      by_cases hx : ∃ s', p s' ∧ μ s' < n
      · obtain ⟨s', hp, hl⟩ := hx
        exact ih _ hl s' rfl hp
      · exact ⟨s, hs, fun s' hs' => by rw [hn]; exact Nat.le_of_not_lt fun hl => hx ⟨s', hs', hl⟩⟩
  exact key _ s rfl hs
theorem ES.loop {σ : Type} {body : Code} (I : σ → Prop) (Ei : σ → Env) (Hi : σ → List HA) (μ : σ → Nat) (s0 : σ) (h0 : I s0) (he : Has E (Ei s0)) (hh : Ent H (Hi s0))
    (round : ∀ s, I s → ES C [body] (Exit.then (LoopK C I Ei Hi μ s) (Exit.then (wps C cs Q) Q)) (Ei s) (Hi s)) : ES C (.loop body :: cs) Q E H := by
  intro a w h
  let p : Act → World → σ → Prop := fun a w s => I s ∧ At C (Ei s) (Hi s) a w
  let m : Act → World → Nat := fun a w => open Classical in if hx : ∃ s, p a w s then μ (Classical.choose (least_of (p a w) μ hx)) else 0
  refine wpIn_loop (fun a w => ∃ s, p a w s) m ⟨s0, h0, h.sub he hh⟩ ?_
  rintro a w hx
  obtain ⟨hp, hmin⟩ := Classical.choose_spec (least_of (p a w) μ hx)
  have hm : m a w = μ (Classical.choose (least_of (p a w) μ hx)) := by simp only [m]; rw [dif_pos hx]
  refine wpIn_mono (round _ hp.1 a w hp.2) ?_
  intro e a' w' hq
  cases e with
  | normal =>
    obtain ⟨s', hI, hlt, hat⟩ := hq
    have hx' : ∃ s, p a' w' s := ⟨s', hI, hat⟩
    refine ⟨hx', ?_⟩
    have hm' : m a' w' = μ (Classical.choose (least_of (p a' w') μ hx')) := by simp only [m]; rw [dif_pos hx']
    have := (Classical.choose_spec (least_of (p a' w') μ hx')).2 s' ⟨hI, hat⟩
    rw [hm, hm']
    omega
  | _ => exact hq
theorem PX.then_n {e : Exit} (k : ES C cs Q E H) : PX C (Exit.then (wps C cs Q) Q) .normal E H := k
theorem PX.then_x {K : Act → World → Prop} (k : PX C Q (.exit id) E H) : PX C (Exit.then K Q) (.exit id) E H := k
theorem PX.then_r {K : Act → World → Prop} (k : PX C Q .ret E H) : PX C (Exit.then K Q) .ret E H := k
theorem PX.hit (k : PX C Q .normal E H) : PX C (Exit.inBlock id Q) (.exit id) E H := fun a w h => by simpa [Exit.inBlock] using k a w h
theorem PX.miss {id' : Nat} (hne : Nat.beq id' id = false) (k : PX C Q (.exit id') E H) : PX C (Exit.inBlock id Q) (.exit id') E H := fun a w h => by
  have : id' ≠ id := fun e => by subst e; simp at hne
  simpa [Exit.inBlock, this] using k a w h
theorem PX.block_n (k : PX C Q .normal E H) : PX C (Exit.inBlock id Q) .normal E H := k
theorem PX.block_r (k : PX C Q .ret E H) : PX C (Exit.inBlock id Q) .ret E H := k
theorem PX.loop {σ : Type} {I : σ → Prop} {Ei : σ → Env} {Hi : σ → List HA} {μ : σ → Nat} {s : σ} (s' : σ) (hI : I s') (hl : μ s' < μ s) (he : Has E (Ei s')) (hh : Ent H (Hi s')) :
    PX C (Exit.then (LoopK C I Ei Hi μ s) Q) .normal E H := fun a w h => ⟨s', hI, hl, h.sub he hh⟩
theorem PX.lx {σ : Type} {I : σ → Prop} {Ei : σ → Env} {Hi : σ → List HA} {μ : σ → Nat} {s : σ} (s' : σ) (hI : I s') (hl : μ s' < μ s) (he : Has E (Ei s')) (hh : Ent H (Hi s') := by exact .i (by repeat constructor)) : PX C (Exit.then (LoopK C I Ei Hi μ s) Q) .normal E H := PX.loop s' hI hl he hh
theorem PX.ly {σ : Type} {I : σ → Prop} {Ei : σ → Env} {Hi : σ → List HA} {μ : σ → Nat} {s : σ} (s' : σ) (hI : I s') (hl : μ s' < μ s) (he : Has E (Ei s') := by repeat first | exact trivial | refine ⟨rfl, ?_⟩) (hh : Ent H (Hi s') := by exact .i (by repeat constructor)) : PX C (Exit.then (LoopK C I Ei Hi μ s) Q) .normal E H := PX.loop s' hI hl he hh
theorem PX.any {e : Exit} (k : ∀ a w, At C E H a w → Q e a w) : PX C Q e E H := k
theorem ES.region {i : Nat} {ops : Array Oper} (k : EL C ops ops.toList (Exit.then (wps C cs Q) Q) E H) : ES C (.region i ops false :: cs) Q E H :=
  fun a w h => wpIn_region_list (k a w h)
theorem EL.nil {all : Array Oper} (k : ES C cs Q E H) : EL C all [] (Exit.then (wps C cs Q) Q) E H := k
def CutK (C : Cx) (E : Env) (H : List HA) : Qt := fun e a w => e = .normal ∧ At C E H a w
end control
section ops
variable {C : Cx} {all : Array Oper} {ops : List Oper} {Q : Qt} {E : Env} {H : List HA}
def guardOk (all : Array Oper) (E : Env) (g : Option (Nat × Bool)) : Option Bool :=
  match g with
  | none => some true
  | some (j, want) =>
    match (all[j]?).bind (·.dst) with
    | some d => match E.get d with
      | some (.bool b) => some (b == want)
      | some (.tuple _) => some false
      | _ => none
    | none => none
theorem guardOk_wanted {o : Oper} {b : Bool} (h : guardOk all E o.guard = some b) {n : Nat} {D : List Deferred} {a : Act} (hf : Fits n D E a) : Region.wanted o (yielded all a.tmps) = b := by
  unfold guardOk at h
  unfold Region.wanted
  split at h
  · rename_i hg; rw [hg]; simpa using h
  · rename_i j want hg
    rw [hg]
    split at h
    · rename_i d hd
      split at h
      · rename_i v hv
        have := hf.get d _ hv
        simp only [yielded, hd, Option.bind_some, this]
        simpa using h
      · rename_i v hv
        have := hf.get d _ hv
        simp only [yielded, hd, Option.bind_some, this]
        simpa using h
      · cases h
    · cases h
theorem sem_plain {r : Option Nat} {o : Oper} {ρ : Operand → Value} (h : ∀ c, o.op ≠ .defer c) : o.semAt (F0 r).round ρ = execOp ρ o := Oper.semAt_plain (F0 r) ρ o h
theorem EL.val {o : Oper} {d : Nat} (v : Value) (hg : guardOk all E o.guard = some true) (hd : o.dst = some d) (hdn : Nat.blt d C.n = true) (hop : ∀ c, o.op ≠ .defer c)
    (h : ∀ a w, At C E H a w → (execOp a.eval o).run C.P w = .ok (.value v) w)
    (k : EL C all ops Q ((d, v) :: E) H) : EL C all (o :: ops) Q E H := by
  intro a w ha
  simp only [wpListIn, guardOk_wanted hg ha.1, if_true]
  refine ⟨fun _ _ => trivial, ?_⟩
  rw [sem_plain hop, h a w ha]
  simp only [Oper.uponIn, hd]
  exact k _ _ ⟨ha.1.put (by simpa using hdn) v, ha.2⟩
theorem EL.unit {o : Oper} {H' : List HA} (hg : guardOk all E o.guard = some true) (hd : o.dst = none) (hop : ∀ c, o.op ≠ .defer c)
    (h : ∀ a w, At C E H a w → ∃ w', (execOp a.eval o).run C.P w = .ok .skip w' ∧ Sat C.w0 C.B H' w')
    (k : EL C all ops Q E H') : EL C all (o :: ops) Q E H := by
  intro a w ha
  obtain ⟨w', hr, hs⟩ := h a w ha
  simp only [wpListIn, guardOk_wanted hg ha.1, if_true]
  refine ⟨fun _ _ => trivial, ?_⟩
  rw [sem_plain hop, hr]
  simp only [Oper.uponIn, hd]
  exact k _ _ ⟨ha.1, hs⟩
theorem EL.pass {o : Oper} {d : Nat} (hg : guardOk all E o.guard = some false) (hd : o.dst = some d) (hdn : Nat.blt d C.n = true) (k : EL C all ops Q ((d, undef) :: E) H) : EL C all (o :: ops) Q E H := by
  intro a w ha
  simp only [wpListIn, guardOk_wanted hg ha.1, hd]
  exact ⟨fun _ _ => trivial, k _ _ ⟨ha.1.put (by simpa using hdn) _, ha.2⟩⟩
theorem EL.ps {o : Oper} {d : Nat} (k : EL C all ops Q ((d, undef) :: E) H) (hg : guardOk all E o.guard = some false := by exact rfl) (hd : o.dst = some d := by exact rfl) (hdn : Nat.blt d C.n = true := by exact rfl) : EL C all (o :: ops) Q E H := EL.pass hg hd hdn k
theorem EL.splitB {d : Nat} {b : Bool} (hv : E.get d = some (.bool b)) (ht : b = true → EL C all ops Q ((d, .bool true) :: E) H) (hf : b = false → EL C all ops Q ((d, .bool false) :: E) H) : EL C all ops Q E H := by
  cases b
  · intro a w ha
    refine hf rfl a w ⟨⟨ha.1.dfr, ha.1.size, fun d' v' h' => ?_⟩, ha.2⟩
    rw [Env.get_cons] at h'
    by_cases e : d = d'
    · subst e; rw [if_pos rfl] at h'; rw [← Option.some.inj h', ha.1.get _ _ hv]
    · rw [if_neg e] at h'; exact ha.1.get d' v' h'
  · intro a w ha
    refine ht rfl a w ⟨⟨ha.1.dfr, ha.1.size, fun d' v' h' => ?_⟩, ha.2⟩
    rw [Env.get_cons] at h'
    by_cases e : d = d'
    · subst e; rw [if_pos rfl] at h'; rw [← Option.some.inj h', ha.1.get _ _ hv]
    · rw [if_neg e] at h'; exact ha.1.get d' v' h'
theorem EL.splitD {d : Nat} {p : Prop} [Decidable p] (hv : E.get d = some (.bool (decide p))) (ht : p → EL C all ops Q ((d, .bool true) :: E) H) (hf : ¬ p → EL C all ops Q ((d, .bool false) :: E) H) : EL C all ops Q E H :=
  EL.splitB hv (fun e => ht (of_decide_eq_true e)) (fun e => hf (of_decide_eq_false e))
theorem EL.splitN {d : Nat} {p : Prop} [Decidable p] (hv : E.get d = some (.bool (!decide p))) (ht : ¬ p → EL C all ops Q ((d, .bool true) :: E) H) (hf : p → EL C all ops Q ((d, .bool false) :: E) H) : EL C all ops Q E H :=
  EL.splitB hv (fun e => ht (by simpa using e)) (fun e => hf (by simpa using e))
theorem EL.rew {d : Nat} {v v' : Value} (hv : E.get d = some v) (e : v = v') (k : EL C all ops Q ((d, v') :: E) H) : EL C all ops Q E H := by
  subst e
  intro a w ha
  refine k a w ⟨⟨ha.1.dfr, ha.1.size, fun d' v' h' => ?_⟩, ha.2⟩
  rw [Env.get_cons] at h'
  by_cases e : d = d'
  · subst e; rw [if_pos rfl] at h'; rw [← Option.some.inj h', ha.1.get _ _ hv]
  · rw [if_neg e] at h'; exact ha.1.get d' v' h'
end ops
mutual
inductive CS : Bool → (C : Cx) → Env → List HA → List Code → Qt → Prop
  | seq {b : Bool} {C : Cx} {E : Env} {H : List HA} {Q : Qt} {cs : List Code} {x y : Code} (k : CS b C E H (x :: y :: cs) Q) : CS b C E H (.seq x y :: cs) Q
  | skip {b : Bool} {C : Cx} {E : Env} {H : List HA} {Q : Qt} {cs : List Code} (k : CS b C E H cs Q) : CS b C E H (.skip :: cs) Q
  | region {C : Cx} {E : Env} {H : List HA} {Q : Qt} {cs : List Code} {i : Nat} {ops : Array Oper} (k : CE true C E H ops ops.toList (Exit.then (wps C cs Q) Q)) : CS true C E H (.region i ops false :: cs) Q
  | block {b : Bool} {C : Cx} {E : Env} {H : List HA} {Q : Qt} {cs : List Code} {id : Nat} {c : Code} (k : CS b C E H [c] (Exit.inBlock id (Exit.then (wps C cs Q) Q))) : CS b C E H (.block id c :: cs) Q
  | nil {b : Bool} {C : Cx} {E : Env} {H : List HA} {Q : Qt} (k : CP b C E H Q .normal) : CS b C E H [] Q
  | exit {b : Bool} {C : Cx} {E : Env} {H : List HA} {Q : Qt} {cs : List Code} {id : Nat} (k : CP b C E H Q (.exit id)) : CS b C E H (.exit id :: cs) Q
  | ret {b : Bool} {C : Cx} {E : Env} {H : List HA} {Q : Qt} {cs : List Code} (k : CP b C E H Q .ret) : CS b C E H (.ret :: cs) Q
  | l {b : Bool} {C : Cx} {E : Env} {H : List HA} {Q : Qt} {cs : List Code} (k : ES C cs Q E H) : CS b C E H cs Q
inductive CE : Bool → (C : Cx) → Env → List HA → Array Oper → List Oper → Qt → Prop
  | nil {b : Bool} {C : Cx} {E : Env} {H : List HA} {Q : Qt} {cs : List Code} {all : Array Oper} (k : CS b C E H cs Q) : CE b C E H all [] (Exit.then (wps C cs Q) Q)
  | l {b : Bool} {C : Cx} {E : Env} {H : List HA} {Q : Qt} {all : Array Oper} {ops : List Oper} (k : EL C all ops Q E H) : CE b C E H all ops Q
inductive CP : Bool → (C : Cx) → Env → List HA → Qt → Exit → Prop
  | hit {b : Bool} {C : Cx} {E : Env} {H : List HA} {Q : Qt} {id : Nat} (k : CP b C E H Q .normal) : CP b C E H (Exit.inBlock id Q) (.exit id)
  | miss {b : Bool} {C : Cx} {E : Env} {H : List HA} {Q : Qt} {id id' : Nat} (hne : Nat.beq id' id = false) (k : CP b C E H Q (.exit id')) : CP b C E H (Exit.inBlock id Q) (.exit id')
  | then_x {b : Bool} {C : Cx} {E : Env} {H : List HA} {Q : Qt} {K : Act → World → Prop} {id : Nat} (k : CP b C E H Q (.exit id)) : CP b C E H (Exit.then K Q) (.exit id)
  | then_r {b : Bool} {C : Cx} {E : Env} {H : List HA} {Q : Qt} {K : Act → World → Prop} (k : CP b C E H Q .ret) : CP b C E H (Exit.then K Q) .ret
  | block_n {b : Bool} {C : Cx} {E : Env} {H : List HA} {Q : Qt} {id : Nat} (k : CP b C E H Q .normal) : CP b C E H (Exit.inBlock id Q) .normal
  | block_r {b : Bool} {C : Cx} {E : Env} {H : List HA} {Q : Qt} {id : Nat} (k : CP b C E H Q .ret) : CP b C E H (Exit.inBlock id Q) .ret
  | then_n {b : Bool} {C : Cx} {E : Env} {H : List HA} {Q : Qt} {cs : List Code} (k : CS b C E H cs Q) : CP b C E H (Exit.then (wps C cs Q) Q) .normal
  | l {b : Bool} {C : Cx} {E : Env} {H : List HA} {Q : Qt} {e : Exit} (k : PX C Q e E H) : CP b C E H Q e
end
mutual
theorem CS.go : ∀ {b : Bool} {C : Cx} {E : Env} {H : List HA} {cs : List Code} {Q : Qt}, CS b C E H cs Q → ES C cs Q E H
  | _, _, _, _, _, _, .seq k => ES.seq k.go
  | _, _, _, _, _, _, .skip k => ES.skip k.go
  | _, _, _, _, _, _, .region k => ES.region k.go
  | _, _, _, _, _, _, .block k => ES.block k.go
  | _, _, _, _, _, _, .nil k => ES.nil k.go
  | _, _, _, _, _, _, .exit k => ES.exit k.go
  | _, _, _, _, _, _, .ret k => ES.ret k.go
  | _, _, _, _, _, _, .l k => k
theorem CE.go : ∀ {b : Bool} {C : Cx} {E : Env} {H : List HA} {all : Array Oper} {ops : List Oper} {Q : Qt}, CE b C E H all ops Q → EL C all ops Q E H
  | _, _, _, _, _, _, _, .nil k => EL.nil k.go
  | _, _, _, _, _, _, _, .l k => k
theorem CP.go : ∀ {b : Bool} {C : Cx} {E : Env} {H : List HA} {Q : Qt} {e : Exit}, CP b C E H Q e → PX C Q e E H
  | _, _, _, _, _, _, .hit k => PX.hit k.go
  | _, _, _, _, _, _, .miss hne k => PX.miss hne k.go
  | _, _, _, _, _, _, .then_x k => PX.then_x k.go
  | _, _, _, _, _, _, .then_r k => PX.then_r k.go
  | _, _, _, _, _, _, .block_n k => PX.block_n k.go
  | _, _, _, _, _, _, .block_r k => PX.block_r k.go
  | _, _, _, _, _, _, .then_n k => PX.then_n (e := .normal) k.go
  | _, _, _, _, _, _, .l k => k
end
section search
variable {C : Cx} {cs : List Code} {Q : Qt} {E : Env} {H : List HA} {all : Array Oper} {ops : List Oper} {e : Exit}
theorem ES.go (h : CS true C E H cs Q) : ES C cs Q E H := h.go
theorem EL.go (h : CE true C E H all ops Q) : EL C all ops Q E H := h.go
theorem PX.go (h : CP true C E H Q e) : PX C Q e E H := h.go
theorem ES.g0 (h : CS false C E H cs Q) : ES C cs Q E H := h.go
theorem EL.g0 (h : CE false C E H all ops Q) : EL C all ops Q E H := h.go
theorem PX.g0 (h : CP false C E H Q e) : PX C Q e E H := h.go
end search
inductive EntI : List HA → List HA → Prop
  | nil (H : List HA) : EntI H []
  | refl (H : List HA) : EntI H H
  | cons {H : List HA} {A : HA} {R T : List HA} (p : Pick H A R) (t : EntI R T) : EntI H (A :: T)
  | drop {H T : List HA} {A : HA} (h : EntI H T) : EntI (A :: H) T
theorem Ent.i {H T : List HA} (h : EntI H T) : Ent H T := by
  induction h with
  | nil H => exact .nil H
  | refl H => exact .refl H
  | cons p t ih => exact .cons p ih
  | drop h ih => exact ih.drop
end Go.Proofs.YthcbjbkheodejaaGreat.Sl
namespace Go.Proofs.YthcbjbkheodejaaGreat.Sl
open Go Go.RowKit
abbrev Sv (l : List UInt8) : Value := .string ⟨l.toArray⟩
abbrev Iv (n : Int) : Value := .int .i64 n
abbrev Uv (b : UInt8) : Value := .int .u8 (b.toNat : Int)
abbrev Pv (g off : Nat) : Value := .pointer (some ⟨g, off, none⟩)
def TI.agg (ti : TI) : Bool := match ti.u with | .struct _ | .array _ _ => true | _ => false
theorem TyOk.info {P : Program} {t : Nat} {ti : TI} (h : TyOk P t ti) : ∃ i, P.info? t = some i ∧ i.zero = some ti.zero ∧ i.size = ti.size ∧ i.bytes = ti.bytes := by
  obtain ⟨i, hi, hz⟩ := Option.map_eq_some_iff.1 h.i
  simp only [Prod.mk.injEq] at hz
  exact ⟨i, hi, hz⟩
theorem TyOk.runInfo {P : Program} {t : Nat} {ti : TI} (h : TyOk P t ti) (w : World) : (sizeOf t).run P w = .ok ti.size w ∧ (zeroValue t).run P w = .ok ti.zero w ∧ (underlying t).run P w = .ok ti.u w ∧ (isAgg t).run P w = .ok ti.agg w := by
  obtain ⟨i, hi, hz, hs, hb⟩ := h.info
  refine ⟨by simp [sizeOf, typeInfo, hi, hs, Result.andThen], by simp [zeroValue, typeInfo, hi, hz, Result.andThen], run_underlying h.u w, ?_⟩
  simp only [isAgg, Sem.run_bind, run_underlying h.u, Result.andThen, TI.agg]
  cases ti.u <;> rfl
section pure_ops
variable {C : Cx} {all : Array Oper} {ops : List Oper} {Q : Qt} {E : Env} {H : List HA} {d ty : Nat} {pos : String} {af : Array Edge} {g : Option (Nat × Bool)} {x y z : Operand} {v u : Value}
theorem EL.move (hg : guardOk all E g = some true) (hx : E.ev x = some v) (hd : Nat.blt d C.n = true) (k : EL C all ops Q ((d, v) :: E) H) : EL C all (⟨some d, .move x, ty, pos, af, g⟩ :: ops) Q E H :=
  EL.val v hg rfl hd (by simp) (fun a w ha => by simp [execOp, ha.1.ev hx]) k
theorem EL.mv (k : EL C all ops Q ((d, v) :: E) H) (hg : guardOk all E g = some true := by exact rfl) (hx : E.ev x = some v := by exact rfl) (hd : Nat.blt d C.n = true := by exact rfl) : EL C all (⟨some d, .move x, ty, pos, af, g⟩ :: ops) Q E H := EL.move hg hx hd k
theorem EL.assign (hg : guardOk all E g = some true) (hx : E.ev x = some v) (hd : Nat.blt d C.n = true) (k : EL C all ops Q ((d, v) :: E) H) : EL C all (⟨some d, .assign x, ty, pos, af, g⟩ :: ops) Q E H :=
  EL.val v hg rfl hd (by simp) (fun a w ha => by simp [execOp, ha.1.ev hx]) k
theorem EL.as_ (k : EL C all ops Q ((d, v) :: E) H) (hg : guardOk all E g = some true := by exact rfl) (hx : E.ev x = some v := by exact rfl) (hd : Nat.blt d C.n = true := by exact rfl) : EL C all (⟨some d, .assign x, ty, pos, af, g⟩ :: ops) Q E H := EL.assign hg hx hd k
theorem EL.pickT {c : Operand} (hg : guardOk all E g = some true) (hc : E.ev c = some (.bool true)) (hx : E.ev x = some v) (hd : Nat.blt d C.n = true) (k : EL C all ops Q ((d, v) :: E) H) : EL C all (⟨some d, .pick c x y, ty, pos, af, g⟩ :: ops) Q E H :=
  EL.val v hg rfl hd (by simp) (fun a w ha => by simp [execOp, ha.1.ev hx, ha.1.ev hc, asBool, Result.andThen]) k
theorem EL.pt {c : Operand} (k : EL C all ops Q ((d, v) :: E) H) (hg : guardOk all E g = some true := by exact rfl) (hc : E.ev c = some (.bool true) := by exact rfl) (hx : E.ev x = some v := by exact rfl) (hd : Nat.blt d C.n = true := by exact rfl) : EL C all (⟨some d, .pick c x y, ty, pos, af, g⟩ :: ops) Q E H := EL.pickT hg hc hx hd k
theorem EL.pickF {c : Operand} (hg : guardOk all E g = some true) (hc : E.ev c = some (.bool false)) (hx : E.ev y = some v) (hd : Nat.blt d C.n = true) (k : EL C all ops Q ((d, v) :: E) H) : EL C all (⟨some d, .pick c x y, ty, pos, af, g⟩ :: ops) Q E H :=
  EL.val v hg rfl hd (by simp) (fun a w ha => by simp [execOp, ha.1.ev hx, ha.1.ev hc, asBool, Result.andThen]) k
theorem EL.pf {c : Operand} (k : EL C all ops Q ((d, v) :: E) H) (hg : guardOk all E g = some true := by exact rfl) (hc : E.ev c = some (.bool false) := by exact rfl) (hx : E.ev y = some v := by exact rfl) (hd : Nat.blt d C.n = true := by exact rfl) : EL C all (⟨some d, .pick c x y, ty, pos, af, g⟩ :: ops) Q E H := EL.pickF hg hc hx hd k
theorem EL.extract {vs : Array Value} {i : Nat} (hg : guardOk all E g = some true) (hx : E.ev x = some (.tuple vs)) (hi : vs[i]? = some v) (hd : Nat.blt d C.n = true) (k : EL C all ops Q ((d, v) :: E) H) : EL C all (⟨some d, .extract x i, ty, pos, af, g⟩ :: ops) Q E H :=
  EL.val v hg rfl hd (by simp) (fun a w ha => by simp [execOp, ha.1.ev hx, Instr.extract, hi, Result.andThen]) k
theorem EL.ex {vs : Array Value} {i : Nat} (k : EL C all ops Q ((d, v) :: E) H) (hg : guardOk all E g = some true := by exact rfl) (hx : E.ev x = some (.tuple vs) := by exact rfl) (hi : vs[i]? = some v := by exact rfl) (hd : Nat.blt d C.n = true := by exact rfl) : EL C all (⟨some d, .extract x i, ty, pos, af, g⟩ :: ops) Q E H := EL.extract hg hx hi hd k
theorem EL.not {b : Bool} (hg : guardOk all E g = some true) (hx : E.ev x = some (.bool b)) (hd : Nat.blt d C.n = true) (k : EL C all ops Q ((d, .bool (!b)) :: E) H) : EL C all (⟨some d, .unOp .not ty x, ty, pos, af, g⟩ :: ops) Q E H :=
  EL.val _ hg rfl hd (by simp) (fun a w ha => by simp [execOp, ha.1.ev hx, Op.unary, Result.andThen]) k
theorem EL.nt {b : Bool} (k : EL C all ops Q ((d, .bool (!b)) :: E) H) (hg : guardOk all E g = some true := by exact rfl) (hx : E.ev x = some (.bool b) := by exact rfl) (hd : Nat.blt d C.n = true := by exact rfl) : EL C all (⟨some d, .unOp .not ty x, ty, pos, af, g⟩ :: ops) Q E H := EL.not hg hx hd k
variable {kd : IntKind} {m n : Int} {t t' : Nat}
theorem EL.add (r : Int) (hg : guardOk all E g = some true) (hx : E.ev x = some (.int kd m)) (hy : E.ev y = some (.int kd n)) (hd : Nat.blt d C.n = true) (hr : kd.wrap (m + n) = r) (k : EL C all ops Q ((d, .int kd r) :: E) H) : EL C all (⟨some d, .binOp .add t x y t', ty, pos, af, g⟩ :: ops) Q E H :=
  EL.val _ hg rfl hd (by simp) (fun a w ha => by subst hr; simp [execOp, ha.1.ev hx, ha.1.ev hy, eqGuard, binOp, Op.intArith, Result.andThen]) k
theorem EL.sub_ (r : Int) (hg : guardOk all E g = some true) (hx : E.ev x = some (.int kd m)) (hy : E.ev y = some (.int kd n)) (hd : Nat.blt d C.n = true) (hr : kd.wrap (m - n) = r) (k : EL C all ops Q ((d, .int kd r) :: E) H) : EL C all (⟨some d, .binOp .sub t x y t', ty, pos, af, g⟩ :: ops) Q E H :=
  EL.val _ hg rfl hd (by simp) (fun a w ha => by subst hr; simp [execOp, ha.1.ev hx, ha.1.ev hy, eqGuard, binOp, Op.intArith, Result.andThen]) k
theorem EL.mul (r : Int) (hg : guardOk all E g = some true) (hx : E.ev x = some (.int kd m)) (hy : E.ev y = some (.int kd n)) (hd : Nat.blt d C.n = true) (hr : kd.wrap (m * n) = r) (k : EL C all ops Q ((d, .int kd r) :: E) H) : EL C all (⟨some d, .binOp .mul t x y t', ty, pos, af, g⟩ :: ops) Q E H :=
  EL.val _ hg rfl hd (by simp) (fun a w ha => by subst hr; simp [execOp, ha.1.ev hx, ha.1.ev hy, eqGuard, binOp, Op.intArith, Result.andThen]) k
theorem EL.lss (hg : guardOk all E g = some true) (hx : E.ev x = some (.int kd m)) (hy : E.ev y = some (.int kd n)) (hd : Nat.blt d C.n = true) (k : EL C all ops Q ((d, .bool (decide (m < n))) :: E) H) : EL C all (⟨some d, .binOp .lss t x y t', ty, pos, af, g⟩ :: ops) Q E H :=
  EL.val _ hg rfl hd (by simp) (fun a w ha => by simp [execOp, ha.1.ev hx, ha.1.ev hy, eqGuard, binOp, Op.intCmp, Result.andThen]) k
theorem EL.ls (k : EL C all ops Q ((d, .bool (decide (m < n))) :: E) H) (hg : guardOk all E g = some true := by exact rfl) (hx : E.ev x = some (.int kd m) := by exact rfl) (hy : E.ev y = some (.int kd n) := by exact rfl) (hd : Nat.blt d C.n = true := by exact rfl) : EL C all (⟨some d, .binOp .lss t x y t', ty, pos, af, g⟩ :: ops) Q E H := EL.lss hg hx hy hd k
theorem EL.leq (hg : guardOk all E g = some true) (hx : E.ev x = some (.int kd m)) (hy : E.ev y = some (.int kd n)) (hd : Nat.blt d C.n = true) (k : EL C all ops Q ((d, .bool (decide (m ≤ n))) :: E) H) : EL C all (⟨some d, .binOp .leq t x y t', ty, pos, af, g⟩ :: ops) Q E H :=
  EL.val _ hg rfl hd (by simp) (fun a w ha => by simp [execOp, ha.1.ev hx, ha.1.ev hy, eqGuard, binOp, Op.intCmp, Result.andThen]) k
theorem EL.lq (k : EL C all ops Q ((d, .bool (decide (m ≤ n))) :: E) H) (hg : guardOk all E g = some true := by exact rfl) (hx : E.ev x = some (.int kd m) := by exact rfl) (hy : E.ev y = some (.int kd n) := by exact rfl) (hd : Nat.blt d C.n = true := by exact rfl) : EL C all (⟨some d, .binOp .leq t x y t', ty, pos, af, g⟩ :: ops) Q E H := EL.leq hg hx hy hd k
theorem EL.gtr (hg : guardOk all E g = some true) (hx : E.ev x = some (.int kd m)) (hy : E.ev y = some (.int kd n)) (hd : Nat.blt d C.n = true) (k : EL C all ops Q ((d, .bool (decide (n < m))) :: E) H) : EL C all (⟨some d, .binOp .gtr t x y t', ty, pos, af, g⟩ :: ops) Q E H :=
  EL.val _ hg rfl hd (by simp) (fun a w ha => by simp [execOp, ha.1.ev hx, ha.1.ev hy, eqGuard, binOp, Op.intCmp, Result.andThen]) k
theorem EL.gt_ (k : EL C all ops Q ((d, .bool (decide (n < m))) :: E) H) (hg : guardOk all E g = some true := by exact rfl) (hx : E.ev x = some (.int kd m) := by exact rfl) (hy : E.ev y = some (.int kd n) := by exact rfl) (hd : Nat.blt d C.n = true := by exact rfl) : EL C all (⟨some d, .binOp .gtr t x y t', ty, pos, af, g⟩ :: ops) Q E H := EL.gtr hg hx hy hd k
theorem EL.geq (hg : guardOk all E g = some true) (hx : E.ev x = some (.int kd m)) (hy : E.ev y = some (.int kd n)) (hd : Nat.blt d C.n = true) (k : EL C all ops Q ((d, .bool (decide (n ≤ m))) :: E) H) : EL C all (⟨some d, .binOp .geq t x y t', ty, pos, af, g⟩ :: ops) Q E H :=
  EL.val _ hg rfl hd (by simp) (fun a w ha => by simp [execOp, ha.1.ev hx, ha.1.ev hy, eqGuard, binOp, Op.intCmp, Result.andThen]) k
theorem EL.gq (k : EL C all ops Q ((d, .bool (decide (n ≤ m))) :: E) H) (hg : guardOk all E g = some true := by exact rfl) (hx : E.ev x = some (.int kd m) := by exact rfl) (hy : E.ev y = some (.int kd n) := by exact rfl) (hd : Nat.blt d C.n = true := by exact rfl) : EL C all (⟨some d, .binOp .geq t x y t', ty, pos, af, g⟩ :: ops) Q E H := EL.geq hg hx hy hd k
theorem EL.eqlI (hg : guardOk all E g = some true) (hx : E.ev x = some (.int kd m)) (hy : E.ev y = some (.int kd n)) (hd : Nat.blt d C.n = true) (k : EL C all ops Q ((d, .bool (decide (m = n))) :: E) H) : EL C all (⟨some d, .binOp .eql t x y t', ty, pos, af, g⟩ :: ops) Q E H :=
  EL.val _ hg rfl hd (by simp) (fun a w ha => by simp [execOp, ha.1.ev hx, ha.1.ev hy, eqGuard, binOp, Op.intCmp, Result.andThen]; rfl) k
theorem EL.ei (k : EL C all ops Q ((d, .bool (decide (m = n))) :: E) H) (hg : guardOk all E g = some true := by exact rfl) (hx : E.ev x = some (.int kd m) := by exact rfl) (hy : E.ev y = some (.int kd n) := by exact rfl) (hd : Nat.blt d C.n = true := by exact rfl) : EL C all (⟨some d, .binOp .eql t x y t', ty, pos, af, g⟩ :: ops) Q E H := EL.eqlI hg hx hy hd k
theorem EL.neqI (hg : guardOk all E g = some true) (hx : E.ev x = some (.int kd m)) (hy : E.ev y = some (.int kd n)) (hd : Nat.blt d C.n = true) (k : EL C all ops Q ((d, .bool (!decide (m = n))) :: E) H) : EL C all (⟨some d, .binOp .neq t x y t', ty, pos, af, g⟩ :: ops) Q E H :=
  EL.val _ hg rfl hd (by simp) (fun a w ha => by simp [execOp, ha.1.ev hx, ha.1.ev hy, eqGuard, binOp, Op.intCmp, Result.andThen]; rfl) k
theorem EL.ni (k : EL C all ops Q ((d, .bool (!decide (m = n))) :: E) H) (hg : guardOk all E g = some true := by exact rfl) (hx : E.ev x = some (.int kd m) := by exact rfl) (hy : E.ev y = some (.int kd n) := by exact rfl) (hd : Nat.blt d C.n = true := by exact rfl) : EL C all (⟨some d, .binOp .neq t x y t', ty, pos, af, g⟩ :: ops) Q E H := EL.neqI hg hx hy hd k
theorem EL.bits {op : BinOp} (hop : (match op with | .and | .or | .xor | .andNot => true | _ => false) = true) (r : Value) (hg : guardOk all E g = some true) (hx : E.ev x = some (.int kd m)) (hy : E.ev y = some (.int kd n)) (hd : Nat.blt d C.n = true)
    (hr : ∀ w, (Op.intBits op kd m n).run C.P w = .ok r w) (k : EL C all ops Q ((d, r) :: E) H) : EL C all (⟨some d, .binOp op t x y t', ty, pos, af, g⟩ :: ops) Q E H :=
  EL.val _ hg rfl hd (by simp) (fun a w ha => by
    cases op <;> first | (cases hop; done) | simp [execOp, ha.1.ev hx, ha.1.ev hy, eqGuard, binOp, hr, Result.andThen]) k
variable {l l' : List UInt8}
theorem size_sv (l : List UInt8) : (⟨l.toArray⟩ : ByteArray).size = l.length := rfl
theorem append_sv (l l' : List UInt8) : (⟨l.toArray⟩ : ByteArray) ++ ⟨l'.toArray⟩ = ⟨(l ++ l').toArray⟩ := by
  apply ByteArray.ext
  rw [ByteArray.data_append]
  simp
theorem get_sv (l : List UInt8) (i : Nat) (h : i < l.length) : (⟨l.toArray⟩ : ByteArray)[i]? = some (l.getD i 0) := by
  rw [ByteArray.getElem?_lt' _ _ h]
  simp [List.getD_eq_getElem?_getD, List.getElem?_eq_getElem h]
  rfl
theorem extract_sv (l : List UInt8) (a b : Nat) : (⟨l.toArray⟩ : ByteArray).extract a b = ⟨((l.drop a).take (b - a)).toArray⟩ := Lib.extract_eq _ a b
theorem beq_dec (l l' : List UInt8) : (l == l') = decide (l = l') := by
  by_cases h : l = l' <;> simp [h]
theorem EL.lenS {ti : TI} (hg : guardOk all E g = some true) (hx : E.ev x = some (Sv l)) (ht : C.T.f t = some ti) (hu : ti.u = .string) (hd : Nat.blt d C.n = true) (k : EL C all ops Q ((d, Iv (l.length : Nat)) :: E) H) : EL C all (⟨some d, .call { callee := .builtin .len, args := #[x], argTypes := #[t] }, ty, pos, af, g⟩ :: ops) Q E H :=
  EL.val _ hg rfl hd (by simp) (fun a w ha => by
    have hT := (C.T.ok t ti ht).u
    rw [hu] at hT
    simp [execOp, ha.1.ev hx, resolve, invoke, builtin, Builtin.len_, run_underlying hT, Result.andThen, goInt, size_sv]) k
theorem EL.lS {ti : TI} (k : EL C all ops Q ((d, Iv (l.length : Nat)) :: E) H) (hg : guardOk all E g = some true := by exact rfl) (hx : E.ev x = some (Sv l) := by exact rfl) (ht : C.T.f t = some ti := by exact rfl) (hu : ti.u = .string := by exact rfl) (hd : Nat.blt d C.n = true := by exact rfl) : EL C all (⟨some d, .call { callee := .builtin .len, args := #[x], argTypes := #[t] }, ty, pos, af, g⟩ :: ops) Q E H := EL.lenS hg hx ht hu hd k
theorem EL.lenL {ti : TI} {e : TypeId} {ad : Option Addr} {n c : Nat} (hg : guardOk all E g = some true) (hx : E.ev x = some (.slice ad n c)) (ht : C.T.f t = some ti) (hu : ti.u = .slice e) (hd : Nat.blt d C.n = true) (k : EL C all ops Q ((d, Iv (n : Nat)) :: E) H) : EL C all (⟨some d, .call { callee := .builtin .len, args := #[x], argTypes := #[t] }, ty, pos, af, g⟩ :: ops) Q E H :=
  EL.val _ hg rfl hd (by simp) (fun a w ha => by
    have hT := (C.T.ok t ti ht).u
    rw [hu] at hT
    simp [execOp, ha.1.ev hx, resolve, invoke, builtin, Builtin.len_, run_underlying hT, Result.andThen, goInt]) k
theorem EL.lL {ti : TI} {e : TypeId} {ad : Option Addr} {n c : Nat} (k : EL C all ops Q ((d, Iv (n : Nat)) :: E) H) (hg : guardOk all E g = some true := by exact rfl) (hx : E.ev x = some (.slice ad n c) := by exact rfl) (ht : C.T.f t = some ti := by exact rfl) (hu : ti.u = .slice e := by exact rfl) (hd : Nat.blt d C.n = true := by exact rfl) : EL C all (⟨some d, .call { callee := .builtin .len, args := #[x], argTypes := #[t] }, ty, pos, af, g⟩ :: ops) Q E H := EL.lenL hg hx ht hu hd k
theorem EL.cat (hg : guardOk all E g = some true) (hx : E.ev x = some (Sv l)) (hy : E.ev y = some (Sv l')) (hd : Nat.blt d C.n = true) (hs : l.length + l'.length ≤ 9223372036854775807) (k : EL C all ops Q ((d, Sv (l ++ l')) :: E) H) : EL C all (⟨some d, .binOp .add t x y t', ty, pos, af, g⟩ :: ops) Q E H :=
  EL.val _ hg rfl hd (by simp) (fun a w ha => by
    have h1 : ¬ (9223372036854775807 : Int) < (l.length : Int) + (l'.length : Int) := by omega
    simp [execOp, ha.1.ev hx, ha.1.ev hy, eqGuard, binOp, Op.stringOp, size_sv, append_sv, Result.andThen, h1]) k
theorem EL.eqlS (hg : guardOk all E g = some true) (hx : E.ev x = some (Sv l)) (hy : E.ev y = some (Sv l')) (hd : Nat.blt d C.n = true) (k : EL C all ops Q ((d, .bool (decide (l = l'))) :: E) H) : EL C all (⟨some d, .binOp .eql t x y t', ty, pos, af, g⟩ :: ops) Q E H :=
  EL.val _ hg rfl hd (by simp) (fun a w ha => by simp [execOp, ha.1.ev hx, ha.1.ev hy, eqGuard, binOp, Op.stringOp, Result.andThen, beq_dec]) k
theorem EL.eS (k : EL C all ops Q ((d, .bool (decide (l = l'))) :: E) H) (hg : guardOk all E g = some true := by exact rfl) (hx : E.ev x = some (Sv l) := by exact rfl) (hy : E.ev y = some (Sv l') := by exact rfl) (hd : Nat.blt d C.n = true := by exact rfl) : EL C all (⟨some d, .binOp .eql t x y t', ty, pos, af, g⟩ :: ops) Q E H := EL.eqlS hg hx hy hd k
theorem EL.neqS (hg : guardOk all E g = some true) (hx : E.ev x = some (Sv l)) (hy : E.ev y = some (Sv l')) (hd : Nat.blt d C.n = true) (k : EL C all ops Q ((d, .bool (!decide (l = l'))) :: E) H) : EL C all (⟨some d, .binOp .neq t x y t', ty, pos, af, g⟩ :: ops) Q E H :=
  EL.val _ hg rfl hd (by simp) (fun a w ha => by simp [execOp, ha.1.ev hx, ha.1.ev hy, eqGuard, binOp, Op.stringOp, Result.andThen, beq_dec]) k
theorem EL.indexS {i : Int} {ti : TI} (hg : guardOk all E g = some true) (hx : E.ev x = some (Sv l)) (hy : E.ev y = some (.int kd i)) (ht : C.T.f t = some ti) (hu : ti.u = .string) (hd : Nat.blt d C.n = true) (h0 : 0 ≤ i) (h1 : i < l.length)
    (k : EL C all ops Q ((d, Uv (l.getD i.toNat 0)) :: E) H) : EL C all (⟨some d, .index t x y, ty, pos, af, g⟩ :: ops) Q E H :=
  EL.val _ hg rfl hd (by simp) (fun a w ha => by
    have hT := (C.T.ok t ti ht).u
    have hl : i.toNat < l.length := by omega
    simp [execOp, ha.1.ev hx, ha.1.ev hy, Instr.index, asIntOf, run_underlying hT, hu, h0, get_sv l _ hl, Result.andThen]) k
theorem EL.indexSN {i : Nat} {ti : TI} (hg : guardOk all E g = some true) (hx : E.ev x = some (Sv l)) (hy : E.ev y = some (.int kd (i : Nat))) (ht : C.T.f t = some ti) (hu : ti.u = .string) (hd : Nat.blt d C.n = true) (h1 : i < l.length)
    (k : EL C all ops Q ((d, Uv (l.getD i 0)) :: E) H) : EL C all (⟨some d, .index t x y, ty, pos, af, g⟩ :: ops) Q E H :=
  EL.indexS hg hx hy ht hu hd (by omega) (by omega) k
theorem EL.iS {i : Nat} {ti : TI} (k : EL C all ops Q ((d, Uv (l.getD i 0)) :: E) H) (hg : guardOk all E g = some true := by exact rfl) (hx : E.ev x = some (Sv l) := by exact rfl) (hy : E.ev y = some (.int kd (i : Nat)) := by exact rfl) (ht : C.T.f t = some ti := by exact rfl) (hu : ti.u = .string := by exact rfl) (hd : Nat.blt d C.n = true := by exact rfl) (h1 : i < l.length := by omega) : EL C all (⟨some d, .index t x y, ty, pos, af, g⟩ :: ops) Q E H := EL.indexSN hg hx hy ht hu hd h1 k
def bnd (E : Env) (dflt : Nat) (o : Option Operand) (n : Nat) : Prop := match o with | none => n = dflt | some x => ∃ kd, E.ev x = some (.int kd (n : Int))
theorem EL.sliceS {lo hi : Option Operand} {m n : Nat} {ti : TI} (hg : guardOk all E g = some true) (hx : E.ev x = some (Sv l)) (ht : C.T.f t = some ti) (hu : ti.u = .string) (hd : Nat.blt d C.n = true)
    (hlo : bnd E 0 lo m) (hhi : bnd E l.length hi n) (h0 : m ≤ n) (h1 : n ≤ l.length)
    (k : EL C all ops Q ((d, Sv ((l.drop m).take (n - m))) :: E) H) : EL C all (⟨some d, .slice t x lo hi none, ty, pos, af, g⟩ :: ops) Q E H :=
  EL.val _ hg rfl hd (by simp) (fun a w ha => by
    have hT := (C.T.ok t ti ht).u
    cases lo with
    | none =>
      cases hi with
      | none =>
        obtain rfl : m = 0 := hlo
        obtain rfl : n = l.length := hhi
        simp [execOp, ha.1.ev hx, Instr.sliceAt, Instr.slice, Instr.sliceBounds, run_underlying hT, hu, Result.andThen, extract_sv, size_sv]
      | some hi =>
        obtain rfl : m = 0 := hlo
        obtain ⟨kd, hhi⟩ := hhi
        simp [execOp, ha.1.ev hx, ha.1.ev hhi, Instr.sliceAt, Instr.slice, Instr.sliceBounds, Instr.sliceBound, asIntOf, run_underlying hT, hu, Result.andThen, extract_sv, size_sv, h1]
    | some lo =>
      obtain ⟨kd, hlo⟩ := hlo
      cases hi with
      | none =>
        obtain rfl : n = l.length := hhi
        simp [execOp, ha.1.ev hx, ha.1.ev hlo, Instr.sliceAt, Instr.slice, Instr.sliceBounds, Instr.sliceBound, asIntOf, run_underlying hT, hu, Result.andThen, extract_sv, size_sv, h0]
      | some hi =>
        obtain ⟨kd', hhi⟩ := hhi
        simp [execOp, ha.1.ev hx, ha.1.ev hlo, ha.1.ev hhi, Instr.sliceAt, Instr.slice, Instr.sliceBounds, Instr.sliceBound, asIntOf, run_underlying hT, hu, Result.andThen, extract_sv, size_sv, h0, h1]) k
theorem EL.convI {kd' : IntKind} {ti ts : TI} (r : Int) (hg : guardOk all E g = some true) (hx : E.ev x = some (.int kd m)) (ht : C.T.f t' = some ti) (hu : ti.u = .int kd') (hT0 : C.T.f t = some ts) (hd : Nat.blt d C.n = true) (hr : kd'.wrap m = r)
    (k : EL C all ops Q ((d, .int kd' r) :: E) H) : EL C all (⟨some d, .convert t t' x, ty, pos, af, g⟩ :: ops) Q E H :=
  EL.val _ hg rfl hd (by simp) (fun a w ha => by
    have hT := (C.T.ok t' ti ht).u
    rw [hu] at hT
    have hs := (C.T.ok t ts hT0).u
    subst hr
    simp [execOp, ha.1.ev hx, convert, run_underlying hT, run_underlying hs, Conv.intToInt, Result.andThen]) k
end pure_ops
section mem
variable {C : Cx} {all : Array Oper} {ops : List Oper} {Q : Qt} {E : Env} {H H' : List HA} {d ty : Nat} {pos : String} {af : Array Edge} {gd : Option (Nat × Bool)} {x y z : Operand} {v u : Value} {t e g off : Nat}
theorem add_zero' (g off : Nat) : (⟨g, off, none⟩ : Addr).add 0 = ⟨g, off, none⟩ := by simp [Addr.add]
theorem add_n (g off n : Nat) : (⟨g, off, none⟩ : Addr).add n = ⟨g, off + n, none⟩ := by unfold Addr.add; split <;> simp_all
theorem EL.box (hg : guardOk all E gd = some true) (hx : E.ev x = some v) (hd : Nat.blt d C.n = true) (k : ∀ g, EL C all ops Q ((d, Pv g 0) :: E) (HA.blk g (.cells v.cells e (0, 0)) :: H)) :
    EL C all (⟨some d, .box e x, ty, pos, af, gd⟩ :: ops) Q E H := by
  intro a w ha
  simp only [wpListIn, guardOk_wanted (o := ⟨some d, .box e x, ty, pos, af, gd⟩) hg ha.1, if_true]
  refine ⟨fun _ _ => trivial, ?_⟩
  rw [sem_plain (by simp)]
  have hr : (execOp a.eval ⟨some d, .box e x, ty, pos, af, gd⟩).run C.P w = .ok (.value (Pv w.heap.size 0)) (w.alloc (.cells v.cells e)) := by
    simp [execOp, ha.1.ev hx, Instr.box, newVar, newRow, Result.andThen]
  rw [hr]
  exact k w.heap.size _ _ ⟨ha.1.put (by simpa using hd) _, ha.2.alloc _⟩
theorem EL.bx (k : ∀ g, EL C all ops Q ((d, Pv g 0) :: E) (HA.blk g (.cells v.cells e (0, 0)) :: H)) (hg : guardOk all E gd = some true := by exact rfl) (hx : E.ev x = some v := by exact rfl) (hd : Nat.blt d C.n = true := by exact rfl) : EL C all (⟨some d, .box e x, ty, pos, af, gd⟩ :: ops) Q E H := EL.box hg hx hd k
theorem EL.alloc {ti : TI} (hg : guardOk all E gd = some true) (ht : C.T.f e = some ti) (hd : Nat.blt d C.n = true) (k : ∀ g, EL C all ops Q ((d, Pv g 0) :: E) (HA.blk g (.cells ti.zero.cells e (0, 0)) :: H)) :
    EL C all (⟨some d, .alloc e, ty, pos, af, gd⟩ :: ops) Q E H := by
  intro a w ha
  simp only [wpListIn, guardOk_wanted (o := ⟨some d, .alloc e, ty, pos, af, gd⟩) hg ha.1, if_true]
  refine ⟨fun _ _ => trivial, ?_⟩
  rw [sem_plain (by simp)]
  have hT := ((C.T.ok e ti ht).runInfo w).2.1
  have hr : (execOp a.eval ⟨some d, .alloc e, ty, pos, af, gd⟩).run C.P w = .ok (.value (Pv w.heap.size 0)) (w.alloc (.cells ti.zero.cells e)) := by
    simp [execOp, Instr.alloc, newVar, newRow, hT, Result.andThen]
  rw [hr]
  exact k w.heap.size _ _ ⟨ha.1.put (by simpa using hd) _, ha.2.alloc _⟩
theorem EL.al {ti : TI} (k : ∀ g, EL C all ops Q ((d, Pv g 0) :: E) (HA.blk g (.cells ti.zero.cells e (0, 0)) :: H)) (hg : guardOk all E gd = some true := by exact rfl) (ht : C.T.f e = some ti := by exact rfl) (hd : Nat.blt d C.n = true := by exact rfl) : EL C all (⟨some d, .alloc e, ty, pos, af, gd⟩ :: ops) Q E H := EL.alloc hg ht hd k
theorem EL.nilCheck {ad : Addr} (hg : guardOk all E gd = some true) (hx : E.ev x = some (.pointer (some ad))) (hd : Nat.blt d C.n = true) (k : EL C all ops Q ((d, .pointer (some ad)) :: E) H) : EL C all (⟨some d, .nilCheck x, ty, pos, af, gd⟩ :: ops) Q E H :=
  EL.val _ hg rfl hd (by simp) (fun a w ha => by simp [execOp, ha.1.ev hx]) k
theorem EL.nc {ad : Addr} (k : EL C all ops Q ((d, .pointer (some ad)) :: E) H) (hg : guardOk all E gd = some true := by exact rfl) (hx : E.ev x = some (.pointer (some ad)) := by exact rfl) (hd : Nat.blt d C.n = true := by exact rfl) : EL C all (⟨some d, .nilCheck x, ty, pos, af, gd⟩ :: ops) Q E H := EL.nilCheck hg hx hd k
theorem EL.fieldAddr {ti tf : TI} {fs : Array Field} {i : Nat} {f : Field} (hg : guardOk all E gd = some true) (hx : E.ev x = some (Pv g off)) (ht : C.T.f t = some ti) (hu : ti.u = .struct fs) (hf : fs[i]? = some f)
    (htf : C.T.f f.type = some tf) (hsz : Nat.beq tf.size 0 = false) (hd : Nat.blt d C.n = true) (k : EL C all ops Q ((d, Pv g (off + f.offset)) :: E) H) : EL C all (⟨some d, .fieldAddr t x i, ty, pos, af, gd⟩ :: ops) Q E H :=
  EL.val _ hg rfl hd (by simp) (fun a w ha => by
    have hT := (C.T.ok t ti ht).u
    rw [hu] at hT
    have hs := ((C.T.ok _ tf htf).runInfo w).1
    have hz : tf.size ≠ 0 := fun e => by rw [e] at hsz; cases hsz
    simp [execOp, ha.1.ev hx, Instr.fieldAt, run_underlying hT, hf, Instr.sureAddr, fieldPlace, hs, hz, Result.andThen, add_n]) k
theorem EL.fa {ti tf : TI} {fs : Array Field} {i : Nat} {f : Field} (k : EL C all ops Q ((d, Pv g (off + f.offset)) :: E) H) (hg : guardOk all E gd = some true := by exact rfl) (hx : E.ev x = some (Pv g off) := by exact rfl) (ht : C.T.f t = some ti := by exact rfl) (hu : ti.u = .struct fs := by exact rfl) (hf : fs[i]? = some f := by exact rfl) (htf : C.T.f f.type = some tf := by exact rfl) (hsz : Nat.beq tf.size 0 = false := by exact rfl) (hd : Nat.blt d C.n = true := by exact rfl) : EL C all (⟨some d, .fieldAddr t x i, ty, pos, af, gd⟩ :: ops) Q E H := EL.fieldAddr hg hx ht hu hf htf hsz hd k
theorem EL.indexAddrA {ti te : TI} {len : Nat} {el : TypeId} {kd : IntKind} {i : Nat} (hg : guardOk all E gd = some true) (hx : E.ev x = some (Pv g off)) (hy : E.ev y = some (.int kd (i : Nat))) (ht : C.T.f t = some ti) (hu : ti.u = .array len el)
    (hte : C.T.f el = some te) (hd : Nat.blt d C.n = true) (hi : i < len) (k : EL C all ops Q ((d, Pv g (off + i * te.size)) :: E) H) : EL C all (⟨some d, .indexAddr t x y, ty, pos, af, gd⟩ :: ops) Q E H :=
  EL.val _ hg rfl hd (by simp) (fun a w ha => by
    have hT := (C.T.ok t ti ht).u
    rw [hu] at hT
    have hs := ((C.T.ok _ te hte).runInfo w).1
    have h1 : (0 : Int) ≤ (i : Int) ∧ (i : Int) < (len : Int) := by omega
    simp [execOp, ha.1.ev hx, ha.1.ev hy, Instr.indexAt, run_underlying hT, asIntOf, Instr.sureAddr, hs, hi, Result.andThen, add_n]) k
theorem EL.indexAddrL {ti te : TI} {len cap : Nat} {el : TypeId} {kd : IntKind} {i : Nat} (hg : guardOk all E gd = some true) (hx : E.ev x = some (.slice (some ⟨g, off, none⟩) len cap)) (hy : E.ev y = some (.int kd (i : Nat))) (ht : C.T.f t = some ti) (hu : ti.u = .slice el)
    (hte : C.T.f el = some te) (hd : Nat.blt d C.n = true) (hi : i < len) (k : EL C all ops Q ((d, Pv g (off + i * te.size)) :: E) H) : EL C all (⟨some d, .indexAddr t x y, ty, pos, af, gd⟩ :: ops) Q E H :=
  EL.val _ hg rfl hd (by simp) (fun a w ha => by
    have hT := (C.T.ok t ti ht).u
    rw [hu] at hT
    have hs := ((C.T.ok _ te hte).runInfo w).1
    simp [execOp, ha.1.ev hx, ha.1.ev hy, Instr.indexAt, run_underlying hT, asIntOf, Instr.sureAddr, hs, hi, Result.andThen, add_n]) k
theorem EL.load {ti : TI} {ad : Addr} (hg : guardOk all E gd = some true) (hx : E.ev x = some (.pointer (some ad))) (ht : C.T.f t = some ti) (hu : ti.agg = false) (hd : Nat.blt d C.n = true) (hc : ∀ w, Sat C.w0 C.B H w → w.cell? ad = some v)
    (k : EL C all ops Q ((d, v) :: E) H) : EL C all (⟨some d, .load t x, ty, pos, af, gd⟩ :: ops) Q E H :=
  EL.val _ hg rfl hd (by simp) (fun a w ha => by
    have hT := ((C.T.ok t ti ht).runInfo w).2.2.2
    simp [execOp, ha.1.ev hx, Instr.loadAt, Instr.sureAddr, loadVar, hT, hu, hc w ha.2, Result.andThen]) k
theorem blk_cell {w : World} {cs : Array Value} {fr : Nat × Nat} (h : w.heap[g]? = some (.cells cs e fr)) (i : Nat) : w.cell? ⟨g, i, none⟩ = cs[i]? := by simp [World.cell?, h]
theorem EL.loadB {ti : TI} {cs : Array Value} {fr : Nat × Nat} (hg : guardOk all E gd = some true) (hx : E.ev x = some (Pv g off)) (ht : C.T.f t = some ti) (hu : ti.agg = false) (hd : Nat.blt d C.n = true) (hm : Mem H (HA.blk g (.cells cs e fr))) (hc : cs[off]? = some v)
    (k : EL C all ops Q ((d, v) :: E) H) : EL C all (⟨some d, .load t x, ty, pos, af, gd⟩ :: ops) Q E H :=
  EL.load hg hx ht hu hd (fun w hs => (blk_cell (hs.all _ hm.mem) off).trans hc) k
theorem EL.lb {ti : TI} {cs : Array Value} {fr : Nat × Nat} (k : EL C all ops Q ((d, v) :: E) H) (hg : guardOk all E gd = some true := by exact rfl) (hx : E.ev x = some (Pv g off) := by exact rfl) (ht : C.T.f t = some ti := by exact rfl) (hu : ti.agg = false := by exact rfl) (hd : Nat.blt d C.n = true := by exact rfl) (hm : Mem H (HA.blk g (.cells cs e fr)) := by repeat constructor) (hc : cs[off]? = some v := by exact rfl) : EL C all (⟨some d, .load t x, ty, pos, af, gd⟩ :: ops) Q E H := EL.loadB hg hx ht hu hd hm hc k
theorem row_cell {w : World} {len cap sz n : Nat} {cs : List Value} (h : w.ownsRow 0 e sz (.slice (some ⟨g, 0, none⟩) len cap) n cs) (i : Nat) (u : Value) (hc : cs[i]? = some u) : w.cell? ⟨g, i, none⟩ = some u := by
  have := h.cells (g := g) rfl i u hc
  rwa [add_n, Nat.zero_add] at this
theorem EL.loadR {ti : TI} {len cap sz n : Nat} {cs : List Value} (hg : guardOk all E gd = some true) (hx : E.ev x = some (Pv g off)) (ht : C.T.f t = some ti) (hu : ti.agg = false) (hd : Nat.blt d C.n = true) (hm : Mem H (HA.row (.slice (some ⟨g, 0, none⟩) len cap) e sz n cs)) (hc : cs[off]? = some v)
    (k : EL C all ops Q ((d, v) :: E) H) : EL C all (⟨some d, .load t x, ty, pos, af, gd⟩ :: ops) Q E H :=
  EL.load hg hx ht hu hd (fun w hs => row_cell (hs.all _ hm.mem) off v hc) k
theorem EL.loadAgg {ti : TI} {ad : Addr} {cs : List Value} (hg : guardOk all E gd = some true) (hx : E.ev x = some (.pointer (some ad))) (ht : C.T.f t = some ti) (hu : ti.agg = true) (hl : ti.size = cs.length) (hd : Nat.blt d C.n = true)
    (hc : ∀ w, Sat C.w0 C.B H w → ∀ j u, cs[j]? = some u → w.cell? (ad.add j) = some u) (k : EL C all ops Q ((d, .agg cs.toArray) :: E) H) : EL C all (⟨some d, .load t x, ty, pos, af, gd⟩ :: ops) Q E H :=
  EL.val _ hg rfl hd (by simp) (fun a w ha => by
    have hT := ((C.T.ok t ti ht).runInfo w)
    have hl' := run_loadCells_list (P := C.P) w ad cs (hc w ha.2)
    simp [execOp, ha.1.ev hx, Instr.loadAt, Instr.sureAddr, loadVar, hT.2.2.2, hu, hT.1, hl, hl', Result.andThen]) k
theorem EL.loadAggB {ti : TI} {cs : Array Value} {fr : Nat × Nat} (hg : guardOk all E gd = some true) (hx : E.ev x = some (Pv g 0)) (ht : C.T.f t = some ti) (hu : ti.agg = true) (hd : Nat.blt d C.n = true) (hm : Mem H (HA.blk g (.cells cs e fr))) (hl : ti.size = cs.size)
    (k : EL C all ops Q ((d, .agg cs) :: E) H) : EL C all (⟨some d, .load t x, ty, pos, af, gd⟩ :: ops) Q E H :=
  EL.loadAgg (cs := cs.toList) hg hx ht hu (by simpa using hl) hd (fun w hs j u hj => by rw [add_n, Nat.zero_add, blk_cell (hs.all _ hm.mem)]; simpa using hj) (by simpa using k)
theorem EL.lg {ti : TI} {cs : Array Value} {fr : Nat × Nat} (k : EL C all ops Q ((d, .agg cs) :: E) H) (hg : guardOk all E gd = some true := by exact rfl) (hx : E.ev x = some (Pv g 0) := by exact rfl) (ht : C.T.f t = some ti := by exact rfl) (hu : ti.agg = true := by exact rfl) (hd : Nat.blt d C.n = true := by exact rfl) (hm : Mem H (HA.blk g (.cells cs e fr)) := by repeat constructor) (hl : ti.size = cs.size := by exact rfl) : EL C all (⟨some d, .load t x, ty, pos, af, gd⟩ :: ops) Q E H := EL.loadAggB hg hx ht hu hd hm hl k
theorem run_store1 {w : World} {cs : Array Value} (h : w.heap[g]? = some (.cells cs e (0, 0))) (P : Program) (hv : v.oneCell' = true) (hi : off < cs.size) : (store ⟨g, off, none⟩ v).run P w = .ok () (w.setCell ⟨g, off, none⟩ v) := by
  rw [run_store P w _ v _ hv]
  rw [blk_cell h off, Array.getElem?_eq_getElem hi]
  have : w.frozen? ⟨g, off, none⟩ = false := by simp [World.frozen?, h]
  simp [this]
theorem cells_one (hv : v.oneCell' = true) : v.cells = #[v] := by cases v <;> simp_all [Value.cells, Value.oneCell']
theorem setCell_blk {w : World} {cs : Array Value} (h : w.heap[g]? = some (.cells cs e (0, 0))) (u : Value) : (w.setCell ⟨g, off, none⟩ u).heap[g]? = some (.cells (cs.setIfInBounds off u) e (0, 0)) := by
  have hlt := (Array.getElem?_eq_some_iff.1 h).1
  simp [World.setCell, Array.getElem?_modify, h]
theorem Sat.setBlk {w0 : World} {B : Nat} {w : World} {cs : Array Value} (hs : Sat w0 B H w) (p : PickSet H (HA.blk g (.cells cs e (0, 0))) (HA.blk g (.cells (cs.setIfInBounds off u) e (0, 0))) H') : Sat w0 B H' (w.setCell ⟨g, off, none⟩ u) := by
  obtain ⟨R, p1, p2⟩ := p.split
  have h1 := hs.perm p1
  have hb : w.heap[g]? = some (.cells cs e (0, 0)) := h1.head
  refine Sat.perm (H := HA.blk g (.cells (cs.setIfInBounds off u) e (0, 0)) :: R) ?_ p2.symm
  refine h1.step rfl rfl rfl (by simp [World.setCell]) (fun k _ hk => Below.heap_setCell w _ u k (by simpa [HA.blk] using hk)) (setCell_blk hb u) (fun g' hg' => ?_) (by simp [HA.blk])
  simp only [HA.blk, List.mem_singleton] at hg'
  subst hg'
  exact ⟨by simpa [World.setCell] using (Array.getElem?_eq_some_iff.1 hb).1, .inl (by simp [HA.blk])⟩
theorem EL.storeB {ti : TI} {cs : Array Value} (hg : guardOk all E gd = some true) (hx : E.ev x = some (Pv g off)) (hy : E.ev y = some u) (hu : u.oneCell' = true) (ht : C.T.f t = some ti) (hsz : Nat.beq ti.size 1 = true)
    (p : PickSet H (HA.blk g (.cells cs e (0, 0))) (HA.blk g (.cells (cs.setIfInBounds off u) e (0, 0))) H') (hi : off < cs.size) (k : EL C all ops Q E H') : EL C all (⟨none, .store t x y, ty, pos, af, gd⟩ :: ops) Q E H :=
  EL.unit hg rfl (by simp) (fun a w ha => by
    have hT := ((C.T.ok t ti ht).runInfo w)
    have hb : w.heap[g]? = some (.cells cs e (0, 0)) := by
      obtain ⟨R, p1, p2⟩ := p.split
      exact (ha.2.perm p1).head
    have hz : ti.size = 1 := Nat.eq_of_beq_eq_true hsz
    refine ⟨_, ?_, ha.2.setBlk p⟩
    simp [execOp, ha.1.ev hx, ha.1.ev hy, Instr.storeAt, Instr.sureAddr, storeVar, hT.1, hz, cells_one hu, storeCells, add_zero', run_store1 hb C.P hu hi, Result.andThen]) k
theorem EL.sb {ti : TI} {cs : Array Value} (k : EL C all ops Q E H') (hg : guardOk all E gd = some true := by exact rfl) (hx : E.ev x = some (Pv g off) := by exact rfl) (hy : E.ev y = some u := by exact rfl) (hu : u.oneCell' = true := by exact rfl) (ht : C.T.f t = some ti := by exact rfl) (hsz : Nat.beq ti.size 1 = true := by exact rfl) (p : PickSet H (HA.blk g (.cells cs e (0, 0))) (HA.blk g (.cells (cs.setIfInBounds off u) e (0, 0))) H' := by repeat constructor) (hi : off < cs.size := by first | decide | exact Nat.le_of_ble_eq_true rfl | simp) : EL C all (⟨none, .store t x y, ty, pos, af, gd⟩ :: ops) Q E H := EL.storeB hg hx hy hu ht hsz p hi k
end mem
end Go.Proofs.YthcbjbkheodejaaGreat.Sl
namespace Go.Proofs.YthcbjbkheodejaaGreat.Sl
open Go Go.RowKit
section rows
variable {C : Cx} {all : Array Oper} {ops : List Oper} {Q : Qt} {E : Env} {H H' : List HA} {d ty : Nat} {pos : String} {af : Array Edge} {gd : Option (Nat × Bool)} {x y z : Operand} {v u : Value} {t e g off : Nat}
theorem ownsRow_store {w : World} {len cap n : Nat} {cs : List Value} {sz : Nat} (h : w.ownsRow 0 e sz (.slice (some ⟨g, 0, none⟩) len cap) n cs) (i : Nat) (u : Value) :
    (w.setCell ⟨g, i, none⟩ u).ownsRow 0 e sz (.slice (some ⟨g, 0, none⟩) len cap) n (cs.set i u) := by
  obtain ⟨hl, h2⟩ := h
  refine ⟨by simpa using hl, ?_⟩
  rcases h2 with ⟨h', _⟩ | ⟨g', cap', cur, hv, hb, hh, r1, r2, r3, r4⟩
  · cases h'
  · have hv' := hv
    simp only [Value.slice.injEq, Option.some.injEq, Addr.mk.injEq] at hv'
    obtain ⟨⟨rfl, _⟩, rfl, rfl⟩ := hv'
    refine .inr ⟨g, cap, cur.setIfInBounds i u, rfl, hb, setCell_blk hh u, r1, r2, by simpa using r3, ?_⟩
    subst r4
    simp [List.take_set]
theorem Sat.setRow {w0 : World} {B : Nat} {w : World} {len cap n sz : Nat} {cs : List Value} (hs : Sat w0 B H w) (p : PickSet H (HA.row (.slice (some ⟨g, 0, none⟩) len cap) e sz n cs) (HA.row (.slice (some ⟨g, 0, none⟩) len cap) e sz n (cs.set off u)) H') : Sat w0 B H' (w.setCell ⟨g, off, none⟩ u) := by
  obtain ⟨R, p1, p2⟩ := p.split
  have h1 := hs.perm p1
  have hb : w.ownsRow 0 e sz (.slice (some ⟨g, 0, none⟩) len cap) n cs := h1.head
  have hfp : (HA.row (.slice (some ⟨g, 0, none⟩) len cap) e sz n cs).fp = [g] := by simp [HA.row, Value.ownBlock]
  have hfp' : (HA.row (.slice (some ⟨g, 0, none⟩) len cap) e sz n (cs.set off u)).fp = [g] := by simp [HA.row, Value.ownBlock]
  have hlt : g < w.heap.size := (h1.lo g (by rw [fps_cons, hfp]; simp)).2
  refine Sat.perm (H := HA.row (.slice (some ⟨g, 0, none⟩) len cap) e sz n (cs.set off u) :: R) ?_ p2.symm
  refine h1.step rfl rfl rfl (by simp [World.setCell]) (fun k _ hk => Below.heap_setCell w _ u k (by rw [hfp] at hk; simpa using hk)) (ownsRow_store hb off u) (fun g' hg' => ?_) (by rw [hfp']; simp)
  rw [hfp'] at hg'
  simp only [List.mem_singleton] at hg'
  subst hg'
  exact ⟨by simpa [World.setCell] using hlt, .inl (by rw [hfp]; simp)⟩
theorem row_cur {w : World} {len cap n sz : Nat} {cs : List Value} (h : w.ownsRow 0 e sz (.slice (some ⟨g, 0, none⟩) len cap) n cs) : ∃ cur : Array Value, w.heap[g]? = some (.cells cur e (0, 0)) ∧ cs.length ≤ cur.size := by
  rcases h.2 with ⟨h', _⟩ | ⟨g', cap', cur, hv, hb, hh, r1, r2, r3, r4⟩
  · cases h'
  · simp only [Value.slice.injEq, Option.some.injEq, Addr.mk.injEq] at hv
    obtain ⟨⟨rfl, _⟩, rfl, rfl⟩ := hv
    refine ⟨cur, hh, ?_⟩
    subst r4
    simp [List.length_take]; omega
theorem EL.storeR {ti : TI} {len cap n sz : Nat} {cs : List Value} (hg : guardOk all E gd = some true) (hx : E.ev x = some (Pv g off)) (hy : E.ev y = some u) (hu : u.oneCell' = true) (ht : C.T.f t = some ti) (hsz : Nat.beq ti.size 1 = true)
    (p : PickSet H (HA.row (.slice (some ⟨g, 0, none⟩) len cap) e sz n cs) (HA.row (.slice (some ⟨g, 0, none⟩) len cap) e sz n (cs.set off u)) H') (hi : off < cs.length) (k : EL C all ops Q E H') : EL C all (⟨none, .store t x y, ty, pos, af, gd⟩ :: ops) Q E H :=
  EL.unit hg rfl (by simp) (fun a w ha => by
    have hT := ((C.T.ok t ti ht).runInfo w)
    obtain ⟨cur, hb, hl⟩ : ∃ cur : Array Value, w.heap[g]? = some (.cells cur e (0, 0)) ∧ cs.length ≤ cur.size := by
      obtain ⟨R, p1, p2⟩ := p.split
      exact row_cur (ha.2.perm p1).head
    have hz : ti.size = 1 := Nat.eq_of_beq_eq_true hsz
    have hi2 : off < cur.size := by omega
    refine ⟨_, ?_, ha.2.setRow p⟩
    simp [execOp, ha.1.ev hx, ha.1.ev hy, Instr.storeAt, Instr.sureAddr, storeVar, hT.1, hz, cells_one hu, storeCells, add_zero', run_store1 hb C.P hu hi2, Result.andThen]) k
def HA.emp : HA := ⟨[], fun _ => True, fun _ _ _ _ => trivial⟩
theorem Sat.emp {w0 : World} {B : Nat} {w : World} (hs : Sat w0 B H w) : Sat w0 B (HA.emp :: H) w :=
  ⟨hs.below, hs.base, by rw [fps_cons]; simpa [HA.emp] using hs.nodup, fun g hg => hs.lo g (by rw [fps_cons] at hg; simpa [HA.emp] using hg), fun A hA => by rcases List.mem_cons.1 hA with rfl | h; exact trivial; exact hs.all A h⟩
theorem Sat.fresh {w0 : World} {B : Nat} {w w' : World} (hs : Sat w0 B H w) (hg : w.grownBy w' none) (A : HA) (hA : A.holds w') (hf : ∀ g ∈ A.fp, w.heap.size ≤ g ∧ g < w'.heap.size) (hn : A.fp.Nodup) : Sat w0 B (A :: H) w' :=
  hs.emp.step hg.os hg.tape hg.output hg.size (fun k hk _ => hg.block k hk (by simp)) hA (fun g h => ⟨(hf g h).2, .inr (hf g h).1⟩) hn
theorem Sat.quiet {w0 : World} {B : Nat} {w w' : World} (hs : Sat w0 B H w) (hg : w.grownBy w' none) : Sat w0 B H w' := (hs.fresh hg HA.emp trivial (by simp [HA.emp]) (by simp [HA.emp])).tail
theorem Sat.turned {w0 : World} {B : Nat} {w w' : World} {A A' : HA} {R : List HA} {row : Option Nat} (hs : Sat w0 B (A :: R) w) (hg : w.grownBy w' row) (hr : ∀ k, row = some k → k ∈ A.fp) (hA : A'.holds w') (hf : ∀ g ∈ A'.fp, g < w'.heap.size ∧ (g ∈ A.fp ∨ w.heap.size ≤ g)) (hn : A'.fp.Nodup) : Sat w0 B (A' :: R) w' :=
  hs.step hg.os hg.tape hg.output hg.size (fun k hk hm => hg.block k hk (fun e => hm (hr k e.symm))) hA hf hn
theorem Sat.nilRow {w0 : World} {B : Nat} {w : World} (hs : Sat w0 B H w) (e sz : Nat) : Sat w0 B (HA.row (.slice none 0 0) e sz 0 [] :: H) w :=
  ⟨hs.below, hs.base, by rw [fps_cons]; simpa [HA.row, Value.ownBlock] using hs.nodup, fun g hg => hs.lo g (by rw [fps_cons] at hg; simpa [HA.row, Value.ownBlock] using hg), fun A hA => by rcases List.mem_cons.1 hA with rfl | h; exact World.ownsRow_nil _ _ _ _; exact hs.all A h⟩
theorem EL.nilRow (e sz : Nat) (k : EL C all ops Q E (HA.row (.slice none 0 0) e sz 0 [] :: H)) : EL C all ops Q E H := fun a w h => k a w ⟨h.1, h.2.nilRow e sz⟩
theorem ES.nilRow {cs : List Code} (e sz : Nat) (k : ES C cs Q E (HA.row (.slice none 0 0) e sz 0 [] :: H)) : ES C cs Q E H := fun a w h => k a w ⟨h.1, h.2.nilRow e sz⟩
theorem row_form {w : World} {e sz len cap n : Nat} {ad : Option Addr} {cs : List Value} (h : w.ownsRow 0 e sz (.slice ad len cap) n cs) : len = n ∧ n ≤ cap ∧ cap ≤ maxLen ∧ cs.length = n * sz ∧ (0 < n → ∃ g, ad = some ⟨g, 0, none⟩) := by
  obtain ⟨hl, h2⟩ := h
  rcases h2 with ⟨h', rfl⟩ | ⟨g', cap', cur, hv, hb, hh, r1, r2, r3, r4⟩
  · simp only [Value.slice.injEq] at h'
    obtain ⟨rfl, rfl, rfl⟩ := h'
    exact ⟨rfl, Nat.le_refl _, Nat.zero_le _, hl, fun h => absurd h (by omega)⟩
  · simp only [Value.slice.injEq] at hv
    obtain ⟨rfl, rfl, rfl⟩ := hv
    exact ⟨rfl, r1, r2, hl, fun _ => ⟨_, rfl⟩⟩
theorem ES.rowForm {cds : List Code} {len cap n sz : Nat} {ad : Option Addr} {cs : List Value} (hm : Mem H (HA.row (.slice ad len cap) e sz n cs)) (k : len = n ∧ n ≤ cap ∧ cap ≤ maxLen ∧ cs.length = n * sz ∧ (0 < n → ∃ g, ad = some ⟨g, 0, none⟩) → ES C cds Q E H) : ES C cds Q E H :=
  fun a w h => k (row_form (h.2.all _ hm.mem)) a w h
theorem EL.makeSlice {ti te : TI} {el : TypeId} {n : Nat} (hg : guardOk all E gd = some true) (hx : E.ev x = some (Iv (n : Nat))) (ht : C.T.f t = some ti) (hu : ti.u = .slice el) (hte : C.T.f el = some te) (hd : Nat.blt d C.n = true)
    (hn : te.bytes * n ≤ 281474976710656) (hm : n ≤ maxLen)
    (k : ∀ g, EL C all ops Q ((d, .slice (some ⟨g, 0, none⟩) n n) :: E) (HA.row (.slice (some ⟨g, 0, none⟩) n n) el te.size n (madeCells te.zero.cells (n * te.size)).toList :: H)) :
    EL C all (⟨some d, .makeSlice t x x, ty, pos, af, gd⟩ :: ops) Q E H := by
  intro a w ha
  simp only [wpListIn, guardOk_wanted (o := ⟨some d, .makeSlice t x x, ty, pos, af, gd⟩) hg ha.1, if_true]
  refine ⟨fun _ _ => trivial, ?_⟩
  rw [sem_plain (by simp)]
  have hT := (C.T.ok t ti ht).u
  rw [hu] at hT
  obtain ⟨i, hi, hz, hs, hb⟩ := (C.T.ok el te hte).info
  obtain ⟨w', hr, hown, hgr⟩ := run_make_full (P := C.P) w 0 t el i te.zero te.size hT hi hz hs .i64 .i64 n (by rw [hb]; exact hn) hm (by omega)
  have hlt : w.heap.size < w'.heap.size := by
    rcases hown.2 with ⟨h', _⟩ | ⟨g', cap', cur, hv, _, hh, _⟩
    · cases h'
    · simp only [Value.slice.injEq, Option.some.injEq, Addr.mk.injEq] at hv
      obtain ⟨⟨rfl, _⟩, _⟩ := hv
      exact (Array.getElem?_eq_some_iff.1 hh).1
  have hrun : (execOp a.eval ⟨some d, .makeSlice t x x, ty, pos, af, gd⟩).run C.P w = .ok (.value (.slice (some ⟨w.heap.size, 0, none⟩) n n)) w' := by
    simp [execOp, ha.1.ev hx, hr, Result.andThen]
  rw [hrun]
  exact k w.heap.size _ _ ⟨ha.1.put (by simpa using hd) _, ha.2.fresh hgr (HA.row (.slice (some ⟨w.heap.size, 0, none⟩) n n) el te.size n _) hown (by simp [HA.row, Value.ownBlock]; exact hlt) (by simp [HA.row, Value.ownBlock])⟩
theorem EL.buildSlice1 {ti te : TI} {el : TypeId} (hg : guardOk all E gd = some true) (hx : E.ev x = some u) (ht : C.T.f t = some ti) (hu : ti.u = .slice el) (hte : C.T.f el = some te) (hd : Nat.blt d C.n = true)
    (hsz : u.cells.size = te.size) (hz1 : te.zero.cells.size = te.size) (hpos : Nat.blt 0 te.size = true) (hsm : Nat.ble te.size 16777216 = true)
    (k : ∀ g, EL C all ops Q ((d, .slice (some ⟨g, 0, none⟩) 1 1) :: E) (HA.row (.slice (some ⟨g, 0, none⟩) 1 1) el te.size 1 u.cells.toList :: H)) :
    EL C all (⟨some d, .buildSlice t 1 #[(0, x)], ty, pos, af, gd⟩ :: ops) Q E H := by
  intro a w ha
  simp only [wpListIn, guardOk_wanted (o := ⟨some d, .buildSlice t 1 #[(0, x)], ty, pos, af, gd⟩) hg ha.1, if_true]
  refine ⟨fun _ _ => trivial, ?_⟩
  rw [sem_plain (by simp)]
  have hT := (C.T.ok t ti ht).u
  rw [hu] at hT
  have hI := (C.T.ok el te hte).runInfo w
  have hp : 0 < te.size := by simpa using hpos
  have hsm' : te.size ≤ 16777216 := Nat.le_of_ble_eq_true hsm
  have hfill : Instr.fill (fun i => some (i * te.size, te.size)) ((Array.range te.size).map (te.zero.cells[· % te.zero.cells.size]!)) [(0, u)] = some u.cells := by
    simp only [Instr.fill, hsz, Nat.zero_mul, Nat.zero_add, Array.size_map, Array.size_range, ne_eq, not_true_eq_false, decide_false, Bool.false_or, Nat.lt_irrefl, gt_iff_lt, Bool.false_eq_true, if_false]
    congr 1
    have key : ∀ (l : List Value) (k : Nat) (acc : Array Value), k + l.length = acc.size → (l.zipIdx k).foldl (fun cs (p : Value × Nat) => cs.setIfInBounds p.2 p.1) acc = acc.extract 0 k ++ l.toArray := by
      intro l
      induction l with
      | nil => intro k acc h; simp only [List.length_nil, Nat.add_zero] at h; subst h; simp
      | cons c l ih =>
        intro k acc h
        simp only [List.zipIdx_cons, List.foldl_cons]
        rw [ih (k + 1) _ (by simp at h ⊢; omega)]
        apply Array.ext'
        simp only [Array.toList_append, Array.toList_extract, Array.toList_setIfInBounds, List.extract_eq_take_drop, List.drop_zero, Nat.sub_zero]
        simp only [List.length_cons] at h
        rw [List.take_succ_eq_append_getElem (by simp; omega)]
        simp [List.take_set_of_le]
    have h2 := key u.cells.toList 0 ((Array.range te.size).map (te.zero.cells[· % te.zero.cells.size]!)) (by simp [hsz])
    simp only [Array.extract_zero] at h2
    rw [← Array.foldl_toList]
    simp only [Array.toList_zipIdx]
    rw [h2]
    simp
  have hrun : (execOp a.eval ⟨some d, .buildSlice t 1 #[(0, x)], ty, pos, af, gd⟩).run C.P w = .ok (.value (.slice (some ⟨w.heap.size, 0, none⟩) 1 1)) (w.alloc (.cells u.cells el)) := by
    have hne : te.size ≠ 0 := by omega
    have hgt : ¬ 16777216 < te.size := by omega
    simp [execOp, ha.1.ev hx, Instr.buildSlice, run_underlying hT, hI.1, hI.2.1, hne, hgt, Result.andThen, newRow, hfill]
  rw [hrun]
  refine k w.heap.size _ _ ⟨ha.1.put (by simpa using hd) _, ha.2.fresh (World.grownBy_alloc w _ none) (HA.row (.slice (some ⟨w.heap.size, 0, none⟩) 1 1) el te.size 1 _) ?_ (by simp [HA.row, Value.ownBlock]) (by simp [HA.row, Value.ownBlock])⟩
  exact ⟨by simp [hsz], .inr ⟨w.heap.size, 1, u.cells, rfl, Nat.zero_le _, heap_alloc_new w _, Nat.le_refl _, by simp [maxLen], by simp [hsz], by rw [Nat.one_mul, List.take_of_length_le (by simp [hsz])]⟩⟩
theorem EL.b1 {ti te : TI} {el : TypeId} (k : ∀ g, EL C all ops Q ((d, .slice (some ⟨g, 0, none⟩) 1 1) :: E) (HA.row (.slice (some ⟨g, 0, none⟩) 1 1) el te.size 1 u.cells.toList :: H)) (hg : guardOk all E gd = some true := by exact rfl) (hx : E.ev x = some u := by exact rfl) (ht : C.T.f t = some ti := by exact rfl) (hu : ti.u = .slice el := by exact rfl) (hte : C.T.f el = some te := by exact rfl) (hd : Nat.blt d C.n = true := by exact rfl) (hsz : u.cells.size = te.size := by exact rfl) (hz1 : te.zero.cells.size = te.size := by exact rfl) (hpos : Nat.blt 0 te.size = true := by exact rfl) (hsm : Nat.ble te.size 16777216 = true := by exact rfl) : EL C all (⟨some d, .buildSlice t 1 #[(0, x)], ty, pos, af, gd⟩ :: ops) Q E H := EL.buildSlice1 hg hx ht hu hte hd hsz hz1 hpos hsm k
theorem EL.append {ti te : TI} {el : TypeId} {ad : Option Addr} {b : Addr} {n cap m c : Nat} {cs news : List Value} {R : List HA} (hg : guardOk all E gd = some true) (hx : E.ev x = some (.slice ad n cap)) (hy : E.ev y = some (.slice (some b) m c)) (ht : C.T.f t = some ti) (hu : ti.u = .slice el) (hte : C.T.f el = some te)
    (hz1 : te.zero.cells.size = te.size) (hpos : Nat.blt 0 te.size = true) (hd : Nat.blt d C.n = true) (p : Pick H (HA.row (.slice ad n cap) el te.size n cs) R) (hl : news.length = m * te.size) (hm0 : 0 < m)
    (hnews : ∀ w, Sat C.w0 C.B H w → (∀ j u, news[j]? = some u → w.cell? (b.add j) = some u)) (h1 : ∀ u ∈ news, u.oneCell' = true)
    (h63 : n + m ≤ maxLen) (hbytes : (n + m) * te.bytes ≤ 140737488355328)
    (k : ∀ g' cap', EL C all ops Q ((d, .slice (some ⟨g', 0, none⟩) (n + m) cap') :: E) (HA.row (.slice (some ⟨g', 0, none⟩) (n + m) cap') el te.size (n + m) (cs ++ news) :: R)) :
    EL C all (⟨some d, .call { callee := .builtin .append, args := #[x, y], argTypes := #[t, t] }, ty, pos, af, gd⟩ :: ops) Q E H := by
  intro a w ha
  simp only [wpListIn, guardOk_wanted (o := ⟨some d, .call { callee := .builtin .append, args := #[x, y], argTypes := #[t, t] }, ty, pos, af, gd⟩) hg ha.1, if_true]
  refine ⟨fun _ _ => trivial, ?_⟩
  rw [sem_plain (by simp)]
  have hT := (C.T.ok t ti ht).u
  rw [hu] at hT
  obtain ⟨i, hi, hz, hs, hb⟩ := (C.T.ok el te hte).info
  have hs1 := ha.2.perm p.perm
  have hown : w.ownsRow 0 el te.size (.slice ad n cap) n cs := hs1.head
  have hp : 0 < te.size := by simpa using hpos
  obtain ⟨v', w', hr, hown', hgr, hnil, hat⟩ := run_append_own_at (P := C.P) w 0 t ty el i te.zero te.size te.bytes hT hi hz hs hb hz1 hp (.slice ad n cap) n cs hown b m c news hl (hnews w ha.2) h1 h63 hbytes (by omega)
  obtain ⟨g', cap', rfl⟩ : ∃ g' cap', v' = .slice (some ⟨g', 0, none⟩) (n + m) cap' := by
    rcases hown'.2 with ⟨h', h0⟩ | ⟨g', cap', cur, hv, _⟩
    · omega
    · exact ⟨g', cap', hv⟩
  have hrun : (execOp a.eval ⟨some d, .call { callee := .builtin .append, args := #[x, y], argTypes := #[t, t] }, ty, pos, af, gd⟩).run C.P w = .ok (.value (.slice (some ⟨g', 0, none⟩) (n + m) cap')) w' := by
    simp [execOp, ha.1.ev hx, ha.1.ev hy, resolve, invoke, builtin, hr, Result.andThen]
  rw [hrun]
  have hlt : g' < w'.heap.size := by
    rcases hown'.2 with ⟨h', h0⟩ | ⟨g1, cap1, cur, hv, _, hh, _⟩
    · omega
    · simp only [Value.slice.injEq, Option.some.injEq, Addr.mk.injEq] at hv
      obtain ⟨⟨rfl, _⟩, _⟩ := hv
      exact (Array.getElem?_eq_some_iff.1 hh).1
  refine k g' cap' _ _ ⟨ha.1.put (by simpa using hd) _, ?_⟩
  refine hs1.turned hgr (fun k hk => by simp [HA.row, hk]) hown' (fun g hg => ?_) (by simp [HA.row, Value.ownBlock])
  simp only [HA.row, Value.ownBlock, Option.toList_some, List.mem_singleton] at hg
  subst hg
  refine ⟨hlt, ?_⟩
  rcases hat with hat | hat
  · left
    have hat' : Value.ownBlock (.slice ad n cap) = some g := hat.symm
    simp [HA.row, hat']
  · right
    simp only [Value.ownBlock, Option.some.injEq] at hat
    omega
theorem row_news {w0 : World} {B : Nat} {w : World} {len cap n sz : Nat} {cs : List Value} (hs : Sat w0 B H w) (hm : Mem H (HA.row (.slice (some ⟨g, 0, none⟩) len cap) e sz n cs)) : ∀ j u, cs[j]? = some u → w.cell? ((⟨g, 0, none⟩ : Addr).add j) = some u := by
  intro j u hj
  rw [add_n, Nat.zero_add]
  exact row_cell (hs.all _ hm.mem) j u hj
theorem EL.append1 {ti te : TI} {el : TypeId} {ad : Option Addr} {g1 n cap : Nat} {cs news : List Value} {R : List HA} (hg : guardOk all E gd = some true) (hx : E.ev x = some (.slice ad n cap)) (hy : E.ev y = some (.slice (some ⟨g1, 0, none⟩) 1 1)) (ht : C.T.f t = some ti) (hu : ti.u = .slice el) (hte : C.T.f el = some te)
    (hz1 : te.zero.cells.size = te.size) (hpos : Nat.blt 0 te.size = true) (hd : Nat.blt d C.n = true) (hm : Mem H (HA.row (.slice (some ⟨g1, 0, none⟩) 1 1) el te.size 1 news)) (p : Pick H (HA.row (.slice ad n cap) el te.size n cs) R) (h1 : ∀ u ∈ news, u.oneCell' = true)
    (hl : news.length = te.size) (h63 : n + 1 ≤ maxLen) (hbytes : (n + 1) * te.bytes ≤ 140737488355328)
    (k : ∀ g' cap', EL C all ops Q ((d, .slice (some ⟨g', 0, none⟩) (n + 1) cap') :: E) (HA.row (.slice (some ⟨g', 0, none⟩) (n + 1) cap') el te.size (n + 1) (cs ++ news) :: R)) :
    EL C all (⟨some d, .call { callee := .builtin .append, args := #[x, y], argTypes := #[t, t] }, ty, pos, af, gd⟩ :: ops) Q E H :=
  EL.append (m := 1) hg hx hy ht hu hte hz1 hpos hd p (by simpa using hl) (by omega) (fun w hs => row_news hs hm) h1 h63 hbytes k
theorem EL.bytesS {ti ts te : TI} {el : TypeId} {ad : Option Addr} {n cap : Nat} {bs : List UInt8} (hg : guardOk all E gd = some true) (hx : E.ev x = some (.slice ad n cap)) (ht : C.T.f t = some ti) (hu : ti.u = .slice el) (hte : C.T.f el = some te) (hue : te.u = .int .u8) {t2 : Nat} (hts : C.T.f t2 = some ts) (hus : ts.u = .string) (hd : Nat.blt d C.n = true)
    (hm : Mem H (HA.row (.slice ad n cap) el 1 n (bs.map Uv))) (k : EL C all ops Q ((d, Sv bs) :: E) H) : EL C all (⟨some d, .convert t t2 x, ty, pos, af, gd⟩ :: ops) Q E H :=
  EL.val _ hg rfl hd (by simp) (fun a w ha => by
    have hT := (C.T.ok t ti ht).u
    rw [hu] at hT
    have hE := (C.T.ok el te hte).u
    rw [hue] at hE
    have hS := (C.T.ok t2 ts hts).u
    rw [hus] at hS
    have hown := ha.2.all _ hm.mem
    obtain ⟨_, _, _, hl, hform⟩ := row_form hown
    have hln : bs.length = n := by simpa using hl
    have : (convert t t2 (.slice ad n cap)).run C.P w = .ok (Sv bs) w := by
      by_cases h0 : 0 < n
      · obtain ⟨g, rfl⟩ := hform h0
        have hc := run_convert_bytes_arg (P := C.P) w t el hT hE g 0 n cap (bs.map fun b => (b.toNat : Int)) (by simp [hln]) (fun i hi => by
          rw [Nat.zero_add]
          refine row_cell hown i _ ?_
          simp [List.getElem?_eq_getElem (show i < bs.length by omega), List.getD_eq_getElem?_getD]) t2 hS
        rw [hc]
        simp only [strOfNums, List.map_map]
        congr 3
        apply congrArg List.toArray
        conv => rhs; rw [← List.map_id bs]
        apply List.map_congr_left
        intro b _
        simp
      · have hn0 : n = 0 := by omega
        subst hn0
        obtain rfl : bs = [] := List.eq_nil_of_length_eq_zero hln
        cases ad with
        | none => exact run_convert_bytes_nil (P := C.P) w t el hT hE 0 cap t2 hS
        | some b => 
          rcases hown.2 with ⟨h', _⟩ | ⟨g', cap', cur, hv, _⟩
          · cases h'
          · simp only [Value.slice.injEq, Option.some.injEq] at hv
            obtain ⟨rfl, _, _⟩ := hv
            exact run_convert_bytes_arg (P := C.P) w t el hT hE g' 0 0 cap [] rfl (fun i hi => absurd hi (by omega)) t2 hS
    simp [execOp, ha.1.ev hx, this, Result.andThen]) k
end rows
section calls
variable {C : Cx} {all : Array Oper} {ops : List Oper} {Q : Qt} {E : Env} {H H' : List HA} {d ty : Nat} {pos : String} {af : Array Edge} {gd : Option (Nat × Bool)} {x y z : Operand} {v u : Value} {t e g off : Nat}
def Env.evl (E : Env) : List Operand → Option (List Value)
  | [] => some []
  | x :: r => match E.ev x, Env.evl E r with
    | some v, some vs => some (v :: vs)
    | _, _ => none
theorem Fits.evl {n : Nat} {D : List Deferred} {a : Act} (h : Fits n D E a) : ∀ {l : List Operand} {vs : List Value}, E.evl l = some vs → l.map a.eval = vs
  | [], vs, hl => by simp [Env.evl] at hl; subst hl; rfl
  | x :: r, vs, hl => by
    simp only [Env.evl] at hl
    split at hl
    · rename_i v vs' h1 h2
      rw [← Option.some.inj hl]
      simp [h.ev h1, h.evl h2]
    · cases hl
theorem callsIn_F0 {r : Option Nat} {n : Nat} {P : Program} {f : FuncId} {args : Array Value} {w : World} {R : Ending → World → Prop} (h : Calls P f args w R) : CallsIn (F0 r) n P f args w R :=
  (callsIn_wide (n := n)).2 h
theorem calls_F0 {r : Option Nat} {n : Nat} {P : Program} {f : FuncId} {args : Array Value} {w : World} {R : Ending → World → Prop} (h : CallsIn (F0 r) n P f args w R) : Calls P f args w R :=
  (callsIn_wide (n := n)).1 h
theorem EL.call {X : Type} {fo : Operand} {ar : Array Operand} {tys : Array TypeId} {f : FuncId} {cap argv : Array Value} {vs : List Value} (val : X → Value) (H2 : X → List HA) (hg : guardOk all E gd = some true) (hf : E.ev fo = some (.func (.func f) #[] cap)) (ha : E.evl ar.toList = some vs) (hargv : vs.toArray ++ cap = argv)
    (he : Enters C.P f) (hd : Nat.blt d C.n = true) (hc : ∀ w, Sat C.w0 C.B H w → Calls C.P f argv w fun e w' => ∃ x, e = .returned (val x) ∧ Sat C.w0 C.B (H2 x) w')
    (k : ∀ x, EL C all ops Q ((d, val x) :: E) (H2 x)) : EL C all (⟨some d, .call { callee := .value fo, args := ar, argTypes := tys }, ty, pos, af, gd⟩ :: ops) Q E H := by
  intro a w hat
  simp only [wpListIn, guardOk_wanted (o := ⟨some d, .call { callee := .value fo, args := ar, argTypes := tys }, ty, pos, af, gd⟩) hg hat.1, if_true]
  refine ⟨fun _ _ => trivial, ?_⟩
  rw [sem_plain (by simp)]
  have hm : ar.map a.eval = vs.toArray := by
    have := hat.1.evl ha
    apply Array.ext'
    simpa using this
  have hrun : (execOp a.eval ⟨some d, .call { callee := .value fo, args := ar, argTypes := tys }, ty, pos, af, gd⟩).run C.P w = .ok (.enter f argv) w := by
    simp only [execOp, resolve, hat.1.ev hf, hm, Deferred.ofValue, Sem.run_bind, Sem.run_pure, Result.andThen, invoke]
    rw [show (#[] ++ vs.toArray ++ cap) = argv by simpa using hargv]
    exact he argv w
  rw [hrun]
  refine ⟨fun h => by simp [F0] at h, ?_⟩
  refine callsIn_F0 ((hc w hat.2).mono ?_)
  rintro e w' ⟨x, rfl, hs⟩
  exact k x _ _ ⟨hat.1.put (by simpa using hd) _, hs⟩
def Pure {X : Type} (P : Program) (f : FuncId) (argv : Array Value) (val : X → Value) (HX : X → List HA) (w : World) : Prop :=
  Calls P f argv w fun e w' => ∃ x, e = .returned (val x) ∧ Sat w w.heap.size (HX x) w'
theorem Pure.sat {X : Type} {P : Program} {f : FuncId} {argv : Array Value} {val : X → Value} {HX : X → List HA} {w w0 : World} {B : Nat} (h : Pure P f argv val HX w) (hs : Sat w0 B H w) :
    Calls P f argv w fun e w' => ∃ x, e = .returned (val x) ∧ Sat w0 B (HX x ++ H) w' :=
  h.mono fun e w' ⟨x, he, h'⟩ => ⟨x, he, hs.join h'⟩
def envOf : List Value → Nat → Env
  | [], _ => []
  | v :: r, i => (i, v) :: envOf r (i + 1)
theorem envOf_get : ∀ (l : List Value) (i d : Nat) (v : Value), (envOf l i).get d = some v → i ≤ d ∧ l[d - i]? = some v
  | [], i, d, v, h => by simp [envOf, Env.get] at h
  | u :: r, i, d, v, h => by
    simp only [envOf, Env.get_cons] at h
    by_cases e : i = d
    · subst e; rw [if_pos rfl] at h; exact ⟨Nat.le_refl _, by simpa using h⟩
    · rw [if_neg e] at h
      obtain ⟨h1, h2⟩ := envOf_get r (i + 1) d v h
      refine ⟨by omega, ?_⟩
      rw [show d - i = (d - (i + 1)) + 1 by omega]
      simpa using h2
theorem fits_start (args : Array Value) (n : Nat) (hn : args.size ≤ n) : Fits n [] (envOf args.toList 0) { tmps := args ++ Array.replicate (n - args.size) undef, defers := [] } := by
  refine ⟨rfl, by simp; omega, fun d v h => ?_⟩
  obtain ⟨_, h2⟩ := envOf_get _ _ _ _ h
  have hd : d < args.size := by
    have := (List.getElem?_eq_some_iff.1 h2).1
    simpa using this
  rw [Array.getElem?_append_left hd]
  simpa using h2
theorem calls_of_ES {P : Program} (T : TyTab P) {f : FuncId} {fn : Func} {c : Code} {args : Array Value} {w w0 : World} {B : Nat} {R : Ending → World → Prop} (hf : P.funcs[f]? = some fn) (hb : fn.body = some c) (n : Nat) (hn : fn.ntmps = n) (hsz : Nat.ble args.size n = true)
    (hs : Sat w0 B H w) (h : ES ⟨P, T, none, n, [], w0, B⟩ [c] (bodyPost P fn R) (envOf args.toList 0) H) : Calls P f args w R := by
  refine calls_F0 (r := none) (n := 0) (callsIn_of_wp hf hb trivial ?_)
  subst hn
  have := h _ w ⟨fits_start args fn.ntmps (Nat.le_of_ble_eq_true hsz), hs⟩
  refine wpIn_mono this ?_
  intro e a w hq
  cases e <;> exact hq
inductive ResV (C : Cx) (E : Env) (H : List HA) : ResultVar → Value → Prop
  | tmp {t : Nat} {v : Value} (h : E.get t = some v) : ResV C E H (.tmp t) v
  | cell {a ty : Nat} {ad : Addr} {v : Value} (h : E.get a = some (.pointer (some ad))) (hl : ∀ w, Sat C.w0 C.B H w → (loadVar ty ad).run C.P w = .ok v w) : ResV C E H (.cell a ty) v
inductive ResL (C : Cx) (E : Env) (H : List HA) : List ResultVar → List Value → Prop
  | nil : ResL C E H [] []
  | cons {r : ResultVar} {v : Value} {rs : List ResultVar} {vs : List Value} (h : ResV C E H r v) (t : ResL C E H rs vs) : ResL C E H (r :: rs) (v :: vs)
def outV : List Value → Value
  | [v] => v
  | vs => .tuple vs.toArray
def rdRes (tmps : Array Value) : ResultVar → Sem Value
  | .tmp t => pure (tmps.getD t undef)
  | .cell a t => do loadVar t (← asAddr (tmps.getD a undef))
theorem results_eq (fn : Func) (tmps : Array Value) : results fn tmps = (do let vs ← fn.results.mapM (rdRes tmps); pure (if h : vs.size = 1 then vs[0] else .tuple vs)) := by
  unfold results
  congr 1
theorem run_results {fn : Func} {a : Act} {w : World} {rs : List ResultVar} {vs : List Value} (hr : fn.results = rs.toArray) (h : ResL C E H rs vs) (ha : At C E H a w) : (results fn a.tmps).run C.P w = .ok (outV vs) w := by
  have key : ∀ (rs : List ResultVar) (vs : List Value), ResL C E H rs vs → (rs.mapM (rdRes a.tmps)).run C.P w = .ok vs w := by
    intro rs vs h
    induction h with
    | nil => rfl
    | @cons r v rs vs h t ih =>
      have hv : (rdRes a.tmps r).run C.P w = .ok v w := by
        cases h with
        | tmp h =>
          have := ha.1.get _ _ h
          simp [rdRes, Array.getD_eq_getD_getElem?, this]
        | cell h hl =>
          have := ha.1.get _ _ h
          simp [rdRes, Array.getD_eq_getD_getElem?, this, asAddr, hl w ha.2, Result.andThen]
      simp only [List.mapM_cons, Sem.run_bind, hv, Result.andThen, ih, Sem.run_pure]
  have h1 := key rs vs h
  rw [results_eq, hr]
  simp only [List.mapM_toArray, Sem.run_bind, Sem.run_map, h1, Result.andThen, Sem.run_pure]
  rcases vs with _ | ⟨v, _ | ⟨v2, vs⟩⟩ <;> simp [outV]
theorem PX.ret {fn : Func} {R : Ending → World → Prop} {rs : List ResultVar} {vs : List Value} (hD : C.D = []) (hr : fn.results = rs.toArray) (h : ResL C E H rs vs) (hR : ∀ w, Sat C.w0 C.B H w → R (.returned (outV vs)) w) : PX C (bodyPost C.P fn R) .ret E H :=
  fun a w ha => ⟨ha.1.dfr.trans hD, _, run_results hr h ha, hR w ha.2⟩
theorem PX.end {fn : Func} {R : Ending → World → Prop} {rs : List ResultVar} {vs : List Value} (hD : C.D = []) (hr : fn.results = rs.toArray) (h : ResL C E H rs vs) (hR : ∀ w, Sat C.w0 C.B H w → R (.returned (outV vs)) w) : PX C (bodyPost C.P fn R) .normal E H :=
  fun a w ha => ⟨ha.1.dfr.trans hD, _, run_results hr h ha, hR w ha.2⟩
theorem ResV.blkA {a ty g e : Nat} {ti : TI} {cs : Array Value} {fr : Nat × Nat} (h : E.get a = some (Pv g 0)) (ht : C.T.f ty = some ti) (hu : ti.agg = true) (hm : Mem H (HA.blk g (.cells cs e fr))) (hl : ti.size = cs.size) : ResV C E H (.cell a ty) (.agg cs) :=
  .cell h fun w hs => by
    have hT := ((C.T.ok ty ti ht).runInfo w)
    have hl' := run_loadCells_list (P := C.P) w ⟨g, 0, none⟩ cs.toList (fun j u hj => by rw [add_n, Nat.zero_add, blk_cell (hs.all _ hm.mem)]; simpa using hj)
    simp only [Array.length_toList, Array.toArray_toList] at hl'
    simp [loadVar, hT.2.2.2, hu, hT.1, hl, hl', Result.andThen]
end calls
end Go.Proofs.YthcbjbkheodejaaGreat.Sl
namespace Go.Proofs.YthcbjbkheodejaaGreat.Sl
open Go Go.RowKit
def tget : List (Nat × TI) → Nat → Option TI
  | [], _ => none
  | (k, v) :: r, d => bif Nat.beq k d then some v else tget r d
def AllOk (P : Program) : List (Nat × TI) → Prop
  | [] => True
  | (k, v) :: r => TyOk P k v ∧ AllOk P r
theorem AllOk.get {P : Program} : ∀ {l : List (Nat × TI)}, AllOk P l → ∀ t ti, tget l t = some ti → TyOk P t ti
  | [], _, t, ti, h => by simp [tget] at h
  | (k, v) :: r, ho, t, ti, h => by
    simp only [tget] at h
    cases hb : Nat.beq k t with
    | true =>
      rw [hb] at h
      obtain rfl := Nat.eq_of_beq_eq_true hb
      simp only [cond_true, Option.some.injEq] at h
      subst h
      exact ho.1
    | false =>
      rw [hb] at h
      exact ho.2.get t ti h
def tabOf {P : Program} (l : List (Nat × TI)) (h : AllOk P l) : TyTab P := ⟨tget l, fun t ti ht => h.get t ti ht⟩
section more
variable {C : Cx} {all : Array Oper} {ops : List Oper} {Q : Qt} {E : Env} {H H' : List HA} {d ty : Nat} {pos : String} {af : Array Edge} {g : Option (Nat × Bool)} {x y z : Operand} {v u : Value} {t t' : Nat}
theorem wrap_i64 (n : Int) (h0 : -9223372036854775808 ≤ n) (h1 : n ≤ 9223372036854775807) : IntKind.i64.wrap n = n := IntWalk.i64_in _ ⟨h0, h1⟩
theorem EL.addN {m n : Nat} (hg : guardOk all E g = some true) (hx : E.ev x = some (Iv (m : Nat))) (hy : E.ev y = some (Iv (n : Nat))) (hd : Nat.blt d C.n = true) (h0 : True = True) (hr : m + n ≤ 9223372036854775807) (k : EL C all ops Q ((d, Iv ((m + n : Nat) : Int)) :: E) H) : EL C all (⟨some d, .binOp .add t x y t', ty, pos, af, g⟩ :: ops) Q E H :=
  EL.add _ hg hx hy hd (by rw [wrap_i64 _ (by omega) (by omega)]; omega) k
theorem EL.add1 {m : Nat} (hg : guardOk all E g = some true) (hx : E.ev x = some (Iv (m : Nat))) (hy : E.ev y = some (Iv 1)) (hd : Nat.blt d C.n = true) (hr : m + 1 ≤ 9223372036854775807) (k : EL C all ops Q ((d, Iv ((m + 1 : Nat) : Int)) :: E) H) : EL C all (⟨some d, .binOp .add t x y t', ty, pos, af, g⟩ :: ops) Q E H :=
  EL.add _ hg hx hy hd (by rw [wrap_i64 _ (by omega) (by omega)]; omega) k
theorem EL.a1 {m : Nat} (k : EL C all ops Q ((d, Iv ((m + 1 : Nat) : Int)) :: E) H) (hg : guardOk all E g = some true := by exact rfl) (hx : E.ev x = some (Iv (m : Nat)) := by exact rfl) (hy : E.ev y = some (Iv 1) := by exact rfl) (hd : Nat.blt d C.n = true := by exact rfl) (hr : m + 1 ≤ 9223372036854775807 := by omega) : EL C all (⟨some d, .binOp .add t x y t', ty, pos, af, g⟩ :: ops) Q E H := EL.add1 hg hx hy hd hr k
theorem EL.sub1 {m : Nat} (hg : guardOk all E g = some true) (hx : E.ev x = some (Iv (m : Nat))) (hy : E.ev y = some (Iv 1)) (hd : Nat.blt d C.n = true) (hr : 1 ≤ m) (hm : m ≤ 9223372036854775807) (k : EL C all ops Q ((d, Iv ((m - 1 : Nat) : Int)) :: E) H) : EL C all (⟨some d, .binOp .sub t x y t', ty, pos, af, g⟩ :: ops) Q E H :=
  EL.sub_ _ hg hx hy hd (by rw [wrap_i64 _ (by omega) (by omega)]; omega) k
theorem EL.remN {m n : Nat} {kd : IntKind} (hg : guardOk all E g = some true) (hx : E.ev x = some (.int kd (m : Nat))) (hy : E.ev y = some (.int kd (n : Nat))) (hd : Nat.blt d C.n = true) (h0 : 0 < n) (k : EL C all ops Q ((d, .int kd ((m % n : Nat) : Int)) :: E) H) : EL C all (⟨some d, .binOp .rem t x y t', ty, pos, af, g⟩ :: ops) Q E H :=
  EL.val _ hg rfl hd (by simp) (fun a w ha => by
    have h1 : (n : Int) ≠ 0 := by omega
    have h2 : ((m : Int).tmod n) = ((m % n : Nat) : Int) := by rw [Int.tmod_eq_emod_of_nonneg (by omega)]; omega
    have h3 : n ≠ 0 := by omega
    simp [execOp, ha.1.ev hx, ha.1.ev hy, eqGuard, binOp, Op.intDiv, Result.andThen, h1, h2, h3]) k
theorem EL.mulN {m n : Nat} (hg : guardOk all E g = some true) (hx : E.ev x = some (Iv (m : Nat))) (hy : E.ev y = some (Iv (n : Nat))) (hd : Nat.blt d C.n = true) (h0 : True = True) (hr : m * n ≤ 9223372036854775807) (k : EL C all ops Q ((d, Iv ((m * n : Nat) : Int)) :: E) H) : EL C all (⟨some d, .binOp .mul t x y t', ty, pos, af, g⟩ :: ops) Q E H :=
  EL.mul _ hg hx hy hd (by rw [← Int.natCast_mul]; generalize m * n = q at *; exact wrap_i64 _ (by omega) (by omega)) k
theorem PickSet.same {A : HA} : ∀ {H H' : List HA}, PickSet H A A H' → H' = H
  | _, _, .here _ _ _ => rfl
  | _, _, .there p => by rw [PickSet.same p]
theorem EL.rowEq {e sz n : Nat} {cs cs' : List Value} (p : PickSet H (HA.row v e sz n cs) (HA.row v e sz n cs') H') (h : cs = cs') (k : EL C all ops Q E H') : EL C all ops Q E H := by
  subst h
  exact p.same ▸ k
theorem EL.indexAddrA1 {ti te : TI} {len gb : Nat} {el : TypeId} {kd : IntKind} {i : Nat} (hg : guardOk all E g = some true) (hx : E.ev x = some (Pv gb 0)) (hy : E.ev y = some (.int kd (i : Nat))) (ht : C.T.f t = some ti) (hu : ti.u = .array len el)
    (hte : C.T.f el = some te) (hsz : Nat.beq te.size 1 = true) (hd : Nat.blt d C.n = true) (hi : i < len) (k : EL C all ops Q ((d, Pv gb i) :: E) H) : EL C all (⟨some d, .indexAddr t x y, ty, pos, af, g⟩ :: ops) Q E H :=
  EL.indexAddrA hg hx hy ht hu hte hd hi (by rw [Nat.eq_of_beq_eq_true hsz, Nat.mul_one, Nat.zero_add]; exact k)
theorem EL.indexAddrL1 {ti te : TI} {len cap gb : Nat} {el : TypeId} {kd : IntKind} {i : Nat} (hg : guardOk all E g = some true) (hx : E.ev x = some (.slice (some ⟨gb, 0, none⟩) len cap)) (hy : E.ev y = some (.int kd (i : Nat))) (ht : C.T.f t = some ti) (hu : ti.u = .slice el)
    (hte : C.T.f el = some te) (hsz : Nat.beq te.size 1 = true) (hd : Nat.blt d C.n = true) (hi : i < len) (k : EL C all ops Q ((d, Pv gb i) :: E) H) : EL C all (⟨some d, .indexAddr t x y, ty, pos, af, g⟩ :: ops) Q E H :=
  EL.indexAddrL hg hx hy ht hu hte hd hi (by rw [Nat.eq_of_beq_eq_true hsz, Nat.mul_one, Nat.zero_add]; exact k)
theorem EL.i1 {ti te : TI} {len cap gb : Nat} {el : TypeId} {kd : IntKind} {i : Nat} (k : EL C all ops Q ((d, Pv gb i) :: E) H) (hg : guardOk all E g = some true := by exact rfl) (hx : E.ev x = some (.slice (some ⟨gb, 0, none⟩) len cap) := by exact rfl) (hy : E.ev y = some (.int kd (i : Nat)) := by exact rfl) (ht : C.T.f t = some ti := by exact rfl) (hu : ti.u = .slice el := by exact rfl) (hte : C.T.f el = some te := by exact rfl) (hsz : Nat.beq te.size 1 = true := by exact rfl) (hd : Nat.blt d C.n = true := by exact rfl) (hi : i < len := by omega) : EL C all (⟨some d, .indexAddr t x y, ty, pos, af, g⟩ :: ops) Q E H := EL.indexAddrL1 hg hx hy ht hu hte hsz hd hi k
theorem getElem?_map {α β : Type} (f : α → β) (l : List α) (i : Nat) (d0 : α) (h : i < l.length) : (l.map f)[i]? = some (f (l.getD i d0)) := by
  simp [List.getElem?_eq_getElem h, List.getD_eq_getElem?_getD]
theorem wrap_u8 (n : Nat) (h : n < 256) : IntKind.u8.wrap (n : Int) = n := by
  simp [IntKind.wrap, IntKind.signed, IntKind.bits]; omega
theorem wrap_u64 (n : Nat) (h : n < 18446744073709551616) : IntKind.u64.wrap (n : Int) = n := by
  simp [IntKind.wrap, IntKind.signed, IntKind.bits]; omega
def kmax : IntKind → Nat
  | .i8 => 127 | .i16 => 32767 | .i32 => 2147483647 | .i64 => 9223372036854775807 | .u8 => 255 | .u16 => 65535 | .u32 => 4294967295 | .u64 => 18446744073709551615
theorem wrap_of_le (kd : IntKind) (n : Nat) (h : n ≤ kmax kd) : kd.wrap (n : Int) = n := by
  cases kd <;> simp only [kmax] at h <;> simp [IntKind.wrap, IntKind.signed, IntKind.bits] <;> omega
def bigK : IntKind → Bool | .i64 | .u64 | .u32 | .i32 | .u16 | .i16 | .u8 => true | _ => false
theorem le_big8 (b : UInt8) (kd : IntKind) (h : bigK kd = true := by rfl) : b.toNat ≤ kmax kd := by
  have := b.toNat_lt
  cases kd <;> simp [kmax] <;> first | omega | (simp [bigK] at h)
theorem EL.convN {C : Cx} {all : Array Oper} {ops : List Oper} {Q : Qt} {E : Env} {H : List HA} {d ty t t' : Nat} {pos : String} {af : Array Edge} {g : Option (Nat × Bool)} {x : Operand} {kd kd' : IntKind} {n : Nat} {ti ts : TI}
    (hg : guardOk all E g = some true) (hx : E.ev x = some (.int kd (n : Nat))) (ht : C.T.f t' = some ti) (hu : ti.u = .int kd') (hT0 : C.T.f t = some ts) (hd : Nat.blt d C.n = true) (hr : n ≤ kmax kd')
    (k : EL C all ops Q ((d, .int kd' (n : Nat)) :: E) H) : EL C all (⟨some d, .convert t t' x, ty, pos, af, g⟩ :: ops) Q E H :=
  EL.convI (n : Int) hg hx ht hu hT0 hd (wrap_of_le kd' n hr) k
theorem bv8 (b : UInt8) : BitVec.ofInt 8 (b.toNat : Int) = b.toBitVec := by
  rw [BitVec.ofInt_natCast]; apply BitVec.eq_of_toNat_eq; simp
theorem or_u8 (b c : UInt8) (P : Program) (w : World) : (Op.intBits .or .u8 (b.toNat : Int) (c.toNat : Int)).run P w = .ok (Uv (b ||| c)) w := by
  simp only [Op.intBits, IntKind.bits, bv8]
  show Result.ok _ _ = _
  congr 2
  rw [wrap_u8 _ (by exact (BitVec.isLt _))]
  rfl
theorem EL.orU8 {C : Cx} {all : Array Oper} {ops : List Oper} {Q : Qt} {E : Env} {H : List HA} {d ty t t' : Nat} {pos : String} {af : Array Edge} {g : Option (Nat × Bool)} {x y : Operand} {b : UInt8} {n : Int} (c : UInt8)
    (hg : guardOk all E g = some true) (hx : E.ev x = some (Uv b)) (hy : E.ev y = some (.int .u8 n)) (hc : n = (c.toNat : Int)) (hd : Nat.blt d C.n = true) (k : EL C all ops Q ((d, Uv (b ||| c)) :: E) H) : EL C all (⟨some d, .binOp .or t x y t', ty, pos, af, g⟩ :: ops) Q E H := by
  subst hc
  exact EL.bits rfl (Uv (b ||| c)) hg hx hy hd (fun w => or_u8 b c C.P w) k
theorem made1 (z : Value) (n : Nat) : (madeCells #[z] (n * 1)).toList = List.replicate n z := by rw [Nat.mul_one]; exact toList_madeCells_one z n
end more
end Go.Proofs.YthcbjbkheodejaaGreat.Sl
namespace Go.Proofs.YthcbjbkheodejaaGreat.Sl
open Go Go.RowKit
section aggs
variable {C : Cx} {all : Array Oper} {ops : List Oper} {Q : Qt} {E : Env} {H H' : List HA} {d ty : Nat} {pos : String} {af : Array Edge} {gd : Option (Nat × Bool)} {x y z : Operand} {v u : Value} {t t' g off e : Nat}
def Env.evp (E : Env) : List (Nat × Operand) → Option (List (Nat × Value))
  | [] => some []
  | (i, x) :: r => match E.ev x, Env.evp E r with
    | some v, some vs => some ((i, v) :: vs)
    | _, _ => none
theorem Fits.evp {n : Nat} {D : List Deferred} {a : Act} (h : Fits n D E a) : ∀ {l : List (Nat × Operand)} {vs : List (Nat × Value)}, E.evp l = some vs → l.map (fun p => (p.1, a.eval p.2)) = vs
  | [], vs, hl => by simp [Env.evp] at hl; subst hl; rfl
  | (i, x) :: r, vs, hl => by
    simp only [Env.evp] at hl
    split at hl
    · rename_i v vs' h1 h2
      rw [← Option.some.inj hl]
      simp [h.ev h1, h.evp h2]
    · cases hl
def placesOf (T : Nat → Option TI) : List Field → Option (List (Nat × Nat))
  | [] => some []
  | f :: r => match T f.type, placesOf T r with
    | some ti, some ps => some ((f.offset, ti.size) :: ps)
    | _, _ => none
theorem run_places {P : Program} (T : TyTab P) (w : World) : ∀ (fs : List Field) (ps : List (Nat × Nat)), placesOf T.f fs = some ps → (fs.mapM fun f => do pure (f.offset, ← sizeOf f.type) : Sem (List (Nat × Nat))).run P w = .ok ps w
  | [], ps, h => by simp [placesOf] at h; subst h; rfl
  | f :: r, ps, h => by
    simp only [placesOf] at h
    split at h
    · rename_i ti ps' h1 h2
      rw [← Option.some.inj h]
      have hs := ((T.ok _ _ h1).runInfo w).1
      have ih := run_places T w r ps' h2
      simp only [List.mapM_cons, Sem.run_bind, hs, Result.andThen, Sem.run_pure, ih]
    · cases h
theorem EL.buildS {ti : TI} {fs : Array Field} {pl : List (Nat × Nat)} {ps : Array (Nat × Operand)} {vs : List (Nat × Value)} (cells : Array Value) (hg : guardOk all E gd = some true) (hx : E.evp ps.toList = some vs) (ht : C.T.f t = some ti) (hu : ti.u = .struct fs) (hpl : placesOf C.T.f fs.toList = some pl)
    (hf : Instr.fill (fun i => pl.toArray[i]?) ti.zero.cells vs = some cells) (hd : Nat.blt d C.n = true) (k : EL C all ops Q ((d, .agg cells) :: E) H) : EL C all (⟨some d, .build t ps, ty, pos, af, gd⟩ :: ops) Q E H :=
  EL.val _ hg rfl hd (by simp) (fun a w ha => by
    have hT := (C.T.ok t ti ht)
    have hI := hT.runInfo w
    have hu' := hT.u
    rw [hu] at hu'
    have hp := run_places C.T w fs.toList pl hpl
    have hm : (ps.map fun (p : Nat × Operand) => (p.1, a.eval p.2)).toList = vs := by
      have := ha.1.evp hx
      simpa using this
    have hmA : (fs.mapM fun f => do pure (f.offset, ← sizeOf f.type) : Sem (Array (Nat × Nat))).run C.P w = .ok pl.toArray w := by
      rw [show fs = fs.toList.toArray by simp, List.mapM_toArray]
      simp only [Sem.run_map, hp, Result.andThen]
    simp only [execOp, Instr.build, Sem.run_bind, hI.2.1, Result.andThen, run_underlying hu', hmA, hm, hf, Sem.run_pure]) k
theorem EL.buildZ {ti : TI} {fs : Array Field} {pl : List (Nat × Nat)} (hg : guardOk all E gd = some true) (ht : C.T.f t = some ti) (hu : ti.u = .struct fs) (hpl : placesOf C.T.f fs.toList = some pl) (hd : Nat.blt d C.n = true)
    (k : EL C all ops Q ((d, .agg ti.zero.cells) :: E) H) : EL C all (⟨some d, .build t #[], ty, pos, af, gd⟩ :: ops) Q E H :=
  EL.buildS (vs := []) ti.zero.cells hg rfl ht hu hpl rfl hd k
theorem EL.buildZA {ti te : TI} {len : Nat} {el : TypeId} (hg : guardOk all E gd = some true) (ht : C.T.f t = some ti) (hu : ti.u = .array len el) (hte : C.T.f el = some te) (hd : Nat.blt d C.n = true)
    (k : EL C all ops Q ((d, .agg ti.zero.cells) :: E) H) : EL C all (⟨some d, .build t #[], ty, pos, af, gd⟩ :: ops) Q E H :=
  EL.val _ hg rfl hd (by simp) (fun a w ha => by
    have hT := (C.T.ok t ti ht)
    have hI := hT.runInfo w
    have hE := (C.T.ok el te hte).runInfo w
    have hu' := hT.u
    rw [hu] at hu'
    simp [execOp, Instr.build, Sem.run_bind, hI.2.1, Result.andThen, run_underlying hu', hE.1, Instr.fill]) k
theorem run_storeAll {P : Program} {w : World} {cs : Array Value} {vs : List Value} (h : w.heap[g]? = some (.cells cs e (0, 0))) (hl : vs.length = cs.size) (h1 : ∀ u ∈ vs, u.oneCell' = true) : ∃ w', (storeCells ⟨g, 0, none⟩ vs).run P w = .ok () w' ∧ w.grownBy w' (some g) ∧ w'.heap[g]? = some (.cells vs.toArray e (0, 0)) := by
  have hr := run_storeCells_at (P := P) g 0 e vs 0 cs w h (by omega) h1
  refine ⟨_, hr, ?_, ?_⟩
  · refine ⟨rfl, rfl, rfl, by simp [World.setRow], fun k hk hne => ?_⟩
    have : k ≠ g := fun e => hne (by rw [e])
    simp [World.setRow, Array.getElem?_modify, Ne.symm this]
  · have hlt := (Array.getElem?_eq_some_iff.1 h).1
    have : cs.toList.drop (0 + 0 + vs.length) = [] := by simp [hl]
    simp [World.setRow, Array.getElem?_modify, h]
    omega
theorem EL.storeAll {ti : TI} {cs : Array Value} {vs : List Value} (hg : guardOk all E gd = some true) (hx : E.ev x = some (Pv g 0)) (hy : E.ev y = some (.agg vs.toArray)) (ht : C.T.f t = some ti) (hsz : ti.size = vs.length)
    (p : PickSet H (HA.blk g (.cells cs e (0, 0))) (HA.blk g (.cells vs.toArray e (0, 0))) H') (hl : vs.length = cs.size) (h1 : ∀ u ∈ vs, u.oneCell' = true) (k : EL C all ops Q E H') : EL C all (⟨none, .store t x y, ty, pos, af, gd⟩ :: ops) Q E H :=
  EL.unit hg rfl (by simp) (fun a w ha => by
    have hT := ((C.T.ok t ti ht).runInfo w)
    obtain ⟨R, p1, p2⟩ := p.split
    have hs1 := ha.2.perm p1
    have hb : w.heap[g]? = some (.cells cs e (0, 0)) := hs1.head
    obtain ⟨w', hr, hgr, hn⟩ := run_storeAll (P := C.P) hb hl h1
    refine ⟨w', ?_, Sat.perm (hs1.turned (A' := HA.blk g (.cells vs.toArray e (0, 0))) hgr (fun k hk => by cases hk; simp [HA.blk]) hn (fun g' hg' => ?_) (by simp [HA.blk])) p2.symm⟩
    · simp [execOp, ha.1.ev hx, ha.1.ev hy, Instr.storeAt, Instr.sureAddr, storeVar, hT.1, hsz, Value.cells, hr, Result.andThen]
    · simp only [HA.blk, List.mem_singleton] at hg'
      subst hg'
      exact ⟨(Array.getElem?_eq_some_iff.1 hn).1, .inl (by simp [HA.blk])⟩) k
theorem EL.sa {ti : TI} {cs : Array Value} {vs : List Value} (k : EL C all ops Q E H') (hg : guardOk all E gd = some true := by exact rfl) (hx : E.ev x = some (Pv g 0) := by exact rfl) (hy : E.ev y = some (.agg vs.toArray) := by exact rfl) (ht : C.T.f t = some ti := by exact rfl) (hsz : ti.size = vs.length := by exact rfl) (p : PickSet H (HA.blk g (.cells cs e (0, 0))) (HA.blk g (.cells vs.toArray e (0, 0))) H' := by repeat constructor) (hl : vs.length = cs.size := by exact rfl) (h1 : ∀ u ∈ vs, u.oneCell' = true := by first | exact all1 rfl | (intro u hu; simp only [List.mem_cons, List.not_mem_nil, or_false] at hu; rcases hu with rfl | rfl | rfl | rfl <;> rfl) | (intro u hu; simp at hu; rcases hu with rfl | rfl | rfl <;> rfl) | (intro u hu; simp at hu; rcases hu with rfl | rfl <;> rfl) | (intro u hu; simp at hu; obtain ⟨_, _, rfl⟩ := hu; rfl)) : EL C all (⟨none, .store t x y, ty, pos, af, gd⟩ :: ops) Q E H := EL.storeAll hg hx hy ht hsz p hl h1 k
theorem EL.build2 {ti : TI} {fs : Array Field} {x0 x1 : Operand} {v0 v1 z0 z1 : Value} (hg : guardOk all E gd = some true) (h0 : E.ev x0 = some v0) (h1 : E.ev x1 = some v1) (ht : C.T.f t = some ti) (hu : ti.u = .struct fs) (hpl : placesOf C.T.f fs.toList = some [(0, 1), (1, 1)]) (hz : ti.zero.cells = #[z0, z1]) (o0 : v0.oneCell' = true) (o1 : v1.oneCell' = true)
    (hd : Nat.blt d C.n = true) (k : EL C all ops Q ((d, .agg #[v0, v1]) :: E) H) : EL C all (⟨some d, .build t #[(0, x0), (1, x1)], ty, pos, af, gd⟩ :: ops) Q E H :=
  EL.buildS (vs := [(0, v0), (1, v1)]) #[v0, v1] hg (by simp [Env.evp, h0, h1]) ht hu hpl (by simp [Instr.fill, hz, cells_one o0, cells_one o1]) hd k
theorem EL.blkEq {o o' : Obj} (p : PickSet H (HA.blk g o) (HA.blk g o') H') (h : o = o') (k : EL C all ops Q E H') : EL C all ops Q E H := by
  subst h
  exact p.same ▸ k
theorem ES.blkEq {cds : List Code} {o o' : Obj} (p : PickSet H (HA.blk g o) (HA.blk g o') H') (h : o = o') (k : ES C cds Q E H') : ES C cds Q E H := by
  subst h
  exact p.same ▸ k
theorem EL.callP {fo : Operand} {ar : Array Operand} {tys : Array TypeId} {f : FuncId} {vs : List Value} {v : Value} (hg : guardOk all E gd = some true) (hf : E.ev fo = some (.func (.func f) #[] #[])) (ha : E.evl ar.toList = some vs)
    (he : Enters C.P f) (hd : Nat.blt d C.n = true) (hc : ∀ w, Pure C.P f vs.toArray (fun _ : Unit => v) (fun _ => []) w)
    (k : EL C all ops Q ((d, v) :: E) H) : EL C all (⟨some d, .call { callee := .value fo, args := ar, argTypes := tys }, ty, pos, af, gd⟩ :: ops) Q E H :=
  EL.call (fun _ : Unit => v) (fun _ => H) hg hf ha (by simp) he hd (fun w hs => (hc w).sat hs) (fun _ => k)
theorem EL.callX {X : Type} {fo : Operand} {ar : Array Operand} {tys : Array TypeId} {f : FuncId} {vs : List Value} {val : X → Value} {HX : X → List HA} (hg : guardOk all E gd = some true) (hf : E.ev fo = some (.func (.func f) #[] #[])) (ha : E.evl ar.toList = some vs)
    (he : Enters C.P f) (hd : Nat.blt d C.n = true) (hc : ∀ w, Pure C.P f vs.toArray val HX w)
    (k : ∀ x, EL C all ops Q ((d, val x) :: E) (HX x ++ H)) : EL C all (⟨some d, .call { callee := .value fo, args := ar, argTypes := tys }, ty, pos, af, gd⟩ :: ops) Q E H :=
  EL.call val (fun x => HX x ++ H) hg hf ha (by simp) he hd (fun w hs => (hc w).sat hs) k
theorem EL.loadRm {α : Type} (f : α → Value) (d0 : α) {l : List α} {ti : TI} {len cap sz n : Nat} (hg : guardOk all E gd = some true) (hx : E.ev x = some (Pv g off)) (ht : C.T.f t = some ti) (hu : ti.agg = false) (hd : Nat.blt d C.n = true) (hm : Mem H (HA.row (.slice (some ⟨g, 0, none⟩) len cap) e sz n (l.map f))) (hi : off < l.length)
    (k : EL C all ops Q ((d, f (l.getD off d0)) :: E) H) : EL C all (⟨some d, .load t x, ty, pos, af, gd⟩ :: ops) Q E H :=
  EL.loadR hg hx ht hu hd hm (getElem?_map f l off d0 hi) k
theorem getA {E : Env} {d : Nat} {v b : Value} (h : E.get d = some v) (hv : v = b) : E.get d = some b := hv ▸ h
theorem EL.eqlAgg {cs cs' : Array Value} {b : Bool} (hg : guardOk all E gd = some true) (hx : E.ev x = some (.agg cs)) (hy : E.ev y = some (.agg cs')) (hd : Nat.blt d C.n = true) (hgt : C.P.eqGuardType C.P.depth t = false) (hq : ∀ w, (Op.equal t (.agg cs) (.agg cs')).run C.P w = .ok b w)
    (k : EL C all ops Q ((d, .bool b) :: E) H) : EL C all (⟨some d, .binOp .eql t x y t', ty, pos, af, gd⟩ :: ops) Q E H :=
  EL.val _ hg rfl hd (by simp) (fun a w ha => by
    have hpr : (program).run C.P w = .ok C.P w := rfl
    simp [execOp, ha.1.ev hx, ha.1.ev hy, eqGuard, hgt, hpr, binOp, hq, Result.andThen]) k
theorem run_equalIn_int {P : Program} {t : Nat} {k : IntKind} (hT : P.underlying t = some (.int k)) (d : Nat) (m n : Int) (w : World) : (Op.equalIn (d + 1) t (.int k m) (.int k n)).run P w = .ok (m == n) w := by
  simp only [Op.equalIn, Sem.run_bind, run_underlying hT, Result.andThen, if_true, Sem.run_pure]
theorem run_equal_st2 {P : Program} (T : TyTab P) {t : Nat} {ti t0 t1 : TI} {f0 f1 : Field} {k0 k1 : IntKind} (ht : T.f t = some ti) (hu : ti.u = .struct #[f0, f1]) (hst : P.stoodInHeld t = false) (h0 : T.f f0.type = some t0) (h1 : T.f f1.type = some t1) (hu0 : t0.u = .int k0) (hu1 : t1.u = .int k1)
    (hn0 : (f0.name == "_") = false) (hn1 : (f1.name == "_") = false) (ho0 : f0.offset = 0) (ho1 : f1.offset = 1) (m0 m1 n0 n1 : Int) (w : World) :
    (Op.equal t (.agg #[.int k0 m0, .int k1 m1]) (.agg #[.int k0 n0, .int k1 n1])).run P w = .ok (decide (m0 = n0) && decide (m1 = n1)) w := by
  have hT := (T.ok t ti ht).u
  rw [hu] at hT
  have hE0 := (T.ok _ _ h0).u
  rw [hu0] at hE0
  have hE1 := (T.ok _ _ h1).u
  rw [hu1] at hE1
  have hI0 := ((T.ok _ _ h0).runInfo w).2.2.2
  have hI1 := ((T.ok _ _ h1).runInfo w).2.2.2
  have hag0 : t0.agg = false := by simp [TI.agg, hu0]
  have hag1 : t1.agg = false := by simp [TI.agg, hu1]
  have hpr : (program).run P w = .ok P w := rfl
  have e0 : f0.name ≠ "_" := by simpa using hn0
  have e1 : f1.name ≠ "_" := by simpa using hn1
  have key : ∀ d, (Op.equalIn (d + 2) t (.agg #[.int k0 m0, .int k1 m1]) (.agg #[.int k0 n0, .int k1 n1])).run P w = .ok (decide (m0 = n0) && decide (m1 = n1)) w := fun d => by
    rw [Op.equalIn]
    simp only [Sem.run_bind, run_underlying hT, Result.andThen, hpr, hst, Bool.false_eq_true, if_false]
    simp only [List.forIn_toArray, List.forIn_cons, List.forIn_nil, Sem.run_bind, e0, e1, ne_eq, not_false_eq_true, if_true, Go.part, hI0, hI1, hag0, hag1, ho0, ho1, Result.andThen, Bool.false_eq_true, if_false, List.getElem?_toArray, List.getElem?_cons_zero, List.getElem?_cons_succ, Sem.run_pure, run_equalIn_int hE0, run_equalIn_int hE1]
    by_cases a0 : m0 = n0 <;> by_cases a1 : m1 = n1 <;> simp [a0, a1, Result.andThen, run_equalIn_int hE1, hI1, hag1]
  exact key 9998
end aggs
end Go.Proofs.YthcbjbkheodejaaGreat.Sl
namespace Go.Proofs.YthcbjbkheodejaaGreat.Sl
open Go Go.RowKit
def RunV (C : Cx) (E : Env) (H : List HA) (o : Oper) (v : Value) : Prop := ∀ a w, At C E H a w → (execOp a.eval o).run C.P w = .ok (.value v) w
section rv2
variable {C : Cx} {all : Array Oper} {ops : List Oper} {Q : Qt} {E : Env} {H H' : List HA} {d ty : Nat} {pos : String} {af : Array Edge} {gd : Option (Nat × Bool)} {x y z : Operand} {v u : Value} {t t' e g off : Nat}
theorem RV.nilCheck {ad : Addr} (hx : E.ev x = some (.pointer (some ad))) : RunV C E H ⟨some d, .nilCheck x, ty, pos, af, gd⟩ (.pointer (some ad)) :=
  (fun a w ha => by simp [execOp, ha.1.ev hx])
theorem RV.fieldAddr {ti tf : TI} {fs : Array Field} {i : Nat} {f : Field} (hx : E.ev x = some (Pv g off)) (ht : C.T.f t = some ti) (hu : ti.u = .struct fs) (hf : fs[i]? = some f) (htf : C.T.f f.type = some tf) (hsz : Nat.beq tf.size 0 = false) : RunV C E H ⟨some d, .fieldAddr t x i, ty, pos, af, gd⟩ (Pv g (off + f.offset)) :=
  (fun a w ha => by
    have hT := (C.T.ok t ti ht).u
    rw [hu] at hT
    have hs := ((C.T.ok _ tf htf).runInfo w).1
    have hz : tf.size ≠ 0 := fun e => by rw [e] at hsz; cases hsz
    simp [execOp, ha.1.ev hx, Instr.fieldAt, run_underlying hT, hf, Instr.sureAddr, fieldPlace, hs, hz, Result.andThen, add_n])
theorem RV.indexAddrA {ti te : TI} {len : Nat} {el : TypeId} {kd : IntKind} {i : Nat} (hx : E.ev x = some (Pv g off)) (hy : E.ev y = some (.int kd (i : Nat))) (ht : C.T.f t = some ti) (hu : ti.u = .array len el) (hte : C.T.f el = some te) (hi : i < len) : RunV C E H ⟨some d, .indexAddr t x y, ty, pos, af, gd⟩ (Pv g (off + i * te.size)) :=
  (fun a w ha => by
    have hT := (C.T.ok t ti ht).u
    rw [hu] at hT
    have hs := ((C.T.ok _ te hte).runInfo w).1
    have h1 : (0 : Int) ≤ (i : Int) ∧ (i : Int) < (len : Int) := by omega
    simp [execOp, ha.1.ev hx, ha.1.ev hy, Instr.indexAt, run_underlying hT, asIntOf, Instr.sureAddr, hs, hi, Result.andThen, add_n])
theorem RV.indexAddrL {ti te : TI} {len cap : Nat} {el : TypeId} {kd : IntKind} {i : Nat} (hx : E.ev x = some (.slice (some ⟨g, off, none⟩) len cap)) (hy : E.ev y = some (.int kd (i : Nat))) (ht : C.T.f t = some ti) (hu : ti.u = .slice el) (hte : C.T.f el = some te) (hi : i < len) : RunV C E H ⟨some d, .indexAddr t x y, ty, pos, af, gd⟩ (Pv g (off + i * te.size)) :=
  (fun a w ha => by
    have hT := (C.T.ok t ti ht).u
    rw [hu] at hT
    have hs := ((C.T.ok _ te hte).runInfo w).1
    simp [execOp, ha.1.ev hx, ha.1.ev hy, Instr.indexAt, run_underlying hT, asIntOf, Instr.sureAddr, hs, hi, Result.andThen, add_n])
theorem RV.load {ti : TI} {ad : Addr} (hx : E.ev x = some (.pointer (some ad))) (ht : C.T.f t = some ti) (hu : ti.agg = false) (hc : ∀ w, Sat C.w0 C.B H w → w.cell? ad = some v) : RunV C E H ⟨some d, .load t x, ty, pos, af, gd⟩ v :=
  (fun a w ha => by
    have hT := ((C.T.ok t ti ht).runInfo w).2.2.2
    simp [execOp, ha.1.ev hx, Instr.loadAt, Instr.sureAddr, loadVar, hT, hu, hc w ha.2, Result.andThen])
theorem RV.loadB {ti : TI} {cs : Array Value} {fr : Nat × Nat} (hx : E.ev x = some (Pv g off)) (ht : C.T.f t = some ti) (hu : ti.agg = false) (hm : Mem H (HA.blk g (.cells cs e fr))) (hc : cs[off]? = some v) : RunV C E H ⟨some d, .load t x, ty, pos, af, gd⟩ v :=
  RV.load hx ht hu (fun w hs => (blk_cell (hs.all _ hm.mem) off).trans hc)
theorem RV.loadR {ti : TI} {len cap sz n : Nat} {cs : List Value} (hx : E.ev x = some (Pv g off)) (ht : C.T.f t = some ti) (hu : ti.agg = false) (hm : Mem H (HA.row (.slice (some ⟨g, 0, none⟩) len cap) e sz n cs)) (hc : cs[off]? = some v) : RunV C E H ⟨some d, .load t x, ty, pos, af, gd⟩ v :=
  RV.load hx ht hu (fun w hs => row_cell (hs.all _ hm.mem) off v hc)
theorem RV.loadAgg {ti : TI} {ad : Addr} {cs : List Value} (hx : E.ev x = some (.pointer (some ad))) (ht : C.T.f t = some ti) (hu : ti.agg = true) (hl : ti.size = cs.length) (hc : ∀ w, Sat C.w0 C.B H w → ∀ j u, cs[j]? = some u → w.cell? (ad.add j) = some u) : RunV C E H ⟨some d, .load t x, ty, pos, af, gd⟩ (.agg cs.toArray) :=
  (fun a w ha => by
    have hT := ((C.T.ok t ti ht).runInfo w)
    have hl' := run_loadCells_list (P := C.P) w ad cs (hc w ha.2)
    simp [execOp, ha.1.ev hx, Instr.loadAt, Instr.sureAddr, loadVar, hT.2.2.2, hu, hT.1, hl, hl', Result.andThen])
theorem RV.buildS {ti : TI} {fs : Array Field} {pl : List (Nat × Nat)} {ps : Array (Nat × Operand)} {vs : List (Nat × Value)} (cells : Array Value) (hx : E.evp ps.toList = some vs) (ht : C.T.f t = some ti) (hu : ti.u = .struct fs) (hpl : placesOf C.T.f fs.toList = some pl) (hf : Instr.fill (fun i => pl.toArray[i]?) ti.zero.cells vs = some cells) : RunV C E H ⟨some d, .build t ps, ty, pos, af, gd⟩ (.agg cells) :=
  (fun a w ha => by
    have hT := (C.T.ok t ti ht)
    have hI := hT.runInfo w
    have hu' := hT.u
    rw [hu] at hu'
    have hp := run_places C.T w fs.toList pl hpl
    have hm : (ps.map fun (p : Nat × Operand) => (p.1, a.eval p.2)).toList = vs := by
      have := ha.1.evp hx
      simpa using this
    have hmA : (fs.mapM fun f => do pure (f.offset, ← sizeOf f.type) : Sem (Array (Nat × Nat))).run C.P w = .ok pl.toArray w := by
      rw [show fs = fs.toList.toArray by simp, List.mapM_toArray]
      simp only [Sem.run_map, hp, Result.andThen]
    simp only [execOp, Instr.build, Sem.run_bind, hI.2.1, Result.andThen, run_underlying hu', hmA, hm, hf, Sem.run_pure])
theorem RV.neqAgg {cs cs' : Array Value} {b : Bool} (hx : E.ev x = some (.agg cs)) (hy : E.ev y = some (.agg cs')) (hgt : C.P.eqGuardType C.P.depth t = false) (hq : ∀ w, (Op.equal t (.agg cs) (.agg cs')).run C.P w = .ok b w) : RunV C E H ⟨some d, .binOp .neq t x y t', ty, pos, af, gd⟩ (.bool (!b)) :=
  (fun a w ha => by
    have hpr : (program).run C.P w = .ok C.P w := rfl
    simp [execOp, ha.1.ev hx, ha.1.ev hy, eqGuard, hgt, hpr, binOp, hq, Result.andThen])
end rv2
section rv
variable {C : Cx} {all : Array Oper} {ops : List Oper} {Q : Qt} {E : Env} {H H' : List HA} {d ty : Nat} {pos : String} {af : Array Edge} {g : Option (Nat × Bool)} {x y z : Operand} {v u : Value} {t t' : Nat} {kd : IntKind} {m n : Int} {l l' : List UInt8}
theorem RV.move (hx : E.ev x = some v) : RunV C E H ⟨some d, .move x, ty, pos, af, g⟩ v :=
  (fun a w ha => by simp [execOp, ha.1.ev hx])
theorem RV.assign (hx : E.ev x = some v) : RunV C E H ⟨some d, .assign x, ty, pos, af, g⟩ v :=
  (fun a w ha => by simp [execOp, ha.1.ev hx])
theorem RV.pickT {c : Operand} (hc : E.ev c = some (.bool true)) (hx : E.ev x = some v) : RunV C E H ⟨some d, .pick c x y, ty, pos, af, g⟩ v :=
  (fun a w ha => by simp [execOp, ha.1.ev hx, ha.1.ev hc, asBool, Result.andThen])
theorem RV.pickF {c : Operand} (hc : E.ev c = some (.bool false)) (hx : E.ev y = some v) : RunV C E H ⟨some d, .pick c x y, ty, pos, af, g⟩ v :=
  (fun a w ha => by simp [execOp, ha.1.ev hx, ha.1.ev hc, asBool, Result.andThen])
theorem RV.extract {vs : Array Value} {i : Nat} (hx : E.ev x = some (.tuple vs)) (hi : vs[i]? = some v) : RunV C E H ⟨some d, .extract x i, ty, pos, af, g⟩ v :=
  (fun a w ha => by simp [execOp, ha.1.ev hx, Instr.extract, hi, Result.andThen])
theorem RV.not {b : Bool} (hx : E.ev x = some (.bool b)) : RunV C E H ⟨some d, .unOp .not ty x, ty, pos, af, g⟩ (.bool (!b)) :=
  (fun a w ha => by simp [execOp, ha.1.ev hx, Op.unary, Result.andThen])
theorem RV.add (r : Int) (hx : E.ev x = some (.int kd m)) (hy : E.ev y = some (.int kd n)) (hr : kd.wrap (m + n) = r) : RunV C E H ⟨some d, .binOp .add t x y t', ty, pos, af, g⟩ (.int kd r) :=
  (fun a w ha => by subst hr; simp [execOp, ha.1.ev hx, ha.1.ev hy, eqGuard, binOp, Op.intArith, Result.andThen])
theorem RV.sub_ (r : Int) (hx : E.ev x = some (.int kd m)) (hy : E.ev y = some (.int kd n)) (hr : kd.wrap (m - n) = r) : RunV C E H ⟨some d, .binOp .sub t x y t', ty, pos, af, g⟩ (.int kd r) :=
  (fun a w ha => by subst hr; simp [execOp, ha.1.ev hx, ha.1.ev hy, eqGuard, binOp, Op.intArith, Result.andThen])
theorem RV.mul (r : Int) (hx : E.ev x = some (.int kd m)) (hy : E.ev y = some (.int kd n)) (hr : kd.wrap (m * n) = r) : RunV C E H ⟨some d, .binOp .mul t x y t', ty, pos, af, g⟩ (.int kd r) :=
  (fun a w ha => by subst hr; simp [execOp, ha.1.ev hx, ha.1.ev hy, eqGuard, binOp, Op.intArith, Result.andThen])
theorem RV.lss (hx : E.ev x = some (.int kd m)) (hy : E.ev y = some (.int kd n)) : RunV C E H ⟨some d, .binOp .lss t x y t', ty, pos, af, g⟩ (.bool (decide (m < n))) :=
  (fun a w ha => by simp [execOp, ha.1.ev hx, ha.1.ev hy, eqGuard, binOp, Op.intCmp, Result.andThen])
theorem RV.leq (hx : E.ev x = some (.int kd m)) (hy : E.ev y = some (.int kd n)) : RunV C E H ⟨some d, .binOp .leq t x y t', ty, pos, af, g⟩ (.bool (decide (m ≤ n))) :=
  (fun a w ha => by simp [execOp, ha.1.ev hx, ha.1.ev hy, eqGuard, binOp, Op.intCmp, Result.andThen])
theorem RV.gtr (hx : E.ev x = some (.int kd m)) (hy : E.ev y = some (.int kd n)) : RunV C E H ⟨some d, .binOp .gtr t x y t', ty, pos, af, g⟩ (.bool (decide (n < m))) :=
  (fun a w ha => by simp [execOp, ha.1.ev hx, ha.1.ev hy, eqGuard, binOp, Op.intCmp, Result.andThen])
theorem RV.geq (hx : E.ev x = some (.int kd m)) (hy : E.ev y = some (.int kd n)) : RunV C E H ⟨some d, .binOp .geq t x y t', ty, pos, af, g⟩ (.bool (decide (n ≤ m))) :=
  (fun a w ha => by simp [execOp, ha.1.ev hx, ha.1.ev hy, eqGuard, binOp, Op.intCmp, Result.andThen])
theorem RV.eqlI (hx : E.ev x = some (.int kd m)) (hy : E.ev y = some (.int kd n)) : RunV C E H ⟨some d, .binOp .eql t x y t', ty, pos, af, g⟩ (.bool (decide (m = n))) :=
  (fun a w ha => by simp [execOp, ha.1.ev hx, ha.1.ev hy, eqGuard, binOp, Op.intCmp, Result.andThen]; rfl)
theorem RV.neqI (hx : E.ev x = some (.int kd m)) (hy : E.ev y = some (.int kd n)) : RunV C E H ⟨some d, .binOp .neq t x y t', ty, pos, af, g⟩ (.bool (!decide (m = n))) :=
  (fun a w ha => by simp [execOp, ha.1.ev hx, ha.1.ev hy, eqGuard, binOp, Op.intCmp, Result.andThen]; rfl)
theorem RV.lenS {ti : TI} (hx : E.ev x = some (Sv l)) (ht : C.T.f t = some ti) (hu : ti.u = .string) : RunV C E H ⟨some d, .call { callee := .builtin .len, args := #[x], argTypes := #[t] }, ty, pos, af, g⟩ (Iv (l.length : Nat)) :=
  (fun a w ha => by
    have hT := (C.T.ok t ti ht).u
    rw [hu] at hT
    simp [execOp, ha.1.ev hx, resolve, invoke, builtin, Builtin.len_, run_underlying hT, Result.andThen, goInt, size_sv])
theorem RV.lenL {ti : TI} {e : TypeId} {ad : Option Addr} {n c : Nat} (hx : E.ev x = some (.slice ad n c)) (ht : C.T.f t = some ti) (hu : ti.u = .slice e) : RunV C E H ⟨some d, .call { callee := .builtin .len, args := #[x], argTypes := #[t] }, ty, pos, af, g⟩ (Iv (n : Nat)) :=
  (fun a w ha => by
    have hT := (C.T.ok t ti ht).u
    rw [hu] at hT
    simp [execOp, ha.1.ev hx, resolve, invoke, builtin, Builtin.len_, run_underlying hT, Result.andThen, goInt])
theorem RV.cat (hx : E.ev x = some (Sv l)) (hy : E.ev y = some (Sv l')) (hs : l.length + l'.length ≤ 9223372036854775807) : RunV C E H ⟨some d, .binOp .add t x y t', ty, pos, af, g⟩ (Sv (l ++ l')) :=
  (fun a w ha => by
    have h1 : ¬ (9223372036854775807 : Int) < (l.length : Int) + (l'.length : Int) := by omega
    simp [execOp, ha.1.ev hx, ha.1.ev hy, eqGuard, binOp, Op.stringOp, size_sv, append_sv, Result.andThen, h1])
theorem RV.eqlS (hx : E.ev x = some (Sv l)) (hy : E.ev y = some (Sv l')) : RunV C E H ⟨some d, .binOp .eql t x y t', ty, pos, af, g⟩ (.bool (decide (l = l'))) :=
  (fun a w ha => by simp [execOp, ha.1.ev hx, ha.1.ev hy, eqGuard, binOp, Op.stringOp, Result.andThen, beq_dec])
theorem RV.indexS {i : Int} {ti : TI} (hx : E.ev x = some (Sv l)) (hy : E.ev y = some (.int kd i)) (ht : C.T.f t = some ti) (hu : ti.u = .string) (h0 : 0 ≤ i) (h1 : i < l.length) : RunV C E H ⟨some d, .index t x y, ty, pos, af, g⟩ (Uv (l.getD i.toNat 0)) :=
  (fun a w ha => by
    have hT := (C.T.ok t ti ht).u
    have hl : i.toNat < l.length := by omega
    simp [execOp, ha.1.ev hx, ha.1.ev hy, Instr.index, asIntOf, run_underlying hT, hu, h0, get_sv l _ hl, Result.andThen])
theorem RV.indexSN {i : Nat} {ti : TI} (hx : E.ev x = some (Sv l)) (hy : E.ev y = some (.int kd (i : Nat))) (ht : C.T.f t = some ti) (hu : ti.u = .string) (h1 : i < l.length) : RunV C E H ⟨some d, .index t x y, ty, pos, af, g⟩ (Uv (l.getD i 0)) :=
  RV.indexS hx hy ht hu (by omega) (by omega)
theorem RV.sliceS {lo hi : Option Operand} {m n : Nat} {ti : TI} (hx : E.ev x = some (Sv l)) (ht : C.T.f t = some ti) (hu : ti.u = .string) (hlo : bnd E 0 lo m) (hhi : bnd E l.length hi n) (h0 : m ≤ n) (h1 : n ≤ l.length) : RunV C E H ⟨some d, .slice t x lo hi none, ty, pos, af, g⟩ (Sv ((l.drop m).take (n - m))) :=
  (fun a w ha => by
    have hT := (C.T.ok t ti ht).u
    cases lo with
    | none =>
      cases hi with
      | none =>
        obtain rfl : m = 0 := hlo
        obtain rfl : n = l.length := hhi
        simp [execOp, ha.1.ev hx, Instr.sliceAt, Instr.slice, Instr.sliceBounds, run_underlying hT, hu, Result.andThen, extract_sv, size_sv]
      | some hi =>
        obtain rfl : m = 0 := hlo
        obtain ⟨kd, hhi⟩ := hhi
        simp [execOp, ha.1.ev hx, ha.1.ev hhi, Instr.sliceAt, Instr.slice, Instr.sliceBounds, Instr.sliceBound, asIntOf, run_underlying hT, hu, Result.andThen, extract_sv, size_sv, h1]
    | some lo =>
      obtain ⟨kd, hlo⟩ := hlo
      cases hi with
      | none =>
        obtain rfl : n = l.length := hhi
        simp [execOp, ha.1.ev hx, ha.1.ev hlo, Instr.sliceAt, Instr.slice, Instr.sliceBounds, Instr.sliceBound, asIntOf, run_underlying hT, hu, Result.andThen, extract_sv, size_sv, h0]
      | some hi =>
        obtain ⟨kd', hhi⟩ := hhi
        simp [execOp, ha.1.ev hx, ha.1.ev hlo, ha.1.ev hhi, Instr.sliceAt, Instr.slice, Instr.sliceBounds, Instr.sliceBound, asIntOf, run_underlying hT, hu, Result.andThen, extract_sv, size_sv, h0, h1])
theorem RV.convI {kd' : IntKind} {ti ts : TI} (r : Int) (hx : E.ev x = some (.int kd m)) (ht : C.T.f t' = some ti) (hu : ti.u = .int kd') (hT0 : C.T.f t = some ts) (hr : kd'.wrap m = r) : RunV C E H ⟨some d, .convert t t' x, ty, pos, af, g⟩ (.int kd' r) :=
  (fun a w ha => by
    have hT := (C.T.ok t' ti ht).u
    rw [hu] at hT
    have hs := (C.T.ok t ts hT0).u
    subst hr
    simp [execOp, ha.1.ev hx, convert, run_underlying hT, run_underlying hs, Conv.intToInt, Result.andThen])
theorem RV.addN {m n : Nat} (hx : E.ev x = some (Iv (m : Nat))) (hy : E.ev y = some (Iv (n : Nat))) (h0 : True = True) (hr : m + n ≤ 9223372036854775807) : RunV C E H ⟨some d, .binOp .add t x y t', ty, pos, af, g⟩ (Iv ((m + n : Nat) : Int)) :=
  RV.add _ hx hy (by rw [wrap_i64 _ (by omega) (by omega)]; omega)
theorem RV.add1 {m : Nat} (hx : E.ev x = some (Iv (m : Nat))) (hy : E.ev y = some (Iv 1)) (hr : m + 1 ≤ 9223372036854775807) : RunV C E H ⟨some d, .binOp .add t x y t', ty, pos, af, g⟩ (Iv ((m + 1 : Nat) : Int)) :=
  RV.add _ hx hy (by rw [wrap_i64 _ (by omega) (by omega)]; omega)
theorem RV.sub1 {m : Nat} (hx : E.ev x = some (Iv (m : Nat))) (hy : E.ev y = some (Iv 1)) (hr : 1 ≤ m) (hm : m ≤ 9223372036854775807) : RunV C E H ⟨some d, .binOp .sub t x y t', ty, pos, af, g⟩ (Iv ((m - 1 : Nat) : Int)) :=
  RV.sub_ _ hx hy (by rw [wrap_i64 _ (by omega) (by omega)]; omega)
theorem RV.indexAddrA1 {ti te : TI} {len gb : Nat} {el : TypeId} {kd : IntKind} {i : Nat} (hx : E.ev x = some (Pv gb 0)) (hy : E.ev y = some (.int kd (i : Nat))) (ht : C.T.f t = some ti) (hu : ti.u = .array len el) (hte : C.T.f el = some te) (hsz : Nat.beq te.size 1 = true) (hi : i < len) : RunV C E H ⟨some d, .indexAddr t x y, ty, pos, af, g⟩ (Pv gb i) :=
  by have h_ := RV.indexAddrA (C := C) (E := E) (H := H) (d := d) (ty := ty) (pos := pos) (af := af) (gd := g) hx hy ht hu hte hi; rw [Nat.eq_of_beq_eq_true hsz, Nat.mul_one, Nat.zero_add] at h_; exact h_
theorem RV.indexAddrL1 {ti te : TI} {len cap gb : Nat} {el : TypeId} {kd : IntKind} {i : Nat} (hx : E.ev x = some (.slice (some ⟨gb, 0, none⟩) len cap)) (hy : E.ev y = some (.int kd (i : Nat))) (ht : C.T.f t = some ti) (hu : ti.u = .slice el) (hte : C.T.f el = some te) (hsz : Nat.beq te.size 1 = true) (hi : i < len) : RunV C E H ⟨some d, .indexAddr t x y, ty, pos, af, g⟩ (Pv gb i) :=
  by have h_ := RV.indexAddrL (C := C) (E := E) (H := H) (d := d) (ty := ty) (pos := pos) (af := af) (gd := g) hx hy ht hu hte hi; rw [Nat.eq_of_beq_eq_true hsz, Nat.mul_one, Nat.zero_add] at h_; exact h_
end rv
end Go.Proofs.YthcbjbkheodejaaGreat.Sl
namespace Go.Proofs.YthcbjbkheodejaaGreat.Sl
open Go Go.RowKit
section draws
variable {C : Cx} {all : Array Oper} {Q : Qt} {S : World → Prop}
def noDefer (ops : Array Oper) : Bool := ops.all fun o => match o.op with | .defer _ => false | .select .. => false | _ => true
theorem noDefer_spec (h : noDefer all = true) {j : Nat} {o : Oper} (hj : all[j]? = some o) : (∀ c, o.op ≠ .defer c) ∧ (∀ cs b, o.op ≠ .select cs b) := by
  have hm : o ∈ all := Array.mem_of_getElem? hj
  have := Array.all_eq_true_iff_forall_mem.1 h o hm
  constructor
  · intro c hc; rw [hc] at this; cases this
  · intro cs b hc; rw [hc] at this; cases this
def bindsOn (o : Oper) (k : Nat) : Bool := o.after.any fun e => Nat.beq e.on k && Region.binds .any e
theorem bindsOn_spec {o : Oper} {k : Nat} (h : bindsOn o k = true) : ∃ e ∈ o.after, Region.binds .any e = true ∧ e.on = k := by
  obtain ⟨e, he, h2⟩ := Array.any_eq_true'.1 h
  simp only [Bool.and_eq_true] at h2
  exact ⟨e, he, h2.2, Nat.eq_of_beq_eq_true h2.1⟩
def lastBinds (all : Array Oper) : Bool := match all[all.size - 1]? with
  | some o => (List.range (all.size - 1)).all fun k => bindsOn o k || (List.range (all.size - 1)).any fun m => bindsOn o m && (match all[m]? with | some p => bindsOn p k | none => false)
  | none => false
def Brk (all : Array Oper) (i : Nat) : Prop := lastBinds all = true ∧ i = all.size - 1
def closedB (all : Array Oper) (L : Array Bool) : Bool := (List.range all.size).all fun m => !L.getD m false || (match all[m]? with | some o => o.after.all fun e => !Region.binds .any e || L.getD e.on false | none => true)
def Closed (all : Array Oper) (L : Array Bool) : Prop := ∀ m o, all[m]? = some o → L.getD m false = true → ∀ e ∈ o.after, Region.binds .any e = true → L.getD e.on false = true
theorem closedB_spec {all : Array Oper} {L : Array Bool} (h : closedB all L = true) : Closed all L := by
  intro m o hm hd e he hb
  have hlt : m < all.size := (Array.getElem?_eq_some_iff.1 hm).1
  have h1 := List.all_eq_true.1 h m (List.mem_range.2 hlt)
  rw [hd, hm] at h1
  simp only [Bool.not_true, Bool.false_or] at h1
  have h2 := Array.all_eq_true_iff_forall_mem.1 h1 e he
  rw [hb] at h2
  simpa using h2
theorem getD_set_done {L : Array Bool} {k j : Nat} (h : L.getD k false = true) : (L.setIfInBounds j true).getD k false = true := by
  have hk : k < L.size := by
    rcases Nat.lt_or_ge k L.size with h' | h'
    · exact h'
    · simp [Array.getElem?_eq_none h'] at h
  by_cases e : j = k
  · subst e; simp [hk]
  · rw [getD_set_ne false e]; exact h
theorem Closed.set {all : Array Oper} {L : Array Bool} (h : Closed all L) {j : Nat} (hj : j ∈ Region.ready .any all L) : Closed all (L.setIfInBounds j true) := by
  obtain ⟨_, oj, hoj, hall⟩ := mem_ready.1 hj
  intro m o hm hd e he hb
  refine getD_set_done ?_
  by_cases hmj : j = m
  · subst hmj
    rw [hoj] at hm
    obtain rfl := Option.some.inj hm
    exact hall e he hb
  · rw [getD_set_ne false hmj] at hd
    exact h m o hm hd e he hb
theorem Brk.no {all : Array Oper} {L : Array Bool} {j i : Nat} {oi : Oper} (h : Brk all j) (hcl : Closed all L) (hj : j ∈ Region.ready .any all L) (hi : i ∈ Region.ready .any all L) (hoi : all[i]? = some oi) (hne : i ≠ j) : False := by
  obtain ⟨hb, rfl⟩ := h
  obtain ⟨_, oj, hoj, hall⟩ := mem_ready.1 hj
  have hni := (mem_ready.1 hi).1
  have hlt : i < all.size := (Array.getElem?_eq_some_iff.1 hoi).1
  have hno : L.getD i false = true → False := fun h => by
    rcases Nat.lt_or_ge i L.size with h' | h'
    · simp [h'] at hni h; rw [hni] at h; cases h
    · simp [Array.getElem?_eq_none h'] at h
  unfold lastBinds at hb
  rw [hoj] at hb
  have h1 := List.all_eq_true.1 hb i (List.mem_range.2 (by omega))
  simp only [Bool.or_eq_true] at h1
  rcases h1 with h1 | h1
  · obtain ⟨e, he, h2, h3⟩ := bindsOn_spec h1
    have := hall e he h2
    rw [h3] at this
    exact hno this
  · obtain ⟨m, _, h2⟩ := List.any_eq_true.1 h1
    simp only [Bool.and_eq_true] at h2
    obtain ⟨e, he, h3, h4⟩ := bindsOn_spec h2.1
    have hm := hall e he h3
    rw [h4] at hm
    cases ho : all[m]? with
    | none => rw [ho] at h2; cases h2.2
    | some p =>
      rw [ho] at h2
      obtain ⟨e', he', h5, h6⟩ := bindsOn_spec h2.2
      have := hcl m p ho hm e' he' h5
      rw [h6] at this
      exact hno this
def wpAnyS (C : Cx) (all : Array Oper) (Q : Qt) (S : World → Prop) : Nat → Array Bool → Act → World → Prop
  | 0, L, a, w => Region.ready .any all L = [] ∧ Q .normal a w
  | f + 1, L, a, w => (Region.ready .any all L = [] → Q .normal a w) ∧
    ∀ i ∈ Region.ready .any all L, wpOpIn (F0 C.r) 0 C.P all Q i (fun a' w' => (Brk all i ∨ S w') ∧ wpAnyS C all Q S f (L.setIfInBounds i true) a' w') a w
theorem wpAnyS.any : ∀ (f : Nat) (L : Array Bool) (a : Act) (w : World), wpAnyS C all Q S f L a w → wpAnyIn (F0 C.r) 0 C.P .any all Q f L a w
  | 0, _, _, _, h => h
  | f + 1, _, _, _, h => ⟨h.1, fun i hi => wpOpIn_mono (fun a' w' h' => wpAnyS.any f _ a' w' h'.2) (h.2 i hi)⟩
def YieldsS (C : Cx) (all : Array Oper) (S : World → Prop) (o : Oper) (v : Value) (a : Act) : Prop :=
  (Region.wanted o (yielded all a.tmps) = true ∧ ∀ w, S w → (execOp a.eval o).run C.P w = .ok (.value v) w) ∨ (Region.wanted o (yielded all a.tmps) = false ∧ v = undef)
theorem YieldsS.step {i : Nat} {o : Oper} {v : Value} {a : Act} (hi : all[i]? = some o) (hd : ∀ c, o.op ≠ .defer c) (hy : YieldsS C all S o v a) {K : Act → World → Prop} {w : World} (hS : S w) (h : K (a.put o.dst v) w) : wpOpIn (F0 C.r) 0 C.P all Q i K a w := by
  unfold wpOpIn
  simp only [hi]
  rcases hy with ⟨hw, hv⟩ | ⟨hw, rfl⟩
  · simp only [hw, if_true, Oper.wpIn, sem_plain hd, hv w hS, Oper.uponIn]
    exact ⟨fun _ _ => trivial, h⟩
  · simp only [hw, Bool.false_eq_true, if_false]
    exact ⟨fun _ _ => trivial, h⟩
theorem YieldsS.other {j : Nat} {oi oj : Oper} {v : Value} (hj : all[j]? = some oj) (hap : oi.apart all oj = true) (hsi : ∀ cs b, oi.op ≠ .select cs b) (hsj : ∀ cs b, oj.op ≠ .select cs b) (hdj : ∀ c, oj.op ≠ .defer c)
    (hQ : ∀ c a w, ¬ Q (.panic c) a w) {K : Act → World → Prop} {a : Act} {w : World} (hy : YieldsS C all S oi v a) (h : wpOpIn (F0 C.r) 0 C.P all Q j K (a.put oi.dst v) w) :
    wpOpIn (F0 C.r) 0 C.P all Q j (fun a' w' => YieldsS C all S oi v a' ∧ K (a'.put oi.dst v) w') a w := by
  obtain ⟨h1, h2, h3⟩ := Oper.apart_spec hap
  have keep : ∀ u, YieldsS C all S oi v (a.put oj.dst u) := fun u => by
    unfold YieldsS at *
    rw [execOp_put oi hsi a oj.dst u h3, wanted_put oi a oj.dst u h3]
    exact hy
  unfold wpOpIn at *
  simp only [hj] at *
  rw [wanted_put oj a oi.dst v h1] at h
  split
  · rename_i hw
    simp only [hw, if_true] at h
    unfold Oper.wpIn at *
    refine ⟨fun _ _ => trivial, ?_⟩
    replace h := h.2
    rw [sem_plain hdj, execOp_put oj hsj a oi.dst v h1] at h
    rw [sem_plain hdj]
    generalize (execOp a.eval oj).run C.P w = r at *
    cases r with
    | ok x w' =>
      cases x <;> simp only [Oper.uponIn] at h ⊢
      case value u => exact ⟨keep u, by rw [← Act.put_comm a v u h2]; exact h⟩
      case skip => exact ⟨keep _, by rw [← Act.put_comm a v undef h2]; exact h⟩
      case defer d =>
        refine ⟨?_, ?_⟩
        · unfold YieldsS at *
          have e1 := execOp_put oi hsi { a with defers := d :: a.defers } oj.dst undef h3
          have e2 := wanted_put (ops := all) oi { a with defers := d :: a.defers } oj.dst undef h3
          rw [e1, e2]
          exact hy
        · rw [← Act.put_comm _ v undef h2, ← Act.put_defers]
          exact h
      case enter f args =>
        refine ⟨h.1, CallsIn.mono h.2 fun e w'' he => ?_⟩
        cases e with
        | returned u => exact ⟨keep u, by rw [← Act.put_comm a v u h2]; exact he⟩
        | panicked c => exact (hQ _ _ _ he).elim
        | outgrown => exact he
      case row row args => exact ⟨h.1, RowsIn.mono h.2 fun u w'' he => ⟨keep u, by rw [← Act.put_comm a v u h2]; exact he⟩⟩
      case round l f tmps assign body =>
        refine ⟨h.1, RoundIn.mono h.2 fun e w'' he => ?_⟩
        cases e with
        | returned u => exact ⟨keep u, by rw [← Act.put_comm a v u h2]; exact he⟩
        | panicked c => exact (hQ _ _ _ he).elim
        | outgrown => exact he
    | halt x w' =>
      cases x <;> simp only [Oper.uponIn] at h ⊢
      case panic u => exact (hQ _ _ _ h).elim
  · rename_i hw
    simp only [hw] at h
    exact ⟨fun _ _ => trivial, keep _, by rw [← Act.put_comm a v undef h2]; exact h.2⟩
theorem wpAnyS.first {i : Nat} {oi : Oper} {v : Value} (hi : all[i]? = some oi) (hnd : noDefer all = true) (hQ : ∀ c a w, ¬ Q (.panic c) a w) :
    ∀ (f : Nat) (L : Array Bool) (a : Act) (w : World), (∀ j oj, all[j]? = some oj → j ≠ i → L.getD j true = false → (∀ e ∈ oj.after, Region.binds .any e = true → e.on ≠ i) → oi.apart all oj = true) →
      Closed all L → i ∈ Region.ready .any all L → YieldsS C all S oi v a → S w → wpAnyS C all Q S f (L.setIfInBounds i true) (a.put oi.dst v) w → wpAnyS C all Q S (f + 1) L a w := by
  have hdi := noDefer_spec hnd hi
  intro f
  induction f with
  | zero =>
    intro L a w _ hcl hr hy hS H
    refine ⟨fun h => (by rw [h] at hr; cases hr), fun j hj => ?_⟩
    by_cases hji : j = i
    · subst hji; exact hy.step hi hdi.1 hS ⟨.inr hS, H⟩
    · have := ready_mono hj hji
      rw [H.1] at this
      cases this
  | succ f ih =>
    intro L a w hfree hcl hr hy hS H
    refine ⟨fun h => (by rw [h] at hr; cases hr), fun j hj => ?_⟩
    by_cases hji : j = i
    · subst hji; exact hy.step hi hdi.1 hS ⟨.inr hS, H⟩
    · have h1 := H.2 j (ready_mono hj hji)
      obtain ⟨hjun, oj, hoj, hall⟩ := mem_ready.1 hj
      have hnot : ∀ e ∈ oj.after, Region.binds .any e = true → e.on ≠ i := fun e he hb heq => by
        have h1 := hall e he hb
        have h0 := (mem_ready.1 hr).1
        rw [heq] at h1
        rcases Nat.lt_or_ge i L.size with h' | h'
        · simp [h'] at h0 h1; rw [h0] at h1; cases h1
        · simp [Array.getElem?_eq_none h'] at h1
      have hnb : ¬ Brk all j := fun hB => hB.no hcl hj hr hi (Ne.symm hji)
      have hdj := noDefer_spec hnd hoj
      have h2 := YieldsS.other hoj (hfree j oj hoj hji hjun hnot) hdi.2 hdj.2 hdj.1 hQ hy h1
      refine wpOpIn_mono (fun a' w' h3 => ⟨h3.2.1, ih (L.setIfInBounds j true) a' w' (fun k ok hk hki hun hno => ?_) (hcl.set hj) (ready_mono hr (Ne.symm hji)) h3.1 (h3.2.1.resolve_left hnb) ?_⟩) h2
      · refine hfree k ok hk hki ?_ hno
        by_cases hjk : j = k
        · subst hjk; exact hjun
        · rw [getD_set_ne true hjk] at hun; exact hun
      · rw [Array.setIfInBounds_comm _ _ hji]
        exact h3.2.2
def ED (C : Cx) (all : Array Oper) (Hs : List HA) (f : Nat) (L : Array Bool) (E : Env) (H : List HA) (Q : Qt) : Prop := ∀ a w, At C E H a w → Sat C.w0 C.B Hs w → wpAnyS C all Q (Sat C.w0 C.B Hs) f L a w
def readyIs (all : Array Oper) (L : Array Bool) (i : Nat) : Bool := match Region.ready .any all L with | [j] => Nat.beq i j | _ => false
def takeOk (all : Array Oper) (L : Array Bool) (i : Nat) : Bool := Region.free .any all L i && (Region.ready .any all L).contains i && closedB all L
variable {Hs : List HA} {f : Nat} {L : Array Bool} {E E' : Env} {H H' : List HA}
theorem ED.take (i : Nat) {o : Oper} {d : Nat} {v : Value} (hi : all[i]? = some o) (hnd : noDefer all = true) (hQ : ∀ c a w, ¬ Q (.panic c) a w) (ht : takeOk all L i = true) (hg : guardOk all E o.guard = some true) (hd : o.dst = some d) (hdn : Nat.blt d C.n = true)
    (hv : RunV C E Hs o v) (k : ED C all Hs f (L.setIfInBounds i true) ((d, v) :: E) H Q) : ED C all Hs (f + 1) L E H Q := by
  intro a w ha hs
  simp only [takeOk, Bool.and_eq_true] at ht
  refine wpAnyS.first hi hnd hQ f L a w (fun j oj => Region.free_spec hi ht.1.1 j oj) (closedB_spec ht.2) (by simpa using ht.1.2) (.inl ⟨guardOk_wanted hg ha.1, fun w' hS => hv a w' ⟨ha.1, hS⟩⟩) hs ?_
  rw [hd]
  exact k _ _ ⟨ha.1.put (by simpa using hdn) v, ha.2⟩ hs
theorem ED.tk {o : Oper} {d : Nat} {v : Value} (i : Nat) (hi : all[i]? = some o) (hv : RunV C E Hs o v) (k : ED C all Hs f (L.setIfInBounds i true) ((d, v) :: E) H Q) (hnd : noDefer all = true := by decide +kernel) (hQ : ∀ c a w, ¬ Q (.panic c) a w := by exact CutX.no_panic) (ht : takeOk all L i = true := by decide +kernel) (hg : guardOk all E o.guard = some true := by exact rfl) (hd : o.dst = some d := by exact rfl) (hdn : Nat.blt d C.n = true := by exact rfl) : ED C all Hs (f + 1) L E H Q := ED.take i hi hnd hQ ht hg hd hdn hv k
theorem ED.pass (i : Nat) {o : Oper} {d : Nat} (hi : all[i]? = some o) (hnd : noDefer all = true) (hQ : ∀ c a w, ¬ Q (.panic c) a w) (ht : takeOk all L i = true) (hg : guardOk all E o.guard = some false) (hd : o.dst = some d) (hdn : Nat.blt d C.n = true)
    (k : ED C all Hs f (L.setIfInBounds i true) ((d, undef) :: E) H Q) : ED C all Hs (f + 1) L E H Q := by
  intro a w ha hs
  simp only [takeOk, Bool.and_eq_true] at ht
  refine wpAnyS.first hi hnd hQ f L a w (fun j oj => Region.free_spec hi ht.1.1 j oj) (closedB_spec ht.2) (by simpa using ht.1.2) (.inr ⟨guardOk_wanted hg ha.1, rfl⟩) hs ?_
  rw [hd]
  exact k _ _ ⟨ha.1.put (by simpa using hdn) undef, ha.2⟩ hs
theorem ED.pa {o : Oper} {d : Nat} (i : Nat) (hi : all[i]? = some o) (k : ED C all Hs f (L.setIfInBounds i true) ((d, undef) :: E) H Q) (hnd : noDefer all = true := by decide +kernel) (hQ : ∀ c a w, ¬ Q (.panic c) a w := by exact CutX.no_panic) (ht : takeOk all L i = true := by decide +kernel) (hg : guardOk all E o.guard = some false := by exact rfl) (hd : o.dst = some d := by exact rfl) (hdn : Nat.blt d C.n = true := by exact rfl) : ED C all Hs (f + 1) L E H Q := ED.pass i hi hnd hQ ht hg hd hdn k
theorem ED.part {d : Nat} {p : Prop} [Decidable p] (hv : E.get d = some (.bool (decide p))) (ht : p → ED C all Hs f L ((d, .bool true) :: E) H Q) (hf : ¬ p → ED C all Hs f L ((d, .bool false) :: E) H Q) : ED C all Hs f L E H Q := by
  intro a w ha hs
  have hslot := ha.1.get d _ hv
  have fit : ∀ b : Bool, decide p = b → Fits C.n C.D ((d, .bool b) :: E) a := fun b hb => ⟨ha.1.dfr, ha.1.size, fun d' v' h' => by
    rw [Env.get_cons] at h'
    by_cases e : d = d'
    · subst e; rw [if_pos rfl] at h'; rw [← Option.some.inj h', hslot, hb]
    · rw [if_neg e] at h'; exact ha.1.get d' v' h'⟩
  by_cases hp : p
  · exact ht hp a w ⟨fit true (decide_eq_true hp), ha.2⟩ hs
  · exact hf hp a w ⟨fit false (decide_eq_false hp), ha.2⟩ hs
theorem RV.loadAggB {ty t e g d : Nat} {x : Operand} {pos : String} {af : Array Edge} {gd : Option (Nat × Bool)} {ti : TI} {cs : Array Value} {fr : Nat × Nat} (hx : E.ev x = some (Pv g 0)) (ht : C.T.f t = some ti) (hu : ti.agg = true) (hm : Mem H (HA.blk g (.cells cs e fr))) (hl : ti.size = cs.size) :
    RunV C E H ⟨some d, .load t x, ty, pos, af, gd⟩ (.agg cs) := by
  have := RV.loadAgg (C := C) (E := E) (H := H) (d := d) (ty := ty) (pos := pos) (af := af) (gd := gd) (cs := cs.toList) hx ht hu (by simpa using hl) (fun w hs j u hj => by rw [add_n, Nat.zero_add, blk_cell (hs.all _ hm.mem)]; simpa using hj)
  simpa using this
theorem RV.loadRm {α : Type} (fv : α → Value) (d0 : α) {ty t e g d off : Nat} {x : Operand} {pos : String} {af : Array Edge} {gd : Option (Nat × Bool)} {ti : TI} {l : List α} {len cap sz n : Nat} (hx : E.ev x = some (Pv g off)) (ht : C.T.f t = some ti) (hu : ti.agg = false) (hm : Mem H (HA.row (.slice (some ⟨g, 0, none⟩) len cap) e sz n (l.map fv))) (hi : off < l.length) :
    RunV C E H ⟨some d, .load t x, ty, pos, af, gd⟩ (fv (l.getD off d0)) :=
  RV.loadR hx ht hu hm (getElem?_map fv l off d0 hi)
def DK (C : Cx) (all : Array Oper) (Hs : List HA) (f : Nat) (L : Array Bool) (Q : Qt) : Qt := fun e a w => match e with
  | .normal => Sat C.w0 C.B Hs w ∧ wpAnyS C all Q (Sat C.w0 C.B Hs) f L a w
  | e => Q e a w
theorem loud_op {i : Nat} {o : Oper} {D : Qt} (hD : ∀ e a w, D e a w → match e with | .normal => (Brk all i ∨ Sat C.w0 C.B Hs w) ∧ wpAnyS C all Q (Sat C.w0 C.B Hs) f (L.setIfInBounds i true) a w | e => Q e a w) (hi : all[i]? = some o) (k : EL C all [o] D E H) {a : Act} {w : World} (ha : At C E H a w) :
    wpOpIn (F0 C.r) 0 C.P all Q i (fun a' w' => (Brk all i ∨ Sat C.w0 C.B Hs w') ∧ wpAnyS C all Q (Sat C.w0 C.B Hs) f (L.setIfInBounds i true) a' w') a w := by
  have hk := k a w ha
  unfold wpOpIn
  simp only [hi]
  simp only [wpListIn] at hk
  split
  · rename_i hw
    simp only [hw, if_true] at hk
    refine ⟨fun _ _ => trivial, ?_⟩
    have h2 := hk.2
    generalize (o.semAt (F0 C.r).round a.eval).run C.P w = r at *
    cases r with
    | ok x w' =>
      cases x <;> simp only [Oper.uponIn] at h2 ⊢
      case value u => exact hD _ _ _ h2
      case skip => exact hD _ _ _ h2
      case defer d => exact hD _ _ _ h2
      case enter f args =>
        refine ⟨h2.1, CallsIn.mono h2.2 fun e w'' he => ?_⟩
        cases e with
        | returned u => exact hD _ _ _ he
        | panicked c => exact hD _ _ _ he
        | outgrown =>
          obtain ⟨a', w3, h3⟩ := he
          exact ⟨a', w3, hD _ _ _ h3⟩
      case row row args => exact ⟨h2.1, RowsIn.mono h2.2 fun u w'' he => hD _ _ _ he⟩
      case round l f tmps assign body =>
        refine ⟨h2.1, RoundIn.mono h2.2 fun e w'' he => ?_⟩
        cases e with
        | returned u => exact hD _ _ _ he
        | panicked c => exact hD _ _ _ he
        | outgrown =>
          obtain ⟨a', w3, h3⟩ := he
          exact ⟨a', w3, hD _ _ _ h3⟩
    | halt x w' =>
      cases x <;> simp only [Oper.uponIn] at h2 ⊢
      case panic u => exact hD _ _ _ h2
  · rename_i hw
    simp only [hw] at hk
    exact ⟨fun _ _ => trivial, hD _ _ _ hk.2⟩
theorem ED.loudG (i : Nat) {o : Oper} {D : Qt} (hD : ∀ e a w, D e a w → match e with | .normal => (Brk all i ∨ Sat C.w0 C.B Hs w) ∧ wpAnyS C all Q (Sat C.w0 C.B Hs) f (L.setIfInBounds i true) a w | e => Q e a w) (hi : all[i]? = some o) (hr : readyIs all L i = true) (k : EL C all [o] D E H) : ED C all Hs (f + 1) L E H Q := by
  intro a w ha hs
  have hR : Region.ready .any all L = [i] := by
    unfold readyIs at hr
    split at hr
    · rename_i j hj; rw [hj, Nat.eq_of_beq_eq_true hr]
    · cases hr
  refine ⟨fun h => (by rw [hR] at h; cases h), fun j hj => ?_⟩
  rw [hR] at hj
  obtain rfl : j = i := by simpa using hj
  exact loud_op hD hi k ha
def EDone (C : Cx) (all : Array Oper) (Hs : List HA) (f : Nat) (L : Array Bool) (E : Env) (H : List HA) (Q : Qt) (j : Nat) : Prop := ∃ o, all[j]? = some o ∧ EL C all [o] (DK C all Hs f (L.setIfInBounds j true) Q) E H
def EDall (C : Cx) (all : Array Oper) (Hs : List HA) (f : Nat) (L : Array Bool) (E : Env) (H : List HA) (Q : Qt) : List Nat → Prop
  | [] => True
  | j :: r => EDone C all Hs f L E H Q j ∧ EDall C all Hs f L E H Q r
theorem EDall.get : ∀ {js : List Nat}, EDall C all Hs f L E H Q js → ∀ j ∈ js, EDone C all Hs f L E H Q j
  | j :: r, h, k, hk => by
    rcases List.mem_cons.1 hk with rfl | hk
    · exact h.1
    · exact EDall.get h.2 k hk
theorem ED.fork (i : Nat) (js : List Nat) (hr : (Region.ready .any all L == i :: js) = true) (h : EDall C all Hs f L E H Q (i :: js)) : ED C all Hs (f + 1) L E H Q := by
  intro a w ha hs
  have hR : Region.ready .any all L = i :: js := by simpa using hr
  refine ⟨fun h => (by rw [hR] at h; cases h), fun j hj => ?_⟩
  rw [hR] at hj
  obtain ⟨o, ho, k⟩ := h.get j hj
  exact loud_op (fun e a w h => by
    cases e with
    | normal => exact ⟨.inr h.1, h.2⟩
    | _ => exact h) ho k ha
theorem ED.loud (i : Nat) {o : Oper} (hi : all[i]? = some o) (hr : readyIs all L i = true) (k : EL C all [o] (DK C all Hs f (L.setIfInBounds i true) Q) E H) : ED C all Hs (f + 1) L E H Q :=
  ED.loudG i (fun e a w h => by
    cases e with
    | normal => exact ⟨.inr h.1, h.2⟩
    | _ => exact h) hi hr k
theorem ED.ld {o : Oper} (i : Nat) (k : EL C all [o] (DK C all Hs f (L.setIfInBounds i true) Q) E H) (hi : all[i]? = some o := by exact rfl) (hr : readyIs all L i = true := by decide +kernel) : ED C all Hs (f + 1) L E H Q := ED.loud i hi hr k
theorem ED.last (i : Nat) {o : Oper} (hi : all[i]? = some o) (hr : readyIs all L i = true) (hb : (lastBinds all && Nat.beq i (all.size - 1)) = true) (he : (match Region.ready .any all (L.setIfInBounds i true) with | [] => true | _ => false) = true) (k : EL C all [o] Q E H) : ED C all Hs (f + 1) L E H Q :=
  ED.loudG i (fun e a w h => by
    simp only [Bool.and_eq_true] at hb
    have hR : Region.ready .any all (L.setIfInBounds i true) = [] := by
      split at he
      · assumption
      · cases he
    cases e with
    | normal =>
      refine ⟨.inl ⟨hb.1, Nat.eq_of_beq_eq_true hb.2⟩, ?_⟩
      cases f with
      | zero => exact ⟨hR, h⟩
      | succ f => exact ⟨fun _ => h, fun i hi => absurd hi (by rw [hR]; simp)⟩
    | _ => exact h) hi hr k
theorem EL.endQ (k : PX C Q .normal E H) : EL C all [] Q E H := k
theorem ED.next (hs : Ent H Hs) (k : ED C all Hs f L E H Q) : EL C all [] (DK C all Hs f L Q) E H := fun a w ha => ⟨ha.2.ent hs, k a w ha (ha.2.ent hs)⟩
theorem EL.nx (k : ED C all Hs f L E H Q) (hs : Ent H Hs := by exact .i (by repeat constructor)) : EL C all [] (DK C all Hs f L Q) E H := ED.next hs k
theorem ED.done (hr : (match Region.ready .any all L with | [] => true | _ => false) = true) (k : PX C Q .normal E H) : ED C all Hs f L E H Q := by
  intro a w ha hs
  have hR : Region.ready .any all L = [] := by
    split at hr
    · assumption
    · cases hr
  cases f with
  | zero => exact ⟨hR, k a w ha⟩
  | succ f => exact ⟨fun _ => k a w ha, fun i hi => absurd hi (by rw [hR]; simp)⟩
theorem ED.dn (k : PX C Q .normal E H) (hr : (match Region.ready .any all L with | [] => true | _ => false) = true := by decide +kernel) : ED C all Hs f L E H Q := ED.done hr k
def CutX {X : Type} (C : Cx) (E : X → Env) (H : X → List HA) : Qt := fun e a w => e = .normal ∧ ∃ x, At C (E x) (H x) a w
theorem CutX.no_panic {X : Type} {E : X → Env} {H : X → List HA} : ∀ c a w, ¬ CutX C E H (.panic c) a w := fun c a w h => by cases h.1
theorem PX.cutX {X : Type} {Ex : X → Env} {Hx : X → List HA} (x : X) (he : Has E (Ex x)) (hh : Ent H (Hx x)) : PX C (CutX C Ex Hx) .normal E H := fun a w h => ⟨rfl, x, h.sub he hh⟩
theorem PX.cx {X : Type} {Ex : X → Env} {Hx : X → List HA} (x : X) (he : Has E (Ex x)) (hh : Ent H (Hx x) := by exact .i (by repeat constructor)) : PX C (CutX C Ex Hx) .normal E H := PX.cutX x he hh
theorem PX.cy {X : Type} {Ex : X → Env} {Hx : X → List HA} (x : X) (he : Has E (Ex x) := by repeat first | exact trivial | refine ⟨rfl, ?_⟩) (hh : Ent H (Hx x) := by exact .i (by repeat constructor)) : PX C (CutX C Ex Hx) .normal E H := PX.cutX x he hh
theorem ES.draw {X : Type} {id : Nat} {ops : Array Oper} {cs : List Code} (Ex : X → Env) (Hx : X → List HA) (Hs : List HA) (hm : C.P.follows .mixedOrders = true) (hs : Ent H Hs)
    (h : ED C ops Hs ops.size (Array.replicate ops.size false) E H (CutX C Ex Hx)) (k : ∀ x, ES C cs Q (Ex x) (Hx x)) : ES C (.region id ops true :: cs) Q E H := by
  intro a w ha
  have h1 := wpAnyS.any _ _ _ _ (h a { w with drawn := w.drawn + 1 } ⟨ha.1, ha.2.drewN _⟩ ((ha.2.ent hs).drewN _))
  have h2 := wpIn_region_any (id := id) hm h1
  refine wpIn_mono h2 ?_
  intro e a' w' hq
  cases e with
  | normal =>
    obtain ⟨_, x, hat⟩ := hq
    exact k x a' w' hat
  | _ => cases (hq.1 : _ = Exit.normal)
theorem getB {E : Env} {d : Nat} {v b : Bool} (h : E.get d = some (.bool v)) (hv : v = b) : E.get d = some (.bool b) := hv ▸ h
theorem EL.endK (he : Has E E') (hh : Ent H H') : EL C all [] (CutK C E' H') E H := fun a w h => ⟨rfl, h.sub he hh⟩
theorem EL.kx (he : Has E E') (hh : Ent H H' := by exact .i (by repeat constructor)) : EL C all [] (CutK C E' H') E H := EL.endK he hh
theorem wpListIn_mono {F : Fence} {n : Nat} {P : Program} {Q Q' : Qt} (hq : ∀ e a w, Q e a w → Q' e a w) : ∀ (ops : List Oper) (a : Act) (w : World), wpListIn F n P all Q ops a w → wpListIn F n P all Q' ops a w
  | [], a, w, h => hq _ _ _ h
  | o :: r, a, w, h => by
    have ih := wpListIn_mono (F := F) (n := n) (P := P) hq r
    simp only [wpListIn] at h ⊢
    split
    · rename_i hw
      simp only [hw, if_true] at h
      refine ⟨h.1, ?_⟩
      have h2 := h.2
      generalize (o.semAt F.round a.eval).run P w = rr at *
      have hl : LetsOut Q → LetsOut Q' := fun ⟨a', w3, h3⟩ => ⟨a', w3, hq _ _ _ h3⟩
      cases rr with
      | ok x w' =>
        cases x <;> simp only [Oper.uponIn] at h2 ⊢
        case value u => exact ih _ _ h2
        case skip => exact ih _ _ h2
        case defer d => exact ih _ _ h2
        case enter f args =>
          refine ⟨h2.1, CallsIn.mono h2.2 fun e w'' he => ?_⟩
          cases e with
          | returned u => exact ih _ _ he
          | panicked c => exact hq _ _ _ he
          | outgrown => exact hl he
        case row row args => exact ⟨h2.1, RowsIn.mono h2.2 fun u w'' he => ih _ _ he⟩
        case round l f tmps assign body =>
          refine ⟨h2.1, RoundIn.mono h2.2 fun e w'' he => ?_⟩
          cases e with
          | returned u => exact ih _ _ he
          | panicked c => exact hq _ _ _ he
          | outgrown => exact hl he
      | halt x w' =>
        cases x <;> simp only [Oper.uponIn] at h2 ⊢
        case panic u => exact hq _ _ _ h2
    · rename_i hw
      simp only [hw] at h
      exact ⟨h.1, ih _ _ h.2⟩
theorem EL.cut {cs : List Code} {ops : List Oper} (E' : Env) (H' : List HA) (h : EL C all ops (CutK C E' H') E H) (k : ES C cs Q E' H') : EL C all ops (Exit.then (wps C cs Q) Q) E H := by
  intro a w ha
  refine wpListIn_mono ?_ ops a w (h a w ha)
  intro e a' w' hq
  cases e with
  | normal => exact k a' w' hq.2
  | _ => cases (hq.1 : _ = Exit.normal)
theorem EL.cutX {X : Type} {cs : List Code} {ops : List Oper} (Ex : X → Env) (Hx : X → List HA) (h : EL C all ops (CutX C Ex Hx) E H) (k : ∀ x, ES C cs Q (Ex x) (Hx x)) : EL C all ops (Exit.then (wps C cs Q) Q) E H := by
  intro a w ha
  refine wpListIn_mono ?_ ops a w (h a w ha)
  intro e a' w' hq
  cases e with
  | normal =>
    obtain ⟨_, x, hat⟩ := hq
    exact k x a' w' hat
  | _ => cases (hq.1 : _ = Exit.normal)
theorem ES.cutC {X : Type} {c : Code} {cs : List Code} (Ex : X → Env) (Hx : X → List HA) (h : ES C [c] (CutX C Ex Hx) E H) (k : ∀ x, ES C cs Q (Ex x) (Hx x)) : ES C (c :: cs) Q E H := by
  intro a w ha
  refine wpIn_mono (h a w ha) ?_
  intro e a' w' hq
  cases e with
  | normal =>
    obtain ⟨_, x, hat⟩ := (hq : CutX C Ex Hx .normal a' w')
    exact k x a' w' hat
  | _ => cases (hq.1 : _ = Exit.normal)
theorem EL.endX {X : Type} {Ex : X → Env} {Hx : X → List HA} (x : X) (he : Has E (Ex x)) (hh : Ent H (Hx x)) : EL C all [] (CutX C Ex Hx) E H := fun a w h => ⟨rfl, x, h.sub he hh⟩
theorem EL.dx {X : Type} {Ex : X → Env} {Hx : X → List HA} (x : X) (he : Has E (Ex x)) (hh : Ent H (Hx x) := by exact .i (by repeat constructor)) : EL C all [] (CutX C Ex Hx) E H := EL.endX x he hh
end draws
end Go.Proofs.YthcbjbkheodejaaGreat.Sl
namespace Go.Proofs.YthcbjbkheodejaaGreat.Sl
open Go Go.RowKit
section rowsO
variable {C : Cx} {all : Array Oper} {ops : List Oper} {Q : Qt} {E : Env} {H H' R : List HA} {d ty : Nat} {pos : String} {af : Array Edge} {gd : Option (Nat × Bool)} {x y z : Operand} {v u : Value} {t e g off : Nat}
inductive Takes : List HA → List HA → List HA → Prop
  | nil (H : List HA) : Takes H [] H
  | cons {H : List HA} {A : HA} {R T S : List HA} (p : Pick H A R) (t : Takes R T S) : Takes H (A :: T) S
theorem Takes.perm {H T S : List HA} (h : Takes H T S) : H.Perm (T ++ S) := by
  induction h with
  | nil H => exact .refl _
  | cons p t ih => exact p.perm.trans (ih.cons _)
def Mut {X : Type} (P : Program) (f : FuncId) (argv : Array Value) (Hq : List HA) (val : X → Value) (HX : X → List HA) : Prop :=
  ∀ (w0 : World) (B : Nat) (R : List HA) (w : World), Sat w0 B (Hq ++ R) w → Calls P f argv w fun e w' => ∃ x, e = .returned (val x) ∧ Sat w0 B (HX x ++ R) w'
theorem EL.callM {X : Type} {fo : Operand} {ar : Array Operand} {tys : Array TypeId} {f : FuncId} {vs : List Value} {Hq : List HA} {val : X → Value} {HX : X → List HA} (hg : guardOk all E gd = some true) (hf : E.ev fo = some (.func (.func f) #[] #[])) (ha : E.evl ar.toList = some vs)
    (he : Enters C.P f) (hd : Nat.blt d C.n = true) (hc : Mut C.P f vs.toArray Hq val HX) (tk : Takes H Hq R)
    (k : ∀ x, EL C all ops Q ((d, val x) :: E) (HX x ++ R)) : EL C all (⟨some d, .call { callee := .value fo, args := ar, argTypes := tys }, ty, pos, af, gd⟩ :: ops) Q E H :=
  EL.call val (fun x => HX x ++ R) hg hf ha (by simp) he hd (fun w hs => hc _ _ R w (hs.perm tk.perm)) k
theorem EL.callM1 {fo : Operand} {ar : Array Operand} {tys : Array TypeId} {f : FuncId} {vs : List Value} {Hq Hr : List HA} {v : Value} (hg : guardOk all E gd = some true) (hf : E.ev fo = some (.func (.func f) #[] #[])) (ha : E.evl ar.toList = some vs)
    (he : Enters C.P f) (hd : Nat.blt d C.n = true) (hc : Mut C.P f vs.toArray Hq (fun _ : Unit => v) (fun _ => Hr)) (tk : Takes H Hq R)
    (k : EL C all ops Q ((d, v) :: E) (Hr ++ R)) : EL C all (⟨some d, .call { callee := .value fo, args := ar, argTypes := tys }, ty, pos, af, gd⟩ :: ops) Q E H :=
  EL.callM hg hf ha he hd hc tk (fun _ => k)
theorem Mut.pure {X : Type} {P : Program} {f : FuncId} {argv : Array Value} {val : X → Value} {HX : X → List HA} (h : ∀ w, Pure P f argv val HX w) : Mut P f argv [] val HX := fun w0 B R w hs => (h w).sat hs
theorem EL.callE {fo : Operand} {ar : Array Operand} {tys : Array TypeId} {f : FuncId} {vs : List Value} (hg : guardOk all E gd = some true) (hf : E.ev fo = some (.func (.func f) #[] #[])) (ha : E.evl ar.toList = some vs) (hd : Nat.blt d C.n = true)
    (hc : ∀ w, (callFunc f vs.toArray).run C.P w = .ok (.value v) w)
    (k : EL C all ops Q ((d, v) :: E) H) : EL C all (⟨some d, .call { callee := .value fo, args := ar, argTypes := tys }, ty, pos, af, gd⟩ :: ops) Q E H :=
  EL.val v hg rfl hd (by simp) (fun a w hat => by
    have hm : ar.map a.eval = vs.toArray := by
      have := hat.1.evl ha
      apply Array.ext'
      simpa using this
    simp only [execOp, resolve, hat.1.ev hf, hm, Deferred.ofValue, Sem.run_bind, Sem.run_pure, Result.andThen, invoke]
    rw [show (#[] ++ vs.toArray ++ #[] : Array Value) = vs.toArray by simp]
    exact hc w) k
def Rd (w : World) (B : Nat) (ad : Option Addr) (cs : List Value) : Prop := cs ≠ [] → ∃ g off, ad = some ⟨g, off, none⟩ ∧ g < B ∧ ∀ j v, cs[j]? = some v → w.cell? ⟨g, off + j, none⟩ = some v
theorem Rd.below {w0 w : World} {B B' : Nat} {ad : Option Addr} {cs : List Value} (h : Rd w0 B ad cs) (hb : Below B w0 w) (hB : B ≤ B') : Rd w B' ad cs := by
  intro hne
  obtain ⟨g, off, h1, h2, h3⟩ := h hne
  exact ⟨g, off, h1, by omega, fun j v hj => by
    have := h3 j v hj
    unfold World.cell? at this ⊢
    rw [hb.block g h2]; exact this⟩
theorem Rd.sat {w0 w : World} {B : Nat} {ad : Option Addr} {cs : List Value} (h : Rd w0 B ad cs) (hs : Sat w0 B H w) : Rd w w.heap.size ad cs := h.below hs.below hs.base
theorem Rd.row {w0 w : World} {B n cap sz e : Nat} {ad : Option Addr} {cs : List Value} (hs : Sat w0 B H w) (hm : Mem H (HA.row (.slice ad n cap) e sz n cs)) (hsz : 0 < sz) : Rd w w.heap.size ad cs := by
  intro hne
  have hf := row_form (hs.all _ hm.mem)
  have hpos : 0 < n := by
    rcases Nat.eq_zero_or_pos n with h0 | h0
    · subst h0; exact absurd (List.eq_nil_of_length_eq_zero (by simpa using hf.2.2.2.1)) hne
    · exact h0
  obtain ⟨g, rfl⟩ := hf.2.2.2.2 hpos
  have hlt := (hs.lo g (List.mem_flatMap.2 ⟨_, hm.mem, by simp [HA.row, Value.ownBlock]⟩)).2
  exact ⟨g, 0, rfl, hlt, fun j v hj => by rw [Nat.zero_add]; exact row_cell (hs.all _ hm.mem) j v hj⟩
theorem Rd.drop {w : World} {B : Nat} {g off k : Nat} {cs : List Value} (h : Rd w B (some ⟨g, off, none⟩) cs) (hk : k < cs.length) : Rd w B (some ⟨g, off + k, none⟩) (cs.drop k) := by
  intro _
  obtain ⟨g', off', h1, h2, h3⟩ := h (by intro e; subst e; simp at hk)
  simp only [Option.some.injEq, Addr.mk.injEq] at h1
  obtain ⟨rfl, rfl, _⟩ := h1
  refine ⟨g, off + k, rfl, h2, fun j v hj => ?_⟩
  rw [List.getElem?_drop] at hj
  rw [Nat.add_assoc]
  exact h3 _ v hj
theorem EL.loadOld {ti : TI} {j : Nat} {cs : List Value} (hg : guardOk all E gd = some true) (hx : E.ev x = some (Pv g (off + j))) (ht : C.T.f t = some ti) (hu : ti.agg = false) (hd : Nat.blt d C.n = true) (hr : Rd C.w0 C.B (some ⟨g, off, none⟩) cs) (hc : cs[j]? = some v)
    (k : EL C all ops Q ((d, v) :: E) H) : EL C all (⟨some d, .load t x, ty, pos, af, gd⟩ :: ops) Q E H :=
  EL.load hg hx ht hu hd (fun w hs => by
    obtain ⟨g', off', h1, h2, h3⟩ := hr (by intro e; subst e; simp at hc)
    simp only [Option.some.injEq, Addr.mk.injEq] at h1
    obtain ⟨rfl, rfl, _⟩ := h1
    have := h3 j v hc
    unfold World.cell? at this ⊢
    rw [hs.below.block g h2]; exact this) k
theorem RV.loadOld {ti : TI} {j : Nat} {cs : List Value} (hx : E.ev x = some (Pv g (off + j))) (ht : C.T.f t = some ti) (hu : ti.agg = false) (hr : Rd C.w0 C.B (some ⟨g, off, none⟩) cs) (hc : cs[j]? = some v) : RunV C E H ⟨some d, .load t x, ty, pos, af, gd⟩ v :=
  RV.load hx ht hu (fun w hs => by
    obtain ⟨g', off', h1, h2, h3⟩ := hr (by intro e; subst e; simp at hc)
    simp only [Option.some.injEq, Addr.mk.injEq] at h1
    obtain ⟨rfl, rfl, _⟩ := h1
    have := h3 j v hc
    unfold World.cell? at this ⊢
    rw [hs.below.block g h2]; exact this)
theorem EL.loadOldA {ti : TI} {j : Nat} {cs vs : List Value} (hg : guardOk all E gd = some true) (hx : E.ev x = some (Pv g (off + j))) (ht : C.T.f t = some ti) (hu : ti.agg = true) (hl : ti.size = vs.length) (hpos : 0 < vs.length) (hd : Nat.blt d C.n = true) (hr : Rd C.w0 C.B (some ⟨g, off, none⟩) cs) (hc : ∀ i u, vs[i]? = some u → cs[j + i]? = some u)
    (k : EL C all ops Q ((d, .agg vs.toArray) :: E) H) : EL C all (⟨some d, .load t x, ty, pos, af, gd⟩ :: ops) Q E H :=
  EL.loadAgg (cs := vs) hg hx ht hu hl hd (fun w hs i u hi => by
    have hci := hc i u hi
    obtain ⟨g', off', h1, h2, h3⟩ := hr (by intro e; subst e; simp at hci)
    simp only [Option.some.injEq, Addr.mk.injEq] at h1
    obtain ⟨rfl, rfl, _⟩ := h1
    have := h3 _ u hci
    rw [add_n, Nat.add_assoc]
    unfold World.cell? at this ⊢
    rw [hs.below.block g h2]; exact this) k
theorem EL.callPw {fo : Operand} {ar : Array Operand} {tys : Array TypeId} {f : FuncId} {vs : List Value} {v : Value} (hg : guardOk all E gd = some true) (hf : E.ev fo = some (.func (.func f) #[] #[])) (ha : E.evl ar.toList = some vs)
    (he : Enters C.P f) (hd : Nat.blt d C.n = true) (hc : ∀ w, Sat C.w0 C.B H w → Pure C.P f vs.toArray (fun _ : Unit => v) (fun _ => []) w)
    (k : EL C all ops Q ((d, v) :: E) H) : EL C all (⟨some d, .call { callee := .value fo, args := ar, argTypes := tys }, ty, pos, af, gd⟩ :: ops) Q E H :=
  EL.call (fun _ : Unit => v) (fun _ => H) hg hf ha (by simp) he hd (fun w hs => (hc w hs).sat hs) (fun _ => k)
theorem EL.callXw {X : Type} {fo : Operand} {ar : Array Operand} {tys : Array TypeId} {f : FuncId} {vs : List Value} {val : X → Value} {HX : X → List HA} (hg : guardOk all E gd = some true) (hf : E.ev fo = some (.func (.func f) #[] #[])) (ha : E.evl ar.toList = some vs)
    (he : Enters C.P f) (hd : Nat.blt d C.n = true) (hc : ∀ w, Sat C.w0 C.B H w → Pure C.P f vs.toArray val HX w)
    (k : ∀ x, EL C all ops Q ((d, val x) :: E) (HX x ++ H)) : EL C all (⟨some d, .call { callee := .value fo, args := ar, argTypes := tys }, ty, pos, af, gd⟩ :: ops) Q E H :=
  EL.call val (fun x => HX x ++ H) hg hf ha (by simp) he hd (fun w hs => (hc w hs).sat hs) k
end rowsO
end Go.Proofs.YthcbjbkheodejaaGreat.Sl
namespace Go.Proofs.YthcbjbkheodejaaGreat.Sl
open Go Go.RowKit
abbrev Wv (x : UInt64) : Value := .int .u64 (x.toNat : Int)
theorem bv64 (b : UInt64) : BitVec.ofInt 64 (b.toNat : Int) = b.toBitVec := by
  rw [BitVec.ofInt_natCast]; apply BitVec.eq_of_toNat_eq; simp
theorem wrapW_mod (n : Nat) : IntKind.u64.wrap (n : Int) = ((n % 18446744073709551616 : Nat) : Int) := by
  simp [IntKind.wrap, IntKind.signed, IntKind.bits]
theorem run_andW (a b : UInt64) (P : Program) (w : World) : (Op.intBits .and .u64 (a.toNat : Int) (b.toNat : Int)).run P w = .ok (Wv (a &&& b)) w := by
  simp only [Op.intBits, IntKind.bits, bv64]
  show Result.ok _ _ = _
  congr 2
  rw [wrap_u64 _ (by exact (BitVec.isLt _))]
  rfl
theorem run_orW (a b : UInt64) (P : Program) (w : World) : (Op.intBits .or .u64 (a.toNat : Int) (b.toNat : Int)).run P w = .ok (Wv (a ||| b)) w := by
  simp only [Op.intBits, IntKind.bits, bv64]
  show Result.ok _ _ = _
  congr 2
  rw [wrap_u64 _ (by exact (BitVec.isLt _))]
  rfl
theorem run_notW (a : UInt64) (P : Program) (w : World) : (Op.unary .xor (Wv a)).run P w = .ok (Wv (~~~a)) w := by
  have h0 : BitVec.ofInt 64 IntKind.u64.max = BitVec.allOnes 64 := by decide
  simp only [Op.unary, IntKind.signed, Bool.false_eq_true, if_false, Op.intBits, IntKind.bits, bv64, h0, BitVec.allOnes_xor]
  show Result.ok _ _ = _
  congr 2
  rw [wrap_u64 _ (by exact (BitVec.isLt _))]
  rfl
theorem shlW_eq (a : UInt64) (s : Nat) (hs : s < 64) : IntKind.u64.wrap ((a.toNat : Int) * 2 ^ s) = ((a <<< UInt64.ofNat s).toNat : Int) := by
  have h1 : ((a.toNat : Int) * 2 ^ s) = ((a.toNat * 2 ^ s : Nat) : Int) := by simp
  rw [h1, wrapW_mod, UInt64.toNat_shiftLeft, UInt64.toNat_ofNat_of_lt' (by simp only [UInt64.size]; omega), Nat.mod_eq_of_lt hs, Nat.shiftLeft_eq]
theorem shrW_eq (a : UInt64) (s : Nat) (hs : s < 64) : (a.toNat : Int).fdiv (2 ^ s) = ((a >>> UInt64.ofNat s).toNat : Int) := by
  rw [UInt64.toNat_shiftRight, UInt64.toNat_ofNat_of_lt' (by simp only [UInt64.size]; omega), Nat.mod_eq_of_lt hs, Nat.shiftRight_eq_div_pow]
  have : ((2 : Int) ^ s) = ((2 ^ s : Nat) : Int) := by simp
  rw [this, Int.fdiv_eq_ediv_of_nonneg _ (Int.natCast_nonneg _)]
  exact (Int.natCast_ediv _ _).symm
theorem run_shrW (a : UInt64) (kd : IntKind) (s : Nat) (hs : s < 64) (P : Program) (w : World) : (Op.shift .shr .u64 (a.toNat : Int) kd (s : Nat)).run P w = .ok (Wv (a >>> UInt64.ofNat s)) w := by
  have h1 : min s 64 = s := by omega
  have h3 : ¬ ((s : Int) < 0) := by omega
  unfold Op.shift
  rw [if_neg h3]
  simp only [Int.toNat_natCast, IntKind.bits, h1]
  rw [shrW_eq a s hs]
  rfl
section words
variable {C : Cx} {all : Array Oper} {ops : List Oper} {Q : Qt} {E : Env} {H : List HA} {d ty t t' : Nat} {pos : String} {af : Array Edge} {g : Option (Nat × Bool)} {x y : Operand} {m n : Int}
theorem EL.ofRV {o : Oper} {v : Value} (h : RunV C E H o v) (hg : guardOk all E o.guard = some true) (hd : o.dst = some d) (hdn : Nat.blt d C.n = true) (hop : ∀ c, o.op ≠ .defer c) (k : EL C all ops Q ((d, v) :: E) H) : EL C all (o :: ops) Q E H := EL.val v hg hd hdn hop h k
theorem RV.andW {a b : UInt64} (hx : E.ev x = some (.int .u64 m)) (hy : E.ev y = some (.int .u64 n)) (hm : m = (a.toNat : Int)) (hn : n = (b.toNat : Int)) : RunV C E H ⟨some d, .binOp .and t x y t', ty, pos, af, g⟩ (Wv (a &&& b)) := fun ac w ha => by
  subst hm; subst hn; simp [execOp, ha.1.ev hx, ha.1.ev hy, eqGuard, binOp, run_andW, Result.andThen]
theorem RV.orW {a b : UInt64} (hx : E.ev x = some (.int .u64 m)) (hy : E.ev y = some (.int .u64 n)) (hm : m = (a.toNat : Int)) (hn : n = (b.toNat : Int)) : RunV C E H ⟨some d, .binOp .or t x y t', ty, pos, af, g⟩ (Wv (a ||| b)) := fun ac w ha => by
  subst hm; subst hn; simp [execOp, ha.1.ev hx, ha.1.ev hy, eqGuard, binOp, run_orW, Result.andThen]
theorem RV.notW {a : UInt64} (hx : E.ev x = some (.int .u64 m)) (hm : m = (a.toNat : Int)) : RunV C E H ⟨some d, .unOp .xor t x, ty, pos, af, g⟩ (Wv (~~~a)) := fun ac w ha => by
  subst hm
  simp [execOp, ha.1.ev hx, run_notW, Result.andThen]
theorem RV.shlW {a : UInt64} {kd : IntKind} {s : Nat} (hx : E.ev x = some (.int .u64 m)) (hy : E.ev y = some (.int kd (s : Nat))) (hm : m = (a.toNat : Int)) (hs : s < 64) : RunV C E H ⟨some d, .binOp .shl t x y t', ty, pos, af, g⟩ (Wv (a <<< UInt64.ofNat s)) := fun ac w ha => by
  subst hm
  have h1 : min s 64 = s := by omega
  have h2 := shlW_eq a s hs
  have h3 : ¬ ((s : Int) < 0) := by omega
  simp [execOp, ha.1.ev hx, ha.1.ev hy, eqGuard, binOp, Op.shift, h3, IntKind.bits, h1, h2, Result.andThen]
theorem RV.shrW {a : UInt64} {kd : IntKind} {s : Nat} (hx : E.ev x = some (.int .u64 m)) (hy : E.ev y = some (.int kd (s : Nat))) (hm : m = (a.toNat : Int)) (hs : s < 64) : RunV C E H ⟨some d, .binOp .shr t x y t', ty, pos, af, g⟩ (Wv (a >>> UInt64.ofNat s)) := fun ac w ha => by
  subst hm
  simp only [execOp, ha.1.ev hx, ha.1.ev hy, eqGuard, binOp, Sem.run_bind, Sem.run_pure, run_shrW a kd s hs, Result.andThen]
  rfl
theorem RV.remN {kd : IntKind} {m n : Nat} (hx : E.ev x = some (.int kd (m : Nat))) (hy : E.ev y = some (.int kd (n : Nat))) (h0 : 0 < n) : RunV C E H ⟨some d, .binOp .rem t x y t', ty, pos, af, g⟩ (.int kd ((m % n : Nat) : Int)) := fun a w ha => by
  have h1 : (n : Int) ≠ 0 := by omega
  have h2 : ((m : Int).tmod n) = ((m % n : Nat) : Int) := by rw [Int.tmod_eq_emod_of_nonneg (by omega)]; omega
  have h3 : n ≠ 0 := by omega
  simp [execOp, ha.1.ev hx, ha.1.ev hy, eqGuard, binOp, Op.intDiv, Result.andThen, h1, h2, h3]
theorem RV.convN {kd kd' : IntKind} {n : Nat} {ti ts : TI} (hx : E.ev x = some (.int kd (n : Nat))) (ht : C.T.f t' = some ti) (hu : ti.u = .int kd') (hT0 : C.T.f t = some ts) (hr : n ≤ kmax kd') : RunV C E H ⟨some d, .convert t t' x, ty, pos, af, g⟩ (.int kd' (n : Nat)) :=
  RV.convI (n : Int) hx ht hu hT0 (wrap_of_le kd' n hr)
theorem RV.quoU {kd : IntKind} {m n : Nat} (hx : E.ev x = some (.int kd (m : Nat))) (hy : E.ev y = some (.int kd (n : Nat))) (h0 : 0 < n) (hm : m ≤ kmax kd) : RunV C E H ⟨some d, .binOp .quo t x y t', ty, pos, af, g⟩ (.int kd ((m / n : Nat) : Int)) := fun a w ha => by
  have h1 : (n : Int) ≠ 0 := by omega
  have h3 : m / n ≤ m := Nat.div_le_self _ _
  have h2 : kd.wrap ((m : Int).tdiv n) = ((m / n : Nat) : Int) := by
    rw [Int.tdiv_eq_ediv_of_nonneg (by omega), ← Int.natCast_ediv]
    exact wrap_of_le kd _ (Nat.le_trans h3 hm)
  have h4 : n ≠ 0 := by omega
  have h5 : kd.wrap ((m : Int) / (n : Int)) = (m : Int) / (n : Int) := by rw [Int.tdiv_eq_ediv_of_nonneg (by omega)] at h2; simpa using h2
  simp [execOp, ha.1.ev hx, ha.1.ev hy, eqGuard, binOp, Op.intDiv, Result.andThen, h1, h5, h4]
end words
structure BS where
  a : UInt64
  b : UInt64
  c : UInt64
  d : UInt64
theorem BS.ext_iff' (s t : BS) : (s.a = t.a ∧ s.b = t.b ∧ s.c = t.c ∧ s.d = t.d) ↔ s = t := by
  cases s; cases t; simp
instance : DecidableEq BS := fun s t => decidable_of_iff _ (BS.ext_iff' s t)
def BS.get (s : BS) : Nat → UInt64
  | 0 => s.a
  | 1 => s.b
  | 2 => s.c
  | _ => s.d
def BS.set (s : BS) (i : Nat) (x : UInt64) : BS := match i with
  | 0 => { s with a := x }
  | 1 => { s with b := x }
  | 2 => { s with c := x }
  | _ => { s with d := x }
abbrev BS.cells (s : BS) : Array Value := #[Wv s.a, Wv s.b, Wv s.c, Wv s.d]
abbrev Bs (s : BS) : Value := .agg s.cells
theorem BS.cells_get (s : BS) (i : Nat) (hi : i < 4) : s.cells[i]? = some (Wv (s.get i)) := by
  match i, hi with
  | 0, _ => rfl
  | 1, _ => rfl
  | 2, _ => rfl
  | 3, _ => rfl
theorem BS.cells_set (s : BS) (i : Nat) (hi : i < 4) (x : UInt64) : s.cells.setIfInBounds i (Wv x) = (s.set i x).cells := by
  match i, hi with
  | 0, _ => rfl
  | 1, _ => rfl
  | 2, _ => rfl
  | 3, _ => rfl
section fours
variable {C : Cx} {all : Array Oper} {ops : List Oper} {Q : Qt} {E : Env} {H H' : List HA} {d ty t t' e g off : Nat} {pos : String} {af : Array Edge} {gd : Option (Nat × Bool)} {x y : Operand}
theorem RV.loadBS {ti : TI} {w0 w1 w2 w3 : UInt64} {fr : Nat × Nat} (hx : E.ev x = some (Pv g off)) (ht : C.T.f t = some ti) (hu : ti.agg = false) (hm : Mem H (HA.blk g (.cells #[Wv w0, Wv w1, Wv w2, Wv w3] e fr))) (hi : off < 4) :
    RunV C E H ⟨some d, .load t x, ty, pos, af, gd⟩ (Wv (BS.get ⟨w0, w1, w2, w3⟩ off)) :=
  RV.loadB hx ht hu hm (BS.cells_get ⟨w0, w1, w2, w3⟩ off hi)
theorem EL.storeBS {ti : TI} {w0 w1 w2 w3 : UInt64} {b : UInt64} (hg : guardOk all E gd = some true) (hx : E.ev x = some (Pv g off)) (hy : E.ev y = some (Wv b)) (ht : C.T.f t = some ti) (hsz : Nat.beq ti.size 1 = true)
    (p : PickSet H (HA.blk g (.cells #[Wv w0, Wv w1, Wv w2, Wv w3] e (0, 0))) (HA.blk g (.cells (BS.set ⟨w0, w1, w2, w3⟩ off b).cells e (0, 0))) H') (hi : off < 4) (k : EL C all ops Q E H') : EL C all (⟨none, .store t x y, ty, pos, af, gd⟩ :: ops) Q E H :=
  EL.storeB (cs := BS.cells ⟨w0, w1, w2, w3⟩) hg hx hy rfl ht hsz (by rw [BS.cells_set _ _ hi]; exact p) (by simpa using hi) k
theorem EL.loadBS {ti : TI} {w0 w1 w2 w3 : UInt64} {fr : Nat × Nat} (hg : guardOk all E gd = some true) (hx : E.ev x = some (Pv g off)) (ht : C.T.f t = some ti) (hu : ti.agg = false) (hd : Nat.blt d C.n = true) (hm : Mem H (HA.blk g (.cells #[Wv w0, Wv w1, Wv w2, Wv w3] e fr))) (hi : off < 4)
    (k : EL C all ops Q ((d, Wv (BS.get ⟨w0, w1, w2, w3⟩ off)) :: E) H) : EL C all (⟨some d, .load t x, ty, pos, af, gd⟩ :: ops) Q E H :=
  EL.ofRV (RV.loadBS hx ht hu hm hi) hg rfl hd (by intro c h; cases h) k
end fours
end Go.Proofs.YthcbjbkheodejaaGreat.Sl
namespace Go.Proofs.YthcbjbkheodejaaGreat
open Go Go.RowKit Sl
set_option maxRecDepth 100000
def ty2 : TI := { u := .int .i64, size := 1, bytes := 8, zero := .int .i64 (0) }
theorem tyOk2 : TyOk Tryz.prog 2 ty2 := ⟨Tryz.underlying2, by kernel_rfl⟩
def ty3 : TI := { u := .int .i64, size := 1, bytes := 8, zero := .int .i64 (0) }
theorem tyOk3 : TyOk Tryz.prog 3 ty3 := ⟨Tryz.underlying3, by kernel_rfl⟩
def ty4 : TI := { u := .bool, size := 1, bytes := 1, zero := .bool false }
theorem tyOk4 : TyOk Tryz.prog 4 ty4 := ⟨Tryz.underlying4, by kernel_rfl⟩
def ty5 : TI := { u := .int .u8, size := 1, bytes := 1, zero := .int .u8 (0) }
theorem tyOk5 : TyOk Tryz.prog 5 ty5 := ⟨Tryz.underlying5, by kernel_rfl⟩
def ty9 : TI := { u := .string, size := 1, bytes := 16, zero := .string ⟨#[]⟩ }
theorem tyOk9 : TyOk Tryz.prog 9 ty9 := ⟨Tryz.underlying9, by kernel_rfl⟩
def ty23 : TI := { u := .slice 29, size := 1, bytes := 24, zero := .slice none 0 0 }
theorem tyOk23 : TyOk Tryz.prog 23 ty23 := ⟨Tryz.underlying23, by kernel_rfl⟩
def ty24 : TI := { u := .int .i64, size := 1, bytes := 8, zero := .int .i64 (0) }
theorem tyOk24 : TyOk Tryz.prog 24 ty24 := ⟨Tryz.underlying24, by kernel_rfl⟩
def ty29 : TI := { u := .struct #[{ name := "From", type := 3, offset := 0, embedded := false, tag := "", pkgPath := "", byteOffset := 0 }, { name := "To", type := 3, offset := 1, embedded := false, tag := "", pkgPath := "", byteOffset := 8 }], size := 2, bytes := 16, zero := .agg #[.int .i64 (0), .int .i64 (0)] }
theorem tyOk29 : TyOk Tryz.prog 29 ty29 := ⟨Tryz.underlying29, by kernel_rfl⟩
def ty33 : TI := { u := .struct #[{ name := "E", type := 24, offset := 0, embedded := false, tag := "", pkgPath := "", byteOffset := 0 }, { name := "At", type := 3, offset := 1, embedded := false, tag := "", pkgPath := "", byteOffset := 8 }], size := 2, bytes := 16, zero := .agg #[.int .i64 (0), .int .i64 (0)] }
theorem tyOk33 : TyOk Tryz.prog 33 ty33 := ⟨Tryz.underlying33, by kernel_rfl⟩
def ty41 : TI := { u := .int .u64, size := 1, bytes := 8, zero := .int .u64 (0) }
theorem tyOk41 : TyOk Tryz.prog 41 ty41 := ⟨Tryz.underlying41, by kernel_rfl⟩
def ty43 : TI := { u := .array 4 41, size := 4, bytes := 32, zero := .agg #[.int .u64 (0), .int .u64 (0), .int .u64 (0), .int .u64 (0)] }
theorem tyOk43 : TyOk Tryz.prog 43 ty43 := ⟨Tryz.underlying43, by kernel_rfl⟩
def ty44 : TI := { u := .slice 46, size := 1, bytes := 24, zero := .slice none 0 0 }
theorem tyOk44 : TyOk Tryz.prog 44 ty44 := ⟨Tryz.underlying44, by kernel_rfl⟩
def ty46 : TI := { u := .struct #[{ name := "Kind", type := 3, offset := 0, embedded := false, tag := "", pkgPath := "", byteOffset := 0 }, { name := "Set", type := 43, offset := 1, embedded := false, tag := "", pkgPath := "", byteOffset := 8 }, { name := "Lo", type := 3, offset := 5, embedded := false, tag := "", pkgPath := "", byteOffset := 40 }, { name := "Hi", type := 3, offset := 6, embedded := false, tag := "", pkgPath := "", byteOffset := 48 }, { name := "Group", type := 3, offset := 7, embedded := false, tag := "", pkgPath := "", byteOffset := 56 }, { name := "Kids", type := 44, offset := 8, embedded := false, tag := "", pkgPath := "", byteOffset := 64 }], size := 9, bytes := 88, zero := .agg #[.int .i64 (0), .int .u64 (0), .int .u64 (0), .int .u64 (0), .int .u64 (0), .int .i64 (0), .int .i64 (0), .int .i64 (0), .slice none 0 0] }
theorem tyOk46 : TyOk Tryz.prog 46 ty46 := ⟨Tryz.underlying46, by kernel_rfl⟩
def ty66 : TI := { u := .struct #[{ name := "Positions", type := 3, offset := 0, embedded := false, tag := "", pkgPath := "", byteOffset := 0 }, { name := "Groups", type := 3, offset := 1, embedded := false, tag := "", pkgPath := "", byteOffset := 8 }, { name := "Least", type := 3, offset := 2, embedded := false, tag := "", pkgPath := "", byteOffset := 16 }, { name := "Most", type := 3, offset := 3, embedded := false, tag := "", pkgPath := "", byteOffset := 24 }, { name := "Back", type := 4, offset := 4, embedded := false, tag := "", pkgPath := "", byteOffset := 32 }, { name := "Bol", type := 4, offset := 5, embedded := false, tag := "", pkgPath := "", byteOffset := 33 }, { name := "Eol", type := 4, offset := 6, embedded := false, tag := "", pkgPath := "", byteOffset := 34 }], size := 7, bytes := 40, zero := .agg #[.int .i64 (0), .int .i64 (0), .int .i64 (0), .int .i64 (0), .bool false, .bool false, .bool false] }
theorem tyOk66 : TyOk Tryz.prog 66 ty66 := ⟨Tryz.underlying66, by kernel_rfl⟩
def ty69 : TI := { u := .pointer 73, size := 1, bytes := 8, zero := .pointer none }
theorem tyOk69 : TyOk Tryz.prog 69 ty69 := ⟨Tryz.underlying69, by kernel_rfl⟩
def ty71 : TI := { u := .struct #[{ name := "Subject", type := 9, offset := 0, embedded := false, tag := "", pkgPath := "", byteOffset := 0 }, { name := "Steps", type := 3, offset := 1, embedded := false, tag := "", pkgPath := "", byteOffset := 16 }], size := 2, bytes := 24, zero := .agg #[.string ⟨#[]⟩, .int .i64 (0)] }
theorem tyOk71 : TyOk Tryz.prog 71 ty71 := ⟨Tryz.underlying71, by kernel_rfl⟩
def ty73 : TI := { u := .struct #[{ name := "Walk", type := 71, offset := 0, embedded := true, tag := "", pkgPath := "", byteOffset := 0 }, { name := "spans", type := 23, offset := 2, embedded := false, tag := "", pkgPath := "runnel/setmatch", byteOffset := 24 }], size := 3, bytes := 48, zero := .agg #[.string ⟨#[]⟩, .int .i64 (0), .slice none 0 0] }
theorem tyOk73 : TyOk Tryz.prog 73 ty73 := ⟨Tryz.underlying73, by kernel_rfl⟩
def ty76 : TI := { u := .pointer 121, size := 1, bytes := 8, zero := .pointer none }
theorem tyOk76 : TyOk Tryz.prog 76 ty76 := ⟨Tryz.underlying76, by kernel_rfl⟩
def ty79 : TI := { u := .pointer 46, size := 1, bytes := 8, zero := .pointer none }
theorem tyOk79 : TyOk Tryz.prog 79 ty79 := ⟨Tryz.underlying79, by kernel_rfl⟩
def ty100 : TI := { u := .pointer 107, size := 1, bytes := 8, zero := .pointer none }
theorem tyOk100 : TyOk Tryz.prog 100 ty100 := ⟨Tryz.underlying100, by kernel_rfl⟩
def ty101 : TI := { u := .slice 3, size := 1, bytes := 24, zero := .slice none 0 0 }
theorem tyOk101 : TyOk Tryz.prog 101 ty101 := ⟨Tryz.underlying101, by kernel_rfl⟩
def ty103 : TI := { u := .struct #[{ name := "kids", type := 44, offset := 0, embedded := false, tag := "", pkgPath := "runnel/bre", byteOffset := 0 }, { name := "sizes", type := 101, offset := 1, embedded := false, tag := "", pkgPath := "runnel/bre", byteOffset := 24 }, { name := "group", type := 3, offset := 2, embedded := false, tag := "", pkgPath := "runnel/bre", byteOffset := 48 }, { name := "at", type := 3, offset := 3, embedded := false, tag := "", pkgPath := "runnel/bre", byteOffset := 56 }], size := 4, bytes := 64, zero := .agg #[.slice none 0 0, .slice none 0 0, .int .i64 (0), .int .i64 (0)] }
theorem tyOk103 : TyOk Tryz.prog 103 ty103 := ⟨Tryz.underlying103, by kernel_rfl⟩
def ty104 : TI := { u := .slice 103, size := 1, bytes := 24, zero := .slice none 0 0 }
theorem tyOk104 : TyOk Tryz.prog 104 ty104 := ⟨Tryz.underlying104, by kernel_rfl⟩
def ty105 : TI := { u := .array 10 4, size := 10, bytes := 10, zero := .agg #[.bool false, .bool false, .bool false, .bool false, .bool false, .bool false, .bool false, .bool false, .bool false, .bool false] }
theorem tyOk105 : TyOk Tryz.prog 105 ty105 := ⟨Tryz.underlying105, by kernel_rfl⟩
def ty107 : TI := { u := .struct #[{ name := "frames", type := 104, offset := 0, embedded := false, tag := "", pkgPath := "runnel/bre", byteOffset := 0 }, { name := "groups", type := 3, offset := 1, embedded := false, tag := "", pkgPath := "runnel/bre", byteOffset := 24 }, { name := "shut", type := 105, offset := 2, embedded := false, tag := "", pkgPath := "runnel/bre", byteOffset := 32 }, { name := "size", type := 3, offset := 12, embedded := false, tag := "", pkgPath := "runnel/bre", byteOffset := 48 }], size := 13, bytes := 56, zero := .agg #[.slice none 0 0, .int .i64 (0), .bool false, .bool false, .bool false, .bool false, .bool false, .bool false, .bool false, .bool false, .bool false, .bool false, .int .i64 (0)] }
theorem tyOk107 : TyOk Tryz.prog 107 ty107 := ⟨Tryz.underlying107, by kernel_rfl⟩
def ty112 : TI := { u := .struct #[{ name := "kind", type := 3, offset := 0, embedded := false, tag := "", pkgPath := "runnel/bre", byteOffset := 0 }, { name := "at", type := 3, offset := 1, embedded := false, tag := "", pkgPath := "runnel/bre", byteOffset := 8 }, { name := "set", type := 43, offset := 2, embedded := false, tag := "", pkgPath := "runnel/bre", byteOffset := 16 }, { name := "lo", type := 3, offset := 6, embedded := false, tag := "", pkgPath := "runnel/bre", byteOffset := 48 }, { name := "hi", type := 3, offset := 7, embedded := false, tag := "", pkgPath := "runnel/bre", byteOffset := 56 }, { name := "e", type := 24, offset := 8, embedded := false, tag := "", pkgPath := "runnel/bre", byteOffset := 64 }], size := 9, bytes := 72, zero := .agg #[.int .i64 (0), .int .i64 (0), .int .u64 (0), .int .u64 (0), .int .u64 (0), .int .u64 (0), .int .i64 (0), .int .i64 (0), .int .i64 (0)] }
theorem tyOk112 : TyOk Tryz.prog 112 ty112 := ⟨Tryz.underlying112, by kernel_rfl⟩
def ty117 : TI := { u := .slice 4, size := 1, bytes := 24, zero := .slice none 0 0 }
theorem tyOk117 : TyOk Tryz.prog 117 ty117 := ⟨Tryz.underlying117, by kernel_rfl⟩
def ty119 : TI := { u := .slice 178, size := 1, bytes := 24, zero := .slice none 0 0 }
theorem tyOk119 : TyOk Tryz.prog 119 ty119 := ⟨Tryz.underlying119, by kernel_rfl⟩
def ty121 : TI := { u := .struct #[{ name := "out", type := 119, offset := 0, embedded := false, tag := "", pkgPath := "runnel/nfa", byteOffset := 0 }, { name := "back", type := 119, offset := 1, embedded := false, tag := "", pkgPath := "runnel/nfa", byteOffset := 24 }, { name := "end", type := 3, offset := 2, embedded := false, tag := "", pkgPath := "runnel/nfa", byteOffset := 48 }], size := 3, bytes := 56, zero := .agg #[.slice none 0 0, .slice none 0 0, .int .i64 (0)] }
theorem tyOk121 : TyOk Tryz.prog 121 ty121 := ⟨Tryz.underlying121, by kernel_rfl⟩
def ty125 : TI := { u := .pointer 127, size := 1, bytes := 8, zero := .pointer none }
theorem tyOk125 : TyOk Tryz.prog 125 ty125 := ⟨Tryz.underlying125, by kernel_rfl⟩
def ty127 : TI := { u := .struct #[{ name := "Text", type := 9, offset := 0, embedded := false, tag := "", pkgPath := "", byteOffset := 0 }, { name := "At", type := 3, offset := 1, embedded := false, tag := "", pkgPath := "", byteOffset := 16 }, { name := "E", type := 3, offset := 2, embedded := false, tag := "", pkgPath := "", byteOffset := 24 }, { name := "Place", type := 3, offset := 3, embedded := false, tag := "", pkgPath := "", byteOffset := 32 }, { name := "Groups", type := 3, offset := 4, embedded := false, tag := "", pkgPath := "", byteOffset := 40 }, { name := "Closed", type := 105, offset := 5, embedded := false, tag := "", pkgPath := "", byteOffset := 48 }, { name := "Size", type := 3, offset := 15, embedded := false, tag := "", pkgPath := "", byteOffset := 64 }], size := 16, bytes := 72, zero := .agg #[.string ⟨#[]⟩, .int .i64 (0), .int .i64 (0), .int .i64 (0), .int .i64 (0), .bool false, .bool false, .bool false, .bool false, .bool false, .bool false, .bool false, .bool false, .bool false, .bool false, .int .i64 (0)] }
theorem tyOk127 : TyOk Tryz.prog 127 ty127 := ⟨Tryz.underlying127, by kernel_rfl⟩
def ty143 : TI := { u := .func #[112] #[4] false, size := 1, bytes := 8, zero := .nilFunc }
theorem tyOk143 : TyOk Tryz.prog 143 ty143 := ⟨Tryz.underlying143, by kernel_rfl⟩
def ty151 : TI := { u := .pointer 71, size := 1, bytes := 8, zero := .pointer none }
theorem tyOk151 : TyOk Tryz.prog 151 ty151 := ⟨Tryz.underlying151, by kernel_rfl⟩
def ty154 : TI := { u := .struct #[{ name := "state", type := 3, offset := 0, embedded := false, tag := "", pkgPath := "runnel/nfa", byteOffset := 0 }, { name := "at", type := 3, offset := 1, embedded := false, tag := "", pkgPath := "runnel/nfa", byteOffset := 8 }], size := 2, bytes := 16, zero := .agg #[.int .i64 (0), .int .i64 (0)] }
theorem tyOk154 : TyOk Tryz.prog 154 ty154 := ⟨Tryz.underlying154, by kernel_rfl⟩
def ty177 : TI := { u := .slice 154, size := 1, bytes := 24, zero := .slice none 0 0 }
theorem tyOk177 : TyOk Tryz.prog 177 ty177 := ⟨Tryz.underlying177, by kernel_rfl⟩
def ty178 : TI := { u := .slice 180, size := 1, bytes := 24, zero := .slice none 0 0 }
theorem tyOk178 : TyOk Tryz.prog 178 ty178 := ⟨Tryz.underlying178, by kernel_rfl⟩
def ty180 : TI := { u := .struct #[{ name := "kind", type := 3, offset := 0, embedded := false, tag := "", pkgPath := "runnel/nfa", byteOffset := 0 }, { name := "set", type := 43, offset := 1, embedded := false, tag := "", pkgPath := "runnel/nfa", byteOffset := 8 }, { name := "to", type := 3, offset := 5, embedded := false, tag := "", pkgPath := "runnel/nfa", byteOffset := 40 }], size := 6, bytes := 48, zero := .agg #[.int .i64 (0), .int .u64 (0), .int .u64 (0), .int .u64 (0), .int .u64 (0), .int .i64 (0)] }
theorem tyOk180 : TyOk Tryz.prog 180 ty180 := ⟨Tryz.underlying180, by kernel_rfl⟩
def ty183 : TI := { u := .func #[41, 41] #[41] false, size := 1, bytes := 8, zero := .nilFunc }
theorem tyOk183 : TyOk Tryz.prog 183 ty183 := ⟨Tryz.underlying183, by kernel_rfl⟩
def ty200 : TI := { u := .pointer 202, size := 1, bytes := 8, zero := .pointer none }
theorem tyOk200 : TyOk Tryz.prog 200 ty200 := ⟨Tryz.underlying200, by kernel_rfl⟩
def ty202 : TI := { u := .struct #[{ name := "text", type := 9, offset := 0, embedded := false, tag := "", pkgPath := "runnel/bracket", byteOffset := 0 }, { name := "at", type := 3, offset := 1, embedded := false, tag := "", pkgPath := "runnel/bracket", byteOffset := 16 }, { name := "e", type := 24, offset := 2, embedded := false, tag := "", pkgPath := "runnel/bracket", byteOffset := 24 }], size := 3, bytes := 32, zero := .agg #[.string ⟨#[]⟩, .int .i64 (0), .int .i64 (0)] }
theorem tyOk202 : TyOk Tryz.prog 202 ty202 := ⟨Tryz.underlying202, by kernel_rfl⟩
def ty206 : TI := { u := .slice 5, size := 1, bytes := 24, zero := .slice none 0 0 }
theorem tyOk206 : TyOk Tryz.prog 206 ty206 := ⟨Tryz.underlying206, by kernel_rfl⟩
def ty223 : TI := { u := .struct #[{ name := "Set", type := 43, offset := 0, embedded := false, tag := "", pkgPath := "", byteOffset := 0 }, { name := "Byte", type := 5, offset := 4, embedded := false, tag := "", pkgPath := "", byteOffset := 32 }, { name := "End", type := 4, offset := 5, embedded := false, tag := "", pkgPath := "", byteOffset := 33 }, { name := "Next", type := 3, offset := 6, embedded := false, tag := "", pkgPath := "", byteOffset := 40 }, { name := "E", type := 3, offset := 7, embedded := false, tag := "", pkgPath := "", byteOffset := 48 }], size := 8, bytes := 56, zero := .agg #[.int .u64 (0), .int .u64 (0), .int .u64 (0), .int .u64 (0), .int .u8 (0), .bool false, .int .i64 (0), .int .i64 (0)] }
theorem tyOk223 : TyOk Tryz.prog 223 ty223 := ⟨Tryz.underlying223, by kernel_rfl⟩
def ty234 : TI := { u := .pointer 43, size := 1, bytes := 8, zero := .pointer none }
theorem tyOk234 : TyOk Tryz.prog 234 ty234 := ⟨Tryz.underlying234, by kernel_rfl⟩
def ty242 : TI := { u := .int .u64, size := 1, bytes := 8, zero := .int .u64 (0) }
theorem tyOk242 : TyOk Tryz.prog 242 ty242 := ⟨Tryz.underlying242, by kernel_rfl⟩
def TTl : List (Nat × TI) := [(2, ty2), (3, ty3), (4, ty4), (5, ty5), (9, ty9), (23, ty23), (24, ty24), (29, ty29), (33, ty33), (41, ty41), (43, ty43), (44, ty44), (46, ty46), (66, ty66), (69, ty69), (71, ty71), (73, ty73), (76, ty76), (79, ty79), (100, ty100), (101, ty101), (103, ty103), (104, ty104), (105, ty105), (107, ty107), (112, ty112), (117, ty117), (119, ty119), (121, ty121), (125, ty125), (127, ty127), (143, ty143), (151, ty151), (154, ty154), (177, ty177), (178, ty178), (180, ty180), (183, ty183), (200, ty200), (202, ty202), (206, ty206), (223, ty223), (234, ty234), (242, ty242)]
def TB : TyTab Tryz.prog := tabOf TTl ⟨tyOk2, tyOk3, tyOk4, tyOk5, tyOk9, tyOk23, tyOk24, tyOk29, tyOk33, tyOk41, tyOk43, tyOk44, tyOk46, tyOk66, tyOk69, tyOk71, tyOk73, tyOk76, tyOk79, tyOk100, tyOk101, tyOk103, tyOk104, tyOk105, tyOk107, tyOk112, tyOk117, tyOk119, tyOk121, tyOk125, tyOk127, tyOk143, tyOk151, tyOk154, tyOk177, tyOk178, tyOk180, tyOk183, tyOk200, tyOk202, tyOk206, tyOk223, tyOk234, tyOk242, trivial⟩
theorem eqg29 : Tryz.prog.eqGuardType Tryz.prog.depth 29 = false := by kernel_rfl
theorem sth29 : Tryz.prog.stoodInHeld 29 = false := by kernel_rfl
theorem mixed : Tryz.prog.follows .mixedOrders = true := Tryz.checked.mixed
theorem ent6 : Enters Tryz.prog 6 := enters_of Tryz.func6 (by kernel_rfl) rfl
theorem ent7 : Enters Tryz.prog 7 := enters_of Tryz.func7 (by kernel_rfl) rfl
theorem ent8 : Enters Tryz.prog 8 := enters_of Tryz.func8 (by kernel_rfl) rfl
theorem ent19 : Enters Tryz.prog 19 := enters_of Tryz.func19 (by kernel_rfl) rfl
theorem ent20 : Enters Tryz.prog 20 := enters_of Tryz.func20 (by kernel_rfl) rfl
theorem ent21 : Enters Tryz.prog 21 := enters_of Tryz.func21 (by kernel_rfl) rfl
theorem ent22 : Enters Tryz.prog 22 := enters_of Tryz.func22 (by kernel_rfl) rfl
theorem ent23 : Enters Tryz.prog 23 := enters_of Tryz.func23 (by kernel_rfl) rfl
theorem ent24 : Enters Tryz.prog 24 := enters_of Tryz.func24 (by kernel_rfl) rfl
theorem ent25 : Enters Tryz.prog 25 := enters_of Tryz.func25 (by kernel_rfl) rfl
theorem ent28 : Enters Tryz.prog 28 := enters_of Tryz.func28 (by kernel_rfl) rfl
theorem ent29 : Enters Tryz.prog 29 := enters_of Tryz.func29 (by kernel_rfl) rfl
theorem ent30 : Enters Tryz.prog 30 := enters_of Tryz.func30 (by kernel_rfl) rfl
theorem ent36 : Enters Tryz.prog 36 := enters_of Tryz.func36 (by kernel_rfl) rfl
theorem ent37 : Enters Tryz.prog 37 := enters_of Tryz.func37 (by kernel_rfl) rfl
theorem ent38 : Enters Tryz.prog 38 := enters_of Tryz.func38 (by kernel_rfl) rfl
theorem ent39 : Enters Tryz.prog 39 := enters_of Tryz.func39 (by kernel_rfl) rfl
theorem ent40 : Enters Tryz.prog 40 := enters_of Tryz.func40 (by kernel_rfl) rfl
theorem ent41 : Enters Tryz.prog 41 := enters_of Tryz.func41 (by kernel_rfl) rfl
theorem ent42 : Enters Tryz.prog 42 := enters_of Tryz.func42 (by kernel_rfl) rfl
theorem ent43 : Enters Tryz.prog 43 := enters_of Tryz.func43 (by kernel_rfl) rfl
theorem ent44 : Enters Tryz.prog 44 := enters_of Tryz.func44 (by kernel_rfl) rfl
theorem ent45 : Enters Tryz.prog 45 := enters_of Tryz.func45 (by kernel_rfl) rfl
theorem ent47 : Enters Tryz.prog 47 := enters_of Tryz.func47 (by kernel_rfl) rfl
theorem ent53 : Enters Tryz.prog 53 := enters_of Tryz.func53 (by kernel_rfl) rfl
theorem ent54 : Enters Tryz.prog 54 := enters_of Tryz.func54 (by kernel_rfl) rfl
theorem ent55 : Enters Tryz.prog 55 := enters_of Tryz.func55 (by kernel_rfl) rfl
theorem ent56 : Enters Tryz.prog 56 := enters_of Tryz.func56 (by kernel_rfl) rfl
theorem ent57 : Enters Tryz.prog 57 := enters_of Tryz.func57 (by kernel_rfl) rfl
theorem ent58 : Enters Tryz.prog 58 := enters_of Tryz.func58 (by kernel_rfl) rfl
theorem ent59 : Enters Tryz.prog 59 := enters_of Tryz.func59 (by kernel_rfl) rfl
theorem ent60 : Enters Tryz.prog 60 := enters_of Tryz.func60 (by kernel_rfl) rfl
theorem ent61 : Enters Tryz.prog 61 := enters_of Tryz.func61 (by kernel_rfl) rfl
theorem ent62 : Enters Tryz.prog 62 := enters_of Tryz.func62 (by kernel_rfl) rfl
theorem ent63 : Enters Tryz.prog 63 := enters_of Tryz.func63 (by kernel_rfl) rfl
theorem ent64 : Enters Tryz.prog 64 := enters_of Tryz.func64 (by kernel_rfl) rfl
theorem ent65 : Enters Tryz.prog 65 := enters_of Tryz.func65 (by kernel_rfl) rfl
theorem ent66 : Enters Tryz.prog 66 := enters_of Tryz.func66 (by kernel_rfl) rfl
theorem ent67 : Enters Tryz.prog 67 := enters_of Tryz.func67 (by kernel_rfl) rfl
theorem ent68 : Enters Tryz.prog 68 := enters_of Tryz.func68 (by kernel_rfl) rfl
theorem ent69 : Enters Tryz.prog 69 := enters_of Tryz.func69 (by kernel_rfl) rfl
theorem ent70 : Enters Tryz.prog 70 := enters_of Tryz.func70 (by kernel_rfl) rfl
theorem ent71 : Enters Tryz.prog 71 := enters_of Tryz.func71 (by kernel_rfl) rfl
theorem ent72 : Enters Tryz.prog 72 := enters_of Tryz.func72 (by kernel_rfl) rfl
theorem ent75 : Enters Tryz.prog 75 := enters_of Tryz.func75 (by kernel_rfl) rfl
theorem ent76 : Enters Tryz.prog 76 := enters_of Tryz.func76 (by kernel_rfl) rfl
theorem ent77 : Enters Tryz.prog 77 := enters_of Tryz.func77 (by kernel_rfl) rfl
theorem ent78 : Enters Tryz.prog 78 := enters_of Tryz.func78 (by kernel_rfl) rfl
theorem ent80 : Enters Tryz.prog 80 := enters_of Tryz.func80 (by kernel_rfl) rfl
theorem ent81 : Enters Tryz.prog 81 := enters_of Tryz.func81 (by kernel_rfl) rfl
theorem ent82 : Enters Tryz.prog 82 := enters_of Tryz.func82 (by kernel_rfl) rfl
theorem ent83 : Enters Tryz.prog 83 := enters_of Tryz.func83 (by kernel_rfl) rfl
theorem ent84 : Enters Tryz.prog 84 := enters_of Tryz.func84 (by kernel_rfl) rfl
theorem ent85 : Enters Tryz.prog 85 := enters_of Tryz.func85 (by kernel_rfl) rfl
theorem ent86 : Enters Tryz.prog 86 := enters_of Tryz.func86 (by kernel_rfl) rfl
theorem ent87 : Enters Tryz.prog 87 := enters_of Tryz.func87 (by kernel_rfl) rfl
theorem ent88 : Enters Tryz.prog 88 := enters_of Tryz.func88 (by kernel_rfl) rfl
theorem ent91 : Enters Tryz.prog 91 := enters_of Tryz.func91 (by kernel_rfl) rfl
theorem ent92 : Enters Tryz.prog 92 := enters_of Tryz.func92 (by kernel_rfl) rfl
theorem ent93 : Enters Tryz.prog 93 := enters_of Tryz.func93 (by kernel_rfl) rfl
theorem ent94 : Enters Tryz.prog 94 := enters_of Tryz.func94 (by kernel_rfl) rfl
theorem ent95 : Enters Tryz.prog 95 := enters_of Tryz.func95 (by kernel_rfl) rfl
theorem ent96 : Enters Tryz.prog 96 := enters_of Tryz.func96 (by kernel_rfl) rfl
theorem ent97 : Enters Tryz.prog 97 := enters_of Tryz.func97 (by kernel_rfl) rfl
theorem ent98 : Enters Tryz.prog 98 := enters_of Tryz.func98 (by kernel_rfl) rfl
theorem ent99 : Enters Tryz.prog 99 := enters_of Tryz.func99 (by kernel_rfl) rfl
theorem ent100 : Enters Tryz.prog 100 := enters_of Tryz.func100 (by kernel_rfl) rfl
theorem ent101 : Enters Tryz.prog 101 := enters_of Tryz.func101 (by kernel_rfl) rfl
theorem ent102 : Enters Tryz.prog 102 := enters_of Tryz.func102 (by kernel_rfl) rfl
theorem ent108 : Enters Tryz.prog 108 := enters_of Tryz.func108 (by kernel_rfl) rfl
theorem ent109 : Enters Tryz.prog 109 := enters_of Tryz.func109 (by kernel_rfl) rfl
theorem ent110 : Enters Tryz.prog 110 := enters_of Tryz.func110 (by kernel_rfl) rfl
theorem ent111 : Enters Tryz.prog 111 := enters_of Tryz.func111 (by kernel_rfl) rfl
theorem ent112 : Enters Tryz.prog 112 := enters_of Tryz.func112 (by kernel_rfl) rfl
theorem ent113 : Enters Tryz.prog 113 := enters_of Tryz.func113 (by kernel_rfl) rfl
theorem ent114 : Enters Tryz.prog 114 := enters_of Tryz.func114 (by kernel_rfl) rfl
theorem ent115 : Enters Tryz.prog 115 := enters_of Tryz.func115 (by kernel_rfl) rfl
theorem ent116 : Enters Tryz.prog 116 := enters_of Tryz.func116 (by kernel_rfl) rfl
theorem ent117 : Enters Tryz.prog 117 := enters_of Tryz.func117 (by kernel_rfl) rfl
theorem ent118 : Enters Tryz.prog 118 := enters_of Tryz.func118 (by kernel_rfl) rfl
theorem ent119 : Enters Tryz.prog 119 := enters_of Tryz.func119 (by kernel_rfl) rfl
theorem ent122 : Enters Tryz.prog 122 := enters_of Tryz.func122 (by kernel_rfl) rfl
theorem ent123 : Enters Tryz.prog 123 := enters_of Tryz.func123 (by kernel_rfl) rfl
theorem ent124 : Enters Tryz.prog 124 := enters_of Tryz.func124 (by kernel_rfl) rfl
theorem ent125 : Enters Tryz.prog 125 := enters_of Tryz.func125 (by kernel_rfl) rfl
theorem ent126 : Enters Tryz.prog 126 := enters_of Tryz.func126 (by kernel_rfl) rfl
theorem ent127 : Enters Tryz.prog 127 := enters_of Tryz.func127 (by kernel_rfl) rfl
theorem ent128 : Enters Tryz.prog 128 := enters_of Tryz.func128 (by kernel_rfl) rfl
theorem ent129 : Enters Tryz.prog 129 := enters_of Tryz.func129 (by kernel_rfl) rfl
theorem ent130 : Enters Tryz.prog 130 := enters_of Tryz.func130 (by kernel_rfl) rfl
theorem ent131 : Enters Tryz.prog 131 := enters_of Tryz.func131 (by kernel_rfl) rfl
theorem ent132 : Enters Tryz.prog 132 := enters_of Tryz.func132 (by kernel_rfl) rfl
theorem ent133 : Enters Tryz.prog 133 := enters_of Tryz.func133 (by kernel_rfl) rfl
theorem ent134 : Enters Tryz.prog 134 := enters_of Tryz.func134 (by kernel_rfl) rfl
theorem ent137 : Enters Tryz.prog 137 := enters_of Tryz.func137 (by kernel_rfl) rfl
end Go.Proofs.YthcbjbkheodejaaGreat
namespace Go.Proofs.YthcbjbkheodejaaGreat
open Go Go.RowKit Sl
set_option maxRecDepth 100000
set_option maxHeartbeats 8000000
attribute [local irreducible] ES EL PX wps
def zeroS : BS := ⟨0, 0, 0, 0⟩
def bitW (b : Nat) : UInt64 := 1 <<< UInt64.ofNat (b % 64)
def addS (s : BS) (b : Nat) : BS := s.set (b / 64) (s.get (b / 64) ||| bitW b)
def hasS (s : BS) (b : Nat) : Bool := decide ((((s.get (b / 64) >>> UInt64.ofNat (b % 64)) &&& 1).toNat : Int) = 1)
def ofS (l : List UInt8) : BS := l.foldl (fun s b => addS s b.toNat) zeroS
def joinS (f : UInt64 → UInt64 → UInt64) (s t : BS) : BS := ⟨f s.a t.a, f s.b t.b, f s.c t.c, f s.d t.d⟩
def notS (s : BS) : BS := joinS (fun x _ => ~~~x) s s
def orS (s t : BS) : BS := joinS (fun x y => x ||| y) s t
def fillS (p : Nat → Bool) : Nat → BS
  | 0 => zeroS
  | n + 1 => if p n then addS (fillS p n) n else fillS p n
theorem bit_get (x : UInt64) (j : Nat) (hj : j < 64) : decide ((((x >>> UInt64.ofNat j) &&& 1).toNat : Int) = 1) = x.toNat.testBit j := by
  rw [UInt64.toNat_and, UInt64.toNat_shiftRight, UInt64.toNat_ofNat_of_lt' (by simp only [UInt64.size]; omega), Nat.mod_eq_of_lt hj]
  rw [show (1 : UInt64).toNat = 1 from rfl, Nat.and_one_is_mod, Nat.testBit_eq_decide_div_mod_eq, Nat.shiftRight_eq_div_pow]
  apply decide_eq_decide.2
  omega
theorem hasS_bit (s : BS) (b : Nat) : hasS s b = (s.get (b / 64)).toNat.testBit (b % 64) := bit_get _ _ (Nat.mod_lt _ (by omega))
theorem bitW_bit (b j : Nat) (hj : j < 64) : (bitW b).toNat.testBit j = decide (j = b % 64) := by
  have hb : b % 64 < 64 := Nat.mod_lt _ (by omega)
  unfold bitW
  rw [UInt64.toNat_shiftLeft, UInt64.toNat_ofNat_of_lt' (by simp only [UInt64.size]; omega), Nat.mod_eq_of_lt hb, show (1 : UInt64).toNat = 1 from rfl, Nat.testBit_mod_two_pow, Nat.one_shiftLeft, Nat.testBit_two_pow]
  simp [hj]
  exact eq_comm
theorem get_set (s : BS) (i k : Nat) (hi : i < 4) (hk : k < 4) (x : UInt64) : (s.set i x).get k = if i = k then x else s.get k := by
  match i, k, hi, hk with
  | 0, 0, _, _ | 0, 1, _, _ | 0, 2, _, _ | 0, 3, _, _ => rfl
  | 1, 0, _, _ | 1, 1, _, _ | 1, 2, _, _ | 1, 3, _, _ => rfl
  | 2, 0, _, _ | 2, 1, _, _ | 2, 2, _, _ | 2, 3, _, _ => rfl
  | 3, 0, _, _ | 3, 1, _, _ | 3, 2, _, _ | 3, 3, _, _ => rfl
theorem has_add (s : BS) (b k : Nat) (hb : b < 256) (hk : k < 256) : hasS (addS s b) k = (hasS s k || decide (k = b)) := by
  rw [hasS_bit, hasS_bit, addS, get_set _ _ _ (by omega) (by omega)]
  by_cases h : b / 64 = k / 64
  · rw [if_pos h, UInt64.toNat_or, Nat.testBit_or, bitW_bit _ _ (Nat.mod_lt _ (by omega)), h]
    congr 1
    apply decide_eq_decide.2
    omega
  · rw [if_neg h]
    have : decide (k = b) = false := decide_eq_false (by omega)
    rw [this, Bool.or_false]
theorem has_zero (k : Nat) : hasS zeroS k = false := by
  rw [hasS_bit]
  have : (zeroS.get (k / 64)).toNat = 0 := by
    unfold zeroS BS.get
    split <;> rfl
  rw [this, Nat.zero_testBit]
theorem bs_word (x y : UInt64) (h : ∀ j, j < 64 → x.toNat.testBit j = y.toNat.testBit j) : x = y := by
  apply UInt64.toNat_inj.1
  apply Nat.eq_of_testBit_eq
  intro j
  by_cases hj : j < 64
  · exact h j hj
  · have hx : x.toNat < 2 ^ j := Nat.lt_of_lt_of_le x.toNat_lt (Nat.pow_le_pow_right (by omega) (by omega))
    have hy : y.toNat < 2 ^ j := Nat.lt_of_lt_of_le y.toNat_lt (Nat.pow_le_pow_right (by omega) (by omega))
    rw [Nat.testBit_lt_two_pow hx, Nat.testBit_lt_two_pow hy]
theorem bs_ext (s t : BS) (h : ∀ k, k < 256 → hasS s k = hasS t k) : s = t := by
  have hw : ∀ i, i < 4 → s.get i = t.get i := fun i hi => bs_word _ _ fun j hj => by
    have := h (64 * i + j) (by omega)
    rw [hasS_bit, hasS_bit] at this
    rw [show (64 * i + j) / 64 = i by omega, show (64 * i + j) % 64 = j by omega] at this
    exact this
  obtain ⟨a, b, c, d⟩ := s
  obtain ⟨a', b', c', d'⟩ := t
  have h0 : a = a' := hw 0 (by omega)
  have h1 : b = b' := hw 1 (by omega)
  have h2 : c = c' := hw 2 (by omega)
  have h3 : d = d' := hw 3 (by omega)
  rw [h0, h1, h2, h3]
theorem has_fill (p : Nat → Bool) (k : Nat) (hk : k < 256) : ∀ n, n ≤ 256 → hasS (fillS p n) k = (p k && decide (k < n))
  | 0, _ => by rw [fillS, has_zero]; simp
  | n + 1, hn => by
    rw [fillS]
    have ih := has_fill p k hk n (by omega)
    split
    · rename_i hp
      rw [has_add _ _ _ (by omega) hk, ih]
      by_cases h : k = n
      · subst h; simp [hp]
      · have : (k < n + 1) ↔ k < n := by omega
        simp [h, this]
    · rename_i hp
      rw [ih]
      by_cases h : k = n
      · subst h; simp [hp]
      · have : (k < n + 1) ↔ k < n := by omega
        simp [this]
theorem fill_eq (p : Nat → Bool) (s : BS) (h : ∀ k, k < 256 → hasS s k = p k) : fillS p 256 = s := bs_ext _ _ fun k hk => by
  rw [has_fill p k hk 256 (by omega), h k hk]; simp [hk]
theorem get_join (f : UInt64 → UInt64 → UInt64) (s t : BS) (i : Nat) : (joinS f s t).get i = f (s.get i) (t.get i) := by
  unfold joinS BS.get
  split <;> rfl
theorem has_not (s : BS) (k : Nat) : hasS (notS s) k = !hasS s k := by
  rw [hasS_bit, hasS_bit, notS, get_join, UInt64.toNat_not]
  have h1 := (s.get (k / 64)).toNat_lt
  rw [show UInt64.size - 1 - (s.get (k / 64)).toNat = 2 ^ 64 - ((s.get (k / 64)).toNat + 1) by simp only [UInt64.size]; omega, Nat.testBit_two_pow_sub_succ h1]
  simp [Nat.mod_lt k (show 0 < 64 by omega)]
theorem has_or (s t : BS) (k : Nat) : hasS (orS s t) k = (hasS s k || hasS t k) := by
  rw [hasS_bit, hasS_bit, hasS_bit, orS, get_join, UInt64.toNat_or, Nat.testBit_or]
def spanGo (lo : Nat) : Nat → BS
  | 0 => zeroS
  | n + 1 => addS (spanGo lo n) (lo + n)
def spanM (lo hi : UInt8) : BS × Int := if hi.toNat < lo.toNat then (zeroS, 7) else (fillS (fun b => decide (lo.toNat ≤ b) && decide (b ≤ hi.toNat)) 256, 0)
theorem has_span (lo k : Nat) (hk : k < 256) : ∀ n, lo + n ≤ 256 → hasS (spanGo lo n) k = decide (lo ≤ k ∧ k < lo + n)
  | 0, _ => by rw [spanGo, has_zero]; symm; exact decide_eq_false (by omega)
  | n + 1, h => by
    rw [spanGo, has_add _ _ _ (by omega) hk, has_span lo k hk n (by omega), Bool.eq_iff_iff]
    simp only [Bool.or_eq_true, decide_eq_true_eq]
    omega
theorem span_eq (lo hi : UInt8) (h : lo.toNat ≤ hi.toNat) : spanGo lo.toNat (hi.toNat + 1 - lo.toNat) = fillS (fun b => decide (lo.toNat ≤ b) && decide (b ≤ hi.toNat)) 256 := by
  have := hi.toNat_lt
  refine (fill_eq _ _ fun k hk => ?_).symm
  rw [has_span _ _ hk _ (by omega), Bool.eq_iff_iff]
  simp only [Bool.and_eq_true, decide_eq_true_eq]
  omega
def partJ (f : UInt64 → UInt64 → UInt64) (s t : BS) (i : Nat) : BS := ⟨if 0 < i then f s.a t.a else 0, if 1 < i then f s.b t.b else 0, if 2 < i then f s.c t.c else 0, if 3 < i then f s.d t.d else 0⟩
theorem partJ_step (f : UInt64 → UInt64 → UInt64) (s t : BS) (i : Nat) (hi : i < 4) : (partJ f s t i).set i (f (s.get i) (t.get i)) = partJ f s t (i + 1) := by
  match i, hi with
  | 0, _ | 1, _ | 2, _ | 3, _ => rfl
abbrev nAlpha : List UInt8 := [97, 108, 112, 104, 97]
abbrev nDigit : List UInt8 := [100, 105, 103, 105, 116]
abbrev nAlnum : List UInt8 := [97, 108, 110, 117, 109]
abbrev nUpper : List UInt8 := [117, 112, 112, 101, 114]
abbrev nLower : List UInt8 := [108, 111, 119, 101, 114]
abbrev nSpace : List UInt8 := [115, 112, 97, 99, 101]
abbrev nBlank : List UInt8 := [98, 108, 97, 110, 107]
abbrev nGraph : List UInt8 := [103, 114, 97, 112, 104]
abbrev nPrint : List UInt8 := [112, 114, 105, 110, 116]
abbrev nPunct : List UInt8 := [112, 117, 110, 99, 116]
abbrev nCntrl : List UInt8 := [99, 110, 116, 114, 108]
abbrev nXdigit : List UInt8 := [120, 100, 105, 103, 105, 116]
def bUp (b : Nat) : Bool := decide (65 ≤ b ∧ b ≤ 90)
def bLo (b : Nat) : Bool := decide (97 ≤ b ∧ b ≤ 122)
def bDi (b : Nat) : Bool := decide (48 ≤ b ∧ b ≤ 57)
def bGr (b : Nat) : Bool := decide (32 < b ∧ b < 127)
def isB (l : List UInt8) (b : Nat) : Bool :=
  if l = nAlpha then decide ((65 ≤ b ∧ b ≤ 90) ∨ (97 ≤ b ∧ b ≤ 122)) else if l = nDigit then decide (48 ≤ b ∧ b ≤ 57)
  else if l = nAlnum then decide ((65 ≤ b ∧ b ≤ 90) ∨ (97 ≤ b ∧ b ≤ 122) ∨ (48 ≤ b ∧ b ≤ 57)) else if l = nUpper then decide (65 ≤ b ∧ b ≤ 90)
  else if l = nLower then decide (97 ≤ b ∧ b ≤ 122) else if l = nSpace then decide (b = 32 ∨ (9 ≤ b ∧ b ≤ 13)) else if l = nBlank then decide (b = 32 ∨ b = 9)
  else if l = nGraph then decide (32 < b ∧ b < 127) else if l = nPrint then decide ((32 < b ∧ b < 127) ∨ b = 32)
  else if l = nPunct then decide ((32 < b ∧ b < 127) ∧ ¬ (65 ≤ b ∧ b ≤ 90) ∧ ¬ (97 ≤ b ∧ b ≤ 122) ∧ ¬ (48 ≤ b ∧ b ≤ 57))
  else if l = nCntrl then decide (b < 32 ∨ b = 127) else if l = nXdigit then decide ((48 ≤ b ∧ b ≤ 57) ∨ (65 ≤ b ∧ b ≤ 70) ∨ (97 ≤ b ∧ b ≤ 102)) else false
def names12 : List (List UInt8) := [nAlpha, nDigit, nAlnum, nUpper, nLower, nSpace, nBlank, nGraph, nPrint, nPunct, nCntrl, nXdigit]
def okM (l : List UInt8) : Bool := decide (l ∈ names12)
def classM (l : List UInt8) : BS × Int := if okM l then (fillS (isB l) 256, 0) else (zeroS, 8)
def tDigit : List UInt8 := [48, 49, 50, 51, 52, 53, 54, 55, 56, 57]
def tUpper : List UInt8 := [65, 66, 67, 68, 69, 70, 71, 72, 73, 74, 75, 76, 77, 78, 79, 80, 81, 82, 83, 84, 85, 86, 87, 88, 89, 90]
def tLower : List UInt8 := [97, 98, 99, 100, 101, 102, 103, 104, 105, 106, 107, 108, 109, 110, 111, 112, 113, 114, 115, 116, 117, 118, 119, 120, 121, 122]
def tPunct : List UInt8 := [33, 34, 35, 36, 37, 38, 39, 40, 41, 42, 43, 44, 45, 46, 47, 58, 59, 60, 61, 62, 63, 64, 91, 92, 93, 94, 95, 96, 123, 124, 125, 126]
def textM (l : List UInt8) : List UInt8 :=
  if l = nDigit then tDigit else if l = nUpper then tUpper else if l = nLower then tLower else if l = nAlpha then tUpper ++ tLower else if l = nAlnum then tUpper ++ tLower ++ tDigit
  else if l = nXdigit then tDigit ++ [65, 66, 67, 68, 69, 70, 97, 98, 99, 100, 101, 102] else if l = nBlank then [32, 9] else if l = nSpace then [32, 9, 10, 11, 12, 13]
  else if l = nPunct then tPunct else if l = nGraph then tPunct ++ tUpper ++ tLower ++ tDigit else if l = nPrint then tPunct ++ tUpper ++ tLower ++ tDigit ++ [32] else []
theorem textM_le (l : List UInt8) : (textM l).length ≤ 140737488351232 := by
  unfold textM
  repeat' split
  all_goals decide
def memGo (p : Nat → Bool) : Nat → List UInt8
  | 0 => []
  | n + 1 => if p n then memGo p n ++ [UInt8.ofNat n] else memGo p n
theorem memGo_le (p : Nat → Bool) : ∀ n, (memGo p n).length ≤ n
  | 0 => Nat.le_refl _
  | n + 1 => by
    have := memGo_le p n
    rw [memGo]; split
    · rw [List.length_append, List.length_singleton]; omega
    · omega
def membersM (s : BS) : List UInt8 := memGo (hasS s) 256
def docClassM (l : List UInt8) : BS × Int := if l = nCntrl then (addS (spanM 0 31).1 127, 0) else if (membersM (ofS (textM l))).length = 0 then (ofS (textM l), 8) else (ofS (textM l), 0)
abbrev SB (g : Nat) (s : BS) : HA := HA.blk g (.cells s.cells 43)
theorem take_snoc {α : Type} (l : List α) (i : Nat) (d : α) (h : i < l.length) : l.take (i + 1) = l.take i ++ [l.getD i d] := by
  rw [List.take_succ_eq_append_getElem h, List.getD_eq_getElem?_getD, List.getElem?_eq_getElem h]; rfl
theorem ofS_step (l : List UInt8) (i : Nat) (h : i < l.length) : addS (ofS (l.take i)) (l.getD i 0).toNat = ofS (l.take (i + 1)) := by
  rw [take_snoc l i 0 h]; simp [ofS, List.foldl_append]
theorem add_c (g : Nat) (s : BS) (b : UInt8) : Mut Tryz.prog 119 #[Pv g 0, Uv b] [SB g s] (fun _ : Unit => .tuple #[]) (fun _ => [SB g (addS s b.toNat)]) := by
  intro w0 B R w h
  have hb := b.toNat_lt
  obtain ⟨x0, x1, x2, x3⟩ := s
  replace h : Sat w0 B (SB g ⟨x0, x1, x2, x3⟩ :: R) w := h
  refine calls_of_ES TB Tryz.func119 rfl _ Tryz.ntmps119 rfl h ?_
  refine ES.draw (X := Unit) (fun _ => []) (fun _ => SB g (addS ⟨x0, x1, x2, x3⟩ b.toNat) :: R) [SB g ⟨x0, x1, x2, x3⟩] mixed (.i (by repeat constructor)) ?_ (fun _ => ?_)
  · refine .tk 0 rfl (RV.move rfl) ?_; refine .tk 1 rfl (RV.move rfl) ?_
    refine .tk 2 rfl (RV.quoU (n := 64) rfl rfl (by omega) (by simp only [kmax]; omega)) ?_
    refine .tk 3 rfl (RV.nilCheck rfl) ?_; refine .tk 4 rfl (RV.indexAddrA1 rfl rfl rfl rfl rfl rfl (by omega)) ?_; refine .tk 5 rfl (RV.loadBS rfl rfl rfl (by repeat constructor) (by omega)) ?_; refine .tk 6 rfl (RV.move rfl) ?_; refine .tk 7 rfl (RV.remN (n := 64) rfl rfl (by omega)) ?_; refine .tk 8 rfl (RV.shlW (a := 1) rfl rfl rfl (by omega)) ?_; refine .tk 9 rfl (RV.orW rfl rfl rfl rfl) ?_; refine .tk 10 rfl (RV.nilCheck rfl) ?_; refine .tk 11 rfl (RV.indexAddrA1 rfl rfl rfl rfl rfl rfl (by omega)) ?_; refine ED.last 12 rfl (by decide +kernel) (by decide +kernel) (by decide +kernel) ?_; refine EL.storeBS rfl rfl rfl rfl rfl (by repeat constructor) (by omega) ?_; refine EL.endQ ?_
    exact .cx () trivial
  refine .go ?_; repeat constructor
  exact PX.end rfl Tryz.results119 .nil (fun w hs => ⟨(), rfl, hs.ent (.i (by repeat constructor))⟩)
theorem of_c (l : List UInt8) (hl : l.length ≤ 4611686018427387904) (w : World) : Pure Tryz.prog 102 #[Sv l] (fun _ : Unit => Bs (ofS l)) (fun _ => []) w := by
  refine calls_of_ES TB Tryz.func102 rfl _ Tryz.ntmps102 rfl (Sat.start w) ?_; refine .go ?_; (repeat constructor); (refine .al ?_; intro g2); refine .go ?_; (repeat constructor); (refine .al ?_; intro g3); refine .go ?_; (repeat constructor); refine .mv ?_; refine .lS ?_; refine .mv ?_; refine .go ?_; (repeat constructor); refine ES.loop (σ := Nat) (fun i => i ≤ l.length) (fun i => [(0, Sv l), (2, Pv g2 0), (3, Pv g3 0), (6, Iv l.length), (7, Iv i)]) (fun i => [SB g3 (ofS (l.take i)), SB g2 zeroS]) (fun i => l.length - i) 0 (Nat.zero_le _) ⟨rfl, rfl, rfl, rfl, rfl, trivial⟩ (.i (by repeat constructor)) ?_
  intro i hi
  refine .go ?_; (repeat constructor); refine .ls ?_; refine .go ?_; repeat constructor
  refine ES.condD rfl (fun hlt => ?_) (fun hge => ?_)
  · have hlt' : i < l.length := by omega
    have hst := ofS_step l i hlt'
    refine .go ?_; (repeat constructor); refine .mv ?_; refine .as_ ?_; refine .go ?_; (repeat constructor); refine .mv ?_; refine .mv ?_; refine .iS ?_; refine EL.callM1 rfl rfl rfl ent119 rfl (add_c g3 (ofS (l.take i)) (l.getD i 0)) (by repeat constructor) ?_; refine .go ?_; repeat constructor
    rw [hst]
    refine .go ?_; (repeat constructor); refine .a1 ?_; refine .mv ?_; refine .go ?_; repeat constructor
    exact .ly (i + 1) (by omega) (by omega)
  obtain rfl : i = l.length := by omega
  rw [List.take_length]
  refine .go ?_; (repeat constructor); refine .lg ?_; refine .sa ?_; refine .go ?_; repeat constructor
  exact PX.ret rfl Tryz.results102 (.cons (.blkA rfl rfl rfl (by repeat constructor) rfl) .nil) (fun w hs => ⟨(), rfl, hs.ent (.nil _)⟩)
theorem span_c (lo hi : UInt8) (w : World) : Pure Tryz.prog 118 #[Uv lo, Uv hi] (fun _ : Unit => .tuple #[Bs (spanM lo hi).1, Iv (spanM lo hi).2]) (fun _ => []) w := by
  have hl := lo.toNat_lt
  have hh := hi.toNat_lt
  refine calls_of_ES TB Tryz.func118 rfl _ Tryz.ntmps118 rfl (Sat.start w) ?_; refine .go ?_; (repeat constructor); (refine .al ?_; intro g4); refine .as_ ?_; refine .go ?_; (repeat constructor); (refine .al ?_; intro g6); refine .go ?_; (repeat constructor); refine .mv ?_; refine .mv ?_; refine .ls ?_; refine .go ?_; repeat constructor
  refine ES.condD rfl (fun hlt => ?_) (fun hge => ?_)
  · have hm : spanM lo hi = (zeroS, 7) := by simp only [spanM]; rw [if_pos (by omega)]
    refine .go ?_; (repeat constructor); refine .lg ?_; refine .sa ?_; refine .as_ ?_; refine .go ?_; repeat constructor
    exact PX.ret rfl Tryz.results118 (.cons (.blkA rfl rfl rfl (by repeat constructor) rfl) (.cons (.tmp rfl) .nil)) (fun w hs => ⟨(), by rw [hm]; rfl, hs.ent (.nil _)⟩)
  have hle : lo.toNat ≤ hi.toNat := by omega
  have hm : spanM lo hi = (spanGo lo.toNat (hi.toNat + 1 - lo.toNat), 0) := by simp only [spanM]; rw [if_neg (by omega), span_eq lo hi hle]
  refine .go ?_; (repeat constructor); refine .mv ?_; refine EL.convN rfl rfl rfl rfl rfl rfl (le_big8 _ _) ?_; refine .as_ ?_; refine .go ?_; (repeat constructor); refine ES.loop (σ := Nat) (fun n => lo.toNat + n ≤ hi.toNat + 1) (fun n => [(1, Uv hi), (4, Pv g4 0), (6, Pv g6 0), (7, Iv ((lo.toNat + n : Nat) : Int))]) (fun n => [SB g6 (spanGo lo.toNat n), SB g4 zeroS]) (fun n => hi.toNat + 1 - (lo.toNat + n)) 0 (by omega) ⟨rfl, rfl, rfl, rfl, trivial⟩ (.i (by repeat constructor)) ?_
  intro n hn
  refine .go ?_; (repeat constructor); refine .mv ?_; refine .mv ?_; refine EL.convN rfl rfl rfl rfl rfl rfl (le_big8 _ _) ?_; refine .lq ?_; refine .go ?_; repeat constructor
  refine ES.condD rfl (fun hlt2 => ?_) (fun hge2 => ?_)
  · have hk : lo.toNat + n < 256 := by omega
    have hk8 : (UInt8.ofNat (lo.toNat + n)).toNat = lo.toNat + n := by simp; omega
    have hc := add_c g6 (spanGo lo.toNat n) (UInt8.ofNat (lo.toNat + n))
    rw [show addS (spanGo lo.toNat n) (UInt8.ofNat (lo.toNat + n)).toNat = spanGo lo.toNat (n + 1) by rw [hk8]; rfl] at hc
    refine .go ?_; (repeat constructor); refine .mv ?_
    refine EL.convI ((UInt8.ofNat (lo.toNat + n)).toNat : Int) rfl rfl rfl rfl rfl rfl (by rw [hk8]; exact wrap_u8 _ hk) ?_
    refine EL.callM1 rfl rfl rfl ent119 rfl hc (by repeat constructor) ?_; refine .go ?_; (repeat constructor); refine .mv ?_; refine .a1 ?_; refine .as_ ?_; refine .go ?_; repeat constructor
    exact .ly (n + 1) (by omega) (by omega)
  have he : n = hi.toNat + 1 - lo.toNat := by omega
  subst he
  refine .go ?_; (repeat constructor); refine .lg ?_; refine .sa ?_; refine .as_ ?_; refine .go ?_; repeat constructor
  exact PX.ret rfl Tryz.results118 (.cons (.blkA rfl rfl rfl (by repeat constructor) rfl) (.cons (.tmp rfl) .nil)) (fun w hs => ⟨(), by rw [hm]; rfl, hs.ent (.nil _)⟩)
theorem has_c (s : BS) (b : UInt8) (w : World) : Pure Tryz.prog 84 #[Bs s, Uv b] (fun _ : Unit => .bool (hasS s b.toNat)) (fun _ => []) w := by
  have hb := b.toNat_lt
  refine calls_of_ES TB Tryz.func84 rfl _ Tryz.ntmps84 rfl (Sat.start w) ?_; refine .go ?_; (repeat constructor); (refine .bx ?_; intro g2); refine .as_ ?_; refine .go ?_; (repeat constructor); refine .mv ?_
  refine EL.ofRV (RV.quoU (n := 64) rfl rfl (by omega) (by simp only [kmax]; omega)) rfl rfl rfl (by intro c h; cases h) ?_
  refine EL.indexAddrA1 rfl rfl rfl rfl rfl rfl rfl rfl (by omega) ?_; refine EL.loadBS rfl rfl rfl rfl rfl (by repeat constructor) (by omega) ?_; refine .mv ?_; refine EL.remN (n := 64) rfl rfl rfl rfl (by omega) ?_
  refine EL.ofRV (RV.shrW rfl rfl rfl (by omega)) rfl rfl rfl (by intro c h; cases h) ?_
  refine EL.ofRV (RV.andW (b := 1) rfl rfl rfl rfl) rfl rfl rfl (by intro c h; cases h) ?_
  refine .ei ?_; refine .as_ ?_; refine .go ?_; repeat constructor
  exact PX.ret rfl Tryz.results84 (.cons (.tmp rfl) .nil) (fun w hs => ⟨(), rfl, hs.ent (.nil _)⟩)
theorem join_c (fw : Nat) (op : UInt64 → UInt64 → UInt64) (he : Enters Tryz.prog fw) (hc : ∀ x y w, Pure Tryz.prog fw #[Wv x, Wv y] (fun _ : Unit => Wv (op x y)) (fun _ => []) w) (s t : BS) (w : World) :
    Pure Tryz.prog 85 #[Bs s, Bs t, .func (.func fw) #[] #[]] (fun _ : Unit => Bs (joinS op s t)) (fun _ => []) w := by
  refine calls_of_ES TB Tryz.func85 rfl _ Tryz.ntmps85 rfl (Sat.start w) ?_; refine .go ?_; (repeat constructor); (refine .bx ?_; intro g3); (refine .bx ?_; intro g4); (refine .al ?_; intro g6); refine .go ?_; (repeat constructor); (refine .al ?_; intro g7); refine .go ?_; (repeat constructor); refine .mv ?_; refine .go ?_; (repeat constructor); refine ES.loop (σ := Nat) (fun i => i ≤ 4) (fun i => [(2, .func (.func fw) #[] #[]), (3, Pv g3 0), (4, Pv g4 0), (6, Pv g6 0), (7, Pv g7 0), (9, Iv i)]) (fun i => [SB g7 (partJ op s t i), SB g6 zeroS, SB g4 t, SB g3 s]) (fun i => 4 - i) 0 (by omega) ⟨rfl, rfl, rfl, rfl, rfl, rfl, trivial⟩ (.i (by repeat constructor)) ?_
  intro i hi
  refine .go ?_; (repeat constructor); refine .ls ?_; refine .go ?_; repeat constructor
  refine ES.condD rfl (fun hlt => ?_) (fun hge => ?_)
  · have hlt' : i < 4 := by omega
    have hst := partJ_step op s t i hlt'
    refine .go ?_; (repeat constructor); refine .mv ?_; refine .as_ ?_; refine .go ?_; repeat constructor
    refine ES.draw (X := Unit) (fun _ => [(2, .func (.func fw) #[] #[]), (3, Pv g3 0), (4, Pv g4 0), (6, Pv g6 0), (7, Pv g7 0), (9, Iv i)]) (fun _ => [SB g7 (partJ op s t (i + 1)), SB g6 zeroS, SB g4 t, SB g3 s]) [SB g4 t, SB g3 s] mixed (.i (by repeat constructor)) ?_ (fun _ => ?_)
    · rw [← hst]
      refine .tk 0 rfl (RV.move rfl) ?_; refine .tk 1 rfl (RV.move rfl) ?_; refine .tk 2 rfl (RV.move rfl) ?_; refine .tk 3 rfl (RV.indexAddrA1 rfl rfl rfl rfl rfl rfl (by omega)) ?_; refine .tk 4 rfl (RV.loadBS (w0 := s.a) (w1 := s.b) (w2 := s.c) (w3 := s.d) rfl rfl rfl (by repeat constructor) hlt') ?_; refine .tk 5 rfl (RV.move rfl) ?_; refine .tk 6 rfl (RV.indexAddrA1 rfl rfl rfl rfl rfl rfl (by omega)) ?_; refine .tk 7 rfl (RV.loadBS (w0 := t.a) (w1 := t.b) (w2 := t.c) (w3 := t.d) rfl rfl rfl (by repeat constructor) hlt') ?_; refine .ld 8 ?_; refine EL.callP rfl rfl rfl he rfl (hc (s.get i) (t.get i)) ?_; refine .nx ?_; refine .tk 9 rfl (RV.indexAddrA1 rfl rfl rfl rfl rfl rfl (by omega)) ?_; refine ED.last 10 rfl (by decide +kernel) (by decide +kernel) (by decide +kernel) ?_; refine EL.storeBS rfl rfl rfl rfl rfl (by repeat constructor) hlt' ?_; refine EL.endQ ?_
      exact .cy ()
    refine .go ?_; (repeat constructor); refine .a1 ?_; refine .mv ?_; refine .go ?_; repeat constructor
    exact .ly (i + 1) (by omega) (by omega)
  obtain rfl : i = 4 := by omega
  refine .go ?_; (repeat constructor); refine .lg ?_; refine .sa ?_; refine .go ?_; repeat constructor
  exact PX.ret rfl Tryz.results85 (.cons (.blkA rfl rfl rfl (by repeat constructor) rfl) .nil) (fun w hs => ⟨(), rfl, hs.ent (.nil _)⟩)
theorem not1_c (x y : UInt64) (w : World) : Pure Tryz.prog 86 #[Wv x, Wv y] (fun _ : Unit => Wv (~~~x)) (fun _ => []) w := by
  refine calls_of_ES TB Tryz.func86 rfl _ Tryz.ntmps86 rfl (Sat.start w) ?_; refine .go ?_; (repeat constructor); refine .as_ ?_; refine .go ?_; (repeat constructor); refine .mv ?_
  refine EL.ofRV (RV.notW rfl rfl) rfl rfl rfl (by intro c h; cases h) ?_
  refine .as_ ?_; refine .go ?_; repeat constructor
  exact PX.ret rfl Tryz.results86 (.cons (.tmp rfl) .nil) (fun w hs => ⟨(), rfl, hs.ent (.nil _)⟩)
theorem or1_c (x y : UInt64) (w : World) : Pure Tryz.prog 115 #[Wv x, Wv y] (fun _ : Unit => Wv (x ||| y)) (fun _ => []) w := by
  refine calls_of_ES TB Tryz.func115 rfl _ Tryz.ntmps115 rfl (Sat.start w) ?_; refine .go ?_; (repeat constructor); refine .as_ ?_; refine .go ?_; (repeat constructor); refine .mv ?_; refine .mv ?_
  refine EL.ofRV (RV.orW rfl rfl rfl rfl) rfl rfl rfl (by intro c h; cases h) ?_
  refine .as_ ?_; refine .go ?_; repeat constructor
  exact PX.ret rfl Tryz.results115 (.cons (.tmp rfl) .nil) (fun w hs => ⟨(), rfl, hs.ent (.nil _)⟩)
theorem not_c (s : BS) (w : World) : Pure Tryz.prog 65 #[Bs s] (fun _ : Unit => Bs (notS s)) (fun _ => []) w := by
  refine calls_of_ES TB Tryz.func65 rfl _ Tryz.ntmps65 rfl (Sat.start w) ?_; refine .go ?_; (repeat constructor); (refine .bx ?_; intro g1); (refine .al ?_; intro g2); refine .go ?_; (repeat constructor); refine .lg ?_; refine .lg ?_; refine EL.callP rfl rfl rfl ent85 rfl (join_c 86 (fun x _ => ~~~x) ent86 not1_c s s) ?_; refine .sa ?_; refine .go ?_; repeat constructor
  exact PX.ret rfl Tryz.results65 (.cons (.blkA rfl rfl rfl (by repeat constructor) rfl) .nil) (fun w hs => ⟨(), rfl, hs.ent (.nil _)⟩)
theorem or_c (s t : BS) (w : World) : Pure Tryz.prog 100 #[Bs s, Bs t] (fun _ : Unit => Bs (orS s t)) (fun _ => []) w := by
  refine calls_of_ES TB Tryz.func100 rfl _ Tryz.ntmps100 rfl (Sat.start w) ?_; refine .go ?_; (repeat constructor); (refine .bx ?_; intro g2); (refine .bx ?_; intro g3); (refine .al ?_; intro g4); refine .go ?_; (repeat constructor); refine .lg ?_; refine .lg ?_
  refine EL.callP rfl rfl rfl ent85 rfl (join_c 115 (fun x y => x ||| y) ent115 or1_c s t) ?_
  refine .sa ?_; refine .go ?_; repeat constructor
  exact PX.ret rfl Tryz.results100 (.cons (.blkA rfl rfl rfl (by repeat constructor) rfl) .nil) (fun w hs => ⟨(), rfl, hs.ent (.nil _)⟩)
end Go.Proofs.YthcbjbkheodejaaGreat
