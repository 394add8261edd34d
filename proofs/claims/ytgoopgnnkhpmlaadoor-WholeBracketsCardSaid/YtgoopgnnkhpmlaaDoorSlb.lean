/- THE BASE, second part: the rules of control, and of operations. -/
import Derived.Test.YtgoopgnnkhpmlaaDoorSl
namespace Go.Proofs.YtgoopgnnkhpmlaaDoor.Sl
open Go Go.RowKit
set_option linter.unusedVariables false
set_option linter.unusedSimpArgs false

def F0 (r : Option Nat) : Fence := { fn := fun _ => True, depth := none, alive := false, round := r }
/-- What is known of a type: its description, its cells, its bytes, its zero value. -/
structure TI where
  u : TypeDesc
  size : Nat
  bytes : Nat
  zero : Value
structure TyOk (P : Program) (t : Nat) (ti : TI) : Prop where
  u : P.underlying t = some ti.u
  i : (P.info? t).map (fun i => (i.zero, i.size, i.bytes)) = some (some ti.zero, ti.size, ti.bytes)
/-- The types' table of a program, as far as it is needed. -/
structure TyTab (P : Program) where
  f : Nat → Option TI
  ok : ∀ t ti, f t = some ti → TyOk P t ti
structure Cx where
  P : Program
  T : TyTab P
  r : Option Nat
  n : Nat
  D : List Deferred
  w0 : World
  B : Nat
abbrev Qt := Exit → Act → World → Prop
def At (C : Cx) (E : Env) (H : List HA) (a : Act) (w : World) : Prop := Fits C.n C.D E a ∧ Sat C.w0 C.B H w
def wps (C : Cx) : List Code → Qt → Act → World → Prop
  | [], Q => Q .normal
  | c :: cs, Q => c.wpIn (F0 C.r) 0 C.P (Exit.then (wps C cs Q) Q)
def ES (C : Cx) (cs : List Code) (Q : Qt) (E : Env) (H : List HA) : Prop := ∀ a w, At C E H a w → wps C cs Q a w
def PX (C : Cx) (Q : Qt) (e : Exit) (E : Env) (H : List HA) : Prop := ∀ a w, At C E H a w → Q e a w
def EL (C : Cx) (all : Array Oper) (ops : List Oper) (Q : Qt) (E : Env) (H : List HA) : Prop := ∀ a w, At C E H a w → wpListIn (F0 C.r) 0 C.P all Q ops a w

section control
variable {C : Cx} {cs : List Code} {Q : Qt} {E E' : Env} {H H' : List HA} {id : Nat}
theorem At.sub {a : Act} {w : World} (h : At C E H a w) (he : Has E E') (hh : Ent H H') : At C E' H' a w := ⟨h.1.has he, h.2.ent hh⟩
/-- Fewer slots, fewer assertions. -/
theorem ES.sub (he : Has E E') (hh : Ent H H') (k : ES C cs Q E' H') : ES C cs Q E H := fun a w h => k a w (h.sub he hh)
theorem ES.keep (he : Has E E') (k : ES C cs Q E' H) : ES C cs Q E H := fun a w h => k a w (h.sub he (.refl _))
theorem EL.keep {all : Array Oper} {ops : List Oper} (he : Has E E') (k : EL C all ops Q E' H) : EL C all ops Q E H := fun a w h => k a w (h.sub he (.refl _))
theorem EL.sub {all : Array Oper} {ops : List Oper} (he : Has E E') (hh : Ent H H') (k : EL C all ops Q E' H') : EL C all ops Q E H := fun a w h => k a w (h.sub he hh)
theorem ES.perm (hh : H.Perm H') (k : ES C cs Q E H') : ES C cs Q E H := fun a w h => k a w ⟨h.1, h.2.perm hh⟩
theorem ES.nil (k : PX C Q .normal E H) : ES C [] Q E H := k
theorem ES.skip (k : ES C cs Q E H) : ES C (.skip :: cs) Q E H := fun a w h => wpIn_skip (k a w h)
theorem ES.label {l : Nat} (k : ES C cs Q E H) : ES C (.label l :: cs) Q E H := fun a w h => wpIn_label (k a w h)
theorem ES.seq {x y : Code} (k : ES C (x :: y :: cs) Q E H) : ES C (.seq x y :: cs) Q E H := by
  intro a w h
  refine wpIn_seq (wpIn_mono (k a w h) ?_)
  intro e a w h
  cases e <;> exact h
theorem ES.ret (k : PX C Q .ret E H) : ES C (.ret :: cs) Q E H := fun a w h => wpIn_ret (k a w h)
theorem ES.exit (k : PX C Q (.exit id) E H) : ES C (.exit id :: cs) Q E H := fun a w h => wpIn_exit (k a w h)
theorem ES.block {c : Code} (k : ES C [c] (Exit.inBlock id (Exit.then (wps C cs Q) Q)) E H) : ES C (.block id c :: cs) Q E H := by
  intro a w h
  refine wpIn_block (wpIn_mono (k a w h) ?_)
  intro e a w h
  cases e <;> exact h
theorem ES.cond {c : Operand} {x y : Code} {t : Bool} (hc : E.ev c = some (.bool t)) (ht : t = true → ES C (x :: cs) Q E H) (hf : t = false → ES C (y :: cs) Q E H) : ES C (.cond c x y :: cs) Q E H :=
  fun a w h => wpIn_cond_split (h.1.ev hc) (fun e => ht e a w h) (fun e => hf e a w h)
theorem ES.condT {c : Operand} {x y : Code} (hc : E.ev c = some (.bool true)) (ht : ES C (x :: cs) Q E H) : ES C (.cond c x y :: cs) Q E H :=
  ES.cond hc (fun _ => ht) (fun e => by cases e)
theorem ES.condF {c : Operand} {x y : Code} (hc : E.ev c = some (.bool false)) (hf : ES C (y :: cs) Q E H) : ES C (.cond c x y :: cs) Q E H :=
  ES.cond hc (fun e => by cases e) (fun _ => hf)
theorem ES.condD {c : Operand} {x y : Code} {p : Prop} [Decidable p] (hc : E.ev c = some (.bool (decide p))) (ht : p → ES C (x :: cs) Q E H) (hf : ¬ p → ES C (y :: cs) Q E H) : ES C (.cond c x y :: cs) Q E H :=
  ES.cond hc (fun e => ht (of_decide_eq_true e)) (fun e => hf (of_decide_eq_false e))
theorem ES.condN {c : Operand} {x y : Code} {p : Prop} [Decidable p] (hc : E.ev c = some (.bool (!decide p))) (ht : ¬ p → ES C (x :: cs) Q E H) (hf : p → ES C (y :: cs) Q E H) : ES C (.cond c x y :: cs) Q E H :=
  ES.cond hc (fun e => ht (by simpa using e)) (fun e => hf (by simpa using e))
/-- A test whose outcome is known. -/
theorem ES.condK {c : Operand} {x y : Code} {t : Bool} (b : Bool) (hc : E.ev c = some (.bool t)) (hb : t = b) (h : ES C ((bif b then x else y) :: cs) Q E H) : ES C (.cond c x y :: cs) Q E H := by
  subst hb
  refine ES.cond hc (fun e => ?_) (fun e => ?_) <;> (rw [e] at h; exact h)
/-- The loop's relation: a state s, its slots, its assertions. -/
def LoopK {σ : Type} (C : Cx) (I : σ → Prop) (Ei : σ → Env) (Hi : σ → List HA) (μ : σ → Nat) (s : σ) : Act → World → Prop := fun a w => ∃ s', I s' ∧ μ s' < μ s ∧ At C (Ei s') (Hi s') a w
theorem least_of {σ : Type} (p : σ → Prop) (μ : σ → Nat) (h : ∃ s, p s) : ∃ s, p s ∧ ∀ s', p s' → μ s ≤ μ s' := by
  obtain ⟨s, hs⟩ := h
  have key : ∀ n s, μ s = n → p s → ∃ s, p s ∧ ∀ s', p s' → μ s ≤ μ s' := by
    intro n
    induction n using Nat.strongRecOn with
    | _ n ih =>
      intro s hn hs
      by_cases hx : ∃ s', p s' ∧ μ s' < n
      · obtain ⟨s', hp, hl⟩ := hx
        exact ih _ hl s' rfl hp
      · exact ⟨s, hs, fun s' hs' => by rw [hn]; exact Nat.le_of_not_lt fun hl => hx ⟨s', hs', hl⟩⟩
  exact key _ s rfl hs
theorem ES.loop {σ : Type} {body : Code} (I : σ → Prop) (Ei : σ → Env) (Hi : σ → List HA) (μ : σ → Nat) (s0 : σ) (h0 : I s0) (he : Has E (Ei s0)) (hh : Ent H (Hi s0))
    (round : ∀ s, I s → ES C [body] (Exit.then (LoopK C I Ei Hi μ s) (Exit.then (wps C cs Q) Q)) (Ei s) (Hi s)) : ES C (.loop body :: cs) Q E H := by
  intro a w h
  let p : Act → World → σ → Prop := fun a w s => I s ∧ At C (Ei s) (Hi s) a w
  let m : Act → World → Nat := fun a w => open Classical in if hx : ∃ s, p a w s then μ (Classical.choose (least_of (p a w) μ hx)) else 0
  refine wpIn_loop (fun a w => ∃ s, p a w s) m ⟨s0, h0, h.sub he hh⟩ ?_
  rintro a w hx
  obtain ⟨hp, hmin⟩ := Classical.choose_spec (least_of (p a w) μ hx)
  have hm : m a w = μ (Classical.choose (least_of (p a w) μ hx)) := by simp only [m]; rw [dif_pos hx]
  refine wpIn_mono (round _ hp.1 a w hp.2) ?_
  intro e a' w' hq
  cases e with
  | normal =>
    obtain ⟨s', hI, hlt, hat⟩ := hq
    have hx' : ∃ s, p a' w' s := ⟨s', hI, hat⟩
    refine ⟨hx', ?_⟩
    have hm' : m a' w' = μ (Classical.choose (least_of (p a' w') μ hx')) := by simp only [m]; rw [dif_pos hx']
    have := (Classical.choose_spec (least_of (p a' w') μ hx')).2 s' ⟨hI, hat⟩
    rw [hm, hm']
    omega
  | _ => exact hq
/-! exits -/
theorem PX.then_n {e : Exit} (k : ES C cs Q E H) : PX C (Exit.then (wps C cs Q) Q) .normal E H := k
theorem PX.then_x {K : Act → World → Prop} (k : PX C Q (.exit id) E H) : PX C (Exit.then K Q) (.exit id) E H := k
theorem PX.then_r {K : Act → World → Prop} (k : PX C Q .ret E H) : PX C (Exit.then K Q) .ret E H := k
theorem PX.hit (k : PX C Q .normal E H) : PX C (Exit.inBlock id Q) (.exit id) E H := fun a w h => by simpa [Exit.inBlock] using k a w h
theorem PX.miss {id' : Nat} (hne : Nat.beq id' id = false) (k : PX C Q (.exit id') E H) : PX C (Exit.inBlock id Q) (.exit id') E H := fun a w h => by
  have : id' ≠ id := fun e => by subst e; simp at hne
  simpa [Exit.inBlock, this] using k a w h
theorem PX.block_n (k : PX C Q .normal E H) : PX C (Exit.inBlock id Q) .normal E H := k
theorem PX.block_r (k : PX C Q .ret E H) : PX C (Exit.inBlock id Q) .ret E H := k
theorem PX.loop {σ : Type} {I : σ → Prop} {Ei : σ → Env} {Hi : σ → List HA} {μ : σ → Nat} {s : σ} (s' : σ) (hI : I s') (hl : μ s' < μ s) (he : Has E (Ei s')) (hh : Ent H (Hi s')) :
    PX C (Exit.then (LoopK C I Ei Hi μ s) Q) .normal E H := fun a w h => ⟨s', hI, hl, h.sub he hh⟩
theorem PX.any {e : Exit} (k : ∀ a w, At C E H a w → Q e a w) : PX C Q e E H := k

theorem ES.region {i : Nat} {ops : Array Oper} (k : EL C ops ops.toList (Exit.then (wps C cs Q) Q) E H) : ES C (.region i ops false :: cs) Q E H :=
  fun a w h => wpIn_region_list (k a w h)
theorem EL.nil {all : Array Oper} (k : ES C cs Q E H) : EL C all [] (Exit.then (wps C cs Q) Q) E H := k
/-- A cut behind a region: what it comes to, whatever the way. -/
def CutK (C : Cx) (E : Env) (H : List HA) : Qt := fun e a w => e = .normal ∧ At C E H a w
theorem ES.cut {i : Nat} {ops : Array Oper} {d : Bool} (E' : Env) (H' : List HA) (h : ES C [.region i ops d] (CutK C E' H') E H) (k : ES C cs Q E' H') : ES C (.region i ops d :: cs) Q E H := by
  intro a w ha
  refine wpIn_mono (h a w ha) ?_
  intro e a' w' hq
  cases e with
  | normal =>
    obtain ⟨_, hat⟩ := (hq : CutK C E' H' .normal a' w')
    exact k a' w' hat
  | _ => cases (hq.1 : _ = Exit.normal)
theorem PX.cut (he : Has E E') (hh : Ent H H') : PX C (CutK C E' H') .normal E H := fun a w h => ⟨rfl, h.sub he hh⟩
end control

/-! ### Operations -/
section ops
variable {C : Cx} {all : Array Oper} {ops : List Oper} {Q : Qt} {E : Env} {H : List HA}

def guardOk (all : Array Oper) (E : Env) (g : Option (Nat × Bool)) : Option Bool :=
  match g with
  | none => some true
  | some (j, want) =>
    match (all[j]?).bind (·.dst) with
    | some d => match E.get d with
      | some (.bool b) => some (b == want)
      | some (.tuple _) => some false
      | _ => none
    | none => none
theorem guardOk_wanted {o : Oper} {b : Bool} (h : guardOk all E o.guard = some b) {n : Nat} {D : List Deferred} {a : Act} (hf : Fits n D E a) : Region.wanted o (yielded all a.tmps) = b := by
  unfold guardOk at h
  unfold Region.wanted
  split at h
  · rename_i hg; rw [hg]; simpa using h
  · rename_i j want hg
    rw [hg]
    split at h
    · rename_i d hd
      split at h
      · rename_i v hv
        have := hf.get d _ hv
        simp only [yielded, hd, Option.bind_some, this]
        simpa using h
      · rename_i v hv
        have := hf.get d _ hv
        simp only [yielded, hd, Option.bind_some, this]
        simpa using h
      · cases h
    · cases h

theorem sem_plain {r : Option Nat} {o : Oper} {ρ : Operand → Value} (h : ∀ c, o.op ≠ .defer c) : o.semAt (F0 r).round ρ = execOp ρ o := Oper.semAt_plain (F0 r) ρ o h

/-- An operation that yields a value and leaves an assertion's turn. -/
theorem EL.op {o : Oper} {d : Nat} {E' : Env} {H' : List HA} (hg : guardOk all E o.guard = some true) (hd : o.dst = some d) (hdn : Nat.blt d C.n = true) (hop : ∀ c, o.op ≠ .defer c)
    (h : ∀ a w, At C E H a w → ∃ v w', (execOp a.eval o).run C.P w = .ok (.value v) w' ∧ Sat C.w0 C.B H' w' ∧ Has ((d, v) :: E) E')
    (k : EL C all ops Q E' H') : EL C all (o :: ops) Q E H := by
  intro a w ha
  obtain ⟨v, w', hr, hs, hh⟩ := h a w ha
  simp only [wpListIn, guardOk_wanted hg ha.1, if_true]
  refine ⟨fun _ _ => trivial, ?_⟩
  rw [sem_plain hop, hr]
  simp only [Oper.uponIn, hd]
  refine k _ _ ⟨(ha.1.put (by simpa using hdn) v).has hh, hs⟩
theorem EL.val {o : Oper} {d : Nat} (v : Value) (hg : guardOk all E o.guard = some true) (hd : o.dst = some d) (hdn : Nat.blt d C.n = true) (hop : ∀ c, o.op ≠ .defer c)
    (h : ∀ a w, At C E H a w → (execOp a.eval o).run C.P w = .ok (.value v) w)
    (k : EL C all ops Q ((d, v) :: E) H) : EL C all (o :: ops) Q E H := by
  intro a w ha
  simp only [wpListIn, guardOk_wanted hg ha.1, if_true]
  refine ⟨fun _ _ => trivial, ?_⟩
  rw [sem_plain hop, h a w ha]
  simp only [Oper.uponIn, hd]
  exact k _ _ ⟨ha.1.put (by simpa using hdn) v, ha.2⟩
/-- The same, a store or its like: no slot is written. -/
theorem EL.unit {o : Oper} {H' : List HA} (hg : guardOk all E o.guard = some true) (hd : o.dst = none) (hop : ∀ c, o.op ≠ .defer c)
    (h : ∀ a w, At C E H a w → ∃ w', (execOp a.eval o).run C.P w = .ok .skip w' ∧ Sat C.w0 C.B H' w')
    (k : EL C all ops Q E H') : EL C all (o :: ops) Q E H := by
  intro a w ha
  obtain ⟨w', hr, hs⟩ := h a w ha
  simp only [wpListIn, guardOk_wanted hg ha.1, if_true]
  refine ⟨fun _ _ => trivial, ?_⟩
  rw [sem_plain hop, hr]
  simp only [Oper.uponIn, hd]
  exact k _ _ ⟨ha.1, hs⟩
/-- An operation that is passed over. -/
theorem EL.pass {o : Oper} {d : Nat} (hg : guardOk all E o.guard = some false) (hd : o.dst = some d) (hdn : Nat.blt d C.n = true) (k : EL C all ops Q ((d, undef) :: E) H) : EL C all (o :: ops) Q E H := by
  intro a w ha
  simp only [wpListIn, guardOk_wanted hg ha.1, hd]
  exact ⟨fun _ _ => trivial, k _ _ ⟨ha.1.put (by simpa using hdn) _, ha.2⟩⟩
theorem EL.pass_none {o : Oper} (hg : guardOk all E o.guard = some false) (hd : o.dst = none) (k : EL C all ops Q E H) : EL C all (o :: ops) Q E H := by
  intro a w ha
  simp only [wpListIn, guardOk_wanted hg ha.1, hd]
  exact ⟨fun _ _ => trivial, k _ _ ⟨ha.1, ha.2⟩⟩
/-- Parting on a guard that is not decided yet. -/
def guardSlot (all : Array Oper) (g : Option (Nat × Bool)) : Option Nat :=
  match g with
  | none => none
  | some (j, _) => (all[j]?).bind (·.dst)
theorem EL.part {o : Oper} {d : Nat} {p : Prop} [Decidable p] (hg : guardSlot all o.guard = some d) (hv : E.get d = some (.bool (decide p)))
    (ht : p → EL C all (o :: ops) Q ((d, .bool true) :: E) H) (hf : ¬ p → EL C all (o :: ops) Q ((d, .bool false) :: E) H) : EL C all (o :: ops) Q E H := by
  intro a w ha
  have hslot := ha.1.get d _ hv
  by_cases hp : p
  · refine ht hp a w ⟨⟨ha.1.dfr, ha.1.size, fun d' v' h' => ?_⟩, ha.2⟩
    rw [Env.get_cons] at h'
    by_cases e : d = d'
    · subst e; rw [if_pos rfl] at h'; rw [← Option.some.inj h', hslot, decide_eq_true hp]
    · rw [if_neg e] at h'; exact ha.1.get d' v' h'
  · refine hf hp a w ⟨⟨ha.1.dfr, ha.1.size, fun d' v' h' => ?_⟩, ha.2⟩
    rw [Env.get_cons] at h'
    by_cases e : d = d'
    · subst e; rw [if_pos rfl] at h'; rw [← Option.some.inj h', hslot, decide_eq_false hp]
    · rw [if_neg e] at h'; exact ha.1.get d' v' h'
theorem EL.partB {o : Oper} {d : Nat} {b : Bool} (hg : guardSlot all o.guard = some d) (hv : E.get d = some (.bool b))
    (ht : b = true → EL C all (o :: ops) Q ((d, .bool true) :: E) H) (hf : b = false → EL C all (o :: ops) Q ((d, .bool false) :: E) H) : EL C all (o :: ops) Q E H := by
  cases b
  · intro a w ha
    refine hf rfl a w ⟨⟨ha.1.dfr, ha.1.size, fun d' v' h' => ?_⟩, ha.2⟩
    rw [Env.get_cons] at h'
    by_cases e : d = d'
    · subst e; rw [if_pos rfl] at h'; rw [← Option.some.inj h', ha.1.get _ _ hv]
    · rw [if_neg e] at h'; exact ha.1.get d' v' h'
  · intro a w ha
    refine ht rfl a w ⟨⟨ha.1.dfr, ha.1.size, fun d' v' h' => ?_⟩, ha.2⟩
    rw [Env.get_cons] at h'
    by_cases e : d = d'
    · subst e; rw [if_pos rfl] at h'; rw [← Option.some.inj h', ha.1.get _ _ hv]
    · rw [if_neg e] at h'; exact ha.1.get d' v' h'
/-- Parting on a slot. -/
theorem EL.splitB {d : Nat} {b : Bool} (hv : E.get d = some (.bool b)) (ht : b = true → EL C all ops Q ((d, .bool true) :: E) H) (hf : b = false → EL C all ops Q ((d, .bool false) :: E) H) : EL C all ops Q E H := by
  cases b
  · intro a w ha
    refine hf rfl a w ⟨⟨ha.1.dfr, ha.1.size, fun d' v' h' => ?_⟩, ha.2⟩
    rw [Env.get_cons] at h'
    by_cases e : d = d'
    · subst e; rw [if_pos rfl] at h'; rw [← Option.some.inj h', ha.1.get _ _ hv]
    · rw [if_neg e] at h'; exact ha.1.get d' v' h'
  · intro a w ha
    refine ht rfl a w ⟨⟨ha.1.dfr, ha.1.size, fun d' v' h' => ?_⟩, ha.2⟩
    rw [Env.get_cons] at h'
    by_cases e : d = d'
    · subst e; rw [if_pos rfl] at h'; rw [← Option.some.inj h', ha.1.get _ _ hv]
    · rw [if_neg e] at h'; exact ha.1.get d' v' h'
theorem EL.splitD {d : Nat} {p : Prop} [Decidable p] (hv : E.get d = some (.bool (decide p))) (ht : p → EL C all ops Q ((d, .bool true) :: E) H) (hf : ¬ p → EL C all ops Q ((d, .bool false) :: E) H) : EL C all ops Q E H :=
  EL.splitB hv (fun e => ht (of_decide_eq_true e)) (fun e => hf (of_decide_eq_false e))
theorem EL.splitN {d : Nat} {p : Prop} [Decidable p] (hv : E.get d = some (.bool (!decide p))) (ht : ¬ p → EL C all ops Q ((d, .bool true) :: E) H) (hf : p → EL C all ops Q ((d, .bool false) :: E) H) : EL C all ops Q E H :=
  EL.splitB hv (fun e => ht (by simpa using e)) (fun e => hf (by simpa using e))
/-- A guard that is known to hold. -/
theorem EL.known {o : Oper} (hg : guardOk all E o.guard = some true) (k : EL C all (o :: ops) Q E H) : EL C all (o :: ops) Q E H := k
/-- A slot's value written otherwise. -/
theorem EL.rew {d : Nat} {v v' : Value} (hv : E.get d = some v) (e : v = v') (k : EL C all ops Q ((d, v') :: E) H) : EL C all ops Q E H := by
  subst e
  intro a w ha
  refine k a w ⟨⟨ha.1.dfr, ha.1.size, fun d' v' h' => ?_⟩, ha.2⟩
  rw [Env.get_cons] at h'
  by_cases e : d = d'
  · subst e; rw [if_pos rfl] at h'; rw [← Option.some.inj h', ha.1.get _ _ hv]
  · rw [if_neg e] at h'; exact ha.1.get d' v' h'
end ops
/-! The steps of control as one search; b: into a region's operations, too. -/
mutual
inductive CS : Bool → (C : Cx) → Env → List HA → List Code → Qt → Prop
  | seq {b : Bool} {C : Cx} {E : Env} {H : List HA} {Q : Qt} {cs : List Code} {x y : Code} (k : CS b C E H (x :: y :: cs) Q) : CS b C E H (.seq x y :: cs) Q
  | skip {b : Bool} {C : Cx} {E : Env} {H : List HA} {Q : Qt} {cs : List Code} (k : CS b C E H cs Q) : CS b C E H (.skip :: cs) Q
  | region {C : Cx} {E : Env} {H : List HA} {Q : Qt} {cs : List Code} {i : Nat} {ops : Array Oper} (k : CE true C E H ops ops.toList (Exit.then (wps C cs Q) Q)) : CS true C E H (.region i ops false :: cs) Q
  | block {b : Bool} {C : Cx} {E : Env} {H : List HA} {Q : Qt} {cs : List Code} {id : Nat} {c : Code} (k : CS b C E H [c] (Exit.inBlock id (Exit.then (wps C cs Q) Q))) : CS b C E H (.block id c :: cs) Q
  | nil {b : Bool} {C : Cx} {E : Env} {H : List HA} {Q : Qt} (k : CP b C E H Q .normal) : CS b C E H [] Q
  | exit {b : Bool} {C : Cx} {E : Env} {H : List HA} {Q : Qt} {cs : List Code} {id : Nat} (k : CP b C E H Q (.exit id)) : CS b C E H (.exit id :: cs) Q
  | ret {b : Bool} {C : Cx} {E : Env} {H : List HA} {Q : Qt} {cs : List Code} (k : CP b C E H Q .ret) : CS b C E H (.ret :: cs) Q
  | l {b : Bool} {C : Cx} {E : Env} {H : List HA} {Q : Qt} {cs : List Code} (k : ES C cs Q E H) : CS b C E H cs Q
inductive CE : Bool → (C : Cx) → Env → List HA → Array Oper → List Oper → Qt → Prop
  | nil {b : Bool} {C : Cx} {E : Env} {H : List HA} {Q : Qt} {cs : List Code} {all : Array Oper} (k : CS b C E H cs Q) : CE b C E H all [] (Exit.then (wps C cs Q) Q)
  | l {b : Bool} {C : Cx} {E : Env} {H : List HA} {Q : Qt} {all : Array Oper} {ops : List Oper} (k : EL C all ops Q E H) : CE b C E H all ops Q
inductive CP : Bool → (C : Cx) → Env → List HA → Qt → Exit → Prop
  | hit {b : Bool} {C : Cx} {E : Env} {H : List HA} {Q : Qt} {id : Nat} (k : CP b C E H Q .normal) : CP b C E H (Exit.inBlock id Q) (.exit id)
  | miss {b : Bool} {C : Cx} {E : Env} {H : List HA} {Q : Qt} {id id' : Nat} (hne : Nat.beq id' id = false) (k : CP b C E H Q (.exit id')) : CP b C E H (Exit.inBlock id Q) (.exit id')
  | then_x {b : Bool} {C : Cx} {E : Env} {H : List HA} {Q : Qt} {K : Act → World → Prop} {id : Nat} (k : CP b C E H Q (.exit id)) : CP b C E H (Exit.then K Q) (.exit id)
  | then_r {b : Bool} {C : Cx} {E : Env} {H : List HA} {Q : Qt} {K : Act → World → Prop} (k : CP b C E H Q .ret) : CP b C E H (Exit.then K Q) .ret
  | block_n {b : Bool} {C : Cx} {E : Env} {H : List HA} {Q : Qt} {id : Nat} (k : CP b C E H Q .normal) : CP b C E H (Exit.inBlock id Q) .normal
  | block_r {b : Bool} {C : Cx} {E : Env} {H : List HA} {Q : Qt} {id : Nat} (k : CP b C E H Q .ret) : CP b C E H (Exit.inBlock id Q) .ret
  | then_n {b : Bool} {C : Cx} {E : Env} {H : List HA} {Q : Qt} {cs : List Code} (k : CS b C E H cs Q) : CP b C E H (Exit.then (wps C cs Q) Q) .normal
  | l {b : Bool} {C : Cx} {E : Env} {H : List HA} {Q : Qt} {e : Exit} (k : PX C Q e E H) : CP b C E H Q e
end
mutual
theorem CS.go : ∀ {b : Bool} {C : Cx} {E : Env} {H : List HA} {cs : List Code} {Q : Qt}, CS b C E H cs Q → ES C cs Q E H
  | _, _, _, _, _, _, .seq k => ES.seq k.go
  | _, _, _, _, _, _, .skip k => ES.skip k.go
  | _, _, _, _, _, _, .region k => ES.region k.go
  | _, _, _, _, _, _, .block k => ES.block k.go
  | _, _, _, _, _, _, .nil k => ES.nil k.go
  | _, _, _, _, _, _, .exit k => ES.exit k.go
  | _, _, _, _, _, _, .ret k => ES.ret k.go
  | _, _, _, _, _, _, .l k => k
theorem CE.go : ∀ {b : Bool} {C : Cx} {E : Env} {H : List HA} {all : Array Oper} {ops : List Oper} {Q : Qt}, CE b C E H all ops Q → EL C all ops Q E H
  | _, _, _, _, _, _, _, .nil k => EL.nil k.go
  | _, _, _, _, _, _, _, .l k => k
theorem CP.go : ∀ {b : Bool} {C : Cx} {E : Env} {H : List HA} {Q : Qt} {e : Exit}, CP b C E H Q e → PX C Q e E H
  | _, _, _, _, _, _, .hit k => PX.hit k.go
  | _, _, _, _, _, _, .miss hne k => PX.miss hne k.go
  | _, _, _, _, _, _, .then_x k => PX.then_x k.go
  | _, _, _, _, _, _, .then_r k => PX.then_r k.go
  | _, _, _, _, _, _, .block_n k => PX.block_n k.go
  | _, _, _, _, _, _, .block_r k => PX.block_r k.go
  | _, _, _, _, _, _, .then_n k => PX.then_n (e := .normal) k.go
  | _, _, _, _, _, _, .l k => k
end
section search
variable {C : Cx} {cs : List Code} {Q : Qt} {E : Env} {H : List HA} {all : Array Oper} {ops : List Oper} {e : Exit}
theorem ES.go (h : CS true C E H cs Q) : ES C cs Q E H := h.go
theorem EL.go (h : CE true C E H all ops Q) : EL C all ops Q E H := h.go
theorem PX.go (h : CP true C E H Q e) : PX C Q e E H := h.go
theorem ES.g0 (h : CS false C E H cs Q) : ES C cs Q E H := h.go
theorem EL.g0 (h : CE false C E H all ops Q) : EL C all ops Q E H := h.go
theorem PX.g0 (h : CP false C E H Q e) : PX C Q e E H := h.go
end search
/-- Ent, found step by step. -/
inductive EntI : List HA → List HA → Prop
  | nil (H : List HA) : EntI H []
  | refl (H : List HA) : EntI H H
  | cons {H : List HA} {A : HA} {R T : List HA} (p : Pick H A R) (t : EntI R T) : EntI H (A :: T)
  | drop {H T : List HA} {A : HA} (h : EntI H T) : EntI (A :: H) T
theorem Ent.i {H T : List HA} (h : EntI H T) : Ent H T := by
  induction h with
  | nil H => exact .nil H
  | refl H => exact .refl H
  | cons p t ih => exact .cons p ih
  | drop h ih => exact ih.drop
end Go.Proofs.YtgoopgnnkhpmlaaDoor.Sl
