/- THE BASE: ranges over functions: what an iterator owes the loop, and what the loop's rounds owe it; functions that end with marks among their deferred calls. -/
import Derived.Test.YtgoopgnnkhpmlaaDoorSlo
namespace Go.Proofs.YtgoopgnnkhpmlaaDoor.Sl
open Go Go.RowKit
set_option linter.unusedVariables false
set_option linter.unusedSimpArgs false

/-! many assertions as one -/
def HA.pack (Hs : List HA) : HA := ⟨fps Hs, fun w => ∀ A ∈ Hs, A.holds w, fun w w' h hw A hA => A.loc w w' (fun g hg => h g (List.mem_flatMap.2 ⟨A, hA, hg⟩)) (hw A hA)⟩
theorem fps_pack (Hs R : List HA) : fps (HA.pack Hs :: R) = fps (Hs ++ R) := by rw [fps_cons, fps_append]; rfl
theorem Sat.pack {w0 w : World} {B : Nat} {Hs R : List HA} (h : Sat w0 B (Hs ++ R) w) : Sat w0 B (HA.pack Hs :: R) w :=
  ⟨h.below, h.base, by rw [fps_pack]; exact h.nodup, by rw [fps_pack]; exact h.lo, fun A hA => by
    rcases List.mem_cons.1 hA with rfl | hA
    · exact fun A hA => h.all A (by simp [hA])
    · exact h.all A (by simp [hA])⟩
theorem Sat.unpack {w0 w : World} {B : Nat} {Hs R : List HA} (h : Sat w0 B (HA.pack Hs :: R) w) : Sat w0 B (Hs ++ R) w :=
  ⟨h.below, h.base, by rw [← fps_pack]; exact h.nodup, by rw [← fps_pack]; exact h.lo, fun A hA => by
    rcases List.mem_append.1 hA with hA | hA
    · exact h.head A hA
    · exact h.all A (by simp [hA])⟩
theorem Sat.putObj {w0 w : World} {B l : Nat} {o : Obj} (o' : Obj) {H : List HA} (h : Sat w0 B (HA.blk l o :: H) w) : Sat w0 B (HA.blk l o' :: H) (w.putObj l o') := by
  have hlt : l < w.heap.size := (h.lo l (by rw [fps_cons]; simp [HA.blk])).2
  refine h.step rfl rfl rfl (by simp) (fun k hk hn => World.putObj_heap_other (by simpa [HA.blk] using hn)) (World.putObj_heap_same hlt) (fun g hg => ?_) (by simp [HA.blk])
  simp only [HA.blk, List.mem_singleton] at hg
  subst hg
  exact ⟨by simpa using hlt, .inl (by simp [HA.blk])⟩

/-! the iterator and the loop -/
def mark (D : Nat) : Deferred := { target := .collected D, args := #[] }
def markB (D : Nat) : HA := HA.blk D (.deferred (some []))
/-- A loop's rounds: yield, called with the i-th element, goes on, or says that it is enough; whatever else is owned stays. -/
def Rounds (P : Program) (l : Nat) (w0 : World) (B : Nat) (xs : List (List Value)) (I Ix : Nat → HA → Prop) : Prop :=
  ∀ (i : Nat) (A : HA) (R : List HA) (x : List Value) (W : World), I i A → xs[i]? = some x → Sat w0 B (A :: R) W →
    YieldAt (F0 none) 0 P l x.toArray W fun e W' => (e = .returned (.bool true) ∧ ∃ A', I (i + 1) A' ∧ Sat w0 B (A' :: R) W') ∨ (e = .returned (.bool false) ∧ ∃ A', Ix (i + 1) A' ∧ Sat w0 B (A' :: R) W')
/-- An iterator: the function value gf with the captured lb gives the elements xs; it owns Hc. -/
def Iter (P : Program) (gf : Nat) (lb : Array Value) (xs : List (List Value)) (Hc : List HA) (W0 : World) (B0 : Nat) : Prop :=
  ∀ (l : Nat) (I Ix : Nat → HA → Prop), Rounds P l W0 B0 xs I Ix → ∀ (A : HA) (R : List HA) (W : World), I 0 A → Sat W0 B0 (Hc ++ A :: R) W →
    Calls P gf (#[.func (.yield l) #[] #[]] ++ lb) W fun e W' => (∃ v, e = .returned v) ∧ ((∃ A', I xs.length A' ∧ Sat W0 B0 (Hc ++ A' :: R) W') ∨ (∃ i A', Ix i A' ∧ Sat W0 B0 (Hc ++ A' :: R) W'))

section yields
variable {C : Cx} {all : Array Oper} {ops : List Oper} {Q : Qt} {E : Env} {H H' R : List HA} {d ty : Nat} {pos : String} {af : Array Edge} {gd : Option (Nat × Bool)}
/-- A call of yield. -/
theorem EL.yield {fo : Operand} {ar : Array Operand} {tys : Array TypeId} {l i : Nat} {vs : List Value} {xs : List (List Value)} {I Ix : Nat → HA → Prop} {A : HA} (hg : guardOk all E gd = some true) (hf : E.ev fo = some (.func (.yield l) #[] #[])) (ha : E.evl ar.toList = some vs) (hd : Nat.blt d C.n = true)
    (hY : Rounds C.P l C.w0 C.B xs I Ix) (hi : I i A) (hx : xs[i]? = some vs) (p : Pick H A R)
    (kt : ∀ A', I (i + 1) A' → EL C all ops Q ((d, .bool true) :: E) (A' :: R)) (kf : ∀ A', Ix (i + 1) A' → EL C all ops Q ((d, .bool false) :: E) (A' :: R)) :
    EL C all (⟨some d, .call { callee := .value fo, args := ar, argTypes := tys }, ty, pos, af, gd⟩ :: ops) Q E H := by
  intro a w hat
  simp only [wpListIn, guardOk_wanted (o := ⟨some d, .call { callee := .value fo, args := ar, argTypes := tys }, ty, pos, af, gd⟩) hg hat.1, if_true]
  refine ⟨fun _ _ => trivial, ?_⟩
  rw [sem_plain (by simp)]
  have hm : ar.map a.eval = vs.toArray := by
    have := hat.1.evl ha
    apply Array.ext'
    simpa using this
  obtain ⟨fn, tmps, asg, body, hy, hR⟩ := hY i A R vs w hi hx (hat.2.perm p.perm)
  have hrun : (execOp a.eval ⟨some d, .call { callee := .value fo, args := ar, argTypes := tys }, ty, pos, af, gd⟩).run C.P w = .ok (.round l fn tmps asg body) w := by
    simp only [execOp, resolve, hat.1.ev hf, hm, Deferred.ofValue, Sem.run_bind, Sem.run_pure, Result.andThen, invoke]
    rw [show (#[] ++ vs.toArray : Array Value) = vs.toArray by simp]
    exact hy
  rw [hrun]
  refine ⟨fun h => by simp [F0] at h, ?_⟩
  refine RoundIn.mono (F := F0 C.r) hR ?_
  rintro e w' (⟨rfl, A', hi', hs⟩ | ⟨rfl, A', hi', hs⟩)
  · exact kt A' hi' _ _ ⟨hat.1.put (by simpa using hd) _, hs⟩
  · exact kf A' hi' _ _ ⟨hat.1.put (by simpa using hd) _, hs⟩
/-- The same where the answer is not looked at. -/
theorem EL.yield0 {fo : Operand} {ar : Array Operand} {tys : Array TypeId} {l i : Nat} {vs : List Value} {xs : List (List Value)} {I Ix : Nat → HA → Prop} {A : HA} (hg : guardOk all E gd = some true) (hf : E.ev fo = some (.func (.yield l) #[] #[])) (ha : E.evl ar.toList = some vs)
    (hY : Rounds C.P l C.w0 C.B xs I Ix) (hi : I i A) (hx : xs[i]? = some vs) (p : Pick H A R)
    (kt : ∀ A', I (i + 1) A' → EL C all ops Q E (A' :: R)) (kf : ∀ A', Ix (i + 1) A' → EL C all ops Q E (A' :: R)) :
    EL C all (⟨none, .call { callee := .value fo, args := ar, argTypes := tys }, ty, pos, af, gd⟩ :: ops) Q E H := by
  intro a w hat
  simp only [wpListIn, guardOk_wanted (o := ⟨none, .call { callee := .value fo, args := ar, argTypes := tys }, ty, pos, af, gd⟩) hg hat.1, if_true]
  refine ⟨fun _ _ => trivial, ?_⟩
  rw [sem_plain (by simp)]
  have hm : ar.map a.eval = vs.toArray := by
    have := hat.1.evl ha
    apply Array.ext'
    simpa using this
  obtain ⟨fn, tmps, asg, body, hy, hR⟩ := hY i A R vs w hi hx (hat.2.perm p.perm)
  have hrun : (execOp a.eval ⟨none, .call { callee := .value fo, args := ar, argTypes := tys }, ty, pos, af, gd⟩).run C.P w = .ok (.round l fn tmps asg body) w := by
    simp only [execOp, resolve, hat.1.ev hf, hm, Deferred.ofValue, Sem.run_bind, Sem.run_pure, Result.andThen, invoke]
    rw [show (#[] ++ vs.toArray : Array Value) = vs.toArray by simp]
    exact hy
  rw [hrun]
  refine ⟨fun h => by simp [F0] at h, ?_⟩
  refine RoundIn.mono (F := F0 C.r) hR ?_
  rintro e w' (⟨rfl, A', hi', hs⟩ | ⟨rfl, A', hi', hs⟩)
  · exact kt A' hi' _ _ ⟨hat.1, hs⟩
  · exact kf A' hi' _ _ ⟨hat.1, hs⟩
end yields

section ranges
variable {C : Cx} {cs : List Code} {Q : Qt} {E E' : Env} {H H' H1 R : List HA}
/-- How a round may end. -/
def RoundQ {σ τ : Type} (C : Cx) (R1 : List HA) (I : σ → Prop) (Hi : σ → List HA) (Ix : Code → τ → Prop) (Hx : τ → List HA) : Qt := fun e a w => match e with
  | .normal => ∃ s, I s ∧ Sat C.w0 C.B (Hi s ++ R1) w
  | .ret => ∃ t, Ix .ret t ∧ Sat C.w0 C.B (Hx t ++ R1) w
  | .exit id => ∃ t, Ix (.exit id) t ∧ Sat C.w0 C.B (Hx t ++ R1) w
  | _ => False
theorem PX.round {σ τ : Type} {R1 : List HA} {I : σ → Prop} {Hi : σ → List HA} {Ix : Code → τ → Prop} {Hx : τ → List HA} (s : σ) (hI : I s) (hh : Ent H (Hi s ++ R1)) : PX C (RoundQ C R1 I Hi Ix Hx) .normal E H := fun a w h => ⟨s, hI, h.2.ent hh⟩
theorem PX.roundR {σ τ : Type} {R1 : List HA} {I : σ → Prop} {Hi : σ → List HA} {Ix : Code → τ → Prop} {Hx : τ → List HA} (t : τ) (hI : Ix .ret t) (hh : Ent H (Hx t ++ R1)) : PX C (RoundQ C R1 I Hi Ix Hx) .ret E H := fun a w h => ⟨t, hI, h.2.ent hh⟩
theorem PX.roundX {σ τ : Type} {id : Nat} {R1 : List HA} {I : σ → Prop} {Hi : σ → List HA} {Ix : Code → τ → Prop} {Hx : τ → List HA} (t : τ) (hI : Ix (.exit id) t) (hh : Ent H (Hx t ++ R1)) : PX C (RoundQ C R1 I Hi Ix Hx) (.exit id) E H := fun a w h => ⟨t, hI, h.2.ent hh⟩
def bindL : List Nat → List Value → Env → Env
  | p :: ps, v :: vs, E => bindL ps vs ((p, v) :: E)
  | _, _, E => E
theorem fits_bind {n : Nat} {D : List Deferred} : ∀ (ps : List Nat) (vs : List Value) (E : Env) (t : Array Value), (ps.all fun p => Nat.blt p n) = true → Fits n D E { tmps := t, defers := D } → Fits n D (bindL ps vs E) { tmps := (ps.zip vs).foldl (fun t (p : Nat × Value) => t.setIfInBounds p.1 p.2) t, defers := D }
  | [], _, E, t, _, h => by simpa [bindL] using h
  | p :: ps, [], E, t, _, h => by simpa [bindL] using h
  | p :: ps, v :: vs, E, t, hp, h => by
    simp only [List.all_cons, Bool.and_eq_true] at hp
    exact fits_bind ps vs _ _ hp.2 (h.put (by simpa using hp.1) v)
theorem wps_D (C : Cx) (D : List Deferred) (Q : Qt) : ∀ cs, wps { C with D := D } cs Q = wps C cs Q
  | [] => rfl
  | c :: cs => by simp only [wps, wps_D C D Q cs]
/-- The loop's record. -/
def loopR (fn : FuncId) (tmps : Array Value) (ps : Array Tmp) (asg body : Code) (D : Nat) (st : LoopState) (pe : Option Code) : Loop := { state := st, pending := pe, fn, tmps, params := ps, assign := asg, body, defers := D }
/-- Behind the assignments to the loop's variables: the body, whatever is owned beside. -/
def AssignQ (C : Cx) (R1 : List HA) (body : Code) (RQ : List HA → Qt) : Qt := fun e a w => e = .normal ∧ ∃ E1 H1, At C E1 (H1 ++ R1) a w ∧ ∀ R2, ES C [body] (RQ R2) E1 (H1 ++ R2)
theorem PX.assigned {R1 : List HA} {body : Code} {RQ : List HA → Qt} (E1 : Env) (H1 : List HA) (he : Has E E1) (hh : Ent H (H1 ++ R1)) (k : ∀ R2, ES C [body] (RQ R2) E1 (H1 ++ R2)) : PX C (AssignQ C R1 body RQ) .normal E H := fun a w h => ⟨rfl, E1, H1, h.sub he hh, k⟩
def loopA (L : Nat) (lp : Loop) (D : Nat) (T : List HA) : HA := HA.pack (HA.blk L (.loop lp) :: markB D :: T)
theorem perm_mid2 {α : Type} (a b : α) (T R : List α) : (T ++ a :: b :: R).Perm (a :: b :: (T ++ R)) := List.perm_middle.trans (List.perm_middle.cons _)
theorem round_end {P : Program} {w0 : World} {B L D : Nat} {lp : Loop} {T R1 : List HA} {W3 : World} (jump : Option Code) (h3 : Sat w0 B (T ++ (HA.blk L (.loop lp) :: markB D :: R1)) W3) :
    (Instr.endRound L jump).run P W3 = .ok (.bool jump.isNone) (W3.putObj L (.loop { lp with state := if jump.isNone then .ready else .done, pending := jump })) ∧
    Sat w0 B (loopA L { lp with state := if jump.isNone then .ready else .done, pending := jump } D T :: R1) (W3.putObj L (.loop { lp with state := if jump.isNone then .ready else .done, pending := jump })) := by
  have h4 : Sat w0 B (HA.blk L (.loop lp) :: markB D :: (T ++ R1)) W3 := h3.perm (perm_mid2 _ _ _ _)
  exact ⟨run_endRound (P := P) jump h4.head, (h4.putObj _).pack⟩
theorem rounds_of {σ τ : Type} {P : Program} {T : TyTab P} {w0 : World} {B n L D : Nat} {fn : FuncId} {tmps : Array Value} {ps : Array Tmp} {asg body : Code} {xs : List (List Value)} (I : Nat → σ → Prop) (Hi : σ → List HA) (Ix : Code → Nat → τ → Prop) (Hx : τ → List HA)
    (hps : ∀ x ∈ xs, x.length = ps.size) (hpn : (ps.toList.all fun p => Nat.blt p n) = true) (hfit : Fits n [] E { tmps, defers := [] })
    (hround : ∀ l i s x R1, I i s → xs[i]? = some x → ES ⟨P, T, some l, n, [], w0, B⟩ [asg] (AssignQ ⟨P, T, some l, n, [], w0, B⟩ R1 body fun R2 => RoundQ ⟨P, T, some l, n, [], w0, B⟩ R2 (I (i + 1)) Hi (fun c => Ix c (i + 1)) Hx) (bindL ps.toList x E) (Hi s ++ R1)) :
    Rounds P L w0 B xs (fun i A => ∃ s, I i s ∧ A = loopA L (loopR fn tmps ps asg body D .ready none) D (Hi s)) (fun i A => ∃ c t, Ix c i t ∧ A = loopA L (loopR fn tmps ps asg body D .done (some c)) D (Hx t)) := by
  rintro i A R1 x W ⟨s, hI, rfl⟩ hx hsat
  have hs := hsat.unpack
  have hl : W.heap[L]? = some (.loop (loopR fn tmps ps asg body D .ready none)) := hs.head
  have hy := run_yield (P := P) (args := x.toArray) hl (by simpa [loopR] using hps x (List.mem_of_getElem? hx))
  refine ⟨_, _, _, _, hy, roundIn_of_wpIn trivial ?_⟩
  have hs0 : Sat w0 B (Hi s ++ (HA.blk L (.loop (loopR fn tmps ps asg body D .ready none)) :: markB D :: R1)) W := hs.perm (perm_mid2 _ _ _ _).symm
  have hf2 : Fits n [] (bindL ps.toList x E) { tmps := (ps.zip x.toArray).foldl (fun t (p : Nat × Value) => t.setIfInBounds p.1 p.2) tmps, defers := [] } := by
    have := fits_bind (D := []) ps.toList x E tmps hpn hfit
    rw [← Array.foldl_toList, Array.toList_zip]
    exact this
  refine wpIn_mono (hround L i s x _ hI hx _ _ ⟨hf2, hs0⟩) ?_
  clear hf2 hs0 hy hl hs hsat hround
  rintro e a1 W1 hq
  cases e with
  | normal =>
    obtain ⟨_, E1, H1, hat, hb⟩ := (hq : AssignQ _ _ _ _ .normal a1 W1)
    have hs1 : Sat w0 B (HA.blk L (.loop (loopR fn tmps ps asg body D .ready none)) :: markB D :: (H1 ++ R1)) W1 := hat.2.perm (perm_mid2 _ _ _ _)
    refine ⟨_, run_beginRound hs1.head rfl, ?_⟩
    have hs' : Sat w0 B (H1 ++ (HA.blk L (.loop { loopR fn tmps ps asg body D .ready none with state := .busy }) :: markB D :: R1)) (W1.putObj L (.loop { loopR fn tmps ps asg body D .ready none with state := .busy })) :=
      (hs1.putObj (.loop { loopR fn tmps ps asg body D .ready none with state := .busy })).perm (perm_mid2 _ _ _ _).symm
    refine wpIn_mono (hb _ _ _ ⟨hat.1, hs'⟩) ?_
    clear hb hs' hs1 hat
    rintro e a3 W3 hp
    cases e with
    | normal =>
      obtain ⟨s', hI', hs3⟩ := hp
      obtain ⟨h1, h2⟩ := round_end (P := P) none hs3
      exact ⟨_, _, h1, .inl ⟨rfl, _, ⟨s', hI', rfl⟩, h2⟩⟩
    | ret =>
      obtain ⟨t, hI', hs3⟩ := hp
      obtain ⟨h1, h2⟩ := round_end (P := P) (some .ret) hs3
      exact ⟨_, _, h1, .inr ⟨rfl, _, ⟨_, t, hI', rfl⟩, h2⟩⟩
    | exit id =>
      obtain ⟨t, hI', hs3⟩ := hp
      obtain ⟨h1, h2⟩ := round_end (P := P) (some (.exit id)) hs3
      exact ⟨_, _, h1, .inr ⟨rfl, _, ⟨_, t, hI', rfl⟩, h2⟩⟩
    | goto t => exact hp.elim
    | panic ch => exact hp.elim
    | outgrown => exact hp.elim
  | _ => cases (hq.1 : _ = Exit.normal)
theorem range_back {P : Program} {w0 : World} {B L D : Nat} {lp : Loop} {T Hc R : List HA} {W2 : World} (h : Sat w0 B (Hc ++ loopA L lp D T :: R) W2) (hb : lp.state ≠ .busy) :
    (Instr.endLoop L).run P W2 = .ok lp.pending (W2.putObj L (.loop { lp with state := .exhausted })) ∧ Sat w0 B (markB D :: (T ++ (Hc ++ R))) (W2.putObj L (.loop { lp with state := .exhausted })) := by
  have h1 : Sat w0 B (loopA L lp D T :: (Hc ++ R)) W2 := h.perm List.perm_middle
  have h2 := h1.unpack
  exact ⟨run_endLoop (P := P) h2.head hb, (h2.putObj _).tail⟩
theorem range_start {w0 w : World} {B : Nat} {H Hc R T : List HA} (h : Sat w0 B H w) (p : H.Perm (Hc ++ (T ++ R))) (o : Loop) :
    Sat w0 B (Hc ++ loopA (w.heap.size + 1) o w.heap.size T :: R) ((w.alloc (.deferred (some []))).alloc (.loop o)) := by
  have h1 := (h.alloc (.deferred (some []))).alloc (.loop o)
  rw [World.size_alloc] at h1
  have h2 : Sat w0 B ((HA.blk (w.heap.size + 1) (.loop o) :: markB w.heap.size :: T) ++ (R ++ Hc)) ((w.alloc (.deferred (some []))).alloc (.loop o)) := by
    refine h1.perm (((p.trans ?_).cons _).cons _)
    show (Hc ++ (T ++ R)).Perm (T ++ (R ++ Hc))
    rw [← List.append_assoc T]
    exact List.perm_append_comm
  exact h2.pack.perm (List.perm_append_comm (l₁ := _ :: R) (l₂ := Hc))
theorem PX.then_d {D' : List Deferred} (k : ES C cs Q E H) : PX C (Exit.then (wps { C with D := D' } cs Q) Q) .normal E H := by
  intro a w h
  show wps { C with D := D' } cs Q a w
  rw [wps_D]
  exact k a w h
/-- for .. := range g { body }. -/
theorem ES.rangeFunc {σ τ : Type} {g : Operand} {ps : Array Tmp} {asg body : Code} {gf : Nat} {lb : Array Value} {xs : List (List Value)} {Hc : List HA} (I : Nat → σ → Prop) (Hi : σ → List HA) (Ix : Code → Nat → τ → Prop) (Hx : τ → List HA) (s0 : σ) (h0 : I 0 s0)
    (hr : C.r = none) (hg : E.ev g = some (.func (.func gf) #[] lb)) (en : Enters C.P gf) (hit : Iter C.P gf lb xs Hc C.w0 C.B) (tc : Takes H Hc H1) (t0 : Takes H1 (Hi s0) R)
    (hps : ∀ x ∈ xs, x.length = ps.size) (hpn : (ps.toList.all fun p => Nat.blt p C.n) = true)
    (hround : ∀ l i s x R1, I i s → xs[i]? = some x → ES ⟨C.P, C.T, some l, C.n, [], C.w0, C.B⟩ [asg] (AssignQ ⟨C.P, C.T, some l, C.n, [], C.w0, C.B⟩ R1 body fun R2 => RoundQ ⟨C.P, C.T, some l, C.n, [], C.w0, C.B⟩ R2 (I (i + 1)) Hi (fun c => Ix c (i + 1)) Hx) (bindL ps.toList x E) (Hi s ++ R1))
    (hdone : ∀ D s, I xs.length s → ES { C with D := mark D :: C.D } cs Q E (markB D :: (Hi s ++ (Hc ++ R))))
    (hstop : ∀ D c i t, Ix c i t → ES { C with D := mark D :: C.D } [c] (Exit.then (wps { C with D := mark D :: C.D } cs Q) Q) E (markB D :: (Hx t ++ (Hc ++ R)))) : ES C (.rangeFunc g ps asg body :: cs) Q E H := by
  intro a w ha
  refine wpIn_rangeFunc ?_
  intro fn hfn
  obtain ⟨P, T, r, n, D0, w0, B⟩ := C
  obtain rfl : r = none := hr
  dsimp only at en hit hpn hround hdone hstop
  have hfit : Fits n (mark w.heap.size :: D0) E { a with defers := [mark w.heap.size] ++ a.defers } := ⟨by rw [ha.1.dfr]; rfl, ha.1.size, ha.1.get⟩
  have hrd := rounds_of (T := T) (L := w.heap.size + 1) (D := w.heap.size) (fn := fn) I Hi Ix Hx hps hpn ⟨rfl, ha.1.size, ha.1.get⟩ hround
  have hs2 := range_start ha.2 (tc.perm.trans (t0.perm.append_left _)) (loopR fn a.tmps ps asg body w.heap.size .ready none)
  have key : CallsIn (F0 none) (0 - 1) P gf (#[.func (.yield (w.heap.size + 1)) #[] #[]] ++ lb) ((w.alloc (.deferred (some []))).alloc (.loop (loopR fn a.tmps ps asg body w.heap.size .ready none))) (rangePost (F0 none) 0 P (w.heap.size + 1) (Exit.then (wps ⟨P, T, none, n, D0, w0, B⟩ cs Q) Q) { a with defers := [mark w.heap.size] ++ a.defers }) := by
    refine callsIn_F0 (r := none) ((hit _ _ _ hrd _ R _ ⟨s0, h0, rfl⟩ hs2).mono ?_)
    clear hrd hs2 hit hround
    rintro e W2 ⟨⟨v, rfl⟩, (⟨A', ⟨s, hI, rfl⟩, hs⟩ | ⟨i, A', ⟨c, t, hI, rfl⟩, hs⟩)⟩
    · obtain ⟨h1, h2⟩ := range_back (P := P) hs (by simp [loopR])
      have hk := hdone _ s hI _ _ ⟨hfit, h2⟩
      have e2 := wps_D ⟨P, T, none, n, D0, w0, B⟩ (mark w.heap.size :: D0) Q cs
      dsimp only at e2
      rw [e2] at hk
      exact ⟨none, _, h1, hk⟩
    · obtain ⟨h1, h2⟩ := range_back (P := P) hs (by simp [loopR])
      have hk := hstop _ c i t hI _ _ ⟨hfit, h2⟩
      have e2 := wps_D ⟨P, T, none, n, D0, w0, B⟩ (mark w.heap.size :: D0) Q cs
      dsimp only at e2
      rw [e2] at hk
      refine ⟨some c, _, h1, wpIn_mono hk ?_⟩
      intro e a w hq
      cases e <;> exact hq
  have e1 : (Instr.enterLoop fn a.tmps ps asg body none).run P w = .ok (w.heap.size + 1, [mark w.heap.size]) ((w.alloc (.deferred (some []))).alloc (.loop (loopR fn a.tmps ps asg body w.heap.size .ready none))) := run_enterLoop_outer _ _ _ _ _
  have e2 : ∀ W, (resolve a.eval (rangeCall g (w.heap.size + 1)) 0).run P W = .ok { target := .fn (.func gf) lb, args := #[.func (.yield (w.heap.size + 1)) #[] #[]] } W := fun W => by
    simp only [resolve, ha.1.ev hg]
    simp [go_sem]
  have e3 : ∀ W, (invoke (.fn (.func gf) lb) #[.func (.yield (w.heap.size + 1)) #[] #[]]).run P W = .ok (.enter gf (#[.func (.yield (w.heap.size + 1)) #[] #[]] ++ lb)) W := fun W => by
    simp only [invoke]
    exact en _ _
  refine ⟨_, _, _, _, _, _, _, _, e1, e2 _, fun _ _ => trivial, e3 _, fun h => ?_, key⟩
  cases h
end ranges

/-! functions that end with marks -/
def marksOf (Ds : List Nat) : List Deferred := Ds.map mark
def marksB (Ds : List Nat) : List HA := Ds.map markB
theorem leaves_marks {P : Program} {fn : Func} {tmps : Array Value} {R : Ending → World → Prop} {w0 : World} {B : Nat} {H : List HA} (hR : ∀ w, Sat w0 B H w → ∃ v, (results fn tmps).run P w = .ok v w ∧ R (.returned v) w) : ∀ (Ds : List Nat) (w : World), Sat w0 B (marksB Ds ++ H) w → LeavesInM (F0 none) 0 P fn tmps R (marksOf Ds) .returning w
  | [], w, h => hR w h
  | D :: Ds, w, h => by
    have h1 : Sat w0 B (HA.blk D (.deferred (some [])) :: (marksB Ds ++ H)) w := h
    exact ⟨by simp, .inl ⟨D, _, rfl, run_takeDeferred h1.head, leaves_marks hR Ds _ (h1.putObj _).tail⟩⟩
theorem PX.retM {C : Cx} {E : Env} {H H' : List HA} {fn : Func} {R : Ending → World → Prop} {rs : List ResultVar} {vs : List Value} (Ds : List Nat) (hD : C.D = marksOf Ds) (tk : Takes H (marksB Ds) H') (hr : fn.results = rs.toArray) (h : ResL C E H' rs vs) (hR : ∀ w, Sat C.w0 C.B H' w → R (.returned (outV vs)) w) : PX C (bodyPostM (F0 none) 0 C.P fn R) .ret E H := by
  intro a w ha
  show LeavesInM _ _ _ _ _ _ a.defers _ _
  rw [ha.1.dfr, hD]
  exact leaves_marks (fun w' hs => ⟨_, run_results hr h ⟨ha.1, hs⟩, hR w' hs⟩) Ds w (ha.2.perm tk.perm)
theorem PX.endM {C : Cx} {E : Env} {H H' : List HA} {fn : Func} {R : Ending → World → Prop} {rs : List ResultVar} {vs : List Value} (Ds : List Nat) (hD : C.D = marksOf Ds) (tk : Takes H (marksB Ds) H') (hr : fn.results = rs.toArray) (h : ResL C E H' rs vs) (hR : ∀ w, Sat C.w0 C.B H' w → R (.returned (outV vs)) w) : PX C (bodyPostM (F0 none) 0 C.P fn R) .normal E H :=
  PX.retM Ds hD tk hr h hR
theorem calls_of_ESM {P : Program} (T : TyTab P) {f : FuncId} {fn : Func} {c : Code} {args : Array Value} {w w0 : World} {B : Nat} {H : List HA} {R : Ending → World → Prop} (hf : P.funcs[f]? = some fn) (hb : fn.body = some c) (n : Nat) (hn : fn.ntmps = n) (hsz : Nat.ble args.size n = true)
    (hs : Sat w0 B H w) (h : ES ⟨P, T, none, n, [], w0, B⟩ [c] (bodyPostM (F0 none) 0 P fn R) (envOf args.toList 0) H) : Calls P f args w R := by
  refine calls_F0 (r := none) (n := 0) (callsIn_of_wp_marks hf hb trivial ?_)
  subst hn
  have := h _ w ⟨fits_start args fn.ntmps (Nat.le_of_ble_eq_true hsz), hs⟩
  refine wpIn_mono this ?_
  intro e a w hq
  cases e <;> exact hq
/-! slices of several elements -/
theorem EL.buildSliceC {C : Cx} {all : Array Oper} {ops : List Oper} {Q : Qt} {E : Env} {H : List HA} {d ty t n : Nat} {pos : String} {af : Array Edge} {gd : Option (Nat × Bool)} {ti te : TI} {el : TypeId} {ps : Array (Nat × Operand)} {vs : List (Nat × Value)} (cs : Array Value) (hg : guardOk all E gd = some true) (hx : E.evp ps.toList = some vs) (ht : C.T.f t = some ti) (hu : ti.u = .slice el) (hte : C.T.f el = some te) (hd : Nat.blt d C.n = true)
    (hf : Instr.fill (fun i => some (i * te.size, te.size)) ((Array.range (n * te.size)).map (te.zero.cells[· % te.zero.cells.size]!)) vs = some cs) (hpos : Nat.blt 0 (n * te.size) = true) (hsm : Nat.ble (n * te.size) 16777216 = true) (hcs : cs.size = n * te.size) (hn : Nat.ble n 16777216 = true)
    (k : ∀ g, EL C all ops Q ((d, .slice (some ⟨g, 0, none⟩) n n) :: E) (HA.row (.slice (some ⟨g, 0, none⟩) n n) el te.size n cs.toList :: H)) :
    EL C all (⟨some d, .buildSlice t n ps, ty, pos, af, gd⟩ :: ops) Q E H := by
  intro a w ha
  simp only [wpListIn, guardOk_wanted (o := ⟨some d, .buildSlice t n ps, ty, pos, af, gd⟩) hg ha.1, if_true]
  refine ⟨fun _ _ => trivial, ?_⟩
  rw [sem_plain (by simp)]
  have hT := (C.T.ok t ti ht).u
  rw [hu] at hT
  have hI := (C.T.ok el te hte).runInfo w
  have hp : 0 < n * te.size := by simpa using hpos
  have hsm' : n * te.size ≤ 16777216 := Nat.le_of_ble_eq_true hsm
  have hn' : n ≤ 16777216 := Nat.le_of_ble_eq_true hn
  have hv : (ps.map fun p => (p.1, a.eval p.2)).toList = vs := by simpa using ha.1.evp hx
  have hrun : (execOp a.eval ⟨some d, .buildSlice t n ps, ty, pos, af, gd⟩).run C.P w = .ok (.value (.slice (some ⟨w.heap.size, 0, none⟩) n n)) (w.alloc (.cells cs el)) := by
    have hne : n * te.size ≠ 0 := by omega
    have hgt : ¬ 16777216 < n * te.size := by omega
    have h1 : (Instr.buildSlice t n (ps.map fun p => (p.1, a.eval p.2))).run C.P w = .ok (.slice (some ⟨w.heap.size, 0, none⟩) n n) (w.alloc (.cells cs el)) := by
      unfold Instr.buildSlice
      simp only [Sem.run_bind, run_underlying hT, hI.1, hI.2.1, Result.andThen, Sem.run_pure, Sem.run_ite, hv]
      rw [if_neg (show ¬ n * te.size > 2 ^ 24 by omega), if_neg hne]
      simp only [Sem.run_bind, Sem.run_pure, hI.2.1, Result.andThen, hf]
      simp [newRow, Result.andThen]
    simp [execOp, h1, Result.andThen]
  rw [hrun]
  refine k w.heap.size _ _ ⟨ha.1.put (by simpa using hd) _, ha.2.fresh (World.grownBy_alloc w _ none) (HA.row (.slice (some ⟨w.heap.size, 0, none⟩) n n) el te.size n _) ?_ (by simp [HA.row, Value.ownBlock]) (by simp [HA.row, Value.ownBlock])⟩
  exact ⟨by simpa using hcs, .inr ⟨w.heap.size, n, cs, rfl, Nat.zero_le _, heap_alloc_new w _, Nat.le_refl _, by unfold maxLen; omega, hcs, by rw [List.take_of_length_le (by simp [hcs])]⟩⟩
def enumV : Nat → List Value → List (Nat × Value)
  | _, [] => []
  | k, u :: us => (k, u) :: enumV (k + 1) us
theorem fill_ones : ∀ (us pre rest : List Value), rest.length = us.length → (∀ u ∈ us, u.cells = #[u]) → Instr.fill (fun i => some (i * 1, 1)) (pre ++ rest).toArray (enumV pre.length us) = some (pre ++ us).toArray
  | [], pre, rest, hl, _ => by
    obtain rfl : rest = [] := List.eq_nil_of_length_eq_zero hl
    rfl
  | u :: us, pre, rest, hl, h => by
    obtain ⟨r, rest', rfl⟩ : ∃ r rest', rest = r :: rest' := by
      cases rest with
      | nil => simp at hl
      | cons r rest' => exact ⟨r, rest', rfl⟩
    have hu := h u (by simp)
    have ih := fill_ones us (pre ++ [u]) rest' (by simpa using hl) (fun v hv => h v (by simp [hv]))
    simp only [enumV, Instr.fill, hu]
    rw [if_neg (by simp)]
    have e1 : (#[u].zipIdx.foldl (fun cs (p : Value × Nat) => cs.setIfInBounds (pre.length * 1 + p.2) p.1) (pre ++ r :: rest').toArray) = ((pre ++ [u]) ++ rest').toArray := by
      have : (#[u] : Array Value).zipIdx = #[(u, 0)] := rfl
      rw [this]
      simp
    rw [List.length_append, List.length_singleton] at ih
    rw [e1, ih]
    simp
theorem EL.buildSliceS {C : Cx} {all : Array Oper} {ops : List Oper} {Q : Qt} {E : Env} {H : List HA} {d ty t n : Nat} {pos : String} {af : Array Edge} {gd : Option (Nat × Bool)} {ti te : TI} {el : TypeId} {ps : Array (Nat × Operand)} (us : List Value) (hg : guardOk all E gd = some true) (hx : E.evp ps.toList = some (enumV 0 us)) (ht : C.T.f t = some ti) (hu : ti.u = .slice el) (hte : C.T.f el = some te) (hs1 : te.size = 1) (hd : Nat.blt d C.n = true)
    (hlen : us.length = n) (hpos : Nat.blt 0 n = true) (hn : Nat.ble n 16777216 = true) (h1 : ∀ u ∈ us, u.cells = #[u])
    (k : ∀ g, EL C all ops Q ((d, .slice (some ⟨g, 0, none⟩) n n) :: E) (HA.row (.slice (some ⟨g, 0, none⟩) n n) el 1 n us :: H)) :
    EL C all (⟨some d, .buildSlice t n ps, ty, pos, af, gd⟩ :: ops) Q E H := by
  have hz : ((Array.range (n * te.size)).map (te.zero.cells[· % te.zero.cells.size]!)) = ([] ++ ((Array.range (n * te.size)).map (te.zero.cells[· % te.zero.cells.size]!)).toList).toArray := by rw [List.nil_append, Array.toArray_toList]
  have hf := fill_ones us [] ((Array.range (n * te.size)).map (te.zero.cells[· % te.zero.cells.size]!)).toList (by simp [hs1, hlen]) h1
  refine EL.buildSliceC us.toArray hg hx ht hu hte hd ?_ (by rw [hs1, Nat.mul_one]; exact hpos) (by rw [hs1, Nat.mul_one]; exact hn) (by simp [hs1, hlen]) hn ?_
  · rw [hz]; simp only [hs1]; simpa [hs1] using hf
  · intro g
    have := k g
    rw [hs1]
    simpa using this
theorem EL.makeFunc {C : Cx} {all : Array Oper} {ops : List Oper} {Q : Qt} {E : Env} {H : List HA} {d ty f : Nat} {pos : String} {af : Array Edge} {gd : Option (Nat × Bool)} {ar : Array Operand} {vs : List Value} (hg : guardOk all E gd = some true) (ha : E.evl ar.toList = some vs) (hd : Nat.blt d C.n = true)
    (k : EL C all ops Q ((d, .func (.func f) #[] vs.toArray) :: E) H) : EL C all (⟨some d, .makeFunc (.func f) #[] ar, ty, pos, af, gd⟩ :: ops) Q E H :=
  EL.val _ hg rfl hd (by simp) (fun a w hat => by
    have hm : ar.map a.eval = vs.toArray := by
      have := hat.1.evl ha
      apply Array.ext'
      simpa using this
    simp [execOp, Instr.makeFunc, hm, Result.andThen]) k
/-! scopes -/
def NoGoto (Q : Qt) : Qt := fun e a w => match e with
  | .goto _ => False
  | e => Q e a w
theorem stepR_scope' {P : Program} {b : Frame} {a : Act} {k : List Item} {cs : List Frame} {w : World} {c : Code} : step P (lone (b.atR a (.code (.scope c) :: k)) cs w) = .next (lone (b.atR a (.code c :: .inScope c :: k)) cs w) :=
  step_lone_go (by simp [stepG, stepG.exec, Frame.atR])
theorem stepR_inScope' {P : Program} {b : Frame} {a : Act} {k : List Item} {cs : List Frame} {w : World} {c : Code} : step P (lone (b.atR a (.inScope c :: k)) cs w) = .next (lone (b.atR a k) cs w) :=
  step_lone_go (by simp [stepG, stepG.exec, Frame.atR])
theorem wpIn_scope' {F : Fence} {n : Nat} {P : Program} {Q : Qt} {a : Act} {w : World} {c : Code} (h : c.wpIn F n P (NoGoto Q) a w) : (Code.scope c).wpIn F n P Q a w := by
  intro b k cs hro hb hr
  have h0 : (lone (b.atR a (.code (.scope c) :: k)) cs w).fenced P F := fenced_calm hb hr rfl
  obtain ⟨e, a₁, w₁, hq, harr⟩ := h b (.inScope c :: k) cs hro hb hr
  cases e with
  | normal => exact ⟨.normal, a₁, w₁, hq, .head h0 stepR_scope' (StepsIn.trans harr (.one (fenced_calm hb hr rfl) stepR_inScope'))⟩
  | exit id =>
    have hx : exitTo id (.inScope c :: k) = exitTo id k := by simp [exitTo]
    exact ⟨.exit id, a₁, w₁, hq, fun k' hk => .head h0 stepR_scope' (harr.1 k' (by rw [hx]; exact hk)),
      fun hr' hk => let ⟨k₁, h1, h2⟩ := harr.2 hr' (by rw [hx]; exact hk); ⟨k₁, h1, .head h0 stepR_scope' h2⟩⟩
  | goto l => exact hq.elim
  | ret => exact ⟨_, a₁, w₁, hq, .of_steps (.one h0 stepR_scope') harr⟩
  | panic ch => exact ⟨_, a₁, w₁, hq, .of_steps (.one h0 stepR_scope') harr⟩
  | outgrown => exact ⟨_, a₁, w₁, hq, .of_steps (.one h0 stepR_scope') harr⟩
section scopes
variable {C : Cx} {cs : List Code} {Q : Qt} {E : Env} {H : List HA}
theorem ES.scope {c : Code} (k : ES C [c] (NoGoto (Exit.then (wps C cs Q) Q)) E H) : ES C (.scope c :: cs) Q E H := by
  intro a w h
  refine wpIn_scope' (wpIn_mono (k a w h) ?_)
  intro e a w h
  cases e <;> exact h
theorem PX.sc_n (k : PX C Q .normal E H) : PX C (NoGoto Q) .normal E H := k
theorem PX.sc_r (k : PX C Q .ret E H) : PX C (NoGoto Q) .ret E H := k
theorem PX.sc_x {id : Nat} (k : PX C Q (.exit id) E H) : PX C (NoGoto Q) (.exit id) E H := k
end scopes
/-! The steps of control within loops over functions. -/
mutual
inductive RS : Bool → (C : Cx) → Env → List HA → List Code → Qt → Prop
  | seq {b : Bool} {C : Cx} {E : Env} {H : List HA} {Q : Qt} {cs : List Code} {x y : Code} (k : RS b C E H (x :: y :: cs) Q) : RS b C E H (.seq x y :: cs) Q
  | skip {b : Bool} {C : Cx} {E : Env} {H : List HA} {Q : Qt} {cs : List Code} (k : RS b C E H cs Q) : RS b C E H (.skip :: cs) Q
  | region {C : Cx} {E : Env} {H : List HA} {Q : Qt} {cs : List Code} {i : Nat} {ops : Array Oper} (k : RE' true C E H ops ops.toList (Exit.then (wps C cs Q) Q)) : RS true C E H (.region i ops false :: cs) Q
  | block {b : Bool} {C : Cx} {E : Env} {H : List HA} {Q : Qt} {cs : List Code} {id : Nat} {c : Code} (k : RS b C E H [c] (Exit.inBlock id (Exit.then (wps C cs Q) Q))) : RS b C E H (.block id c :: cs) Q
  | nil {b : Bool} {C : Cx} {E : Env} {H : List HA} {Q : Qt} (k : RP b C E H Q .normal) : RS b C E H [] Q
  | exit {b : Bool} {C : Cx} {E : Env} {H : List HA} {Q : Qt} {cs : List Code} {id : Nat} (k : RP b C E H Q (.exit id)) : RS b C E H (.exit id :: cs) Q
  | ret {b : Bool} {C : Cx} {E : Env} {H : List HA} {Q : Qt} {cs : List Code} (k : RP b C E H Q .ret) : RS b C E H (.ret :: cs) Q
  | label {b : Bool} {C : Cx} {E : Env} {H : List HA} {Q : Qt} {cs : List Code} {l : Nat} (k : RS b C E H cs Q) : RS b C E H (.label l :: cs) Q
  | scope {b : Bool} {C : Cx} {E : Env} {H : List HA} {Q : Qt} {cs : List Code} {c : Code} (k : RS b C E H [c] (NoGoto (Exit.then (wps C cs Q) Q))) : RS b C E H (.scope c :: cs) Q
  | l {b : Bool} {C : Cx} {E : Env} {H : List HA} {Q : Qt} {cs : List Code} (k : ES C cs Q E H) : RS b C E H cs Q
inductive RE' : Bool → (C : Cx) → Env → List HA → Array Oper → List Oper → Qt → Prop
  | nil {b : Bool} {C : Cx} {E : Env} {H : List HA} {Q : Qt} {cs : List Code} {all : Array Oper} (k : RS b C E H cs Q) : RE' b C E H all [] (Exit.then (wps C cs Q) Q)
  | l {b : Bool} {C : Cx} {E : Env} {H : List HA} {Q : Qt} {all : Array Oper} {ops : List Oper} (k : EL C all ops Q E H) : RE' b C E H all ops Q
inductive RP : Bool → (C : Cx) → Env → List HA → Qt → Exit → Prop
  | hit {b : Bool} {C : Cx} {E : Env} {H : List HA} {Q : Qt} {id : Nat} (k : RP b C E H Q .normal) : RP b C E H (Exit.inBlock id Q) (.exit id)
  | miss {b : Bool} {C : Cx} {E : Env} {H : List HA} {Q : Qt} {id id' : Nat} (hne : Nat.beq id' id = false) (k : RP b C E H Q (.exit id')) : RP b C E H (Exit.inBlock id Q) (.exit id')
  | then_x {b : Bool} {C : Cx} {E : Env} {H : List HA} {Q : Qt} {K : Act → World → Prop} {id : Nat} (k : RP b C E H Q (.exit id)) : RP b C E H (Exit.then K Q) (.exit id)
  | then_r {b : Bool} {C : Cx} {E : Env} {H : List HA} {Q : Qt} {K : Act → World → Prop} (k : RP b C E H Q .ret) : RP b C E H (Exit.then K Q) .ret
  | block_n {b : Bool} {C : Cx} {E : Env} {H : List HA} {Q : Qt} {id : Nat} (k : RP b C E H Q .normal) : RP b C E H (Exit.inBlock id Q) .normal
  | block_r {b : Bool} {C : Cx} {E : Env} {H : List HA} {Q : Qt} {id : Nat} (k : RP b C E H Q .ret) : RP b C E H (Exit.inBlock id Q) .ret
  | then_n {b : Bool} {C : Cx} {E : Env} {H : List HA} {Q : Qt} {cs : List Code} (k : RS b C E H cs Q) : RP b C E H (Exit.then (wps C cs Q) Q) .normal
  | then_d {b : Bool} {C : Cx} {E : Env} {H : List HA} {Q : Qt} {cs : List Code} {D' : List Deferred} (k : RS b C E H cs Q) : RP b C E H (Exit.then (wps { C with D := D' } cs Q) Q) .normal
  | sc_n {b : Bool} {C : Cx} {E : Env} {H : List HA} {Q : Qt} (k : RP b C E H Q .normal) : RP b C E H (NoGoto Q) .normal
  | sc_r {b : Bool} {C : Cx} {E : Env} {H : List HA} {Q : Qt} (k : RP b C E H Q .ret) : RP b C E H (NoGoto Q) .ret
  | sc_x {b : Bool} {C : Cx} {E : Env} {H : List HA} {Q : Qt} {id : Nat} (k : RP b C E H Q (.exit id)) : RP b C E H (NoGoto Q) (.exit id)
  | l {b : Bool} {C : Cx} {E : Env} {H : List HA} {Q : Qt} {e : Exit} (k : PX C Q e E H) : RP b C E H Q e
end
mutual
theorem RS.go : ∀ {b : Bool} {C : Cx} {E : Env} {H : List HA} {cs : List Code} {Q : Qt}, RS b C E H cs Q → ES C cs Q E H
  | _, _, _, _, _, _, .seq k => ES.seq k.go
  | _, _, _, _, _, _, .skip k => ES.skip k.go
  | _, _, _, _, _, _, .region k => ES.region k.go
  | _, _, _, _, _, _, .block k => ES.block k.go
  | _, _, _, _, _, _, .nil k => ES.nil k.go
  | _, _, _, _, _, _, .exit k => ES.exit k.go
  | _, _, _, _, _, _, .ret k => ES.ret k.go
  | _, _, _, _, _, _, .label k => ES.label k.go
  | _, _, _, _, _, _, .scope k => ES.scope k.go
  | _, _, _, _, _, _, .l k => k
theorem RE'.go : ∀ {b : Bool} {C : Cx} {E : Env} {H : List HA} {all : Array Oper} {ops : List Oper} {Q : Qt}, RE' b C E H all ops Q → EL C all ops Q E H
  | _, _, _, _, _, _, _, .nil k => EL.nil k.go
  | _, _, _, _, _, _, _, .l k => k
theorem RP.go : ∀ {b : Bool} {C : Cx} {E : Env} {H : List HA} {Q : Qt} {e : Exit}, RP b C E H Q e → PX C Q e E H
  | _, _, _, _, _, _, .hit k => PX.hit k.go
  | _, _, _, _, _, _, .miss hne k => PX.miss hne k.go
  | _, _, _, _, _, _, .then_x k => PX.then_x k.go
  | _, _, _, _, _, _, .then_r k => PX.then_r k.go
  | _, _, _, _, _, _, .block_n k => PX.block_n k.go
  | _, _, _, _, _, _, .block_r k => PX.block_r k.go
  | _, _, _, _, _, _, .then_n k => PX.then_n (e := .normal) k.go
  | _, _, _, _, _, _, .then_d k => PX.then_d k.go
  | _, _, _, _, _, _, .sc_n k => PX.sc_n k.go
  | _, _, _, _, _, _, .sc_r k => PX.sc_r k.go
  | _, _, _, _, _, _, .sc_x k => PX.sc_x k.go
  | _, _, _, _, _, _, .l k => k
end
theorem ES.gr {C : Cx} {cs : List Code} {Q : Qt} {E : Env} {H : List HA} (h : RS true C E H cs Q) : ES C cs Q E H := h.go
theorem EL.gr {C : Cx} {Q : Qt} {E : Env} {H : List HA} {all : Array Oper} {ops : List Oper} (h : RE' true C E H all ops Q) : EL C all ops Q E H := h.go
theorem PX.gr {C : Cx} {Q : Qt} {E : Env} {H : List HA} {e : Exit} (h : RP true C E H Q e) : PX C Q e E H := h.go
theorem ES.gs {C : Cx} {cs : List Code} {Q : Qt} {E : Env} {H : List HA} (h : RS false C E H cs Q) : ES C cs Q E H := h.go
theorem EL.gs {C : Cx} {Q : Qt} {E : Env} {H : List HA} {all : Array Oper} {ops : List Oper} (h : RE' false C E H all ops Q) : EL C all ops Q E H := h.go
theorem PX.gs {C : Cx} {Q : Qt} {E : Env} {H : List HA} {e : Exit} (h : RP false C E H Q e) : PX C Q e E H := h.go
end Go.Proofs.YtgoopgnnkhpmlaaDoor.Sl
