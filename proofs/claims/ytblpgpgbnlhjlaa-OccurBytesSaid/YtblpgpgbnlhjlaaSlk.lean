/- THE BASE: ranges over functions whose elements own memory: an element comes with what it owns, and the round takes it. -/
import Derived.Test.YtblpgpgbnlhjlaaSlg
namespace Go.Proofs.Ytblpgpgbnlhjlaa.Sl
open Go Go.RowKit
set_option linter.unusedVariables false
set_option linter.unusedSimpArgs false

/-- A loop's rounds: yield, called with the i-th element and what that owns, goes on, or says that it is enough; whatever else is owned stays. -/
def RoundsX (P : Program) (l : Nat) (w0 : World) (B : Nat) (El : Nat → List Value → List HA → Prop) (I Ix : Nat → HA → Prop) : Prop :=
  ∀ (i : Nat) (A : HA) (R G : List HA) (x : List Value) (W : World), I i A → El i x G → Sat w0 B (A :: (G ++ R)) W →
    YieldAt (F0 none) 0 P l x.toArray W fun e W' => (e = .returned (.bool true) ∧ ∃ A', I (i + 1) A' ∧ Sat w0 B (A' :: R) W') ∨ (e = .returned (.bool false) ∧ ∃ A', Ix (i + 1) A' ∧ Sat w0 B (A' :: R) W')
/-- An iterator: the function value gf with the captured lb gives n elements as El says; it owns Hc. -/
def IterX (P : Program) (gf : Nat) (lb : Array Value) (n : Nat) (El : Nat → List Value → List HA → Prop) (Hc : List HA) (W0 : World) (B0 : Nat) : Prop :=
  ∀ (l : Nat) (I Ix : Nat → HA → Prop), RoundsX P l W0 B0 El I Ix → ∀ (A : HA) (R : List HA) (W : World), I 0 A → Sat W0 B0 (Hc ++ A :: R) W →
    Calls P gf (#[.func (.yield l) #[] #[]] ++ lb) W fun e W' => (∃ v, e = .returned v) ∧ ((∃ A', I n A' ∧ Sat W0 B0 (Hc ++ A' :: R) W') ∨ (∃ i A', Ix i A' ∧ Sat W0 B0 (Hc ++ A' :: R) W'))

section yieldsX
variable {C : Cx} {all : Array Oper} {ops : List Oper} {Q : Qt} {E : Env} {H H' R : List HA} {d ty : Nat} {pos : String} {af : Array Edge} {gd : Option (Nat × Bool)}
/-- A call of yield. -/
theorem EL.yieldX {fo : Operand} {ar : Array Operand} {tys : Array TypeId} {l i : Nat} {vs : List Value} {El : Nat → List Value → List HA → Prop} {G : List HA} {I Ix : Nat → HA → Prop} {A : HA} (hg : guardOk all E gd = some true) (hf : E.ev fo = some (.func (.yield l) #[] #[])) (ha : E.evl ar.toList = some vs) (hd : Nat.blt d C.n = true)
    (hY : RoundsX C.P l C.w0 C.B El I Ix) (hi : I i A) (hx : El i vs G) (p : Pick H A H') (tg : Takes H' G R)
    (kt : ∀ A', I (i + 1) A' → EL C all ops Q ((d, .bool true) :: E) (A' :: R)) (kf : ∀ A', Ix (i + 1) A' → EL C all ops Q ((d, .bool false) :: E) (A' :: R)) :
    EL C all (⟨some d, .call { callee := .value fo, args := ar, argTypes := tys }, ty, pos, af, gd⟩ :: ops) Q E H := by
  intro a w hat
  simp only [wpListIn, guardOk_wanted (o := ⟨some d, .call { callee := .value fo, args := ar, argTypes := tys }, ty, pos, af, gd⟩) hg hat.1, if_true]
  refine ⟨fun _ _ => trivial, ?_⟩
  rw [sem_plain (by simp)]
  have hm : ar.map a.eval = vs.toArray := by
    have := hat.1.evl ha
    apply Array.ext'
    simpa using this
  obtain ⟨fn, tmps, asg, body, hy, hR⟩ := hY i A R G vs w hi hx (hat.2.perm (p.perm.trans (tg.perm.cons _)))
  have hrun : (execOp a.eval ⟨some d, .call { callee := .value fo, args := ar, argTypes := tys }, ty, pos, af, gd⟩).run C.P w = .ok (.round l fn tmps asg body) w := by
    simp only [execOp, resolve, hat.1.ev hf, hm, Deferred.ofValue, Sem.run_bind, Sem.run_pure, Result.andThen, invoke]
    rw [show (#[] ++ vs.toArray : Array Value) = vs.toArray by simp]
    exact hy
  rw [hrun]
  refine ⟨fun h => by simp [F0] at h, ?_⟩
  refine RoundIn.mono (F := F0 C.r) hR ?_
  rintro e w' (⟨rfl, A', hi', hs⟩ | ⟨rfl, A', hi', hs⟩)
  · exact kt A' hi' _ _ ⟨hat.1.put (by simpa using hd) _, hs⟩
  · exact kf A' hi' _ _ ⟨hat.1.put (by simpa using hd) _, hs⟩
/-- The same where the answer is not looked at. -/
theorem EL.yieldX0 {fo : Operand} {ar : Array Operand} {tys : Array TypeId} {l i : Nat} {vs : List Value} {El : Nat → List Value → List HA → Prop} {G : List HA} {I Ix : Nat → HA → Prop} {A : HA} (hg : guardOk all E gd = some true) (hf : E.ev fo = some (.func (.yield l) #[] #[])) (ha : E.evl ar.toList = some vs)
    (hY : RoundsX C.P l C.w0 C.B El I Ix) (hi : I i A) (hx : El i vs G) (p : Pick H A H') (tg : Takes H' G R)
    (kt : ∀ A', I (i + 1) A' → EL C all ops Q E (A' :: R)) (kf : ∀ A', Ix (i + 1) A' → EL C all ops Q E (A' :: R)) :
    EL C all (⟨none, .call { callee := .value fo, args := ar, argTypes := tys }, ty, pos, af, gd⟩ :: ops) Q E H := by
  intro a w hat
  simp only [wpListIn, guardOk_wanted (o := ⟨none, .call { callee := .value fo, args := ar, argTypes := tys }, ty, pos, af, gd⟩) hg hat.1, if_true]
  refine ⟨fun _ _ => trivial, ?_⟩
  rw [sem_plain (by simp)]
  have hm : ar.map a.eval = vs.toArray := by
    have := hat.1.evl ha
    apply Array.ext'
    simpa using this
  obtain ⟨fn, tmps, asg, body, hy, hR⟩ := hY i A R G vs w hi hx (hat.2.perm (p.perm.trans (tg.perm.cons _)))
  have hrun : (execOp a.eval ⟨none, .call { callee := .value fo, args := ar, argTypes := tys }, ty, pos, af, gd⟩).run C.P w = .ok (.round l fn tmps asg body) w := by
    simp only [execOp, resolve, hat.1.ev hf, hm, Deferred.ofValue, Sem.run_bind, Sem.run_pure, Result.andThen, invoke]
    rw [show (#[] ++ vs.toArray : Array Value) = vs.toArray by simp]
    exact hy
  rw [hrun]
  refine ⟨fun h => by simp [F0] at h, ?_⟩
  refine RoundIn.mono (F := F0 C.r) hR ?_
  rintro e w' (⟨rfl, A', hi', hs⟩ | ⟨rfl, A', hi', hs⟩)
  · exact kt A' hi' _ _ ⟨hat.1, hs⟩
  · exact kf A' hi' _ _ ⟨hat.1, hs⟩
end yieldsX

section rangesX
variable {C : Cx} {cs : List Code} {Q : Qt} {E E' : Env} {H H' H1 R : List HA}
theorem rounds_ofX {σ τ : Type} {P : Program} {T : TyTab P} {w0 : World} {B n L D : Nat} {fn : FuncId} {tmps : Array Value} {ps : Array Tmp} {asg body : Code} {El : Nat → List Value → List HA → Prop} (I : Nat → σ → Prop) (Hi : σ → List HA) (Ix : Code → Nat → τ → Prop) (Hx : τ → List HA)
    (hps : ∀ i x G, El i x G → x.length = ps.size) (hpn : (ps.toList.all fun p => Nat.blt p n) = true) (hfit : Fits n [] E { tmps, defers := [] })
    (hround : ∀ l i s x G R1, I i s → El i x G → ES ⟨P, T, some l, n, [], w0, B⟩ [asg] (AssignQ ⟨P, T, some l, n, [], w0, B⟩ R1 body fun R2 => RoundQ ⟨P, T, some l, n, [], w0, B⟩ R2 (I (i + 1)) Hi (fun c => Ix c (i + 1)) Hx) (bindL ps.toList x E) (Hi s ++ (G ++ R1))) :
    RoundsX P L w0 B El (fun i A => ∃ s, I i s ∧ A = loopA L (loopR fn tmps ps asg body D .ready none) D (Hi s)) (fun i A => ∃ c t, Ix c i t ∧ A = loopA L (loopR fn tmps ps asg body D .done (some c)) D (Hx t)) := by
  rintro i A R1 G x W ⟨s, hI, rfl⟩ hx hsat
  have hs := hsat.unpack
  have hl : W.heap[L]? = some (.loop (loopR fn tmps ps asg body D .ready none)) := hs.head
  have hy := run_yield (P := P) (args := x.toArray) hl (by simpa [loopR] using hps i x G hx)
  refine ⟨_, _, _, _, hy, roundIn_of_wpIn trivial ?_⟩
  have hs0 : Sat w0 B (Hi s ++ (G ++ (HA.blk L (.loop (loopR fn tmps ps asg body D .ready none)) :: markB D :: R1))) W := hs.perm (by
    have := (perm_mid2 (HA.blk L (.loop (loopR fn tmps ps asg body D .ready none))) (markB D) (Hi s ++ G) R1).symm
    simpa only [List.append_assoc, List.cons_append] using this)
  have hf2 : Fits n [] (bindL ps.toList x E) { tmps := (ps.zip x.toArray).foldl (fun t (p : Nat × Value) => t.setIfInBounds p.1 p.2) tmps, defers := [] } := by
    have := fits_bind (D := []) ps.toList x E tmps hpn hfit
    rw [← Array.foldl_toList, Array.toList_zip]
    exact this
  refine wpIn_mono (hround L i s x G _ hI hx _ _ ⟨hf2, hs0⟩) ?_
  clear hf2 hs0 hy hl hs hsat hround
  rintro e a1 W1 hq
  cases e with
  | normal =>
    obtain ⟨_, E1, H1, hat, hb⟩ := (hq : AssignQ _ _ _ _ .normal a1 W1)
    have hs1 : Sat w0 B (HA.blk L (.loop (loopR fn tmps ps asg body D .ready none)) :: markB D :: (H1 ++ R1)) W1 := hat.2.perm (perm_mid2 _ _ _ _)
    refine ⟨_, run_beginRound hs1.head rfl, ?_⟩
    have hs' : Sat w0 B (H1 ++ (HA.blk L (.loop { loopR fn tmps ps asg body D .ready none with state := .busy }) :: markB D :: R1)) (W1.putObj L (.loop { loopR fn tmps ps asg body D .ready none with state := .busy })) :=
      (hs1.putObj (.loop { loopR fn tmps ps asg body D .ready none with state := .busy })).perm (perm_mid2 _ _ _ _).symm
    refine wpIn_mono (hb _ _ _ ⟨hat.1, hs'⟩) ?_
    clear hb hs' hs1 hat
    rintro e a3 W3 hp
    cases e with
    | normal =>
      obtain ⟨s', hI', hs3⟩ := hp
      obtain ⟨h1, h2⟩ := round_end (P := P) none hs3
      exact ⟨_, _, h1, .inl ⟨rfl, _, ⟨s', hI', rfl⟩, h2⟩⟩
    | ret =>
      obtain ⟨t, hI', hs3⟩ := hp
      obtain ⟨h1, h2⟩ := round_end (P := P) (some .ret) hs3
      exact ⟨_, _, h1, .inr ⟨rfl, _, ⟨_, t, hI', rfl⟩, h2⟩⟩
    | exit id =>
      obtain ⟨t, hI', hs3⟩ := hp
      obtain ⟨h1, h2⟩ := round_end (P := P) (some (.exit id)) hs3
      exact ⟨_, _, h1, .inr ⟨rfl, _, ⟨_, t, hI', rfl⟩, h2⟩⟩
    | goto t => exact hp.elim
    | panic ch => exact hp.elim
    | outgrown => exact hp.elim
  | _ => cases (hq.1 : _ = Exit.normal)
/-- for .. := range g { body }. -/
theorem ES.rangeFuncX {σ τ : Type} {g : Operand} {ps : Array Tmp} {asg body : Code} {gf : Nat} {lb : Array Value} {El : Nat → List Value → List HA → Prop} {N : Nat} {Hc : List HA} (I : Nat → σ → Prop) (Hi : σ → List HA) (Ix : Code → Nat → τ → Prop) (Hx : τ → List HA) (s0 : σ) (h0 : I 0 s0)
    (hr : C.r = none) (hg : E.ev g = some (.func (.func gf) #[] lb)) (en : Enters C.P gf) (hit : IterX C.P gf lb N El Hc C.w0 C.B) (tc : Takes H Hc H1) (t0 : Takes H1 (Hi s0) R)
    (hps : ∀ i x G, El i x G → x.length = ps.size) (hpn : (ps.toList.all fun p => Nat.blt p C.n) = true)
    (hround : ∀ l i s x G R1, I i s → El i x G → ES ⟨C.P, C.T, some l, C.n, [], C.w0, C.B⟩ [asg] (AssignQ ⟨C.P, C.T, some l, C.n, [], C.w0, C.B⟩ R1 body fun R2 => RoundQ ⟨C.P, C.T, some l, C.n, [], C.w0, C.B⟩ R2 (I (i + 1)) Hi (fun c => Ix c (i + 1)) Hx) (bindL ps.toList x E) (Hi s ++ (G ++ R1)))
    (hdone : ∀ D s, I N s → ES { C with D := mark D :: C.D } cs Q E (markB D :: (Hi s ++ (Hc ++ R))))
    (hstop : ∀ D c i t, Ix c i t → ES { C with D := mark D :: C.D } [c] (Exit.then (wps { C with D := mark D :: C.D } cs Q) Q) E (markB D :: (Hx t ++ (Hc ++ R)))) : ES C (.rangeFunc g ps asg body :: cs) Q E H := by
  intro a w ha
  refine wpIn_rangeFunc ?_
  intro fn hfn
  obtain ⟨P, T, r, n, D0, w0, B⟩ := C
  obtain rfl : r = none := hr
  dsimp only at en hit hpn hround hdone hstop
  have hfit : Fits n (mark w.heap.size :: D0) E { a with defers := [mark w.heap.size] ++ a.defers } := ⟨by rw [ha.1.dfr]; rfl, ha.1.size, ha.1.get⟩
  have hrd := rounds_ofX (T := T) (L := w.heap.size + 1) (D := w.heap.size) (fn := fn) I Hi Ix Hx hps hpn ⟨rfl, ha.1.size, ha.1.get⟩ hround
  have hs2 := range_start ha.2 (tc.perm.trans (t0.perm.append_left _)) (loopR fn a.tmps ps asg body w.heap.size .ready none)
  have key : CallsIn (F0 none) (0 - 1) P gf (#[.func (.yield (w.heap.size + 1)) #[] #[]] ++ lb) ((w.alloc (.deferred (some []))).alloc (.loop (loopR fn a.tmps ps asg body w.heap.size .ready none))) (rangePost (F0 none) 0 P (w.heap.size + 1) (Exit.then (wps ⟨P, T, none, n, D0, w0, B⟩ cs Q) Q) { a with defers := [mark w.heap.size] ++ a.defers }) := by
    refine callsIn_F0 (r := none) ((hit _ _ _ hrd _ R _ ⟨s0, h0, rfl⟩ hs2).mono ?_)
    clear hrd hs2 hit hround
    rintro e W2 ⟨⟨v, rfl⟩, (⟨A', ⟨s, hI, rfl⟩, hs⟩ | ⟨i, A', ⟨c, t, hI, rfl⟩, hs⟩)⟩
    · obtain ⟨h1, h2⟩ := range_back (P := P) hs (by simp [loopR])
      have hk := hdone _ s hI _ _ ⟨hfit, h2⟩
      have e2 := wps_D ⟨P, T, none, n, D0, w0, B⟩ (mark w.heap.size :: D0) Q cs
      dsimp only at e2
      rw [e2] at hk
      exact ⟨none, _, h1, hk⟩
    · obtain ⟨h1, h2⟩ := range_back (P := P) hs (by simp [loopR])
      have hk := hstop _ c i t hI _ _ ⟨hfit, h2⟩
      have e2 := wps_D ⟨P, T, none, n, D0, w0, B⟩ (mark w.heap.size :: D0) Q cs
      dsimp only at e2
      rw [e2] at hk
      refine ⟨some c, _, h1, wpIn_mono hk ?_⟩
      intro e a w hq
      cases e <;> exact hq
  have e1 : (Instr.enterLoop fn a.tmps ps asg body none).run P w = .ok (w.heap.size + 1, [mark w.heap.size]) ((w.alloc (.deferred (some []))).alloc (.loop (loopR fn a.tmps ps asg body w.heap.size .ready none))) := run_enterLoop_outer _ _ _ _ _
  have e2 : ∀ W, (resolve a.eval (rangeCall g (w.heap.size + 1)) 0).run P W = .ok { target := .fn (.func gf) lb, args := #[.func (.yield (w.heap.size + 1)) #[] #[]] } W := fun W => by
    simp only [resolve, ha.1.ev hg]
    simp [go_sem]
  have e3 : ∀ W, (invoke (.fn (.func gf) lb) #[.func (.yield (w.heap.size + 1)) #[] #[]]).run P W = .ok (.enter gf (#[.func (.yield (w.heap.size + 1)) #[] #[]] ++ lb)) W := fun W => by
    simp only [invoke]
    exact en _ _
  refine ⟨_, _, _, _, _, _, _, _, e1, e2 _, fun _ _ => trivial, e3 _, fun h => ?_, key⟩
  cases h
end rangesX
end Go.Proofs.Ytblpgpgbnlhjlaa.Sl
