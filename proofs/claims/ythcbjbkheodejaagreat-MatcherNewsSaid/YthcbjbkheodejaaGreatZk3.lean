/- Texts of this claim, bundled. -/
import Derived.Test.YthcbjbkheodejaaGreatZk2
set_option linter.unusedVariables false
set_option linter.unusedSimpArgs false
namespace Go.Proofs.YthcbjbkheodejaaGreat.Sl
open Go Go.RowKit
section draws2
variable {C : Cx} {all : Array Oper} {Q : Qt}
def bindsT (all : Array Oper) : Nat → Nat → Nat → Bool
  | 0, _, _ => false
  | f + 1, j, k => match all[j]? with
    | some o => o.after.any fun e => Region.binds .any e && (Nat.beq e.on k || bindsT all f e.on k)
    | none => false
def lateBinds (all : Array Oper) (m : Nat) : Bool := (List.range all.size).all fun j => Nat.blt j m || (List.range m).all fun k => bindsT all 7 j k
theorem bindsT_done {L : Array Bool} (hcl : Closed all L) : ∀ (f j k : Nat) (oj : Oper), bindsT all f j k = true → all[j]? = some oj → (∀ e ∈ oj.after, Region.binds .any e = true → L.getD e.on false = true) → L.getD k false = true
  | 0, _, _, _, h, _, _ => by cases h
  | f + 1, j, k, oj, h, hj, hall => by
    simp only [bindsT, hj] at h
    obtain ⟨e, he, h2⟩ := Array.any_eq_true'.1 h
    simp only [Bool.and_eq_true, Bool.or_eq_true] at h2
    have hd := hall e he h2.1
    rcases h2.2 with h3 | h3
    · rw [Nat.eq_of_beq_eq_true h3] at hd; exact hd
    · cases f with
      | zero => cases h3
      | succ f =>
        cases ho : all[e.on]? with
        | none => simp only [bindsT, ho] at h3; cases h3
        | some o => exact bindsT_done hcl (f + 1) e.on k o h3 ho (fun e' he' hb' => hcl e.on o ho hd e' he' hb')
theorem late_not {m : Nat} {L : Array Bool} (hb : lateBinds all m = true) (hcl : Closed all L) {i j : Nat} {oj : Oper} (hi : L.getD i false = true → False) (him : i < m) (hj : all[j]? = some oj) (hjm : m ≤ j)
    (h : (∀ e ∈ oj.after, Region.binds .any e = true → L.getD e.on false = true)) : False := by
  have hlt : j < all.size := (Array.getElem?_eq_some_iff.1 hj).1
  have h1 := List.all_eq_true.1 hb j (List.mem_range.2 hlt)
  simp only [Bool.or_eq_true] at h1
  rcases h1 with h1 | h1
  · have : j < m := by simpa using h1
    omega
  · exact hi (bindsT_done hcl 7 j i oj (List.all_eq_true.1 h1 i (List.mem_range.2 him)) hj h)
def someLate (m : Nat) (L : Array Bool) : Bool := (List.range L.size).any fun k => Nat.ble m k && L.getD k false
theorem someLate_true {m : Nat} {L : Array Bool} (h : someLate m L = true) : ∃ k, m ≤ k ∧ L.getD k false = true := by
  obtain ⟨k, _, h2⟩ := List.any_eq_true.1 h
  simp only [Bool.and_eq_true] at h2
  exact ⟨k, Nat.le_of_ble_eq_true h2.1, h2.2⟩
theorem someLate_of {m : Nat} {L : Array Bool} {k : Nat} (hk : m ≤ k) (h : L.getD k false = true) : someLate m L = true := by
  have hlt : k < L.size := by
    rcases Nat.lt_or_ge k L.size with h' | h'
    · exact h'
    · simp [Array.getElem?_eq_none h'] at h
  exact List.any_eq_true.2 ⟨k, List.mem_range.2 hlt, by rw [h, Nat.ble_eq_true_of_le hk]; rfl⟩
def KS (C : Cx) (Hs : List HA) (m : Nat) (L : Array Bool) (w : World) : Prop := Sat C.w0 C.B [] w ∧ (someLate m L = false → Sat C.w0 C.B Hs w)
def wpAnyG (C : Cx) (all : Array Oper) (Q : Qt) (Hs : List HA) (m : Nat) : Nat → Array Bool → Act → World → Prop
  | 0, L, a, w => Region.ready .any all L = [] ∧ Q .normal a w
  | f + 1, L, a, w => (Region.ready .any all L = [] → Q .normal a w) ∧
    ∀ i ∈ Region.ready .any all L, wpOpIn (F0 C.r) 0 C.P all Q i (fun a' w' => KS C Hs m (L.setIfInBounds i true) w' ∧ wpAnyG C all Q Hs m f (L.setIfInBounds i true) a' w') a w
theorem wpAnyG.any {Hs : List HA} {m : Nat} : ∀ (f : Nat) (L : Array Bool) (a : Act) (w : World), wpAnyG C all Q Hs m f L a w → wpAnyIn (F0 C.r) 0 C.P .any all Q f L a w
  | 0, _, _, _, h => h
  | f + 1, _, _, _, h => ⟨h.1, fun i hi => wpOpIn_mono (fun a' w' h' => wpAnyG.any f _ a' w' h'.2) (h.2 i hi)⟩
theorem ready_undone {L : Array Bool} {i : Nat} (h : i ∈ Region.ready .any all L) : L.getD i false = true → False := fun h1 => by
  have h0 := (mem_ready.1 h).1
  rcases Nat.lt_or_ge i L.size with h' | h'
  · simp [h'] at h0 h1; rw [h0] at h1; cases h1
  · simp [Array.getElem?_eq_none h'] at h1
def need (Hs : List HA) (m i : Nat) : List HA := bif Nat.blt i m then Hs else []
theorem KS.need {Hs : List HA} {m i : Nat} {L : Array Bool} {w : World} (hb : lateBinds all m = true) (hcl : Closed all L) (hsz : L.size = all.size) (hi : i ∈ Region.ready .any all L) (h : KS C Hs m L w) : Sat C.w0 C.B (need Hs m i) w := by
  unfold Sl.need
  cases hm : Nat.blt i m with
  | false => exact h.1
  | true =>
    have him : i < m := by simpa using hm
    refine h.2 ?_
    cases hl : someLate m L with
    | false => rfl
    | true =>
      obtain ⟨k, hk, hd⟩ := someLate_true hl
      have hks : k < all.size := by
        rw [← hsz]
        rcases Nat.lt_or_ge k L.size with h' | h'
        · exact h'
        · simp [Array.getElem?_eq_none h'] at hd
      exact (late_not hb hcl (ready_undone hi) him (Array.getElem?_eq_getElem hks) hk (fun e he hb' => hcl k _ (Array.getElem?_eq_getElem hks) hd e he hb')).elim
theorem KS.back {Hs : List HA} {m i j : Nat} {L : Array Bool} {w : World} (hb : lateBinds all m = true) (hcl : Closed all L) (hi : i ∈ Region.ready .any all L) (hj : j ∈ Region.ready .any all L) (hji : j ≠ i) (h : KS C Hs m ((L.setIfInBounds i true).setIfInBounds j true) w) : KS C Hs m (L.setIfInBounds j true) w := by
  refine ⟨h.1, fun hl => h.2 ?_⟩
  cases hl2 : someLate m ((L.setIfInBounds i true).setIfInBounds j true) with
  | false => rfl
  | true =>
    exfalso
    obtain ⟨k, hk, hd⟩ := someLate_true hl2
    obtain ⟨hiun, oi, hoi, halli⟩ := mem_ready.1 hi
    obtain ⟨hjun, oj, hoj, hallj⟩ := mem_ready.1 hj
    by_cases hkj : j = k
    · subst hkj
      have hs : j < L.size := by
        rcases Nat.lt_or_ge j L.size with h' | h'
        · exact h'
        · simp [Array.getElem?_eq_none h'] at hjun
      have : someLate m (L.setIfInBounds j true) = true := someLate_of hk (by simp [hs])
      rw [this] at hl; cases hl
    · rw [getD_set_ne false hkj] at hd
      by_cases hki : i = k
      · subst hki
        rcases Nat.lt_or_ge j m with hjm | hjm
        · exact late_not hb hcl (ready_undone hj) hjm hoi hk halli
        · have hs : j < L.size := by
            rcases Nat.lt_or_ge j L.size with h' | h'
            · exact h'
            · simp [Array.getElem?_eq_none h'] at hjun
          have : someLate m (L.setIfInBounds j true) = true := someLate_of hjm (by simp [hs])
          rw [this] at hl; cases hl
      · rw [getD_set_ne false hki] at hd
        have : someLate m (L.setIfInBounds j true) = true := someLate_of hk (by rw [getD_set_ne false hkj]; exact hd)
        rw [this] at hl; cases hl
theorem KS.quiet {Hs : List HA} {m i : Nat} {L : Array Bool} {w : World} (h : KS C Hs m L w) : KS C Hs m (L.setIfInBounds i true) w := by
  refine ⟨h.1, fun hl => h.2 ?_⟩
  cases hl2 : someLate m L with
  | false => rfl
  | true =>
    obtain ⟨k, hk, hd⟩ := someLate_true hl2
    rw [someLate_of hk (getD_set_done hd)] at hl; cases hl
theorem wpAnyG.first {i : Nat} {oi : Oper} {v : Value} (hi : all[i]? = some oi) (hnd : noDefer all = true) (hQ : ∀ c a w, ¬ Q (.panic c) a w) {Hs : List HA} {m : Nat} (hb : lateBinds all m = true) :
    ∀ (f : Nat) (L : Array Bool) (a : Act) (w : World), (∀ j oj, all[j]? = some oj → j ≠ i → L.getD j true = false → (∀ e ∈ oj.after, Region.binds .any e = true → e.on ≠ i) → oi.apart all oj = true) →
      Closed all L → L.size = all.size → i ∈ Region.ready .any all L → YieldsS C all (Sat C.w0 C.B (need Hs m i)) oi v a → KS C Hs m L w → wpAnyG C all Q Hs m f (L.setIfInBounds i true) (a.put oi.dst v) w → wpAnyG C all Q Hs m (f + 1) L a w := by
  have hdi := noDefer_spec hnd hi
  intro f
  induction f with
  | zero =>
    intro L a w _ hcl hsz hr hy hS H
    refine ⟨fun h => (by rw [h] at hr; cases hr), fun j hj => ?_⟩
    by_cases hji : j = i
    · subst hji; exact hy.step hi hdi.1 (hS.need hb hcl hsz hr) ⟨hS.quiet, H⟩
    · have := ready_mono hj hji
      rw [H.1] at this
      cases this
  | succ f ih =>
    intro L a w hfree hcl hsz hr hy hS H
    refine ⟨fun h => (by rw [h] at hr; cases hr), fun j hj => ?_⟩
    by_cases hji : j = i
    · subst hji; exact hy.step hi hdi.1 (hS.need hb hcl hsz hr) ⟨hS.quiet, H⟩
    · have h1 := H.2 j (ready_mono hj hji)
      obtain ⟨hjun, oj, hoj, hall⟩ := mem_ready.1 hj
      have hnot : ∀ e ∈ oj.after, Region.binds .any e = true → e.on ≠ i := fun e he hb heq => by
        have h1 := hall e he hb
        rw [heq] at h1
        exact ready_undone hr h1
      have hdj := noDefer_spec hnd hoj
      have h2 := YieldsS.other hoj (hfree j oj hoj hji hjun hnot) hdi.2 hdj.2 hdj.1 hQ hy h1
      refine wpOpIn_mono (fun a' w' h3 => ⟨h3.2.1.back hb hcl hr hj hji, ih (L.setIfInBounds j true) a' w' (fun k ok hk hki hun hno => ?_) (hcl.set hj) (by rw [Array.size_setIfInBounds]; exact hsz) (ready_mono hr (Ne.symm hji)) h3.1 (h3.2.1.back hb hcl hr hj hji) ?_⟩) h2
      · refine hfree k ok hk hki ?_ hno
        by_cases hjk : j = k
        · subst hjk; exact hjun
        · rw [getD_set_ne true hjk] at hun; exact hun
      · rw [Array.setIfInBounds_comm _ _ hji]
        exact h3.2.2
def EG (C : Cx) (all : Array Oper) (Hs : List HA) (m f : Nat) (L : Array Bool) (E : Env) (H : List HA) (Q : Qt) : Prop := lateBinds all m = true → L.size = all.size → ∀ a w, At C E H a w → KS C Hs m L w → wpAnyG C all Q Hs m f L a w
variable {Hs : List HA} {m f : Nat} {L : Array Bool} {E E' : Env} {H H' : List HA}
theorem EG.take (i : Nat) {o : Oper} {d : Nat} {v : Value} (hi : all[i]? = some o) (hnd : noDefer all = true) (hQ : ∀ c a w, ¬ Q (.panic c) a w) (ht : takeOk all L i = true) (hg : guardOk all E o.guard = some true) (hd : o.dst = some d) (hdn : Nat.blt d C.n = true)
    (hv : RunV C E (need Hs m i) o v) (k : EG C all Hs m f (L.setIfInBounds i true) ((d, v) :: E) H Q) : EG C all Hs m (f + 1) L E H Q := by
  intro hb hsz a w ha hs
  simp only [takeOk, Bool.and_eq_true] at ht
  have hr : i ∈ Region.ready .any all L := by simpa using ht.1.2
  refine wpAnyG.first hi hnd hQ hb f L a w (fun j oj => Region.free_spec hi ht.1.1 j oj) (closedB_spec ht.2) hsz hr (.inl ⟨guardOk_wanted hg ha.1, fun w' hS => hv a w' ⟨ha.1, hS⟩⟩) hs ?_
  rw [hd]
  exact k hb (by rw [Array.size_setIfInBounds]; exact hsz) _ _ ⟨ha.1.put (by simpa using hdn) v, ha.2⟩ hs.quiet
theorem EG.tk {o : Oper} {d : Nat} {v : Value} (i : Nat) (hi : all[i]? = some o) (hv : RunV C E (need Hs m i) o v) (k : EG C all Hs m f (L.setIfInBounds i true) ((d, v) :: E) H Q) (hnd : noDefer all = true := by decide +kernel) (hQ : ∀ c a w, ¬ Q (.panic c) a w := by exact CutX.no_panic) (ht : takeOk all L i = true := by decide +kernel) (hg : guardOk all E o.guard = some true := by exact rfl) (hd : o.dst = some d := by exact rfl) (hdn : Nat.blt d C.n = true := by exact rfl) : EG C all Hs m (f + 1) L E H Q := EG.take i hi hnd hQ ht hg hd hdn hv k
theorem EG.pass (i : Nat) {o : Oper} {d : Nat} (hi : all[i]? = some o) (hnd : noDefer all = true) (hQ : ∀ c a w, ¬ Q (.panic c) a w) (ht : takeOk all L i = true) (hg : guardOk all E o.guard = some false) (hd : o.dst = some d) (hdn : Nat.blt d C.n = true)
    (k : EG C all Hs m f (L.setIfInBounds i true) ((d, undef) :: E) H Q) : EG C all Hs m (f + 1) L E H Q := by
  intro hb hsz a w ha hs
  simp only [takeOk, Bool.and_eq_true] at ht
  have hr : i ∈ Region.ready .any all L := by simpa using ht.1.2
  refine wpAnyG.first hi hnd hQ hb f L a w (fun j oj => Region.free_spec hi ht.1.1 j oj) (closedB_spec ht.2) hsz hr (.inr ⟨guardOk_wanted hg ha.1, rfl⟩) hs ?_
  rw [hd]
  exact k hb (by rw [Array.size_setIfInBounds]; exact hsz) _ _ ⟨ha.1.put (by simpa using hdn) undef, ha.2⟩ hs.quiet
theorem EG.pa {o : Oper} {d : Nat} (i : Nat) (hi : all[i]? = some o) (k : EG C all Hs m f (L.setIfInBounds i true) ((d, undef) :: E) H Q) (hnd : noDefer all = true := by decide +kernel) (hQ : ∀ c a w, ¬ Q (.panic c) a w := by exact CutX.no_panic) (ht : takeOk all L i = true := by decide +kernel) (hg : guardOk all E o.guard = some false := by exact rfl) (hd : o.dst = some d := by exact rfl) (hdn : Nat.blt d C.n = true := by exact rfl) : EG C all Hs m (f + 1) L E H Q := EG.pass i hi hnd hQ ht hg hd hdn k
def GK (C : Cx) (all : Array Oper) (Hs : List HA) (m f : Nat) (L : Array Bool) (Q : Qt) : Qt := fun e a w => match e with
  | .normal => KS C Hs m L w ∧ wpAnyG C all Q Hs m f L a w
  | e => Q e a w
theorem loud_opG {i : Nat} {o : Oper} (hi : all[i]? = some o) (k : EL C all [o] (GK C all Hs m f (L.setIfInBounds i true) Q) E H) {a : Act} {w : World} (ha : At C E H a w) :
    wpOpIn (F0 C.r) 0 C.P all Q i (fun a' w' => KS C Hs m (L.setIfInBounds i true) w' ∧ wpAnyG C all Q Hs m f (L.setIfInBounds i true) a' w') a w := by
  have hk := k a w ha
  have hD : ∀ e a w, GK C all Hs m f (L.setIfInBounds i true) Q e a w → match e with | .normal => KS C Hs m (L.setIfInBounds i true) w ∧ wpAnyG C all Q Hs m f (L.setIfInBounds i true) a w | e => Q e a w := fun e a w h => by
    cases e with
    | normal => exact h
    | _ => exact h
  unfold wpOpIn
  simp only [hi]
  simp only [wpListIn] at hk
  split
  · rename_i hw
    simp only [hw, if_true] at hk
    refine ⟨fun _ _ => trivial, ?_⟩
    have h2 := hk.2
    generalize (o.semAt (F0 C.r).round a.eval).run C.P w = r at *
    cases r with
    | ok x w' =>
      cases x <;> simp only [Oper.uponIn] at h2 ⊢
      case value u => exact hD _ _ _ h2
      case skip => exact hD _ _ _ h2
      case defer d => exact hD _ _ _ h2
      case enter f args =>
        refine ⟨h2.1, CallsIn.mono h2.2 fun e w'' he => ?_⟩
        cases e with
        | returned u => exact hD _ _ _ he
        | panicked c => exact hD _ _ _ he
        | outgrown =>
          obtain ⟨a', w3, h3⟩ := he
          exact ⟨a', w3, hD _ _ _ h3⟩
      case row row args => exact ⟨h2.1, RowsIn.mono h2.2 fun u w'' he => hD _ _ _ he⟩
      case round l f tmps assign body =>
        refine ⟨h2.1, RoundIn.mono h2.2 fun e w'' he => ?_⟩
        cases e with
        | returned u => exact hD _ _ _ he
        | panicked c => exact hD _ _ _ he
        | outgrown =>
          obtain ⟨a', w3, h3⟩ := he
          exact ⟨a', w3, hD _ _ _ h3⟩
    | halt x w' =>
      cases x <;> simp only [Oper.uponIn] at h2 ⊢
      case panic u => exact hD _ _ _ h2
  · rename_i hw
    simp only [hw] at hk
    exact ⟨fun _ _ => trivial, hD _ _ _ hk.2⟩
def EGone (C : Cx) (all : Array Oper) (Hs : List HA) (m f : Nat) (L : Array Bool) (E : Env) (H : List HA) (Q : Qt) (j : Nat) : Prop := ∃ o, all[j]? = some o ∧ EL C all [o] (GK C all Hs m f (L.setIfInBounds j true) Q) E H
def EGall (C : Cx) (all : Array Oper) (Hs : List HA) (m f : Nat) (L : Array Bool) (E : Env) (H : List HA) (Q : Qt) : List Nat → Prop
  | [] => True
  | j :: r => EGone C all Hs m f L E H Q j ∧ EGall C all Hs m f L E H Q r
theorem EGall.get : ∀ {js : List Nat}, EGall C all Hs m f L E H Q js → ∀ j ∈ js, EGone C all Hs m f L E H Q j
  | j :: r, h, k, hk => by
    rcases List.mem_cons.1 hk with rfl | hk
    · exact h.1
    · exact EGall.get h.2 k hk
theorem EG.fork (i : Nat) (js : List Nat) (hr : (Region.ready .any all L == i :: js) = true) (h : EGall C all Hs m f L E H Q (i :: js)) : EG C all Hs m (f + 1) L E H Q := by
  intro hb hsz a w ha hs
  have hR : Region.ready .any all L = i :: js := by simpa using hr
  refine ⟨fun h => (by rw [hR] at h; cases h), fun j hj => ?_⟩
  rw [hR] at hj
  obtain ⟨o, ho, k⟩ := h.get j hj
  exact loud_opG ho k ha
theorem EG.loud (i : Nat) {o : Oper} (hi : all[i]? = some o) (hr : readyIs all L i = true) (k : EL C all [o] (GK C all Hs m f (L.setIfInBounds i true) Q) E H) : EG C all Hs m (f + 1) L E H Q := by
  intro hb hsz a w ha hs
  have hR : Region.ready .any all L = [i] := by
    unfold readyIs at hr
    split at hr
    · rename_i j hj; rw [hj, Nat.eq_of_beq_eq_true hr]
    · cases hr
  refine ⟨fun h => (by rw [hR] at h; cases h), fun j hj => ?_⟩
  rw [hR] at hj
  obtain rfl : j = i := by simpa using hj
  exact loud_opG hi k ha
theorem EG.next (hb : lateBinds all m = true) (hsz : Nat.beq L.size all.size = true) (hs : Ent H Hs) (k : EG C all Hs m f L E H Q) : EL C all [] (GK C all Hs m f L Q) E H := fun a w ha =>
  have hk : KS C Hs m L w := ⟨ha.2.ent (.nil _), fun _ => ha.2.ent hs⟩
  ⟨hk, k hb (Nat.eq_of_beq_eq_true hsz) a w ha hk⟩
theorem EG.nextL (hb : lateBinds all m = true) (hsz : Nat.beq L.size all.size = true) (hl : someLate m L = true) (k : EG C all Hs m f L E H Q) : EL C all [] (GK C all Hs m f L Q) E H := fun a w ha =>
  have hk : KS C Hs m L w := ⟨ha.2.ent (.nil _), fun h => by rw [hl] at h; cases h⟩
  ⟨hk, k hb (Nat.eq_of_beq_eq_true hsz) a w ha hk⟩
theorem EG.done (hr : (match Region.ready .any all L with | [] => true | _ => false) = true) (k : PX C Q .normal E H) : EG C all Hs m f L E H Q := by
  intro hb hsz a w ha hs
  have hR : Region.ready .any all L = [] := by
    split at hr
    · assumption
    · cases hr
  cases f with
  | zero => exact ⟨hR, k a w ha⟩
  | succ f => exact ⟨fun _ => k a w ha, fun i hi => absurd hi (by rw [hR]; simp)⟩
theorem EG.dn (k : PX C Q .normal E H) (hr : (match Region.ready .any all L with | [] => true | _ => false) = true := by decide +kernel) : EG C all Hs m f L E H Q := EG.done hr k
theorem ES.drawG {X : Type} {id : Nat} {ops : Array Oper} {cs : List Code} (Ex : X → Env) (Hx : X → List HA) (m : Nat) (Hs : List HA) (hm : C.P.follows .mixedOrders = true) (hb : lateBinds ops m = true) (hs : Ent H Hs)
    (h : EG C ops Hs m ops.size (Array.replicate ops.size false) E H (CutX C Ex Hx)) (k : ∀ x, ES C cs Q (Ex x) (Hx x)) : ES C (.region id ops true :: cs) Q E H := by
  intro a w ha
  have h1 := wpAnyG.any _ _ _ _ (h hb (by simp) a { w with drawn := w.drawn + 1 } ⟨ha.1, ha.2.drewN _⟩ ⟨(ha.2.ent (.nil _)).drewN _, fun _ => (ha.2.ent hs).drewN _⟩)
  have h2 := wpIn_region_any (id := id) hm h1
  refine wpIn_mono h2 ?_
  intro e a' w' hq
  cases e with
  | normal =>
    obtain ⟨_, x, hat⟩ := hq
    exact k x a' w' hat
  | _ => cases (hq.1 : _ = Exit.normal)
end draws2
end Go.Proofs.YthcbjbkheodejaaGreat.Sl
namespace Go.Proofs.YthcbjbkheodejaaGreat
open Go Go.RowKit Sl
set_option maxRecDepth 100000
set_option maxHeartbeats 8000000
attribute [local irreducible] ES EL PX wps
abbrev yt (t : List UInt8) : List (List Value) := (toksM t).map fun k => [tokV k]
theorem toks_len (t : List UInt8) : ∀ (n a : Nat) (f b : Bool), (toksGo t n a f b).length ≤ n
  | 0, _, _, _ => Nat.zero_le _
  | n + 1, a, f, b => by
    rw [toksGo]
    split
    · simp
    · dsimp only
      split
      · simp
      · have := toks_len t n (readT t a f b).2 (decide ((readT t a f b).1.kind = 3)) (decide ((readT t a f b).1.kind = 3) || decide ((readT t a f b).1.kind = 1))
        simp only [List.length_cons]; omega
theorem tok1_iter (gs : Nat) (t : List UInt8) (ht : t.length ≤ 1073741824) (W0 : World) (B0 : Nat) (hG : GR W0 B0) : Iter Tryz.prog 53 #[Pv gs 0] (yt t) [HA.blk gs (.cells #[Sv t] 9)] W0 B0 := by
  intro l I Ix hY A R W hI hs
  replace hs : Sat W0 B0 (HA.blk gs (.cells #[Sv t] 9) :: A :: R) W := hs
  refine calls_of_ES TB Tryz.func53 rfl _ Tryz.ntmps53 rfl hs ?_; refine .go ?_; (repeat constructor); refine .as_ ?_; refine .as_ ?_; refine .go ?_; (repeat constructor); refine .as_ ?_; refine .go ?_; repeat constructor
  refine ES.loop (σ := Nat × Nat × Nat × Bool × Bool × HA) (fun (i, n, a, f, b, A) => a ≤ t.length ∧ t.length ≤ n + a ∧ toksGo t n a f b = (toksM t).drop i ∧ i ≤ (toksM t).length ∧ I i A) (fun (i, n, a, f, b, A) => [(0, .func (.yield l) #[] #[]), (1, Pv gs 0), (3, .bool f), (4, .bool b), (5, Iv (a : Nat))])
    (fun (i, n, a, f, b, A) => HA.blk gs (.cells #[Sv t] 9) :: A :: R) (fun (i, n, a, f, b, A) => t.length - a) (0, t.length, 0, true, true, A) ⟨Nat.zero_le _, by omega, rfl, Nat.zero_le _, hI⟩ ⟨rfl, rfl, rfl, rfl, rfl, trivial⟩ (.i (by repeat constructor)) ?_
  rintro ⟨i, n, a, f, b, A⟩ ⟨ha, hn, hgo, hi, hI⟩
  dsimp only at ha hn hgo hi hI ⊢
  refine .go ?_; (repeat constructor); refine .mv ?_; refine .lb ?_; refine .lS ?_; refine .ls ?_; refine .go ?_; repeat constructor
  refine ES.condD rfl (fun hlt => ?_) (fun hge => ?_)
  · have hlt' : a < t.length := by omega
    obtain ⟨m, rfl⟩ : ∃ m, n = m + 1 := ⟨n - 1, by omega⟩
    rw [toksGo, if_neg (by omega)] at hgo
    dsimp only at hgo
    have hnx := readT_at t a f b hlt'
    have hrc := readTok_c t a f b hlt' ht
    generalize readT t a f b = r at hgo hnx hrc
    obtain ⟨k, nx⟩ := r
    dsimp only at hgo hnx hrc
    have hat : (toksM t)[i]? = some k := by
      have : ((toksM t).drop i)[0]? = some k := by rw [← hgo]; split <;> rfl
      simpa using this
    have hilt : i < (toksM t).length := (List.getElem?_eq_some_iff.1 hat).1
    have hx : (yt t)[i]? = some [tokV k] := by rw [List.getElem?_map, hat]; rfl
    refine .go ?_; (repeat constructor); refine .lb ?_; refine .mv ?_; refine .mv ?_; refine .mv ?_; refine EL.callPw rfl rfl rfl ent54 rfl (fun w hs => hrc w (GR.sat hG hs)) ?_; refine .mv ?_; refine .ex ?_; refine .ex ?_; (refine .al ?_; intro g6); refine .sa ?_; refine .as_ ?_; refine .go ?_; (repeat constructor); refine .fa ?_; refine .lb ?_; refine .ei ?_; refine .as_ ?_; refine .go ?_; repeat constructor
    refine EL.cutX (X := Unit) (fun _ => [(0, .func (.yield l) #[] #[]), (1, Pv gs 0), (3, .bool (decide (k.kind = 3))), (4, .bool (decide (k.kind = 3) || decide (k.kind = 1))), (6, Pv g6 0), (7, Iv (nx : Nat))]) (fun _ => HA.blk g6 (.cells (tokCells k) 112) :: HA.blk gs (.cells #[Sv t] 9) :: A :: R) ?_ (fun _ => ?_)
    · refine .go ?_; (repeat constructor); refine .mv ?_; refine .mv ?_
      first | refine EL.splitD (d := 24) rfl (fun hp24 => ?_) (fun hp24 => ?_) | refine EL.splitN (d := 24) rfl (fun hp24 => ?_) (fun hp24 => ?_) | refine EL.splitB (d := 24) rfl (fun hp24 => ?_) (fun hp24 => ?_)
      · refine .ps ?_; refine .ps ?_; refine .ps ?_; refine .pt ?_; refine .as_ ?_
        exact .dx () ⟨rfl, rfl, getA rfl (congrArg Value.bool (by rw [Bool.eq_iff_iff]; simp only [decide_eq_true_eq]; omega)), getA rfl (congrArg Value.bool (by rw [Bool.eq_iff_iff]; simp only [decide_eq_true_eq, Bool.or_eq_true, true_iff]; omega)), rfl, rfl, trivial⟩
      · refine .fa ?_; refine .lb ?_; refine .ei ?_; refine .pf ?_; refine .as_ ?_
        exact .dx () ⟨rfl, rfl, getA rfl (congrArg Value.bool (by rw [Bool.eq_iff_iff]; simp only [decide_eq_true_eq]; omega)), getA rfl (congrArg Value.bool (by rw [Bool.eq_iff_iff]; simp only [decide_eq_true_eq, Bool.or_eq_true, true_iff]; omega)), rfl, rfl, trivial⟩
    refine .go ?_; (repeat constructor); refine .mv ?_; refine .lg ?_
    refine EL.yield rfl rfl rfl rfl hY hI hx (by repeat constructor) (fun A' hI' => ?_) (fun A' hX' => ?_)
    · refine .nt ?_; refine .mv ?_
      refine EL.rew (d := 33) (v' := .bool false) rfl (by first | rfl | (decide) | (simp)) ?_
      refine .fa ?_; refine .lb ?_; refine .ei ?_; refine .pf ?_; refine .go ?_; repeat constructor
      refine ES.condD rfl (fun h7 => ?_) (fun h7 => ?_)
      · rw [if_pos (by omega)] at hgo
        have hlen : (yt t).length = i + 1 := by
          have := congrArg List.length hgo
          simp only [List.length_cons, List.length_nil, List.length_drop] at this
          simp only [List.length_map]; omega
        refine .go ?_; repeat constructor
        exact PX.ret rfl Tryz.results53 .nil (fun w hs => ⟨⟨_, rfl⟩, .inl ⟨A', by rw [hlen]; exact hI', hs.ent (.i (by repeat constructor))⟩⟩)
      · rw [if_neg (by omega)] at hgo
        have hb2 := hnx (by omega)
        refine .go ?_; (repeat constructor); refine .mv ?_; refine .as_ ?_; refine .go ?_; repeat constructor
        refine .ly (i + 1, m, nx, decide (k.kind = 3), decide (k.kind = 3) || decide (k.kind = 1), A') ⟨hb2.2, by simp only; omega, by simp only; have := congrArg List.tail hgo; simpa [List.tail_drop] using this, by simp only; omega, hI'⟩ (by simp only; omega)
    · refine .nt ?_; refine .mv ?_
      refine EL.rew (d := 33) (v' := .bool true) rfl (by first | rfl | (decide) | (simp)) ?_
      refine .ps ?_; refine .ps ?_; refine .ps ?_; refine .pt ?_; refine .go ?_; (repeat constructor); refine ES.condT rfl ?_; refine .go ?_; repeat constructor
      exact PX.ret rfl Tryz.results53 .nil (fun w hs => ⟨⟨_, rfl⟩, .inr ⟨_, A', hX', hs.ent (.i (by repeat constructor))⟩⟩)
  · have hlen : (yt t).length = i := by
      have h1 : toksGo t n a f b = [] := by
        cases n with
        | zero => rfl
        | succ n => rw [toksGo, if_pos (by omega)]
      rw [h1] at hgo
      have := congrArg List.length hgo
      simp only [List.length_nil, List.length_drop] at this
      simp only [List.length_map]; omega
    refine .go ?_; repeat constructor
    exact PX.end rfl Tryz.results53 .nil (fun w hs => ⟨⟨_, rfl⟩, .inl ⟨A, by rw [hlen]; exact hI, hs.ent (.i (by repeat constructor))⟩⟩)
theorem tokens_c (t : List UInt8) (w : World) : Pure Tryz.prog 36 #[Sv t] (fun g : Nat => .func (.func 53) #[] #[Pv g 0]) (fun g => [HA.blk g (.cells #[Sv t] 9)]) w := by
  refine calls_of_ES TB Tryz.func36 rfl _ Tryz.ntmps36 rfl (Sat.start w) ?_; refine .go ?_; (repeat constructor); (refine .bx ?_; intro g1); refine .as_ ?_; refine .go ?_; (repeat constructor); refine EL.makeFunc rfl rfl rfl ?_; refine .as_ ?_; refine .go ?_; repeat constructor
  exact PX.ret rfl Tryz.results36 (.cons (.tmp rfl) .nil) (fun w hs => ⟨g1, rfl, hs.ent (.i (by repeat constructor))⟩)
def frC (kad : Option Addr) (n kcap : Nat) (sad : Option Addr) (m scap gr at_ : Nat) : List Value := [.slice kad n kcap, .slice sad m scap, Iv (gr : Nat), Iv (at_ : Nat)]
theorem pre_at (pre cs : List Value) (k i : Nat) (h : pre.length = k) : (pre ++ cs)[k + i]? = cs[i]? := by
  rw [List.getElem?_append_right (by omega), h]; congr 1; omega
theorem pre_set (pre cs : List Value) (k i : Nat) (u : Value) (h : pre.length = k) : (pre ++ cs).set (k + i) u = pre ++ cs.set i u := by
  rw [List.set_append_right _ _ (by omega), h]; congr 2; omega
abbrev FB (fg m fcap : Nat) (cs : List Value) : HA := HA.row (.slice (some ⟨fg, 0, none⟩) m fcap) 103 4 m cs
abbrev PB (g fg m fcap : Nat) (rest : List Value) : HA := HA.blk g (.cells (Value.slice (some ⟨fg, 0, none⟩) m fcap :: rest).toArray 107)
abbrev KR (kad : Option Addr) (n kcap : Nat) (kcs : List Value) : HA := HA.row (.slice kad n kcap) 46 9 n kcs
abbrev ZR (sad : Option Addr) (scap : Nat) (zs : List Nat) : HA := HA.row (.slice sad zs.length scap) 3 1 zs.length (zs.map fun z : Nat => Iv (z : Nat))
theorem put_end (kcs z9 rc : List Value) (off : Nat) (h1 : kcs.length = off) (h2 : z9.length = rc.length) : putAt (kcs ++ z9) off rc = kcs ++ rc := by
  unfold putAt
  rw [List.take_left' h1, List.drop_of_length_le (by rw [List.length_append]; omega), List.append_nil]
theorem top_c (g fg k fcap : Nat) (rest cs : List Value) (hk : k ≤ 4096) :
    Mut Tryz.prog 38 #[Pv g 0] [PB g fg (k + 1) fcap rest, FB fg (k + 1) fcap cs] (fun _ : Unit => Pv fg (k * 4)) (fun _ => [PB g fg (k + 1) fcap rest, FB fg (k + 1) fcap cs]) := by
  intro w0 B R w h
  replace h : Sat w0 B (PB g fg (k + 1) fcap rest :: FB fg (k + 1) fcap cs :: R) w := h
  refine calls_of_ES TB Tryz.func38 rfl _ Tryz.ntmps38 rfl h ?_; refine .go ?_; (repeat constructor); refine .as_ ?_; refine .go ?_; repeat constructor
  refine ES.draw (X := Unit) (fun _ => [(2, Pv fg (k * 4))]) (fun _ => PB g fg (k + 1) fcap rest :: FB fg (k + 1) fcap cs :: R) (PB g fg (k + 1) fcap rest :: FB fg (k + 1) fcap cs :: R) mixed (.i (by repeat constructor)) ?_ (fun _ => ?_)
  · refine .tk 0 rfl (RV.move rfl) ?_; refine .tk 1 rfl (RV.nilCheck rfl) ?_; refine .tk 2 rfl (RV.fieldAddr rfl rfl rfl rfl rfl rfl) ?_; refine .tk 3 rfl (RV.loadB rfl rfl rfl (by repeat constructor) rfl) ?_; refine .tk 4 rfl (RV.move rfl) ?_; refine .tk 5 rfl (RV.nilCheck rfl) ?_; refine .tk 6 rfl (RV.fieldAddr rfl rfl rfl rfl rfl rfl) ?_; refine .tk 7 rfl (RV.loadB rfl rfl rfl (by repeat constructor) rfl) ?_; refine .tk 8 rfl (RV.lenL rfl rfl rfl) ?_; refine .tk 9 rfl (RV.sub1 rfl rfl (by omega) (by omega)) ?_; refine .tk 10 rfl (RV.indexAddrL rfl rfl rfl rfl rfl (by omega)) ?_; refine .tk 11 rfl (RV.assign rfl) ?_; refine .dn ?_
    exact .cx () ⟨getA rfl (congrArg (Pv fg) (Nat.zero_add _)), trivial⟩
  refine .go ?_; repeat constructor
  exact PX.ret rfl Tryz.results38 (.cons (.tmp rfl) .nil) (fun w hs => ⟨(), rfl, hs.ent (.i (by repeat constructor))⟩)
theorem put_c (g fg k fcap : Nat) (rest pre : List Value) (hpre : pre.length = k * 4) (hk : k ≤ 4096) (kad : Option Addr) (n kcap : Nat) (sad : Option Addr) (scap gr at_ : Nat) (kcs rc : List Value) (zs : List Nat) (z : Nat) (hn : n ≤ 65536) (hz : zs.length ≤ 65536) (hkl : kcs.length = n * 9) (hrc : rc.length = 9) (h1 : ∀ u ∈ rc, u.oneCell' = true) :
    Mut Tryz.prog 55 #[Pv g 0, .agg rc.toArray, Iv (z : Nat)] [PB g fg (k + 1) fcap rest, FB fg (k + 1) fcap (pre ++ frC kad n kcap sad zs.length scap gr at_), KR kad n kcap kcs, ZR sad scap zs]
      (fun _ : (Option Addr × Nat) × (Option Addr × Nat) => Iv 0)
      (fun x => [PB g fg (k + 1) fcap rest, FB fg (k + 1) fcap (pre ++ frC x.1.1 (n + 1) x.1.2 x.2.1 (zs.length + 1) x.2.2 gr at_), KR x.1.1 (n + 1) x.1.2 (kcs ++ rc), ZR x.2.1 x.2.2 (zs ++ [z])]) := by
  intro w0 B R w h
  replace h : Sat w0 B (PB g fg (k + 1) fcap rest :: FB fg (k + 1) fcap (pre ++ frC kad n kcap sad zs.length scap gr at_) :: KR kad n kcap kcs :: ZR sad scap zs :: R) w := h
  have htop := top_c g fg k fcap rest (pre ++ frC kad n kcap sad zs.length scap gr at_) hk
  refine calls_of_ES TB Tryz.func55 rfl _ Tryz.ntmps55 rfl h ?_; refine .go ?_; (repeat constructor); (refine .bx ?_; intro g4); refine .as_ ?_; refine .go ?_; (repeat constructor); refine .mv ?_; refine EL.callM1 rfl rfl rfl ent38 rfl htop (by repeat constructor) ?_; refine .as_ ?_; refine .go ?_; repeat constructor
  refine ES.drawG (X := Nat × Nat) (fun x => [(0, Pv g 0), (2, Iv (z : Nat)), (7, Pv fg (k * 4))]) (fun x => PB g fg (k + 1) fcap rest :: FB fg (k + 1) fcap (pre ++ frC (some ⟨x.1, 0, none⟩) (n + 1) x.2 sad zs.length scap gr at_) :: KR (some ⟨x.1, 0, none⟩) (n + 1) x.2 (kcs ++ rc) :: ZR sad scap zs :: R) 7
    (HA.blk g4 (.cells rc.toArray 46) :: FB fg (k + 1) fcap (pre ++ frC kad n kcap sad zs.length scap gr at_) :: R) mixed (by decide +kernel) (.i (by repeat constructor)) ?_ (fun x => ?_)
  · refine .tk 0 rfl (RV.move rfl) ?_; refine .tk 1 rfl (RV.nilCheck rfl) ?_; refine .tk 2 rfl (RV.fieldAddr rfl rfl rfl rfl rfl rfl) ?_; refine .tk 3 rfl (RV.loadR rfl rfl rfl (by repeat constructor) (pre_at pre _ (k * 4) 0 hpre)) ?_
    refine .tk 4 rfl (RV.loadBA rc rfl rfl rfl (by rw [hrc]; rfl) (by repeat constructor) (by simp)) ?_
    refine .tk 5 rfl (RV.lenL rfl rfl rfl) ?_; refine EG.loud 6 rfl (by decide +kernel) ?_; (refine .b1 ?_; intro b16); refine EG.next (by decide +kernel) rfl (.i (by repeat constructor)) ?_; refine EG.loud 7 rfl (by decide +kernel) ?_
    (refine EL.append1 rfl rfl rfl rfl rfl rfl rfl rfl rfl (by repeat constructor) (by repeat constructor) (by first | (intro u hu; simp [Value.cells] at hu; subst hu; rfl) | exact all1 rfl) (by rfl) (by unfold maxLen; omega) (by first | omega | (show 1 * _ ≤ _; omega) | (show 8 * _ ≤ _; omega) | (show 16 * _ ≤ _; omega) | (show 24 * _ ≤ _; omega) | (show _ * 1 ≤ _; omega) | (show _ * 8 ≤ _; omega) | (show _ * 16 ≤ _; omega) | (show _ * 24 ≤ _; omega) | exact Nat.le_trans (Nat.mul_le_mul_right _ (show _ ≤ 1073741824 by omega)) (by decide)) ?_; intro a17 c17)
    refine EG.nextL (by decide +kernel) rfl (by decide +kernel) ?_; refine .tk 8 rfl (RV.indexAddrL (i := n) rfl rfl rfl rfl rfl (by omega)) ?_; refine .tk 10 rfl (RV.nilCheck rfl) ?_; refine .tk 11 rfl (RV.fieldAddr rfl rfl rfl rfl rfl rfl) ?_
    refine EG.fork 9 [12] (by decide +kernel) ⟨⟨_, rfl, ?_⟩, ⟨_, rfl, ?_⟩, trivial⟩
    · (refine EL.storeRA (vs := rc) rfl rfl rfl rfl (by rw [hrc]; rfl) (by repeat constructor) (by rw [List.length_append, hkl, hrc]; exact Nat.le_of_eq (by show 0 + n * 9 + 9 = n * 9 + 9; omega)) h1 ?_; refine EL.rowEq (v := .slice (some ⟨a17, 0, none⟩) (n + 1) c17) (by repeat constructor) (put_end _ _ _ _ (by rw [hkl]; show n * 9 = 0 + n * 9; omega) (by rw [hrc]; rfl)) ?_)
      refine EG.nextL (by decide +kernel) rfl (by decide +kernel) ?_; refine EG.loud 12 rfl (by decide +kernel) ?_
      (refine EL.storeR rfl rfl rfl rfl rfl rfl (by repeat constructor) (by rw [List.length_append, hpre]; show k * 4 + 0 < k * 4 + 4; omega) ?_; refine EL.rowEq (v := .slice (some ⟨fg, 0, none⟩) (k + 1) fcap) (by repeat constructor) (pre_set pre _ (k * 4) 0 _ hpre) ?_)
      refine EG.nextL (by decide +kernel) rfl (by decide +kernel) ?_; refine .dn ?_
      exact .cy (a17, c17)
    · (refine EL.storeR rfl rfl rfl rfl rfl rfl (by repeat constructor) (by rw [List.length_append, hpre]; show k * 4 + 0 < k * 4 + 4; omega) ?_; refine EL.rowEq (v := .slice (some ⟨fg, 0, none⟩) (k + 1) fcap) (by repeat constructor) (pre_set pre _ (k * 4) 0 _ hpre) ?_)
      refine EG.nextL (by decide +kernel) rfl (by decide +kernel) ?_; refine EG.loud 9 rfl (by decide +kernel) ?_
      (refine EL.storeRA (vs := rc) rfl rfl rfl rfl (by rw [hrc]; rfl) (by repeat constructor) (by rw [List.length_append, hkl, hrc]; exact Nat.le_of_eq (by show 0 + n * 9 + 9 = n * 9 + 9; omega)) h1 ?_; refine EL.rowEq (v := .slice (some ⟨a17, 0, none⟩) (n + 1) c17) (by repeat constructor) (put_end _ _ _ _ (by rw [hkl]; show n * 9 = 0 + n * 9; omega) (by rw [hrc]; rfl)) ?_)
      refine EG.nextL (by decide +kernel) rfl (by decide +kernel) ?_; refine .dn ?_
      exact .cy (a17, c17)
  obtain ⟨kg, kc⟩ := x
  dsimp only
  refine .go ?_; (repeat constructor); refine .mv ?_; refine .mv ?_; refine .nc ?_; refine .fa ?_; refine EL.loadR rfl rfl rfl rfl rfl (by repeat constructor) (pre_at pre _ (k * 4) 1 hpre) ?_; refine .mv ?_; (refine .b1 ?_; intro b27)
  (refine EL.append1 rfl rfl rfl rfl rfl rfl rfl rfl rfl (by repeat constructor) (by repeat constructor) (by first | (intro u hu; simp [Value.cells] at hu; subst hu; rfl) | exact all1 rfl) (by rfl) (by unfold maxLen; omega) (by first | omega | (show 1 * _ ≤ _; omega) | (show 8 * _ ≤ _; omega) | (show 16 * _ ≤ _; omega) | (show 24 * _ ≤ _; omega) | (show _ * 1 ≤ _; omega) | (show _ * 8 ≤ _; omega) | (show _ * 16 ≤ _; omega) | (show _ * 24 ≤ _; omega) | exact Nat.le_trans (Nat.mul_le_mul_right _ (show _ ≤ 1073741824 by omega)) (by decide)) ?_; intro a28 c28)
  refine .nc ?_; refine .fa ?_
  (refine EL.storeR rfl rfl rfl rfl rfl rfl (by repeat constructor) (by rw [List.length_append, hpre]; show k * 4 + 1 < k * 4 + 4; omega) ?_; refine EL.rowEq (v := .slice (some ⟨fg, 0, none⟩) (k + 1) fcap) (by repeat constructor) (pre_set pre _ (k * 4) 1 _ hpre) ?_)
  refine .go ?_; (repeat constructor); refine .as_ ?_; refine .go ?_; repeat constructor
  refine PX.ret rfl Tryz.results55 (.cons (.tmp rfl) .nil) (fun w hs => ⟨((some ⟨kg, 0, none⟩, kc), (some ⟨a28, 0, none⟩, c28)), rfl, ?_⟩)
  show Sat w0 B (PB g fg (k + 1) fcap rest :: FB fg (k + 1) fcap (pre ++ frC (some ⟨kg, 0, none⟩) (n + 1) kc (some ⟨a28, 0, none⟩) (zs.length + 1) c28 gr at_) :: KR (some ⟨kg, 0, none⟩) (n + 1) kc (kcs ++ rc) :: HA.row (.slice (some ⟨a28, 0, none⟩) (zs ++ [z]).length c28) 3 1 (zs ++ [z]).length ((zs ++ [z]).map fun z : Nat => Iv (z : Nat)) :: R) w
  rw [List.length_append, List.length_singleton, List.map_append]
  exact hs.ent (.i (by repeat constructor))
abbrev PR (groups : Nat) (sh : List Bool) (size : Nat) : List Value := Iv (groups : Nat) :: (sh.map Value.bool ++ [Iv (size : Nat)])
theorem setIf_list (l : List Value) (i : Nat) (u : Value) : l.toArray.setIfInBounds i u = (l.set i u).toArray := by simp
theorem pr_size_get (v : Value) (gr size : Nat) (sh : List Bool) (h : sh.length = 10) : (v :: PR gr sh size).toArray[12]? = some (Iv (size : Nat)) := by
  simp only [List.getElem?_toArray, PR, List.getElem?_cons_succ]
  rw [List.getElem?_append_right (by simp; omega)]
  simp [h]
theorem pr_size_set (v : Value) (gr size s2 : Nat) (sh : List Bool) (h : sh.length = 10) : (v :: PR gr sh size).toArray.setIfInBounds 12 (Iv (s2 : Nat)) = (v :: PR gr sh s2).toArray := by
  rw [setIf_list]
  simp only [PR, List.set_cons_succ]
  rw [List.set_append_right _ _ (by simp; omega)]
  simp [h]
theorem pr_shut_get (v : Value) (gr size i : Nat) (sh : List Bool) (hi : i < sh.length) : (v :: PR gr sh size).toArray[2 + i]? = some (.bool (sh.getD i false)) := by
  rw [List.getElem?_toArray, show 2 + i = i + 1 + 1 by omega]
  simp only [PR, List.getElem?_cons_succ]
  rw [List.getElem?_append_left (by simpa using hi), List.getElem?_map, List.getElem?_eq_getElem hi]
  simp [List.getD_eq_getElem?_getD, List.getElem?_eq_getElem hi]
theorem pr_shut_set (v : Value) (gr size i : Nat) (sh : List Bool) (b : Bool) (hi : i < sh.length) : (v :: PR gr sh size).toArray.setIfInBounds (2 + i) (.bool b) = (v :: PR gr (sh.set i b) size).toArray := by
  rw [setIf_list, show 2 + i = i + 1 + 1 by omega]
  simp only [PR, List.set_cons_succ]
  rw [List.set_append_left _ _ (by simpa using hi), List.map_set]
theorem pr_shut_put (v : Value) (gr size i n : Nat) (sh : List Bool) (b : Bool) (hi : i < sh.length) (hn : n = 2 + i) : (v :: PR gr sh size).toArray.setIfInBounds n (.bool b) = (v :: PR gr (sh.set i b) size).toArray := by
  rw [hn]; exact pr_shut_set v gr size i sh b hi
theorem pr_groups_set (v : Value) (gr g2 size : Nat) (sh : List Bool) : (v :: PR gr sh size).toArray.setIfInBounds 1 (Iv (g2 : Nat)) = (v :: PR g2 sh size).toArray := by
  rw [setIf_list]; rfl
theorem pr_frames_set (v u : Value) (rest : List Value) : (v :: rest).toArray.setIfInBounds 0 u = (u :: rest).toArray := by
  rw [setIf_list]; rfl
theorem pr_len (v : Value) (gr size : Nat) (sh : List Bool) (h : sh.length = 10) : (v :: PR gr sh size).toArray.size = 13 := by simp [h]
theorem grow_c (g fg m fcap gr size s2 : Nat) (sh : List Bool) (d : Int) (hsh : sh.length = 10) (hd : (size : Int) + d = (s2 : Nat)) (hs : s2 ≤ 1073741824) :
    Mut Tryz.prog 56 #[Pv g 0, Iv d] [PB g fg m fcap (PR gr sh size)] (fun _ : Unit => Iv (growE s2)) (fun _ => [PB g fg m fcap (PR gr sh s2)]) := by
  intro w0 B R w h
  replace h : Sat w0 B (PB g fg m fcap (PR gr sh size) :: R) w := h
  have hge : growE s2 = if 256 < s2 then 13 else 0 := rfl
  refine calls_of_ES TB Tryz.func56 rfl _ Tryz.ntmps56 rfl h ?_; refine .go ?_; (repeat constructor); refine .as_ ?_; refine .go ?_; (repeat constructor); refine .mv ?_; refine .nc ?_; refine .fa ?_; refine EL.loadB rfl rfl rfl rfl rfl (by repeat constructor) (pr_size_get _ gr size sh hsh) ?_; refine .mv ?_
  refine EL.add ((s2 : Nat) : Int) rfl rfl rfl rfl (by rw [hd]; exact wrap_i64 _ (by omega) (by omega)) ?_
  refine .nc ?_; refine .fa ?_
  (refine EL.storeB rfl rfl rfl rfl rfl rfl (by repeat constructor) (by rw [pr_len _ _ _ _ hsh]; decide) ?_; refine EL.blkEq (g := g) (by repeat constructor) (congrArg (fun a => Obj.cells a 107 (0, 0)) (pr_size_set _ gr size s2 sh hsh)) ?_)
  refine .go ?_; (repeat constructor); refine .mv ?_; refine .nc ?_; refine .fa ?_; refine EL.loadB rfl rfl rfl rfl rfl (by repeat constructor) (pr_size_get _ gr s2 sh hsh) ?_; refine .gt_ ?_; refine .go ?_; repeat constructor
  refine ES.condD rfl (fun hgt => ?_) (fun hle => ?_)
  · rw [if_pos (by omega)] at hge
    rw [hge]
    refine .go ?_; (repeat constructor); refine .as_ ?_; refine .go ?_; repeat constructor
    exact PX.ret rfl Tryz.results56 (.cons (.tmp rfl) .nil) (fun w hs => ⟨(), rfl, hs.ent (.i (by repeat constructor))⟩)
  · rw [if_neg (by omega)] at hge
    rw [hge]
    refine .go ?_; (repeat constructor); refine .as_ ?_; refine .go ?_; repeat constructor
    exact PX.ret rfl Tryz.results56 (.cons (.tmp rfl) .nil) (fun w hs => ⟨(), rfl, hs.ent (.i (by repeat constructor))⟩)
theorem open_full (g fg m fcap : Nat) (rest : List Value) (a : Nat) :
    Mut Tryz.prog 57 #[Pv g 0, Iv (a : Nat)] [PB g fg m fcap (Iv 9 :: rest)] (fun _ : Unit => Iv 4) (fun _ => []) := by
  intro w0 B R w h
  replace h : Sat w0 B (PB g fg m fcap (Iv 9 :: rest) :: R) w := h
  refine calls_of_ES TB Tryz.func57 rfl _ Tryz.ntmps57 rfl h ?_; refine .go ?_; (repeat constructor); refine .as_ ?_; refine .go ?_; (repeat constructor); refine .mv ?_; refine .nc ?_; refine .fa ?_; refine .lb ?_; refine .ei ?_; refine .go ?_; (repeat constructor); refine ES.condK true rfl (decide_eq_true rfl) ?_; refine .go ?_; (repeat constructor); refine .as_ ?_; refine .go ?_; repeat constructor
  exact PX.ret rfl Tryz.results57 (.cons (.tmp rfl) .nil) (fun w hs => ⟨(), rfl, hs.ent (.i (by repeat constructor))⟩)
theorem open_c (g fg m fcap gr size a : Nat) (sh : List Bool) (cs : List Value) (hgr : gr < 9) (hm : m ≤ 4096) :
    Mut Tryz.prog 57 #[Pv g 0, Iv (a : Nat)] [PB g fg m fcap (PR gr sh size), FB fg m fcap cs] (fun _ : Nat × Nat => Iv 0) (fun x => [PB g x.1 (m + 1) x.2 (PR (gr + 1) sh size), FB x.1 (m + 1) x.2 (cs ++ frC none 0 0 none 0 0 (gr + 1) a)]) := by
  intro w0 B R w h
  replace h : Sat w0 B (PB g fg m fcap (PR gr sh size) :: FB fg m fcap cs :: R) w := h
  refine calls_of_ES TB Tryz.func57 rfl _ Tryz.ntmps57 rfl h ?_; refine .go ?_; (repeat constructor); refine .as_ ?_; refine .go ?_; (repeat constructor); refine .mv ?_; refine .nc ?_; refine .fa ?_; refine .lb ?_; refine .ei ?_; refine .go ?_; (repeat constructor); refine ES.condK false rfl (decide_eq_false (by omega)) ?_; refine .go ?_; (repeat constructor); refine .mv ?_; refine .nc ?_; refine .fa ?_; refine .lb ?_; refine .a1 ?_; refine .nc ?_; refine .fa ?_
  (refine EL.storeB rfl rfl rfl rfl rfl rfl (by repeat constructor) (by simp) ?_; refine EL.blkEq (g := g) (by repeat constructor) (congrArg (fun a => Obj.cells a 107 (0, 0)) (pr_groups_set _ gr (gr + 1) size sh)) ?_)
  refine .go ?_; repeat constructor
  refine ES.draw (X := Nat × Nat) (fun x => []) (fun x => PB g x.1 (m + 1) x.2 (PR (gr + 1) sh size) :: FB x.1 (m + 1) x.2 (cs ++ frC none 0 0 none 0 0 (gr + 1) a) :: R) (PB g fg m fcap (PR (gr + 1) sh size) :: R) mixed (.i (by repeat constructor)) ?_ (fun x => ?_)
  · refine .tk 0 rfl (RV.move rfl) ?_; refine .tk 1 rfl (RV.move rfl) ?_; refine .tk 2 rfl (RV.nilCheck rfl) ?_; refine .tk 3 rfl (RV.fieldAddr rfl rfl rfl rfl rfl rfl) ?_; refine .tk 4 rfl (RV.loadB rfl rfl rfl (by repeat constructor) rfl) ?_; refine .tk 5 rfl (RV.move rfl) ?_; refine .tk 6 rfl (RV.nilCheck rfl) ?_; refine .tk 7 rfl (RV.fieldAddr rfl rfl rfl rfl rfl rfl) ?_; refine .tk 8 rfl (RV.loadB rfl rfl rfl (by repeat constructor) rfl) ?_; refine .tk 9 rfl (RV.move rfl) ?_; refine .tk 10 rfl (RV.buildS #[.slice none 0 0, .slice none 0 0, _, _] rfl rfl rfl rfl rfl) ?_; refine .ld 11 ?_; (refine .b1 ?_; intro b28); refine .nx ?_; refine .ld 12 ?_
    (refine EL.append1 rfl rfl rfl rfl rfl rfl rfl rfl rfl (by repeat constructor) (by repeat constructor) (by first | (intro u hu; simp [Value.cells] at hu; subst hu; rfl) | exact all1 rfl) (by rfl) (by unfold maxLen; omega) (by first | omega | (show 1 * _ ≤ _; omega) | (show 8 * _ ≤ _; omega) | (show 16 * _ ≤ _; omega) | (show 24 * _ ≤ _; omega) | (show _ * 1 ≤ _; omega) | (show _ * 8 ≤ _; omega) | (show _ * 16 ≤ _; omega) | (show _ * 24 ≤ _; omega) | exact Nat.le_trans (Nat.mul_le_mul_right _ (show _ ≤ 1073741824 by omega)) (by decide)) ?_; intro a29 c29)
    refine .nx ?_; refine .tk 13 rfl (RV.nilCheck rfl) ?_; refine .tk 14 rfl (RV.fieldAddr rfl rfl rfl rfl rfl rfl) ?_; refine ED.last 15 rfl (by decide +kernel) (by decide +kernel) (by decide +kernel) ?_
    (refine EL.storeB rfl rfl rfl rfl rfl rfl (by repeat constructor) (by simp) ?_; refine EL.blkEq (g := g) (by repeat constructor) (congrArg (fun a => Obj.cells a 107 (0, 0)) (pr_frames_set _ _ _)) ?_)
    refine EL.endQ ?_
    exact .cx (a29, c29) trivial
  refine .go ?_; (repeat constructor); refine .as_ ?_; refine .go ?_; repeat constructor
  exact PX.ret rfl Tryz.results57 (.cons (.tmp rfl) .nil) (fun w hs => ⟨x, rfl, hs.ent (.i (by repeat constructor))⟩)
theorem Sat.repTree {w0 w : World} {B e b lo : Nat} {hi : Int} {R : List HA} {fp : List Nat} {init : List RE} {last : RE} {kcs c9 : List Value} (hc9 : c9 = kcs.drop (init.length * 9)) (h : Sat w0 B (HA.row (.slice (some ⟨b, 0, none⟩) 1 1) e 9 1 c9 :: HA.forest fp (init ++ [last]) kcs :: R) w) :
    Sat w0 B (HA.forest (b :: fp) (init ++ [.rep lo hi last]) (kcs.take (init.length * 9) ++ reCells (.rep lo hi last) (.slice (some ⟨b, 0, none⟩) 1 1)) :: R) w :=
  Sat.rule (Hs := [HA.row (.slice (some ⟨b, 0, none⟩) 1 1) e 9 1 c9, HA.forest fp (init ++ [last]) kcs]) h (by simp only [fps, List.flatMap_cons, List.flatMap_nil, HA.forest, HA.row, List.append_nil]; exact List.Perm.refl _) (fun hh => by
    have h1 : w.ownsRow 0 e 9 (.slice (some ⟨b, 0, none⟩) 1 1) 1 c9 := hh (HA.row (.slice (some ⟨b, 0, none⟩) 1 1) e 9 1 c9) (by simp)
    have h2 : Forest (· ∈ fp) w (init ++ [last]) kcs := hh (HA.forest fp (init ++ [last]) kcs) (by simp)
    have h3 : Forest (· ∈ b :: fp) w (init ++ [last]) kcs := h2.mono (fun g hg => List.mem_cons_of_mem _ hg)
    have h4 := h3.take init.length
    have h5 := h3.drop init.length
    rw [List.take_left] at h4
    rw [List.drop_left, ← hc9] at h5
    exact h4.append (Forest.one (.rep lo hi last) (some ⟨b, 0, none⟩) 1 c9 (Nat.le_refl 1) h5 (fun _ => ⟨b, 0, rfl, List.mem_cons_self, row_reads h1⟩)))
theorem set_last (zs0 : List Nat) (z z2 n : Nat) (h : zs0.length = n) : ((zs0 ++ [z]).map fun z : Nat => Iv (z : Nat)).set n (Iv (z2 : Nat)) = ((zs0 ++ [z2]).map fun z : Nat => Iv (z : Nat)) := by
  subst h
  rw [List.map_append, List.map_append, List.set_append_right _ _ (by simp)]
  simp
theorem put_last (kcs rc : List Value) (off : Nat) (h1 : kcs.length = off + rc.length) : putAt kcs off rc = kcs.take off ++ rc := by
  unfold putAt
  rw [List.drop_of_length_le (by omega), List.append_nil]
theorem rep_c (g fg k fcap gr size : Nat) (sh : List Bool) (hsh : sh.length = 10) (pre : List Value) (hpre : pre.length = k * 4) (hk : k ≤ 4096) (kad : Option Addr) (kcap : Nat) (sad : Option Addr) (scap fgr fat : Nat) (init : List RE) (last : RE) (kcs : List Value) (zs0 : List Nat) (z : Nat) (fp : List Nat) (lo : Nat) (hi : Int)
    (hz0 : zs0.length = init.length) (hn : init.length ≤ 65536) (hlo : lo ≤ 255) (hh0 : -1 ≤ hi) (hh1 : hi ≤ 255) (hz : z ≤ 256) (hzs : z ≤ size) (hsz : size ≤ 256) (hkl : kcs.length = (init.length + 1) * 9) :
    Mut Tryz.prog 59 #[Pv g 0, Iv (lo : Nat), Iv hi] [PB g fg (k + 1) fcap (PR gr sh size), FB fg (k + 1) fcap (pre ++ frC kad (init.length + 1) kcap sad (zs0.length + 1) scap fgr fat), KR kad (init.length + 1) kcap kcs, HA.row (.slice sad (zs0.length + 1) scap) 3 1 (zs0.length + 1) ((zs0 ++ [z]).map fun z : Nat => Iv (z : Nat)), HA.forest fp (init ++ [last]) kcs]
      (fun _ : Nat => Iv (growE (size - z + z * timesM lo hi)))
      (fun b => [PB g fg (k + 1) fcap (PR gr sh (size - z + z * timesM lo hi)), FB fg (k + 1) fcap (pre ++ frC kad (init.length + 1) kcap sad (zs0.length + 1) scap fgr fat), KR kad (init.length + 1) kcap (kcs.take (init.length * 9) ++ reCells (.rep lo hi last) (.slice (some ⟨b, 0, none⟩) 1 1)), HA.row (.slice sad (zs0.length + 1) scap) 3 1 (zs0.length + 1) ((zs0 ++ [z * timesM lo hi]).map fun z : Nat => Iv (z : Nat)), HA.forest (b :: fp) (init ++ [.rep lo hi last]) (kcs.take (init.length * 9) ++ reCells (.rep lo hi last) (.slice (some ⟨b, 0, none⟩) 1 1))]) := by
  intro w0 B R w h
  replace h : Sat w0 B (PB g fg (k + 1) fcap (PR gr sh size) :: FB fg (k + 1) fcap (pre ++ frC kad (init.length + 1) kcap sad (zs0.length + 1) scap fgr fat) :: KR kad (init.length + 1) kcap kcs :: HA.row (.slice sad (zs0.length + 1) scap) 3 1 (zs0.length + 1) ((zs0 ++ [z]).map fun z : Nat => Iv (z : Nat)) :: HA.forest fp (init ++ [last]) kcs :: R) w := h
  obtain ⟨kg, rfl⟩ := (row_form (h.all (KR kad (init.length + 1) kcap kcs) (by simp))).2.2.2.2 (by omega)
  obtain ⟨sg, rfl⟩ := (row_form (h.all (HA.row (.slice sad (zs0.length + 1) scap) 3 1 (zs0.length + 1) ((zs0 ++ [z]).map fun z : Nat => Iv (z : Nat))) (by simp))).2.2.2.2 (by omega)
  have htop := top_c g fg k fcap (PR gr sh size) (pre ++ frC (some ⟨kg, 0, none⟩) (init.length + 1) kcap (some ⟨sg, 0, none⟩) (zs0.length + 1) scap fgr fat) hk
  obtain ⟨tm, htm⟩ : ∃ tm, tm = timesM lo hi := ⟨_, rfl⟩
  have htm2 : tm ≤ 255 ∨ tm ≤ 256 := by rw [htm]; unfold timesM; split <;> omega
  have hmul : z * tm ≤ 256 * 256 := Nat.mul_le_mul hz (by omega)
  rw [← htm]
  obtain ⟨c9, hc9⟩ : ∃ c9, c9 = kcs.drop (init.length * 9) := ⟨_, rfl⟩
  have hc9l : c9.length = 9 := by rw [hc9, List.length_drop]; omega
  obtain ⟨H0, hH0⟩ : ∃ H0, H0 = HA.forest fp (init ++ [last]) kcs := ⟨_, rfl⟩
  rw [← hH0] at h
  refine calls_of_ES TB Tryz.func59 rfl _ Tryz.ntmps59 rfl h ?_; refine .go ?_; (repeat constructor); refine .as_ ?_; refine .go ?_; (repeat constructor); refine .mv ?_; refine EL.callM1 rfl rfl rfl ent38 rfl htop (by repeat constructor) ?_; refine .as_ ?_; refine .go ?_; (repeat constructor); refine .mv ?_; refine .nc ?_; refine .fa ?_; refine EL.loadR rfl rfl rfl rfl rfl (by repeat constructor) (pre_at pre _ (k * 4) 0 hpre) ?_; refine .lL ?_; refine EL.sub1 rfl rfl rfl rfl (by omega) (by omega) ?_; refine .as_ ?_; refine .go ?_; (repeat constructor); refine .mv ?_; refine .as_ ?_; refine .go ?_; (repeat constructor); refine .go ?_; (repeat constructor); refine .mv ?_; refine .ls ?_; refine .go ?_; repeat constructor
  refine ES.cutC (X := Unit) (fun _ => [(0, Pv g 0), (1, Iv (lo : Nat)), (2, Iv hi), (7, Pv fg (k * 4)), (8, Iv (init.length : Nat)), (9, Iv (tm : Nat))]) (fun _ => PB g fg (k + 1) fcap (PR gr sh size) :: FB fg (k + 1) fcap (pre ++ frC (some ⟨kg, 0, none⟩) (init.length + 1) kcap (some ⟨sg, 0, none⟩) (zs0.length + 1) scap fgr fat) :: KR (some ⟨kg, 0, none⟩) (init.length + 1) kcap kcs :: HA.row (.slice (some ⟨sg, 0, none⟩) (zs0.length + 1) scap) 3 1 (zs0.length + 1) ((zs0 ++ [z]).map fun z : Nat => Iv (z : Nat)) :: H0 :: R) ?_ (fun _ => ?_)
  · refine ES.condD rfl (fun hneg => ?_) (fun hpos => ?_)
    · refine .go ?_; (repeat constructor); refine .mv ?_
      refine EL.ofRV (RV.maxI rfl rfl) rfl rfl rfl (by intro c h; cases h) ?_
      refine .as_ ?_; refine .go ?_; repeat constructor
      exact .cx () ⟨rfl, rfl, rfl, rfl, rfl, getA rfl (congrArg Iv (by rw [htm]; unfold timesM; rw [if_pos hneg]; omega)), trivial⟩
    · refine .go ?_; repeat constructor
      exact .cx () ⟨rfl, rfl, rfl, rfl, rfl, getA rfl (congrArg Iv (by rw [htm]; unfold timesM; rw [if_neg hpos]; omega)), trivial⟩
  refine .go ?_; (repeat constructor); refine .mv ?_; refine .nc ?_; refine .fa ?_; refine EL.loadR rfl rfl rfl rfl rfl (by repeat constructor) (pre_at pre _ (k * 4) 1 hpre) ?_; refine .mv ?_; refine .i1 ?_
  refine EL.loadR (v := Iv (z : Nat)) rfl rfl rfl rfl rfl (by repeat constructor) (by rw [List.map_append, List.getElem?_append_right (by simp [hz0])]; simp [hz0]) ?_
  refine .as_ ?_; refine .go ?_; repeat constructor
  refine ES.draw (X := Nat) (fun b => [(0, Pv g 0), (7, Pv fg (k * 4)), (8, Iv (init.length : Nat)), (9, Iv (tm : Nat)), (10, Iv (z : Nat))]) (fun b => PB g fg (k + 1) fcap (PR gr sh size) :: FB fg (k + 1) fcap (pre ++ frC (some ⟨kg, 0, none⟩) (init.length + 1) kcap (some ⟨sg, 0, none⟩) (zs0.length + 1) scap fgr fat) :: KR (some ⟨kg, 0, none⟩) (init.length + 1) kcap (kcs.take (init.length * 9) ++ reCells (.rep lo hi last) (.slice (some ⟨b, 0, none⟩) 1 1)) :: HA.row (.slice (some ⟨sg, 0, none⟩) (zs0.length + 1) scap) 3 1 (zs0.length + 1) ((zs0 ++ [z]).map fun z : Nat => Iv (z : Nat)) :: HA.row (.slice (some ⟨b, 0, none⟩) 1 1) 46 9 1 c9 :: H0 :: R)
    (FB fg (k + 1) fcap (pre ++ frC (some ⟨kg, 0, none⟩) (init.length + 1) kcap (some ⟨sg, 0, none⟩) (zs0.length + 1) scap fgr fat) :: KR (some ⟨kg, 0, none⟩) (init.length + 1) kcap kcs :: R) mixed (.i (by repeat constructor)) ?_ (fun b => ?_)
  · refine .tk 0 rfl (RV.move rfl) ?_; refine .tk 1 rfl (RV.nilCheck rfl) ?_; refine .tk 2 rfl (RV.fieldAddr rfl rfl rfl rfl rfl rfl) ?_; refine .tk 3 rfl (RV.loadR rfl rfl rfl (by repeat constructor) (pre_at pre _ (k * 4) 0 hpre)) ?_; refine .tk 4 rfl (RV.move rfl) ?_; refine .tk 5 rfl (RV.move rfl) ?_; refine .tk 6 rfl (RV.move rfl) ?_; refine .tk 7 rfl (RV.move rfl) ?_; refine .tk 8 rfl (RV.nilCheck rfl) ?_; refine .tk 9 rfl (RV.fieldAddr rfl rfl rfl rfl rfl rfl) ?_; refine .tk 10 rfl (RV.loadR rfl rfl rfl (by repeat constructor) (pre_at pre _ (k * 4) 0 hpre)) ?_; refine .tk 11 rfl (RV.move rfl) ?_; refine .tk 12 rfl (RV.indexAddrL rfl rfl rfl rfl rfl (by omega)) ?_
    refine .tk 13 rfl (RV.loadRA c9 rfl rfl rfl (by rw [hc9l]; rfl) (by repeat constructor) (by rw [hc9l, show 0 + init.length * ty46.size = init.length * 9 from Nat.zero_add _, ← hc9, List.take_of_length_le (by omega)])) ?_
    refine .ld 14 ?_
    (refine EL.buildSlice1 rfl rfl rfl rfl rfl rfl (by show c9.toArray.size = 9; simp [hc9l]) rfl rfl rfl ?_; intro b45)
    refine .nx ?_; refine .tk 15 rfl (RV.buildS (reCells (.rep lo hi last) (.slice (some ⟨b45, 0, none⟩) 1 1)).toArray rfl rfl rfl rfl rfl) ?_; refine .tk 16 rfl (RV.indexAddrL rfl rfl rfl rfl rfl (by omega)) ?_; refine ED.last 17 rfl (by decide +kernel) (by decide +kernel) (by decide +kernel) ?_
    (refine EL.storeRA (vs := reCells (.rep lo hi last) (.slice (some ⟨b45, 0, none⟩) 1 1)) rfl rfl rfl rfl rfl (by repeat constructor) (by rw [hkl]; show 0 + init.length * 9 + 9 ≤ _; omega) (all1 rfl) ?_; refine EL.rowEq (v := .slice (some ⟨kg, 0, none⟩) (init.length + 1) kcap) (by repeat constructor) (put_last _ _ _ (by rw [hkl]; show (init.length + 1) * 9 = 0 + init.length * 9 + 9; omega)) ?_)
    refine EL.endQ ?_
    exact PX.cutX b45 ⟨rfl, rfl, rfl, rfl, rfl, trivial⟩ (by rw [show 0 + init.length * ty46.size = init.length * 9 from Nat.zero_add _]; exact (.i (by repeat constructor)))
  have hgr := grow_c g fg (k + 1) fcap gr size (size - z + z * tm) sh (((z * tm : Nat) : Int) - (z : Int)) hsh (by omega) (by omega)
  refine .go ?_; (repeat constructor); refine .mv ?_; refine .nc ?_; refine .fa ?_; refine EL.loadR rfl rfl rfl rfl rfl (by repeat constructor) (pre_at pre _ (k * 4) 1 hpre) ?_; refine .mv ?_; refine .mv ?_; refine .mv ?_; refine EL.mulN rfl rfl rfl rfl rfl (by omega) ?_; refine .i1 ?_
  (refine EL.storeR rfl rfl rfl rfl rfl rfl (by repeat constructor) (by simp [hz0]) ?_; refine EL.rowEq (v := .slice (some ⟨sg, 0, none⟩) (zs0.length + 1) scap) (by repeat constructor) (set_last zs0 z (z * tm) init.length hz0) ?_)
  refine .go ?_; (repeat constructor); refine .mv ?_; refine .mv ?_; refine .mv ?_; refine EL.mulN rfl rfl rfl rfl rfl (by omega) ?_; refine .mv ?_; refine EL.sub_ (((z * tm : Nat) : Int) - (z : Int)) rfl rfl rfl rfl (wrap_i64 _ (by omega) (by omega)) ?_; refine EL.callM1 rfl rfl rfl ent56 rfl hgr (by repeat constructor) ?_; refine .as_ ?_; refine .go ?_; repeat constructor
  refine PX.ret rfl Tryz.results59 (.cons (.tmp rfl) .nil) (fun w hs => ⟨b, rfl, ?_⟩)
  rw [hH0] at hs
  have h2 := Sat.repTree (lo := lo) (hi := hi) hc9 (hs.ent (H' := HA.row (.slice (some ⟨b, 0, none⟩) 1 1) 46 9 1 c9 :: HA.forest fp (init ++ [last]) kcs :: PB g fg (k + 1) fcap (PR gr sh (size - z + z * tm)) :: FB fg (k + 1) fcap (pre ++ frC (some ⟨kg, 0, none⟩) (init.length + 1) kcap (some ⟨sg, 0, none⟩) (zs0.length + 1) scap fgr fat) :: KR (some ⟨kg, 0, none⟩) (init.length + 1) kcap (kcs.take (init.length * 9) ++ reCells (.rep lo hi last) (.slice (some ⟨b, 0, none⟩) 1 1)) :: HA.row (.slice (some ⟨sg, 0, none⟩) (zs0.length + 1) scap) 3 1 (zs0.length + 1) ((zs0 ++ [z * tm]).map fun z : Nat => Iv (z : Nat)) :: R) (.i (by repeat constructor)))
  exact h2.ent (.i (by repeat constructor))
theorem close_none (g fg fcap : Nat) (rest : List Value) :
    Mut Tryz.prog 58 #[Pv g 0] [PB g fg 1 fcap rest] (fun _ : Unit => Iv 10) (fun _ => []) := by
  intro w0 B R w h
  replace h : Sat w0 B (PB g fg 1 fcap rest :: R) w := h
  refine calls_of_ES TB Tryz.func58 rfl _ Tryz.ntmps58 rfl h ?_; refine .go ?_; (repeat constructor); refine .as_ ?_; refine .go ?_; (repeat constructor); refine .mv ?_; refine .nc ?_; refine .fa ?_; refine .lb ?_; refine .lL ?_; refine .ei ?_; refine .go ?_; (repeat constructor); refine ES.condK true rfl (decide_eq_true rfl) ?_; refine .go ?_; (repeat constructor); refine .as_ ?_; refine .go ?_; repeat constructor
  exact PX.ret rfl Tryz.results58 (.cons (.tmp rfl) .nil) (fun w hs => ⟨(), rfl, hs.ent (.i (by repeat constructor))⟩)
abbrev grC (tgr : Nat) (tks : List RE) (b : Nat) : List Value := reCells (.group tgr (.cat tks)) (.slice (some ⟨b, 0, none⟩) 1 1)
theorem take_sum (zs : List Nat) (i : Nat) (h : i < zs.length) : (zs.take (i + 1)).sum = (zs.take i).sum + zs.getD i 0 := by
  rw [List.take_succ_eq_append_getElem h, List.sum_append]
  simp [List.getD_eq_getElem?_getD, List.getElem?_eq_getElem h]
theorem take_sum_le (zs : List Nat) (i : Nat) : (zs.take i).sum ≤ zs.sum := by
  conv => rhs; rw [← List.take_append_drop i zs]
  rw [List.sum_append]; omega
theorem close_c (g fg k fcap gr size : Nat) (sh : List Bool) (hsh : sh.length = 10) (pre : List Value) (hpre : pre.length = k * 4) (hk : k + 2 ≤ 4096)
    (pad : Option Addr) (pcap : Nat) (psad : Option Addr) (pscap pgr pat : Nat) (pks : List RE) (pkcs : List Value) (pzs : List Nat) (pfp : List Nat) (hpn : pks.length ≤ 65535) (hpz : pzs.length ≤ 65535) (hpl : pkcs.length = pks.length * 9)
    (kad : Option Addr) (kcap : Nat) (sad : Option Addr) (scap tgr tat : Nat) (tks : List RE) (tkcs : List Value) (tzs : List Nat) (tfp : List Nat) (htg : tgr ≤ 9) (hts : tzs.sum ≤ 256) (htn : tzs.length ≤ 65535) :
    Mut Tryz.prog 58 #[Pv g 0] [PB g fg (k + 2) fcap (PR gr sh size), FB fg (k + 2) fcap ((pre ++ frC pad pks.length pcap psad pzs.length pscap pgr pat) ++ frC kad tks.length kcap sad tzs.length scap tgr tat), KR pad pks.length pcap pkcs, ZR psad pscap pzs, HA.forest pfp pks pkcs, KR kad tks.length kcap tkcs, ZR sad scap tzs, HA.forest tfp tks tkcs]
      (fun _ : ((Option Addr × Nat) × (Option Addr × Nat)) × Nat => Iv 0)
      (fun x => [PB g fg (k + 1) fcap (PR gr (sh.set tgr true) size), FB fg (k + 1) fcap (pre ++ frC x.1.1.1 (pks.length + 1) x.1.1.2 x.1.2.1 (pzs.length + 1) x.1.2.2 pgr pat), KR x.1.1.1 (pks.length + 1) x.1.1.2 (pkcs ++ grC tgr tks x.2), ZR x.1.2.1 x.1.2.2 (pzs ++ [tzs.sum]), HA.forest (pfp ++ ([x.2] ++ ((Value.slice kad tks.length kcap).ownBlock.toList ++ tfp))) (pks ++ [.group tgr (.cat tks)]) (pkcs ++ grC tgr tks x.2)]) := by
  intro w0 B R w h
  have hcap : k + 2 ≤ fcap := (row_form (h.all (FB fg (k + 2) fcap ((pre ++ frC pad pks.length pcap psad pzs.length pscap pgr pat) ++ frC kad tks.length kcap sad tzs.length scap tgr tat)) (by simp))).2.1
  obtain ⟨F0, hF0⟩ : ∃ F0, F0 = HA.forest pfp pks pkcs := ⟨_, rfl⟩
  obtain ⟨F1, hF1⟩ : ∃ F1, F1 = HA.forest tfp tks tkcs := ⟨_, rfl⟩
  obtain ⟨K1, hK1⟩ : ∃ K1, K1 = KR kad tks.length kcap tkcs := ⟨_, rfl⟩
  replace h : Sat w0 B (PB g fg (k + 2) fcap (PR gr sh size) :: FB fg (k + 2) fcap ((pre ++ frC pad pks.length pcap psad pzs.length pscap pgr pat) ++ frC kad tks.length kcap sad tzs.length scap tgr tat) :: KR pad pks.length pcap pkcs :: ZR psad pscap pzs :: F0 :: K1 :: ZR sad scap tzs :: F1 :: R) w := by rw [hF0, hF1, hK1]; exact h
  have hp2 : (pre ++ frC pad pks.length pcap psad pzs.length pscap pgr pat).length = (k + 1) * 4 := by rw [List.length_append, hpre]; simp [frC]; omega
  have htop := top_c g fg (k + 1) fcap (PR gr sh size) ((pre ++ frC pad pks.length pcap psad pzs.length pscap pgr pat) ++ frC kad tks.length kcap sad tzs.length scap tgr tat) (by omega)
  have htl := take_sum_le tzs
  refine calls_of_ES TB Tryz.func58 rfl _ Tryz.ntmps58 rfl h ?_; refine .go ?_; (repeat constructor); refine .as_ ?_; refine .go ?_; (repeat constructor); refine .mv ?_; refine .nc ?_; refine .fa ?_; refine .lb ?_; refine .lL ?_; refine .ei ?_; refine .go ?_; (repeat constructor); refine ES.condK false rfl (decide_eq_false (by omega)) ?_; refine .go ?_; (repeat constructor); refine .mv ?_; refine EL.callM1 rfl rfl rfl ent38 rfl htop (by repeat constructor) ?_; refine .nc ?_
  refine EL.ofRV (RV.loadRA (frC kad tks.length kcap sad tzs.length scap tgr tat) rfl rfl rfl rfl (by repeat constructor) (by rw [List.drop_left' hp2]; rfl)) rfl rfl rfl (by intro c h; cases h) ?_
  (refine .al ?_; intro g3); refine .sa ?_; refine .go ?_; repeat constructor
  refine ES.draw (X := Unit) (fun _ => [(0, Pv g 0), (3, Pv g3 0)]) (fun _ => HA.blk g3 (.cells (frC kad tks.length kcap sad tzs.length scap tgr tat).toArray 103) :: PB g fg (k + 1) fcap (PR gr sh size) :: FB fg (k + 2) fcap ((pre ++ frC pad pks.length pcap psad pzs.length pscap pgr pat) ++ frC kad tks.length kcap sad tzs.length scap tgr tat) :: KR pad pks.length pcap pkcs :: ZR psad pscap pzs :: F0 :: K1 :: ZR sad scap tzs :: F1 :: R) (PB g fg (k + 2) fcap (PR gr sh size) :: R) mixed (.i (by repeat constructor)) ?_ (fun _ => ?_)
  · refine .tk 0 rfl (RV.move rfl) ?_; refine .tk 1 rfl (RV.move rfl) ?_; refine .tk 2 rfl (RV.nilCheck rfl) ?_; refine .tk 3 rfl (RV.fieldAddr rfl rfl rfl rfl rfl rfl) ?_; refine .tk 4 rfl (RV.loadB rfl rfl rfl (by repeat constructor) rfl) ?_; refine .tk 5 rfl (RV.move rfl) ?_; refine .tk 6 rfl (RV.nilCheck rfl) ?_; refine .tk 7 rfl (RV.fieldAddr rfl rfl rfl rfl rfl rfl) ?_; refine .tk 8 rfl (RV.loadB rfl rfl rfl (by repeat constructor) rfl) ?_; refine .tk 9 rfl (RV.lenL rfl rfl rfl) ?_; refine .tk 10 rfl (RV.sub1 rfl rfl (by omega) (by omega)) ?_; refine .tk 11 rfl (RV.sliceHi (hi := k + 1) rfl rfl rfl rfl rfl (by omega)) ?_; refine .tk 12 rfl (RV.nilCheck rfl) ?_; refine .tk 13 rfl (RV.fieldAddr rfl rfl rfl rfl rfl rfl) ?_; refine ED.last 14 rfl (by decide +kernel) (by decide +kernel) (by decide +kernel) ?_
    (refine EL.storeB rfl rfl rfl rfl rfl rfl (by repeat constructor) (by simp) ?_; refine EL.blkEq (g := g) (by repeat constructor) (congrArg (fun a => Obj.cells a 107 (0, 0)) (pr_frames_set _ _ _)) ?_)
    refine EL.endQ ?_
    exact .cy ()
  refine ES.imp (H' := HA.blk g3 (.cells (frC kad tks.length kcap sad tzs.length scap tgr tat).toArray 103) :: PB g fg (k + 1) fcap (PR gr sh size) :: FB fg (k + 1) fcap (pre ++ frC pad pks.length pcap psad pzs.length pscap pgr pat) :: KR pad pks.length pcap pkcs :: ZR psad pscap pzs :: F0 :: K1 :: ZR sad scap tzs :: F1 :: R) (fun w hs => ?_) ?_
  · have h1 := Sat.cutRow (m := k + 1) (hs.ent (H' := FB fg (k + 2) fcap ((pre ++ frC pad pks.length pcap psad pzs.length pscap pgr pat) ++ frC kad tks.length kcap sad tzs.length scap tgr tat) :: HA.blk g3 (.cells (frC kad tks.length kcap sad tzs.length scap tgr tat).toArray 103) :: PB g fg (k + 1) fcap (PR gr sh size) :: KR pad pks.length pcap pkcs :: ZR psad pscap pzs :: F0 :: K1 :: ZR sad scap tzs :: F1 :: R) (.i (by repeat constructor))) (by omega)
    rw [List.take_left' hp2] at h1
    exact h1.ent (.i (by repeat constructor))
  refine .g0 ?_; repeat constructor
  refine ES.drawG (X := Unit) (fun _ => [(0, Pv g 0), (3, Pv g3 0)]) (fun _ => HA.blk g3 (.cells (frC kad tks.length kcap sad tzs.length scap tgr tat).toArray 103) :: PB g fg (k + 1) fcap (PR gr (sh.set tgr true) size) :: FB fg (k + 1) fcap (pre ++ frC pad pks.length pcap psad pzs.length pscap pgr pat) :: KR pad pks.length pcap pkcs :: ZR psad pscap pzs :: F0 :: K1 :: ZR sad scap tzs :: F1 :: R) 6 (HA.blk g3 (.cells (frC kad tks.length kcap sad tzs.length scap tgr tat).toArray 103) :: R) mixed (by decide +kernel) (.i (by repeat constructor)) ?_ (fun _ => ?_)
  · refine .tk 0 rfl (RV.move rfl) ?_; refine .tk 1 rfl (RV.fieldAddr rfl rfl rfl rfl rfl rfl) ?_; refine .tk 2 rfl (RV.loadB rfl rfl rfl (by repeat constructor) rfl) ?_; refine .tk 3 rfl (RV.nilCheck rfl) ?_; refine .tk 4 rfl (RV.fieldAddr rfl rfl rfl rfl rfl rfl) ?_; refine .tk 5 rfl (RV.indexAddrA rfl rfl rfl rfl rfl (by omega)) ?_; refine EG.loud 6 rfl (by decide +kernel) ?_
    (refine EL.storeB rfl rfl rfl rfl rfl rfl (by repeat constructor) (by rw [pr_len _ _ _ _ hsh]; show 0 + 2 + tgr * 1 < 13; omega) ?_; refine EL.blkEq (g := g) (by repeat constructor) (congrArg (fun a => Obj.cells a 107 (0, 0)) (pr_shut_put _ gr size tgr _ sh true (by omega) (by show 0 + 2 + tgr * 1 = 2 + tgr; omega))) ?_)
    refine EG.nextL (by decide +kernel) rfl (by decide +kernel) ?_; refine .dn ?_
    exact .cy ()
  refine .go ?_; (repeat constructor); refine .as_ ?_; refine .go ?_; (repeat constructor); refine .fa ?_; refine .lb ?_; refine .lL ?_; refine .mv ?_; refine .go ?_; repeat constructor
  refine ES.loop (σ := Nat) (fun i => i ≤ tzs.length) (fun i => [(0, Pv g 0), (3, Pv g3 0), (4, Iv ((tzs.take i).sum : Nat)), (38, .slice sad tzs.length scap), (39, Iv (tzs.length : Nat)), (40, Iv (i : Nat))])
    (fun i => HA.blk g3 (.cells (frC kad tks.length kcap sad tzs.length scap tgr tat).toArray 103) :: PB g fg (k + 1) fcap (PR gr (sh.set tgr true) size) :: FB fg (k + 1) fcap (pre ++ frC pad pks.length pcap psad pzs.length pscap pgr pat) :: KR pad pks.length pcap pkcs :: ZR psad pscap pzs :: F0 :: K1 :: ZR sad scap tzs :: F1 :: R) (fun i => tzs.length - i) 0 (Nat.zero_le _) ⟨rfl, rfl, rfl, rfl, rfl, rfl, trivial⟩ (.i (by repeat constructor)) ?_
  intro i hi
  dsimp only at hi ⊢
  refine .go ?_; (repeat constructor); refine .ls ?_; refine .go ?_; repeat constructor
  refine ES.condD rfl (fun hlt => ?_) (fun hge => ?_)
  · have hlt' : i < tzs.length := by omega
    refine ES.rowForm (e := 3) (sz := 1) (n := tzs.length) (cs := tzs.map fun z : Nat => Iv (z : Nat)) (ad := sad) (len := tzs.length) (cap := scap) (by repeat constructor) (fun hf => ?_)
    obtain ⟨sg, rfl⟩ := hf.2.2.2.2 (by omega)
    have hs1 := take_sum tzs i hlt'
    have hs2 := htl (i + 1)
    refine .go ?_; (repeat constructor); refine .i1 ?_; refine EL.loadRm (fun z : Nat => Iv (z : Nat)) 0 rfl rfl rfl rfl rfl (by repeat constructor) hlt' ?_; refine .as_ ?_; refine .go ?_; (repeat constructor); refine .mv ?_; refine .mv ?_; refine EL.addN rfl rfl rfl rfl rfl (by omega) ?_; refine .as_ ?_; refine .go ?_; (repeat constructor); refine .go ?_; (repeat constructor); refine .a1 ?_; refine .mv ?_; refine .go ?_; repeat constructor
    exact .lx (i + 1) (by omega) (by omega) ⟨rfl, rfl, getA rfl (congrArg (fun n : Nat => Iv (n : Nat)) hs1.symm), rfl, rfl, rfl, trivial⟩
  obtain rfl : i = tzs.length := by omega
  rw [List.take_length]
  have hput := fun b => put_c g fg k fcap (PR gr (sh.set tgr true) size) pre hpre (by omega) pad pks.length pcap psad pscap pgr pat pkcs (grC tgr tks b) pzs tzs.sum (by omega) (by omega) hpl rfl (all1 rfl)
  refine .go ?_; (repeat constructor); refine .mv ?_; refine .fa ?_; refine .lb ?_; refine .fa ?_; refine .lb ?_; refine EL.buildS (reCells (.cat tks) (.slice kad tks.length kcap)).toArray rfl rfl rfl rfl rfl rfl rfl ?_; (refine .b1 ?_; intro b54)
  (refine EL.buildS (grC tgr tks b54).toArray rfl rfl rfl rfl rfl rfl rfl ?_)
  refine .mv ?_; (refine EL.callM rfl rfl rfl ent55 rfl (hput b54) (by repeat constructor) ?_; intro x); refine .as_ ?_; refine .go ?_; repeat constructor
  refine PX.ret rfl Tryz.results58 (.cons (.tmp rfl) .nil) (fun w hs => ⟨(x, b54), rfl, ?_⟩)
  rw [hF0, hF1, hK1] at hs
  have h1 := Sat.seal (.cat tks) rfl (hs.ent (H' := KR kad tks.length kcap tkcs :: HA.forest tfp tks tkcs :: HA.row (.slice (some ⟨b54, 0, none⟩) 1 1) 46 9 1 (reCells (.cat tks) (.slice kad tks.length kcap)) :: HA.forest pfp pks pkcs :: PB g fg (k + 1) fcap (PR gr (sh.set tgr true) size) :: FB fg (k + 1) fcap (pre ++ frC x.1.1 (pks.length + 1) x.1.2 x.2.1 (pzs.length + 1) x.2.2 pgr pat) :: KR x.1.1 (pks.length + 1) x.1.2 (pkcs ++ grC tgr tks b54) :: ZR x.2.1 x.2.2 (pzs ++ [tzs.sum]) :: R) (.i (by repeat constructor)))
  have h2 := Sat.seal (.group tgr (.cat tks)) rfl (h1.ent (H' := HA.row (.slice (some ⟨b54, 0, none⟩) 1 1) 46 9 1 (reCells (.cat tks) (.slice kad tks.length kcap)) :: HA.forest ((Value.slice kad tks.length kcap).ownBlock.toList ++ tfp) [.cat tks] (reCells (.cat tks) (.slice kad tks.length kcap)) :: HA.forest pfp pks pkcs :: PB g fg (k + 1) fcap (PR gr (sh.set tgr true) size) :: FB fg (k + 1) fcap (pre ++ frC x.1.1 (pks.length + 1) x.1.2 x.2.1 (pzs.length + 1) x.2.2 pgr pat) :: KR x.1.1 (pks.length + 1) x.1.2 (pkcs ++ grC tgr tks b54) :: ZR x.2.1 x.2.2 (pzs ++ [tzs.sum]) :: R) (.i (by repeat constructor)))
  have h3 := Sat.forestApp (h2.ent (H' := HA.forest pfp pks pkcs :: HA.forest ([b54] ++ ((Value.slice kad tks.length kcap).ownBlock.toList ++ tfp)) [.group tgr (.cat tks)] (grC tgr tks b54) :: PB g fg (k + 1) fcap (PR gr (sh.set tgr true) size) :: FB fg (k + 1) fcap (pre ++ frC x.1.1 (pks.length + 1) x.1.2 x.2.1 (pzs.length + 1) x.2.2 pgr pat) :: KR x.1.1 (pks.length + 1) x.1.2 (pkcs ++ grC tgr tks b54) :: ZR x.2.1 x.2.2 (pzs ++ [tzs.sum]) :: R) (.i (by repeat constructor)))
  exact h3.ent (.i (by repeat constructor))
structure POk (p : PS) (N : Nat) : Prop where
  ok : p.Ok
  deep : p.rest.length ≤ p.groups
  kids : ∀ f ∈ p.top :: p.rest, f.kids.length ≤ N
structure TokOk (p : PS) (k : Tok) : Prop where
  rep : k.kind = 5 → p.top.kids ≠ [] ∧ 0 ≤ k.lo ∧ k.lo ≤ 255 ∧ -1 ≤ k.hi ∧ k.hi ≤ 255 ∧ (0 ≤ k.hi → k.lo ≤ k.hi)
  back : k.kind = 6 → 1 ≤ k.lo ∧ k.lo ≤ 9
theorem ps0_pok : POk ps0 0 := ⟨ps0_ok, by simp [ps0], by simp [ps0]⟩
theorem takeM_0 {p : PS} {k : Tok} (h : k.kind = 0) : takeM p k = ({ p with top := p.top.put (.byte k.set) 1, size := p.size + 1 }, growE (p.size + 1)) := by unfold takeM; rw [h]; rfl
theorem takeM_1 {p : PS} {k : Tok} (h : k.kind = 1) : takeM p k = ({ p with top := p.top.put .bol 0 }, 0) := by unfold takeM; rw [h]; rfl
theorem takeM_2 {p : PS} {k : Tok} (h : k.kind = 2) : takeM p k = ({ p with top := p.top.put .eol 0 }, 0) := by unfold takeM; rw [h]; rfl
theorem takeM_3 {p : PS} {k : Tok} (h : k.kind = 3) : takeM p k = if p.groups = 9 then (p, 4) else ({ p with top := ⟨[], [], p.groups + 1, k.at_⟩, rest := p.top :: p.rest, groups := p.groups + 1 }, 0) := by unfold takeM; rw [h]; rfl
theorem takeM_4 {p : PS} {k : Tok} (h : k.kind = 4) : takeM p k = match p.rest with
    | [] => (p, 10)
    | f :: r => ({ p with top := f.put (.group p.top.group (.cat p.top.kids)) p.top.sizes.sum, rest := r, shut := p.shut.set p.top.group true }, 0) := by unfold takeM; rw [h]; rfl
theorem takeM_5 {p : PS} {k : Tok} (h : k.kind = 5) : takeM p k =
    let old := p.top.sizes.getLastD 0
    let f := { p.top with kids := p.top.kids.dropLast ++ [.rep k.lo.toNat k.hi (p.top.kids.getLastD .bol)], sizes := p.top.sizes.dropLast ++ [old * timesM k.lo.toNat k.hi] }
    ({ p with top := f, size := p.size - old + old * timesM k.lo.toNat k.hi }, growE (p.size - old + old * timesM k.lo.toNat k.hi)) := by unfold takeM; rw [h]; rfl
theorem takeM_6 {p : PS} {k : Tok} (h : k.kind = 6) : takeM p k = if p.shut.getD k.lo.toNat false = true then ({ p with top := p.top.put (.back k.lo.toNat) 1, size := p.size + 1 }, growE (p.size + 1)) else (p, 11) := by unfold takeM; rw [h]; rfl
theorem takeM_7 {p : PS} {k : Tok} (h : 7 ≤ k.kind) : takeM p k = (p, k.e) := by
  unfold takeM
  split <;> first | rfl | omega
theorem growE_le {n : Nat} (h : growE n = 0) : n ≤ 256 := by
  unfold growE at h; split at h <;> omega
theorem put_kids (f : Frame) (r : RE) (n : Nat) : (f.put r n).kids = f.kids ++ [r] := rfl
theorem put_tot (f : Frame) (r : RE) (n : Nat) : (f.put r n).tot = f.tot + n := by simp [Frame.tot, Frame.put]
theorem POk.put {p : PS} {N : Nat} (h : POk p N) (r : RE) (n : Nat) (hs : p.size + n ≤ 256) : POk { p with top := p.top.put r n, size := p.size + n } (N + 1) := by
  refine ⟨⟨?_, ?_, hs, h.ok.shut, h.ok.groups, ?_⟩, h.deep, ?_⟩
  · intro f hf
    rcases List.mem_cons.1 hf with rfl | hf
    · have := h.ok.len p.top (by simp)
      simp [Frame.put, this]
    · exact h.ok.len f (by simp [hf])
  · have := h.ok.tot
    show p.size + n = (p.top.put r n).tot + (p.rest.map Frame.tot).sum
    rw [put_tot]; omega
  · intro f hf
    rcases List.mem_cons.1 hf with rfl | hf
    · exact h.ok.num p.top (by simp)
    · exact h.ok.num f (by simp [hf])
  · intro f hf
    rcases List.mem_cons.1 hf with rfl | hf
    · have := h.kids p.top (by simp)
      simp only [put_kids, List.length_append, List.length_singleton]; omega
    · have := h.kids f (by simp [hf]); omega
theorem dropLast_last {α : Type _} (l : List α) (d : α) (h : l ≠ []) : l = l.dropLast ++ [l.getLastD d] := by
  rw [List.getLastD_eq_getLast?, List.getLast?_eq_some_getLast h]
  exact (List.dropLast_concat_getLast h).symm
theorem takeM_ok {p : PS} {N : Nat} {k : Tok} (h : POk p N) (hk : TokOk p k) (he : (takeM p k).2 = 0) (h7 : k.kind ≤ 6) : POk (takeM p k).1 (N + 1) := by
  rcases (by omega : k.kind = 0 ∨ k.kind = 1 ∨ k.kind = 2 ∨ k.kind = 3 ∨ k.kind = 4 ∨ k.kind = 5 ∨ k.kind = 6) with h0 | h0 | h0 | h0 | h0 | h0 | h0
  · rw [takeM_0 h0] at he ⊢
    exact h.put _ 1 (growE_le he)
  · rw [takeM_1 h0]
    exact h.put _ 0 h.ok.le
  · rw [takeM_2 h0]
    exact h.put _ 0 h.ok.le
  · rw [takeM_3 h0] at he ⊢
    split at he
    · cases he
    · rename_i hg
      rw [if_neg hg]
      have h9 := h.ok.groups
      refine ⟨⟨?_, ?_, h.ok.le, h.ok.shut, by simp only; omega, ?_⟩, by simp only [List.length_cons]; have := h.deep; omega, ?_⟩
      · intro f hf
        rcases List.mem_cons.1 hf with rfl | hf
        · rfl
        · exact h.ok.len f hf
      · have := h.ok.tot
        simp only [List.map_cons, List.sum_cons]
        simp only [Frame.tot, List.sum_nil] at this ⊢
        omega
      · intro f hf
        rcases List.mem_cons.1 hf with rfl | hf
        · simp only; omega
        · exact h.ok.num f hf
      · intro f hf
        rcases List.mem_cons.1 hf with rfl | hf
        · simp
        · have := h.kids f hf; omega
  · rw [takeM_4 h0] at he ⊢
    obtain ⟨top, rest, groups, shut, size⟩ := p
    cases rest with
    | nil => cases he
    | cons f r =>
      dsimp only
      have hdeep := h.deep
      have hok := h.ok
      refine ⟨⟨?_, ?_, h.ok.le, by simp [h.ok.shut], h.ok.groups, ?_⟩, by simp only [List.length_cons] at hdeep ⊢; omega, ?_⟩
      · intro f' hf
        rcases List.mem_cons.1 hf with rfl | hf
        · have := h.ok.len f (by simp)
          simp [Frame.put, this]
        · exact h.ok.len f' (by simp [hf])
      · have := h.ok.tot
        simp only [List.map_cons, List.sum_cons] at this
        show size = (f.put _ _).tot + (r.map Frame.tot).sum
        rw [put_tot]
        simp only [Frame.tot] at this ⊢
        omega
      · intro f' hf
        rcases List.mem_cons.1 hf with rfl | hf
        · exact h.ok.num f (by simp)
        · exact h.ok.num f' (by simp [hf])
      · intro f' hf
        rcases List.mem_cons.1 hf with rfl | hf
        · have := h.kids f (by simp)
          simp only [put_kids, List.length_append, List.length_singleton]; omega
        · have := h.kids f' (by simp [hf]); omega
  · rw [takeM_5 h0] at he ⊢
    dsimp only at he ⊢
    have hne := (hk.rep h0).1
    have hl := h.ok.len p.top (by simp)
    have hse : p.top.sizes ≠ [] := by
      intro e; rw [e] at hl; exact hne (List.eq_nil_of_length_eq_zero hl)
    have hz := dropLast_last p.top.sizes 0 hse
    have hsum : p.top.sizes.sum = p.top.sizes.dropLast.sum + p.top.sizes.getLastD 0 := by
      conv => lhs; rw [hz]
      simp
    refine ⟨⟨?_, ?_, growE_le he, h.ok.shut, h.ok.groups, ?_⟩, h.deep, ?_⟩
    · intro f hf
      rcases List.mem_cons.1 hf with rfl | hf
      · simp [hl]
      · exact h.ok.len f (by simp [hf])
    · have := h.ok.tot
      simp only [Frame.tot, List.sum_append, List.sum_cons, List.sum_nil] at this ⊢
      omega
    · intro f hf
      rcases List.mem_cons.1 hf with rfl | hf
      · exact h.ok.num p.top (by simp)
      · exact h.ok.num f (by simp [hf])
    · intro f hf
      rcases List.mem_cons.1 hf with rfl | hf
      · have := h.kids p.top (by simp)
        simp only [List.length_append, List.length_singleton, List.length_dropLast]; omega
      · have := h.kids f (by simp [hf]); omega
  · rw [takeM_6 h0] at he ⊢
    split at he
    · rename_i hs
      rw [if_pos hs]
      exact h.put _ 1 (growE_le he)
    · cases he
structure FV where
  kad : Option Addr
  kcap : Nat
  sad : Option Addr
  scap : Nat
  kcs : List Value
  fp : List Nat
deriving Inhabited
abbrev FV.cells (v : FV) (f : Frame) : List Value := frC v.kad f.kids.length v.kcap v.sad f.sizes.length v.scap f.group f.at_
abbrev FV.hs (v : FV) (f : Frame) : List HA := [KR v.kad f.kids.length v.kcap v.kcs, ZR v.sad v.scap f.sizes, HA.forest v.fp f.kids v.kcs]
def preC : List (Frame × FV) → List Value
  | [] => []
  | (f, v) :: r => preC r ++ v.cells f
def restH : List (Frame × FV) → List HA
  | [] => []
  | (f, v) :: r => v.hs f ++ restH r
theorem preC_len : ∀ r, (preC r).length = r.length * 4
  | [] => rfl
  | (f, v) :: r => by simp only [preC, List.length_append, preC_len r, List.length_cons, frC, List.length_nil]; omega
abbrev PH (g fg fcap : Nat) (p : PS) (tv : FV) (rv : List (Frame × FV)) : List HA :=
  PB g fg (rv.length + 1) fcap (PR p.groups p.shut p.size) :: FB fg (rv.length + 1) fcap (preC rv ++ tv.cells p.top) :: (tv.hs p.top ++ restH rv)
theorem Sat.tailL {w0 w : World} {B : Nat} {R : List HA} : ∀ {A : List HA}, Sat w0 B (A ++ R) w → Sat w0 B R w
  | [], h => h
  | _ :: A, h => Sat.tailL (A := A) h.tail
structure TX where
  fg : Nat
  fcap : Nat
  tv : FV
  rv : List (Frame × FV)
abbrev TXs (p : PS) : Type := { x : TX // x.rv.map Prod.fst = p.rest }
def TXs.any (p : PS) : TXs p := ⟨⟨0, 0, default, p.rest.map fun f => (f, default)⟩, by simp only [List.map_map]; exact List.map_id _⟩
def tkH (g : Nat) (r : PS × Int) (x : TXs r.1) : List HA := if r.2 = 0 then PH g x.1.fg x.1.fcap r.1 x.1.tv x.1.rv else []
theorem tk_ok {w0 w : World} {B g : Nat} {R : List HA} {r : PS × Int} (x : TXs r.1) (h : Sat w0 B (PH g x.1.fg x.1.fcap r.1 x.1.tv x.1.rv ++ R) w) : Sat w0 B (tkH g r x ++ R) w := by
  unfold tkH
  split
  · exact h
  · exact Sat.tailL h
theorem tk_err {w0 w : World} {B g : Nat} {R : List HA} {r : PS × Int} (x : TXs r.1) (hr : r.2 ≠ 0) (h : Sat w0 B R w) : Sat w0 B (tkH g r x ++ R) w := by
  unfold tkH
  rw [if_neg hr]
  exact h
theorem leafForest {w0 w : World} {B : Nat} {R : List HA} {fp : List Nat} {ks : List RE} {cs : List Value} (r : RE) (hr : r.kids = []) (h : Sat w0 B (HA.forest fp ks cs :: R) w) : Sat w0 B (HA.forest fp (ks ++ [r]) (cs ++ reCells r (.slice none 0 0)) :: R) w :=
  Sat.forestEq h (fun _ _ hf => hf.append (Forest.leaf r hr))
theorem putLeaf_c (g fg fcap : Nat) (p : PS) (tv : FV) (rv : List (Frame × FV)) (hrv : rv.length ≤ 9) (hn : p.top.kids.length ≤ 65535) (hz : p.top.sizes.length ≤ 65535) (r : RE) (hr : r.kids = []) (z : Nat) :
    Mut Tryz.prog 55 #[Pv g 0, .agg (reCells r (.slice none 0 0)).toArray, Iv (z : Nat)] (PH g fg fcap p tv rv)
      (fun _ : (Option Addr × Nat) × (Option Addr × Nat) => Iv 0)
      (fun x => PH g fg fcap { p with top := p.top.put r z } ⟨x.1.1, x.1.2, x.2.1, x.2.2, tv.kcs ++ reCells r (.slice none 0 0), tv.fp⟩ rv) := by
  intro w0 B R w h
  have hkl : tv.kcs.length = p.top.kids.length * 9 := (row_form (h.all (KR tv.kad p.top.kids.length tv.kcap tv.kcs) (by simp))).2.2.2.1
  have hc := put_c g fg rv.length fcap (PR p.groups p.shut p.size) (preC rv) (preC_len rv) (by omega) tv.kad p.top.kids.length tv.kcap tv.sad tv.scap p.top.group p.top.at_ tv.kcs (reCells r (.slice none 0 0)) p.top.sizes z (by omega) (by omega) hkl rfl (all1 rfl)
  have h1 : Sat w0 B ([PB g fg (rv.length + 1) fcap (PR p.groups p.shut p.size), FB fg (rv.length + 1) fcap (preC rv ++ frC tv.kad p.top.kids.length tv.kcap tv.sad p.top.sizes.length tv.scap p.top.group p.top.at_), KR tv.kad p.top.kids.length tv.kcap tv.kcs, ZR tv.sad tv.scap p.top.sizes] ++ (HA.forest tv.fp p.top.kids tv.kcs :: (restH rv ++ R))) w := h
  refine (hc w0 B _ w h1).mono ?_
  rintro e w' ⟨x, he, hs⟩
  refine ⟨x, he, ?_⟩
  have h2 := leafForest r hr (hs.ent (H' := HA.forest tv.fp p.top.kids tv.kcs :: PB g fg (rv.length + 1) fcap (PR p.groups p.shut p.size) :: FB fg (rv.length + 1) fcap (preC rv ++ frC x.1.1 (p.top.kids.length + 1) x.1.2 x.2.1 (p.top.sizes.length + 1) x.2.2 p.top.group p.top.at_) :: KR x.1.1 (p.top.kids.length + 1) x.1.2 (tv.kcs ++ reCells r (.slice none 0 0)) :: ZR x.2.1 x.2.2 (p.top.sizes ++ [z]) :: (restH rv ++ R)) (.i (by repeat constructor)))
  have e1 : (p.top.put r z).kids.length = p.top.kids.length + 1 := by simp [Frame.put]
  have e2 : (p.top.put r z).sizes.length = p.top.sizes.length + 1 := by simp [Frame.put]
  show Sat w0 B (PB g fg (rv.length + 1) fcap (PR p.groups p.shut p.size) :: FB fg (rv.length + 1) fcap (preC rv ++ frC x.1.1 (p.top.put r z).kids.length x.1.2 x.2.1 (p.top.put r z).sizes.length x.2.2 p.top.group p.top.at_) :: KR x.1.1 (p.top.put r z).kids.length x.1.2 (tv.kcs ++ reCells r (.slice none 0 0)) :: ZR x.2.1 x.2.2 (p.top.sizes ++ [z]) :: HA.forest tv.fp (p.top.kids ++ [r]) (tv.kcs ++ reCells r (.slice none 0 0)) :: (restH rv ++ R)) w'
  rw [e1, e2]
  exact h2.ent (.i (by repeat constructor))
theorem Takes.behind (A : HA) : ∀ (Hq R : List HA), Takes (A :: (Hq ++ R)) Hq (A :: R)
  | [], R => .nil _
  | X :: T, R => .cons (.there (.here _ _)) (Takes.behind A T R)
theorem Sat.dropMid {w0 w : World} {B : Nat} {L R : List HA} {A : HA} (h : Sat w0 B (L ++ A :: R) w) : Sat w0 B (L ++ R) w :=
  (h.perm List.perm_middle).tail
abbrev tkB (g3 : Nat) (k : Tok) : HA := HA.blk g3 (.cells (tokCells k) 112)
theorem take_c (g fg fcap : Nat) (p : PS) (tv : FV) (rv : List (Frame × FV)) (hrv : rv.map Prod.fst = p.rest) (N : Nat) (hN : N ≤ 60000) (hp : POk p N) (k : Tok) (hk : TokOk p k) :
    Mut Tryz.prog 37 #[Pv g 0, tokV k] (PH g fg fcap p tv rv) (fun _ : TXs (takeM p k).1 => Iv (takeM p k).2) (fun x => tkH g (takeM p k) x) := by
  intro w0 B R w h
  have hrl : rv.length = p.rest.length := by rw [← hrv, List.length_map]
  have hr9 : rv.length ≤ 9 := by have := hp.deep; have := hp.ok.groups; omega
  have hkn := hp.kids p.top (by simp)
  have hlen := hp.ok.len p.top (by simp)
  have hpl := fun (r : RE) (hr : r.kids = []) (z : Nat) => putLeaf_c g fg fcap p tv rv hr9 (by omega) (by omega) r hr z
  have hsz := hp.ok.le
  have hsh := hp.ok.shut
  have hgl := hp.ok.groups
  have hnum := hp.ok.num
  have htot := hp.ok.tot
  have hgrow := grow_c g fg (rv.length + 1) fcap p.groups p.size (p.size + 1) p.shut 1 hsh (by omega) (by omega)
  replace h : Sat w0 B (PB g fg (rv.length + 1) fcap (PR p.groups p.shut p.size) :: FB fg (rv.length + 1) fcap (preC rv ++ tv.cells p.top) :: KR tv.kad p.top.kids.length tv.kcap tv.kcs :: ZR tv.sad tv.scap p.top.sizes :: HA.forest tv.fp p.top.kids tv.kcs :: (restH rv ++ R)) w := h
  have htl0 : tv.kcs.length = p.top.kids.length * 9 := (row_form (h.all (KR tv.kad p.top.kids.length tv.kcap tv.kcs) (by simp))).2.2.2.1
  have hvl0 : ∀ f v r, rv = (f, v) :: r → v.kcs.length = f.kids.length * 9 := fun f v r e => by
    subst e
    exact (row_form (h.all (KR v.kad f.kids.length v.kcap v.kcs) (by simp [restH]))).2.2.2.1
  refine calls_of_ES TB Tryz.func37 rfl _ Tryz.ntmps37 rfl h ?_; refine .go ?_; (repeat constructor); (refine .bx ?_; intro g3); refine .as_ ?_; refine .go ?_; (repeat constructor); refine .fa ?_; refine .lb ?_; refine .go ?_; (repeat constructor); refine .ei ?_; refine .as_ ?_; refine .go ?_; repeat constructor
  refine ES.condD rfl (fun h0 => ?_) (fun h0 => ?_)
  · have hk0 : k.kind = 0 := by omega
    rw [takeM_0 hk0]
    refine .go ?_; (repeat constructor); refine .mv ?_; refine .fa ?_
    refine EL.ofRV (RV.loadBA [Wv k.set.a, Wv k.set.b, Wv k.set.c, Wv k.set.d] rfl rfl rfl rfl (by repeat constructor) rfl) rfl rfl rfl (by intro c h; cases h) ?_
    refine EL.buildS (reCells (.byte k.set) (.slice none 0 0)).toArray rfl rfl rfl rfl rfl rfl rfl ?_
    (refine EL.callM rfl rfl rfl ent55 rfl (hpl (.byte k.set) rfl 1) (Takes.behind (tkB g3 k) (PH g fg fcap p tv rv) R) ?_; intro x; refine EL.imp (H' := PH g fg fcap { p with top := p.top.put (.byte k.set) 1 } ⟨x.1.1, x.1.2, x.2.1, x.2.2, tv.kcs ++ reCells (.byte k.set) (.slice none 0 0), tv.fp⟩ rv ++ R) (fun w hs => Sat.dropMid hs) ?_)
    refine .go ?_; (repeat constructor); refine .mv ?_; refine EL.callM1 rfl rfl rfl ent56 rfl hgrow (.cons (.here _ _) (.nil _)) ?_; refine .as_ ?_; refine .go ?_; repeat constructor
    exact PX.ret rfl Tryz.results37 (.cons (.tmp rfl) .nil) (fun w hs => ⟨⟨⟨fg, fcap, ⟨x.1.1, x.1.2, x.2.1, x.2.2, tv.kcs ++ reCells (.byte k.set) (.slice none 0 0), tv.fp⟩, rv⟩, hrv⟩, rfl, tk_ok _ hs⟩)
  refine .go ?_; (repeat constructor); refine .ei ?_; refine .as_ ?_; refine .go ?_; repeat constructor
  refine ES.condD rfl (fun h1 => ?_) (fun h1 => ?_)
  · have hk0 : k.kind = 1 := by omega
    rw [takeM_1 hk0]
    refine .go ?_; (repeat constructor); refine .mv ?_; refine EL.buildS (reCells .bol (.slice none 0 0)).toArray rfl rfl rfl rfl rfl rfl rfl ?_; (refine EL.callM rfl rfl rfl ent55 rfl (hpl .bol rfl 0) (Takes.behind (tkB g3 k) (PH g fg fcap p tv rv) R) ?_; intro x); refine .as_ ?_; refine .go ?_; repeat constructor
    exact PX.ret rfl Tryz.results37 (.cons (.tmp rfl) .nil) (fun w hs => ⟨⟨⟨fg, fcap, ⟨x.1.1, x.1.2, x.2.1, x.2.2, tv.kcs ++ reCells .bol (.slice none 0 0), tv.fp⟩, rv⟩, hrv⟩, rfl, tk_ok _ (Sat.dropMid hs)⟩)
  refine .go ?_; (repeat constructor); refine .ei ?_; refine .as_ ?_; refine .go ?_; repeat constructor
  refine ES.condD rfl (fun h2 => ?_) (fun h2 => ?_)
  · have hk0 : k.kind = 2 := by omega
    rw [takeM_2 hk0]
    refine .go ?_; (repeat constructor); refine .mv ?_; refine EL.buildS (reCells .eol (.slice none 0 0)).toArray rfl rfl rfl rfl rfl rfl rfl ?_; (refine EL.callM rfl rfl rfl ent55 rfl (hpl .eol rfl 0) (Takes.behind (tkB g3 k) (PH g fg fcap p tv rv) R) ?_; intro x); refine .as_ ?_; refine .go ?_; repeat constructor
    exact PX.ret rfl Tryz.results37 (.cons (.tmp rfl) .nil) (fun w hs => ⟨⟨⟨fg, fcap, ⟨x.1.1, x.1.2, x.2.1, x.2.2, tv.kcs ++ reCells .eol (.slice none 0 0), tv.fp⟩, rv⟩, hrv⟩, rfl, tk_ok _ (Sat.dropMid hs)⟩)
  refine .go ?_; (repeat constructor); refine .ei ?_; refine .as_ ?_; refine .go ?_; repeat constructor
  refine ES.condD rfl (fun h3 => ?_) (fun h3 => ?_)
  · have hk0 : k.kind = 3 := by omega
    rw [takeM_3 hk0]
    by_cases hg9 : p.groups = 9
    · rw [if_pos hg9]
      have hop := open_full g fg (rv.length + 1) fcap (p.shut.map Value.bool ++ [Iv (p.size : Nat)]) k.at_
      rw [hg9]
      refine .go ?_; (repeat constructor); refine .mv ?_; refine .fa ?_; refine .lb ?_; refine EL.callM1 rfl rfl rfl ent57 rfl hop (by repeat constructor) ?_; refine .as_ ?_; refine .go ?_; repeat constructor
      exact PX.ret rfl Tryz.results37 (.cons (.tmp rfl) .nil) (fun w hs => ⟨TXs.any _, rfl, tk_err _ (fun e => by cases e) (Sat.tailL (A := restH rv) (hs.ent (.i (by repeat constructor))))⟩)
    · rw [if_neg hg9]
      have hop := open_c g fg (rv.length + 1) fcap p.groups p.size k.at_ p.shut (preC rv ++ tv.cells p.top) (by omega) (by omega)
      refine .go ?_; (repeat constructor); refine .mv ?_; refine .fa ?_; refine .lb ?_; (refine EL.callM rfl rfl rfl ent57 rfl hop (by repeat constructor) ?_; intro x); refine .as_ ?_; refine .go ?_; repeat constructor
      refine PX.ret rfl Tryz.results37 (.cons (.tmp rfl) .nil) (fun w hs => ⟨⟨⟨x.1, x.2, ⟨none, 0, none, 0, [], []⟩, (p.top, tv) :: rv⟩, by rw [List.map_cons, hrv]⟩, rfl, tk_ok _ ?_⟩)
      have h1 := Sat.forest0 ((hs.nilRow 3 1).nilRow 46 9) [] [] (fun _ _ => .nil)
      exact h1.ent (H' := PB g x.1 (rv.length + 1 + 1) x.2 (PR (p.groups + 1) p.shut p.size) :: FB x.1 (rv.length + 1 + 1) x.2 (preC rv ++ tv.cells p.top ++ frC none 0 0 none 0 0 (p.groups + 1) k.at_) :: KR none 0 0 [] :: ZR none 0 [] :: HA.forest [] [] [] :: KR tv.kad p.top.kids.length tv.kcap tv.kcs :: ZR tv.sad tv.scap p.top.sizes :: HA.forest tv.fp p.top.kids tv.kcs :: (restH rv ++ R)) (.i (by repeat constructor))
  refine .go ?_; (repeat constructor); refine .ei ?_; refine .as_ ?_; refine .go ?_; repeat constructor
  refine ES.condD rfl (fun h4 => ?_) (fun h4 => ?_)
  · have hk0 : k.kind = 4 := by omega
    rw [takeM_4 hk0]
    cases rv with
    | nil =>
      rw [← hrv]
      have hcl := close_none g fg fcap (PR p.groups p.shut p.size)
      refine .go ?_; (repeat constructor); refine .mv ?_; refine EL.callM1 rfl rfl rfl ent58 rfl hcl (by repeat constructor) ?_; refine .as_ ?_; refine .go ?_; repeat constructor
      exact PX.ret rfl Tryz.results37 (.cons (.tmp rfl) .nil) (fun w hs => ⟨TXs.any _, rfl, tk_err _ (fun e => by cases e) (hs.ent (.i (by repeat constructor)))⟩)
    | cons fv rv =>
      obtain ⟨f, v⟩ := fv
      have hrest : p.rest = f :: rv.map Prod.fst := by rw [← hrv]; rfl
      have hfl := hp.ok.len f (by rw [hrest]; simp)
      have hfk := hp.kids f (by rw [hrest]; simp)
      have hvl : v.kcs.length = f.kids.length * 9 := hvl0 f v rv rfl
      rw [hrest] at htot ⊢
      simp only [List.map_cons, List.sum_cons, Frame.tot] at htot
      simp only [List.length_cons] at hr9
      have htg := hnum p.top (by simp)
      have hcl := close_c g fg rv.length fcap p.groups p.size p.shut hsh (preC rv) (preC_len rv) (by omega) v.kad v.kcap v.sad v.scap f.group f.at_ f.kids v.kcs f.sizes v.fp (by omega) (by omega) hvl tv.kad tv.kcap tv.sad tv.scap p.top.group p.top.at_ p.top.kids tv.kcs p.top.sizes tv.fp htg (by omega) (by omega)
      refine .go ?_; (repeat constructor); refine .mv ?_; (refine EL.callM rfl rfl rfl ent58 rfl hcl (by repeat constructor) ?_; intro x); refine .as_ ?_; refine .go ?_; repeat constructor
      refine PX.ret rfl Tryz.results37 (.cons (.tmp rfl) .nil) (fun w hs => ⟨⟨⟨fg, fcap, ⟨x.1.1.1, x.1.1.2, x.1.2.1, x.1.2.2, v.kcs ++ grC p.top.group p.top.kids x.2, v.fp ++ ([x.2] ++ ((Value.slice tv.kad p.top.kids.length tv.kcap).ownBlock.toList ++ tv.fp))⟩, rv⟩, rfl⟩, rfl, tk_ok _ ?_⟩)
      have e1 : (f.put (.group p.top.group (.cat p.top.kids)) p.top.sizes.sum).kids.length = f.kids.length + 1 := by simp [Frame.put]
      have e2 : (f.put (.group p.top.group (.cat p.top.kids)) p.top.sizes.sum).sizes.length = f.sizes.length + 1 := by simp [Frame.put]
      show Sat w0 B (PB g fg (rv.length + 1) fcap (PR p.groups (p.shut.set p.top.group true) p.size) :: FB fg (rv.length + 1) fcap (preC rv ++ frC x.1.1.1 (f.put (.group p.top.group (.cat p.top.kids)) p.top.sizes.sum).kids.length x.1.1.2 x.1.2.1 (f.put (.group p.top.group (.cat p.top.kids)) p.top.sizes.sum).sizes.length x.1.2.2 f.group f.at_) :: KR x.1.1.1 (f.put (.group p.top.group (.cat p.top.kids)) p.top.sizes.sum).kids.length x.1.1.2 (v.kcs ++ grC p.top.group p.top.kids x.2) :: ZR x.1.2.1 x.1.2.2 (f.sizes ++ [p.top.sizes.sum]) :: HA.forest (v.fp ++ ([x.2] ++ ((Value.slice tv.kad p.top.kids.length tv.kcap).ownBlock.toList ++ tv.fp))) (f.kids ++ [.group p.top.group (.cat p.top.kids)]) (v.kcs ++ grC p.top.group p.top.kids x.2) :: (restH rv ++ R)) w
      rw [e1, e2]
      exact hs.ent (.i (by repeat constructor))
  refine .go ?_; (repeat constructor); refine .ei ?_; refine .as_ ?_; refine .go ?_; repeat constructor
  refine ES.condD rfl (fun h5 => ?_) (fun h5 => ?_)
  · have hk0 : k.kind = 5 := by omega
    obtain ⟨hne, hlo0, hlo1, hhi0, hhi1, _⟩ := hk.rep hk0
    rw [takeM_5 hk0]
    have hse : p.top.sizes ≠ [] := by
      intro e; rw [e] at hlen; exact hne (List.eq_nil_of_length_eq_zero hlen)
    have hki := dropLast_last p.top.kids .bol hne
    have hzi := dropLast_last p.top.sizes 0 hse
    generalize p.top.kids.dropLast = init at hki ⊢
    generalize p.top.kids.getLastD .bol = last at hki ⊢
    generalize p.top.sizes.dropLast = zs0 at hzi ⊢
    generalize p.top.sizes.getLastD 0 = z at hzi ⊢
    have hkl2 : p.top.kids.length = init.length + 1 := by rw [hki]; simp
    have hzl2 : p.top.sizes.length = zs0.length + 1 := by rw [hzi]; simp
    have hz2 : z ≤ p.size := by
      have : p.top.tot = zs0.sum + z := by unfold Frame.tot; rw [hzi]; simp
      omega
    have hlo : ((k.lo.toNat : Nat) : Int) = k.lo := by omega
    have hrc := rep_c g fg rv.length fcap p.groups p.size p.shut hsh (preC rv) (preC_len rv) (by omega) tv.kad tv.kcap tv.sad tv.scap p.top.group p.top.at_ init last tv.kcs zs0 z tv.fp k.lo.toNat k.hi (by omega) (by omega) (by omega) (by omega) (by omega) (by omega) hz2 hsz (by rw [htl0, hkl2])
    rw [hlo] at hrc
    dsimp only
    refine ES.imp (H' := PB g fg (rv.length + 1) fcap (PR p.groups p.shut p.size) :: FB fg (rv.length + 1) fcap (preC rv ++ frC tv.kad (init.length + 1) tv.kcap tv.sad (zs0.length + 1) tv.scap p.top.group p.top.at_) :: KR tv.kad (init.length + 1) tv.kcap tv.kcs :: HA.row (.slice tv.sad (zs0.length + 1) tv.scap) 3 1 (zs0.length + 1) ((zs0 ++ [z]).map fun z : Nat => Iv (z : Nat)) :: HA.forest tv.fp (init ++ [last]) tv.kcs :: tkB g3 k :: (restH rv ++ R)) (fun w hs => ?_) ?_
    · have e0 := hs.ent (H' := PB g fg (rv.length + 1) fcap (PR p.groups p.shut p.size) :: FB fg (rv.length + 1) fcap (preC rv ++ tv.cells p.top) :: KR tv.kad p.top.kids.length tv.kcap tv.kcs :: ZR tv.sad tv.scap p.top.sizes :: HA.forest tv.fp p.top.kids tv.kcs :: tkB g3 k :: (restH rv ++ R)) (.i (by repeat constructor))
      dsimp only [FV.cells, ZR] at e0
      rw [hkl2, hzl2] at e0
      rw [hki, hzi] at e0
      exact e0
    refine .go ?_; (repeat constructor); refine .mv ?_; refine .fa ?_; refine .lb ?_; refine .fa ?_; refine .lb ?_; (refine EL.callM rfl rfl rfl ent59 rfl hrc (by repeat constructor) ?_; intro x); refine .as_ ?_; refine .go ?_; repeat constructor
    refine PX.ret rfl Tryz.results37 (.cons (.tmp rfl) .nil) (fun w hs => ⟨⟨⟨fg, fcap, ⟨tv.kad, tv.kcap, tv.sad, tv.scap, tv.kcs.take (init.length * 9) ++ reCells (.rep k.lo.toNat k.hi last) (.slice (some ⟨x, 0, none⟩) 1 1), x :: tv.fp⟩, rv⟩, hrv⟩, rfl, tk_ok _ ?_⟩)
    have e1 : (init ++ [RE.rep k.lo.toNat k.hi last]).length = init.length + 1 := by simp
    have e2 : (zs0 ++ [z * timesM k.lo.toNat k.hi]).length = zs0.length + 1 := by simp
    show Sat w0 B (PB g fg (rv.length + 1) fcap (PR p.groups p.shut (p.size - z + z * timesM k.lo.toNat k.hi)) :: FB fg (rv.length + 1) fcap (preC rv ++ frC tv.kad (init ++ [RE.rep k.lo.toNat k.hi last]).length tv.kcap tv.sad (zs0 ++ [z * timesM k.lo.toNat k.hi]).length tv.scap p.top.group p.top.at_) :: KR tv.kad (init ++ [RE.rep k.lo.toNat k.hi last]).length tv.kcap (tv.kcs.take (init.length * 9) ++ reCells (.rep k.lo.toNat k.hi last) (.slice (some ⟨x, 0, none⟩) 1 1)) :: HA.row (.slice tv.sad (zs0 ++ [z * timesM k.lo.toNat k.hi]).length tv.scap) 3 1 (zs0 ++ [z * timesM k.lo.toNat k.hi]).length ((zs0 ++ [z * timesM k.lo.toNat k.hi]).map fun z : Nat => Iv (z : Nat)) :: HA.forest (x :: tv.fp) (init ++ [.rep k.lo.toNat k.hi last]) (tv.kcs.take (init.length * 9) ++ reCells (.rep k.lo.toNat k.hi last) (.slice (some ⟨x, 0, none⟩) 1 1)) :: (restH rv ++ R)) w
    rw [e1, e2]
    exact hs.ent (.i (by repeat constructor))
  refine .go ?_; (repeat constructor); refine .ei ?_; refine .as_ ?_; refine .go ?_; repeat constructor
  refine ES.condD rfl (fun h6 => ?_) (fun h6 => ?_)
  · have hk0 : k.kind = 6 := by omega
    obtain ⟨hlo1, hlo2⟩ := hk.back hk0
    rw [takeM_6 hk0]
    obtain ⟨lo, hlo⟩ : ∃ lo : Nat, k.lo = (lo : Int) := ⟨k.lo.toNat, by omega⟩
    have hlo' : k.lo.toNat = lo := by omega
    rw [hlo']
    refine ES.imp (H' := HA.blk g3 (.cells #[Iv (k.kind : Nat), Iv (k.at_ : Nat), Wv k.set.a, Wv k.set.b, Wv k.set.c, Wv k.set.d, Iv (lo : Nat), Iv k.hi, Iv k.e] 112) :: PB g fg (rv.length + 1) fcap (PR p.groups p.shut p.size) :: FB fg (rv.length + 1) fcap (preC rv ++ tv.cells p.top) :: KR tv.kad p.top.kids.length tv.kcap tv.kcs :: ZR tv.sad tv.scap p.top.sizes :: HA.forest tv.fp p.top.kids tv.kcs :: (restH rv ++ R)) (fun w hs => ?_) ?_
    · rw [← hlo]; exact hs.ent (.i (by repeat constructor))
    refine .g0 ?_; repeat constructor
    refine ES.draw (X := Unit) (fun _ => [(0, Pv g 0), (3, Pv g3 0), (53, .bool (!(p.shut.getD lo false)))]) (fun _ => HA.blk g3 (.cells #[Iv (k.kind : Nat), Iv (k.at_ : Nat), Wv k.set.a, Wv k.set.b, Wv k.set.c, Wv k.set.d, Iv (lo : Nat), Iv k.hi, Iv k.e] 112) :: PB g fg (rv.length + 1) fcap (PR p.groups p.shut p.size) :: FB fg (rv.length + 1) fcap (preC rv ++ tv.cells p.top) :: KR tv.kad p.top.kids.length tv.kcap tv.kcs :: ZR tv.sad tv.scap p.top.sizes :: HA.forest tv.fp p.top.kids tv.kcs :: (restH rv ++ R)) (PB g fg (rv.length + 1) fcap (PR p.groups p.shut p.size) :: HA.blk g3 (.cells #[Iv (k.kind : Nat), Iv (k.at_ : Nat), Wv k.set.a, Wv k.set.b, Wv k.set.c, Wv k.set.d, Iv (lo : Nat), Iv k.hi, Iv k.e] 112) :: (restH rv ++ R)) mixed (.i (by repeat constructor)) ?_ (fun _ => ?_)
    · refine .tk 0 rfl (RV.move rfl) ?_; refine .tk 1 rfl (RV.fieldAddr rfl rfl rfl rfl rfl rfl) ?_; refine .tk 2 rfl (RV.loadB rfl rfl rfl (by repeat constructor) rfl) ?_; refine .tk 3 rfl (RV.nilCheck rfl) ?_; refine .tk 4 rfl (RV.fieldAddr rfl rfl rfl rfl rfl rfl) ?_; refine .tk 5 rfl (RV.indexAddrA (i := lo) rfl rfl rfl rfl rfl (by omega)) ?_
      refine .tk 6 rfl (RV.loadB rfl rfl rfl (by repeat constructor) (by have := pr_shut_get (.slice (some ⟨fg, 0, none⟩) (rv.length + 1) fcap) p.groups p.size lo p.shut (by omega); rw [show 2 + lo = 0 + 2 + lo * 1 by omega] at this; exact this)) ?_
      refine .tk 7 rfl (RV.not rfl) ?_; refine .dn ?_
      exact .cy ()
    refine ES.cond rfl (fun hs => ?_) (fun hs => ?_)
    · rw [if_neg (by simpa using hs)]
      refine .go ?_; (repeat constructor); refine .as_ ?_; refine .go ?_; repeat constructor
      exact PX.ret rfl Tryz.results37 (.cons (.tmp rfl) .nil) (fun w hs => ⟨TXs.any _, rfl, tk_err _ (fun e => by cases e) (Sat.tailL (A := restH rv) (hs.ent (.i (by repeat constructor))))⟩)
    · rw [if_pos (by simpa using hs)]
      refine .go ?_; (repeat constructor); refine .mv ?_; refine .fa ?_; refine .lb ?_; refine EL.buildS (reCells (.back lo) (.slice none 0 0)).toArray rfl rfl rfl rfl rfl rfl rfl ?_
      (refine EL.callM rfl rfl rfl ent55 rfl (hpl (.back lo) rfl 1) (Takes.behind (HA.blk g3 (.cells #[Iv (k.kind : Nat), Iv (k.at_ : Nat), Wv k.set.a, Wv k.set.b, Wv k.set.c, Wv k.set.d, Iv (lo : Nat), Iv k.hi, Iv k.e] 112)) (PH g fg fcap p tv rv) R) ?_; intro x; refine EL.imp (H' := PH g fg fcap { p with top := p.top.put (.back lo) 1 } ⟨x.1.1, x.1.2, x.2.1, x.2.2, tv.kcs ++ reCells (.back lo) (.slice none 0 0), tv.fp⟩ rv ++ R) (fun w hs => Sat.dropMid hs) ?_)
      refine .go ?_; (repeat constructor); refine .mv ?_; refine EL.callM1 rfl rfl rfl ent56 rfl hgrow (.cons (.here _ _) (.nil _)) ?_; refine .as_ ?_; refine .go ?_; repeat constructor
      exact PX.ret rfl Tryz.results37 (.cons (.tmp rfl) .nil) (fun w hs => ⟨⟨⟨fg, fcap, ⟨x.1.1, x.1.2, x.2.1, x.2.2, tv.kcs ++ reCells (.back lo) (.slice none 0 0), tv.fp⟩, rv⟩, hrv⟩, rfl, tk_ok _ hs⟩)
  refine .go ?_; (repeat constructor); refine .fa ?_; refine .lb ?_; refine .as_ ?_; refine .go ?_; repeat constructor
  rw [takeM_7 (by omega)]
  exact PX.ret rfl Tryz.results37 (.cons (.tmp rfl) .nil) (fun w hs => ⟨⟨⟨fg, fcap, tv, rv⟩, hrv⟩, rfl, tk_ok _ (hs.ent (H' := PB g fg (rv.length + 1) fcap (PR p.groups p.shut p.size) :: FB fg (rv.length + 1) fcap (preC rv ++ tv.cells p.top) :: KR tv.kad p.top.kids.length tv.kcap tv.kcs :: ZR tv.sad tv.scap p.top.sizes :: HA.forest tv.fp p.top.kids tv.kcs :: (restH rv ++ R)) (.i (by repeat constructor)))⟩)
structure TokRead (k : Tok) (bg : Bool) : Prop where
  le : k.kind ≤ 7
  rep : k.kind = 5 → bg = false ∧ 0 ≤ k.lo ∧ k.lo ≤ 255 ∧ -1 ≤ k.hi ∧ k.hi ≤ 255 ∧ (0 ≤ k.hi → k.lo ≤ k.hi)
  back : k.kind = 6 → 1 ≤ k.lo ∧ k.lo ≤ 9
  bad : k.kind = 7 → k.e ≠ 0
theorem tokRead_plain {k : Tok} {bg : Bool} (h : k.kind ≤ 4) : TokRead k bg := ⟨by omega, fun e => by omega, fun e => by omega, fun e => by omega⟩
theorem tokRead_bad {a : Nat} {e : Int} {bg : Bool} (h : e ≠ 0) : TokRead (badT a e) bg := ⟨by simp [badT], fun e => by simp [badT] at e, fun e => by simp [badT] at e, fun _ => h⟩
theorem escT_read (t : List UInt8) (a : Nat) (bg : Bool) : TokRead (escT t a bg).1 bg := by
  unfold escT
  dsimp only
  split
  · exact tokRead_bad (by decide)
  split
  · exact tokRead_plain (by simp)
  split
  · exact tokRead_plain (by simp)
  split
  · split
    · exact tokRead_bad (by decide)
    · rename_i lo hi n hiv
      have := iv_le hiv
      split
      · exact tokRead_bad (by decide)
      · rename_i hb
        exact ⟨by simp, fun _ => ⟨by simpa using hb, by simp only; omega, by simp only; omega, by simp only; omega, by simp only; omega, by simp only; omega⟩, fun e => by simp at e, fun e => by simp at e⟩
  split
  · exact tokRead_bad (by decide)
  split
  · exact tokRead_plain (by simp [oneT, byteT])
  split
  · exact ⟨by simp, fun e => by simp at e, fun _ => by simp only; omega, fun e => by simp at e⟩
  split
  · exact tokRead_bad (by decide)
  · exact tokRead_plain (by simp [oneT, byteT])
theorem readT_read (t : List UInt8) (a : Nat) (f bg : Bool) : TokRead (readT t a f bg).1 bg := by
  unfold readT
  dsimp only
  split
  · exact escT_read t a bg
  split
  · split
    · rename_i h; exact tokRead_bad h
    · exact tokRead_plain (by simp [byteT])
  split
  · exact tokRead_plain (by simp [byteT])
  split
  · rename_i h
    exact ⟨by simp, fun _ => ⟨h.2, by simp, by simp, by simp, by simp, by simp⟩, fun e => by simp at e, fun e => by simp at e⟩
  split
  · exact tokRead_plain (by simp)
  split
  · exact tokRead_plain (by simp)
  · exact tokRead_plain (by simp [oneT, byteT])
def TksOk : List Tok → PS → Prop
  | [], _ => True
  | k :: ks, p => TokOk p k ∧ k.kind ≤ 7 ∧ (k.kind = 7 → k.e ≠ 0) ∧ ((takeM p k).2 = 0 → TksOk ks (takeM p k).1)
theorem takeM_kids {p : PS} {k : Tok} (h7 : k.kind ≤ 7) (h3 : k.kind ≠ 3) (hb : k.kind = 7 → k.e ≠ 0) (he : (takeM p k).2 = 0) : (takeM p k).1.top.kids ≠ [] := by
  rcases (by omega : k.kind = 0 ∨ k.kind = 1 ∨ k.kind = 2 ∨ k.kind = 4 ∨ k.kind = 5 ∨ k.kind = 6 ∨ k.kind = 7) with h0 | h0 | h0 | h0 | h0 | h0 | h0
  · rw [takeM_0 h0]; simp [Frame.put]
  · rw [takeM_1 h0]; simp [Frame.put]
  · rw [takeM_2 h0]; simp [Frame.put]
  · rw [takeM_4 h0] at he ⊢
    split at he
    · cases he
    · rename_i h; simp [Frame.put]
  · rw [takeM_5 h0]; simp
  · rw [takeM_6 h0] at he ⊢
    split at he
    · rename_i h; rw [if_pos h]; simp [Frame.put]
    · cases he
  · rw [takeM_7 (by omega)] at he; exact absurd he (hb h0)
theorem toks_ok (t : List UInt8) : ∀ (n a : Nat) (f b : Bool) (p : PS), (b = false → p.top.kids ≠ []) → TksOk (toksGo t n a f b) p
  | 0, _, _, _, _, _ => trivial
  | n + 1, a, f, b, p, hb => by
    have hr := readT_read t a f b
    rw [toksGo]
    split
    · trivial
    · dsimp only
      have hk : TokOk p (readT t a f b).1 := ⟨fun e => ⟨hb (hr.rep e).1, (hr.rep e).2⟩, hr.back⟩
      split
      · rename_i h7
        exact ⟨hk, hr.le, hr.bad, fun he => trivial⟩
      · rename_i h7
        refine ⟨hk, hr.le, hr.bad, fun he => toks_ok t n _ _ _ _ (fun hbb => ?_)⟩
        simp only [Bool.or_eq_false_iff, decide_eq_false_iff_not] at hbb
        exact takeM_kids hr.le hbb.1 hr.bad he
theorem parse_toks_ok (t : List UInt8) : TksOk (toksM t) ps0 := toks_ok t t.length 0 true true ps0 (fun h => by cases h)
abbrev PP (g fg fcap : Nat) (p : PS) (tv : FV) (rv : List (Frame × FV)) : HA := HA.pack (PH g fg fcap p tv rv)
theorem Sat.packL {w0 w : World} {B : Nat} {T R : List HA} (h : Sat w0 B (T ++ R) w) : Sat w0 B (HA.pack T :: R) w := Sl.Sat.pack h
theorem Sat.unpackL {w0 w : World} {B : Nat} {T R : List HA} (h : Sat w0 B (HA.pack T :: R) w) : Sat w0 B (T ++ R) w := Sl.Sat.unpack h
def tkH1 (g : Nat) (r : PS × Int) (x : TXs r.1) : List HA := if r.2 = 0 then [PP g x.1.fg x.1.fcap r.1 x.1.tv x.1.rv] else []
theorem take1_c (g fg fcap : Nat) (p : PS) (tv : FV) (rv : List (Frame × FV)) (hrv : rv.map Prod.fst = p.rest) (N : Nat) (hN : N ≤ 60000) (hp : POk p N) (k : Tok) (hk : TokOk p k) :
    Mut Tryz.prog 37 #[Pv g 0, tokV k] [PP g fg fcap p tv rv] (fun _ : TXs (takeM p k).1 => Iv (takeM p k).2) (fun x => tkH1 g (takeM p k) x) := by
  intro w0 B R w h
  refine (take_c g fg fcap p tv rv hrv N hN hp k hk w0 B R w (Sat.unpackL h)).mono ?_
  rintro e w' ⟨x, he, hs⟩
  refine ⟨x, he, ?_⟩
  unfold tkH at hs
  show Sat w0 B (tkH1 g (takeM p k) x ++ R) w'
  unfold tkH1
  by_cases h0 : (takeM p k).2 = 0
  · rw [if_pos h0]
    simp only [if_pos h0] at hs
    exact Sat.packL hs
  · rw [if_neg h0]
    simp only [if_neg h0] at hs
    exact hs
structure PX0 where
  ad : Option Addr
  cap : Nat
  fp : List Nat
abbrev zeroRe : Array Value := (reCells (.cat []) (.slice none 0 0)).toArray
structure PSt where
  p : PS
  fg : Nat
  fcap : Nat
  tv : FV
  rv : List (Frame × FV)
theorem parse_c (t : List UInt8) (ht0 : t.length ≤ 4611686018427387904) (w : World) (hG : GR w w.heap.size) :
    Pure Tryz.prog 20 #[Sv t] (fun x : PX0 => .tuple #[.agg (reCells (parseM t).tree (.slice x.ad (parseM t).tree.kids.length x.cap)).toArray, .agg #[Iv (parseM t).e, Iv ((parseM t).at_ : Nat)]])
      (fun x => [HA.forest x.fp [(parseM t).tree] (reCells (parseM t).tree (.slice x.ad (parseM t).tree.kids.length x.cap))]) w := by
  have hpm : parseM t = if 512 < t.length then ⟨.cat [], 2, 0⟩ else parseGo (toksM t) ps0 := rfl
  have hfin : ∀ {w0 w' : World} {B : Nat} {R : List HA}, Sat w0 B R w' → Sat w0 B [HA.forest [] [RE.cat []] (reCells (.cat []) (.slice none 0 0))] w' := fun {w0 w' B R} h => by
    have h0 : Sat w0 B [] w' := Sat.tailL (A := R) (by rw [List.append_nil]; exact h)
    exact Sat.forest0 h0 _ _ (fun _ _ => Forest.leaf (.cat []) rfl)
  refine calls_of_ESM TB Tryz.func20 rfl _ Tryz.ntmps20 rfl (Sat.start w) ?_; refine .gr ?_; (repeat constructor); (refine .al ?_; intro g2); (refine .al ?_; intro g3); refine .gr ?_; (repeat constructor); refine .mv ?_; refine .lS ?_; refine .gt_ ?_; refine .gr ?_; repeat constructor
  refine ES.condD rfl (fun hlong => ?_) (fun hshort => ?_)
  · rw [if_pos (by omega)] at hpm
    rw [hpm]
    refine .gr ?_; (repeat constructor); refine EL.buildZ rfl rfl rfl rfl rfl ?_; refine EL.buildS #[_, .int .i64 0] rfl rfl rfl rfl rfl rfl rfl ?_; refine .sa ?_; refine .sa ?_; refine .gr ?_; repeat constructor
    exact PX.retM [] rfl (.nil _) Tryz.results20 (.cons (.blkA rfl rfl rfl (by repeat constructor) rfl) (.cons (.blkA rfl rfl rfl (by repeat constructor) rfl) .nil)) (fun w hs => ⟨⟨none, 0, []⟩, rfl, hfin hs⟩)
  rw [if_neg (by omega)] at hpm
  have hlen : t.length ≤ 512 := by omega
  have ht : t.length ≤ 1073741824 := by omega
  have htl : (toksM t).length ≤ 512 := Nat.le_trans (toks_len t t.length 0 true true) hlen
  have hall := parse_toks_ok t
  refine .gr ?_; (repeat constructor); refine EL.buildZ rfl rfl rfl rfl rfl ?_; (refine .b1 ?_; intro b13); refine EL.buildS #[_, .int .i64 0, .bool false, .bool false, .bool false, .bool false, .bool false, .bool false, .bool false, .bool false, .bool false, .bool false, .int .i64 0] rfl rfl rfl rfl rfl rfl rfl ?_; (refine .bx ?_; intro g15); (refine .al ?_; intro g4); refine .sb ?_; refine .gr ?_; (repeat constructor); refine .mv ?_; (refine EL.callX rfl rfl rfl ent36 rfl (tokens_c t) ?_; intro gs); refine .gr ?_; (repeat constructor); refine ES.imp (H' := HA.blk gs (.cells #[Sv t] 9) :: HA.blk g4 (.cells #[Pv g15 0] 100) :: PP g15 b13 1 ps0 ⟨none, 0, none, 0, [], []⟩ [] :: HA.blk g2 (.cells zeroRe 46) :: HA.blk g3 (.cells #[Iv 0, Iv 0] 33) :: []) (fun w hs => ?_) ?_
  · have h1 := Sat.forest0 ((hs.nilRow 3 1).nilRow 46 9) [] [] (fun _ _ => .nil)
    have h2 := h1.ent (H' := PB g15 b13 1 1 (PR 0 (List.replicate 10 false) 0) :: FB b13 1 1 (frC none 0 0 none 0 0 0 0) :: KR none 0 0 [] :: ZR none 0 [] :: HA.forest [] [] [] :: HA.blk gs (.cells #[Sv t] 9) :: HA.blk g4 (.cells #[Pv g15 0] 100) :: HA.blk g2 (.cells zeroRe 46) :: HA.blk g3 (.cells #[Iv 0, Iv 0] 33) :: []) (.i (by repeat constructor))
    exact (Sat.packL (T := PH g15 b13 1 ps0 ⟨none, 0, none, 0, [], []⟩ []) h2).ent (.i (by repeat constructor))
  refine ES.rangeFunc (σ := PSt) (τ := Int × Nat) (fun i s => i ≤ (toksM t).length ∧ s.rv.map Prod.fst = s.p.rest ∧ POk s.p i ∧ TksOk ((toksM t).drop i) s.p ∧ parseGo ((toksM t).drop i) s.p = parseM t)
    (fun s => [HA.blk g4 (.cells #[Pv g15 0] 100), PP g15 s.fg s.fcap s.p s.tv s.rv, HA.blk g2 (.cells zeroRe 46), HA.blk g3 (.cells #[Iv 0, Iv 0] 33)])
    (fun c _ r => c = .ret ∧ parseM t = ⟨.cat [], r.1, r.2⟩) (fun r => [HA.blk g2 (.cells zeroRe 46), HA.blk g3 (.cells #[Iv r.1, Iv (r.2 : Nat)] 33)]) ⟨ps0, b13, 1, ⟨none, 0, none, 0, [], []⟩, []⟩ ⟨Nat.zero_le _, rfl, ps0_pok, hall, hpm.symm⟩
    rfl rfl ent53 (tok1_iter gs t ht _ _ hG) (by repeat constructor) (by repeat constructor) (by intro x hx; obtain ⟨_, _, rfl⟩ := List.mem_map.1 hx; rfl) rfl ?_ (fun D s hs => ?_) (fun D c i r hc => ?_)
  · rintro l i ⟨p, fg, fcap, tv, rv⟩ x R1 ⟨hi, hrv, hpo, htk, hgo⟩ hx
    dsimp only at hi hrv hpo htk hgo hx ⊢
    obtain ⟨k, hk, rfl⟩ : ∃ k, (toksM t)[i]? = some k ∧ x = [tokV k] := by
      rw [List.getElem?_map] at hx
      obtain ⟨k, h1, h2⟩ := Option.map_eq_some_iff.1 hx
      exact ⟨k, h1, h2.symm⟩
    have hlt : i < (toksM t).length := (List.getElem?_eq_some_iff.1 hk).1
    have hdrop : (toksM t).drop i = k :: (toksM t).drop (i + 1) := by
      rw [List.drop_eq_getElem_cons hlt, (List.getElem?_eq_some_iff.1 hk).2]
    rw [hdrop] at htk hgo
    obtain ⟨hk1, hk2, hk3, hk4⟩ := htk
    rw [parseGo] at hgo
    refine .gr ?_; (repeat constructor); (refine .al ?_; intro g5); refine .sa ?_; refine .gr ?_; repeat constructor
    refine PX.assigned [(2, Pv g2 0), (3, Pv g3 0), (4, Pv g4 0), (5, Pv g5 0)] [HA.blk g5 (.cells (tokCells k) 112), HA.blk g4 (.cells #[Pv g15 0] 100), PP g15 fg fcap p tv rv, HA.blk g2 (.cells zeroRe 46), HA.blk g3 (.cells #[Iv 0, Iv 0] 33)] ⟨rfl, rfl, rfl, rfl, trivial⟩ (.i (by repeat constructor)) (fun R2 => ?_)
    refine .gr ?_; (repeat constructor); refine .lb ?_; refine .lg ?_; (refine EL.callM rfl rfl rfl ent37 rfl (take1_c g15 fg fcap p tv rv hrv i (by omega) hpo k hk1) (by repeat constructor) ?_; intro x); refine .as_ ?_; refine .gr ?_; (repeat constructor); refine .mv ?_; refine .ni ?_; refine .gr ?_; repeat constructor
    refine ES.condN rfl (fun hne => ?_) (fun he => ?_)
    · rw [if_pos hne] at hgo
      have hx0 : tkH1 g15 (takeM p k) x = [] := if_neg hne
      rw [hx0]
      refine .gs ?_; repeat constructor
      refine ES.draw (X := Unit) (fun _ => [(2, Pv g2 0), (3, Pv g3 0), (4, Pv g4 0)]) (fun _ => HA.blk g2 (.cells zeroRe 46) :: HA.blk g3 (.cells #[Iv (takeM p k).2, Iv (k.at_ : Nat)] 33) :: R2) (HA.blk g5 (.cells (tokCells k) 112) :: R2) mixed (.i (by repeat constructor)) ?_ (fun _ => ?_)
      · refine .tk 1 rfl (RV.move rfl) ?_; refine .tk 2 rfl (RV.fieldAddr rfl rfl rfl rfl rfl rfl) ?_; refine .tk 3 rfl (RV.loadB rfl rfl rfl (by repeat constructor) rfl) ?_
        refine ED.fork 0 [4] (by decide +kernel) ⟨⟨_, rfl, ?_⟩, ⟨_, rfl, ?_⟩, trivial⟩
        · refine EL.buildZ rfl rfl rfl rfl rfl ?_; refine .nx ?_
          refine ED.fork 4 [5] (by decide +kernel) ⟨⟨_, rfl, ?_⟩, ⟨_, rfl, ?_⟩, trivial⟩
          · (apply EL.build2; exact rfl; exact rfl; exact rfl; exact rfl; exact rfl; exact rfl; exact rfl; exact rfl; exact rfl; exact rfl)
            refine .nx ?_; refine .ld 5 ?_; refine .sa ?_; refine .nx ?_; refine ED.last 6 rfl (by decide +kernel) (by decide +kernel) (by decide +kernel) ?_; refine .sa ?_; refine EL.endQ ?_
            exact .cy ()
          · refine .sa ?_; refine .nx ?_; refine .ld 4 ?_
            (apply EL.build2; exact rfl; exact rfl; exact rfl; exact rfl; exact rfl; exact rfl; exact rfl; exact rfl; exact rfl; exact rfl)
            refine .nx ?_; refine ED.last 6 rfl (by decide +kernel) (by decide +kernel) (by decide +kernel) ?_; refine .sa ?_; refine EL.endQ ?_
            exact .cy ()
        · (apply EL.build2; exact rfl; exact rfl; exact rfl; exact rfl; exact rfl; exact rfl; exact rfl; exact rfl; exact rfl; exact rfl)
          refine .nx ?_; refine .ld 0 ?_; refine EL.buildZ rfl rfl rfl rfl rfl ?_; refine .nx ?_; refine .ld 5 ?_; refine .sa ?_; refine .nx ?_; refine ED.last 6 rfl (by decide +kernel) (by decide +kernel) (by decide +kernel) ?_; refine .sa ?_; refine EL.endQ ?_
          exact .cy ()
      refine .gr ?_; repeat constructor
      exact PX.roundR ((takeM p k).2, k.at_) ⟨rfl, hgo.symm⟩ (.i (by repeat constructor))
    · rw [if_neg (fun h => h he)] at hgo
      have h6 : k.kind ≤ 6 := by
        rcases Nat.lt_or_ge k.kind 7 with h | h
        · omega
        · rw [takeM_7 h] at he; exact absurd he (hk3 (by omega))
      have hx1 : tkH1 g15 (takeM p k) x = [PP g15 x.1.fg x.1.fcap (takeM p k).1 x.1.tv x.1.rv] := if_pos he
      rw [hx1]
      refine .gr ?_; repeat constructor
      exact PX.round ⟨(takeM p k).1, x.1.fg, x.1.fcap, x.1.tv, x.1.rv⟩ ⟨hlt, x.2, takeM_ok hpo hk1 he h6, hk4 he, hgo⟩ (.i (by repeat constructor))
  · obtain ⟨p, fg, fcap, tv, rv⟩ := s
    obtain ⟨_, hrv, hpo, _, hgo⟩ := hs
    rw [List.length_map, List.drop_length] at hgo
    rw [List.length_map] at hpo
    dsimp only at hrv hpo hgo ⊢
    rw [parseGo] at hgo
    have hrl : rv.length = p.rest.length := by rw [← hrv, List.length_map]
    have hr9 : rv.length ≤ 9 := by have := hpo.deep; have := hpo.ok.groups; omega
    have htop := top_c g15 fg rv.length fcap (PR p.groups p.shut p.size) (preC rv ++ tv.cells p.top) (by omega)
    refine ES.imp (H' := markB D :: HA.blk g4 (.cells #[Pv g15 0] 100) :: HA.blk g2 (.cells zeroRe 46) :: HA.blk g3 (.cells #[Iv 0, Iv 0] 33) :: PB g15 fg (rv.length + 1) fcap (PR p.groups p.shut p.size) :: FB fg (rv.length + 1) fcap (preC rv ++ tv.cells p.top) :: KR tv.kad p.top.kids.length tv.kcap tv.kcs :: ZR tv.sad tv.scap p.top.sizes :: HA.forest tv.fp p.top.kids tv.kcs :: restH rv) (fun w hs => ?_) ?_
    · have h1 := hs.ent (H' := PP g15 fg fcap p tv rv :: markB D :: HA.blk g4 (.cells #[Pv g15 0] 100) :: HA.blk g2 (.cells zeroRe 46) :: HA.blk g3 (.cells #[Iv 0, Iv 0] 33) :: []) (.i (by repeat constructor))
      have h2 := (Sat.unpackL h1).perm List.perm_append_comm
      exact h2
    refine .gr ?_; (repeat constructor); refine .lb ?_; refine .nc ?_; refine .fa ?_; refine .lb ?_; refine .lL ?_; refine .gt_ ?_; refine .gr ?_; repeat constructor
    refine ES.condD rfl (fun hgt => ?_) (fun hle => ?_)
    · have hpe : parseM t = ⟨.cat [], 10, p.top.at_⟩ := by
        rw [← hgo]
        unfold endM
        split
        · rename_i h; rw [h] at hrl; simp only [List.length_nil] at hrl; omega
        · rfl
      rw [hpe]
      refine .gs ?_; repeat constructor
      refine ES.draw (X := Unit) (fun _ => [(2, Pv g2 0), (3, Pv g3 0), (4, Pv g4 0)]) (fun _ => markB D :: HA.blk g2 (.cells zeroRe 46) :: HA.blk g3 (.cells #[Iv 10, Iv (p.top.at_ : Nat)] 33) :: restH rv) (HA.blk g4 (.cells #[Pv g15 0] 100) :: FB fg (rv.length + 1) fcap (preC rv ++ tv.cells p.top) :: restH rv) mixed (.i (by repeat constructor)) ?_ (fun _ => ?_)
      · refine .tk 1 rfl (RV.loadB rfl rfl rfl (by repeat constructor) rfl) ?_
        refine ED.fork 0 [2] (by decide +kernel) ⟨⟨_, rfl, ?_⟩, ⟨_, rfl, ?_⟩, trivial⟩
        · refine EL.buildZ rfl rfl rfl rfl rfl ?_; refine .nx ?_; refine .ld 2 ?_
          (refine EL.callM1 rfl rfl rfl ent38 rfl htop (by repeat constructor) ?_)
          refine .nx ?_; refine .tk 3 rfl (RV.nilCheck rfl) ?_; refine .tk 4 rfl (RV.fieldAddr rfl rfl rfl rfl rfl rfl) ?_; refine .tk 5 rfl (RV.loadR rfl rfl rfl (by repeat constructor) (pre_at (preC rv) _ (rv.length * 4) 3 (preC_len rv))) ?_
          refine ED.fork 6 [7] (by decide +kernel) ⟨⟨_, rfl, ?_⟩, ⟨_, rfl, ?_⟩, trivial⟩
          · (apply EL.build2; exact rfl; exact rfl; exact rfl; exact rfl; exact rfl; exact rfl; exact rfl; exact rfl; exact rfl; exact rfl)
            refine .nx ?_; refine .ld 7 ?_; refine .sa ?_; refine .nx ?_; refine ED.last 8 rfl (by decide +kernel) (by decide +kernel) (by decide +kernel) ?_; refine .sa ?_; refine EL.endQ ?_
            exact .cy ()
          · refine .sa ?_; refine .nx ?_; refine .ld 6 ?_
            (apply EL.build2; exact rfl; exact rfl; exact rfl; exact rfl; exact rfl; exact rfl; exact rfl; exact rfl; exact rfl; exact rfl)
            refine .nx ?_; refine ED.last 8 rfl (by decide +kernel) (by decide +kernel) (by decide +kernel) ?_; refine .sa ?_; refine EL.endQ ?_
            exact .cy ()
        · (refine EL.callM1 rfl rfl rfl ent38 rfl htop (by repeat constructor) ?_)
          refine .nx ?_; refine .tk 3 rfl (RV.nilCheck rfl) ?_; refine .tk 4 rfl (RV.fieldAddr rfl rfl rfl rfl rfl rfl) ?_; refine .tk 5 rfl (RV.loadR rfl rfl rfl (by repeat constructor) (pre_at (preC rv) _ (rv.length * 4) 3 (preC_len rv))) ?_
          refine ED.fork 0 [6] (by decide +kernel) ⟨⟨_, rfl, ?_⟩, ⟨_, rfl, ?_⟩, trivial⟩
          · refine EL.buildZ rfl rfl rfl rfl rfl ?_; refine .nx ?_
            refine ED.fork 6 [7] (by decide +kernel) ⟨⟨_, rfl, ?_⟩, ⟨_, rfl, ?_⟩, trivial⟩
            · (apply EL.build2; exact rfl; exact rfl; exact rfl; exact rfl; exact rfl; exact rfl; exact rfl; exact rfl; exact rfl; exact rfl)
              refine .nx ?_; refine .ld 7 ?_; refine .sa ?_; refine .nx ?_; refine ED.last 8 rfl (by decide +kernel) (by decide +kernel) (by decide +kernel) ?_; refine .sa ?_; refine EL.endQ ?_
              exact .cy ()
            · refine .sa ?_; refine .nx ?_; refine .ld 6 ?_
              (apply EL.build2; exact rfl; exact rfl; exact rfl; exact rfl; exact rfl; exact rfl; exact rfl; exact rfl; exact rfl; exact rfl)
              refine .nx ?_; refine ED.last 8 rfl (by decide +kernel) (by decide +kernel) (by decide +kernel) ?_; refine .sa ?_; refine EL.endQ ?_
              exact .cy ()
          · (apply EL.build2; exact rfl; exact rfl; exact rfl; exact rfl; exact rfl; exact rfl; exact rfl; exact rfl; exact rfl; exact rfl)
            refine .nx ?_; refine .ld 0 ?_; refine EL.buildZ rfl rfl rfl rfl rfl ?_; refine .nx ?_; refine .ld 7 ?_; refine .sa ?_; refine .nx ?_; refine ED.last 8 rfl (by decide +kernel) (by decide +kernel) (by decide +kernel) ?_; refine .sa ?_; refine EL.endQ ?_
            exact .cy ()
      refine .gr ?_; repeat constructor
      exact PX.retM [D] rfl (by repeat constructor) Tryz.results20 (.cons (.blkA rfl rfl rfl (by repeat constructor) rfl) (.cons (.blkA rfl rfl rfl (by repeat constructor) rfl) .nil)) (fun w hs => ⟨⟨none, 0, []⟩, rfl, hfin hs⟩)
    · have hpe : parseM t = ⟨.cat p.top.kids, 0, 0⟩ := by
        rw [← hgo]
        unfold endM
        split
        · rfl
        · rename_i h; have : p.rest ≠ [] := h; have : 0 < p.rest.length := List.length_pos_iff.2 this; omega
      rw [hpe]
      refine .gr ?_; (repeat constructor); refine .lb ?_
      (refine EL.callM1 rfl rfl rfl ent38 rfl htop (by repeat constructor) ?_)
      refine .nc ?_; refine .fa ?_; refine EL.loadR rfl rfl rfl rfl rfl (by repeat constructor) (pre_at (preC rv) _ (rv.length * 4) 0 (preC_len rv)) ?_; refine EL.buildS (reCells (.cat p.top.kids) (.slice tv.kad p.top.kids.length tv.kcap)).toArray rfl rfl rfl rfl rfl rfl rfl ?_; refine EL.buildZ rfl rfl rfl rfl rfl ?_; refine .sa ?_; refine .sa ?_; refine .gr ?_; repeat constructor
      refine PX.retM [D] rfl (by repeat constructor) Tryz.results20 (.cons (.blkA rfl rfl rfl (by repeat constructor) rfl) (.cons (.blkA rfl rfl rfl (by repeat constructor) rfl) .nil)) (fun w hs => ⟨⟨tv.kad, tv.kcap, (Value.slice tv.kad p.top.kids.length tv.kcap).ownBlock.toList ++ tv.fp⟩, rfl, ?_⟩)
      exact Sat.ent (Sat.seal (.cat p.top.kids) rfl (hs.ent (H' := KR tv.kad p.top.kids.length tv.kcap tv.kcs :: HA.forest tv.fp p.top.kids tv.kcs :: restH rv) (.i (by repeat constructor)))) (.i (by repeat constructor))
  · obtain ⟨rfl, hc⟩ := hc
    rw [hc]
    refine .gr ?_; repeat constructor
    exact PX.retM [D] rfl (by repeat constructor) Tryz.results20 (.cons (.blkA rfl rfl rfl (by repeat constructor) rfl) (.cons (.blkA rfl rfl rfl (by repeat constructor) rfl) .nil)) (fun w hs => ⟨⟨none, 0, []⟩, rfl, hfin hs⟩)
end Go.Proofs.YthcbjbkheodejaaGreat
namespace Go.Proofs.YthcbjbkheodejaaGreat
open Go Go.RowKit Sl
set_option maxRecDepth 100000
set_option maxHeartbeats 8000000
attribute [local irreducible] ES EL PX wps
mutual
def RE.thin : RE → Bool
  | .byte _ => false
  | .back _ => false
  | .bol => true
  | .eol => true
  | .cat ks => thinL ks
  | .group _ k => k.thin
  | .rep _ hi k => decide (hi = 0) || k.thin
def thinL : List RE → Bool
  | [] => true
  | k :: ks => k.thin && thinL ks
end
def leastM (lo : Nat) (k : RE) : Nat := if k.thin = true then min lo 1 else lo
abbrev Row := Nat → Nat
def unitR (i : Nat) : Row := fun q => if q = i then 1 else 0
def capW (x : Nat) : Nat := min x 4097
def thrGo (cap : Nat → Nat) (f : Nat → Row) (v : Row) (more : Bool) (q : Nat) : Nat → Nat
  | 0 => 0
  | p + 1 => if v p = 0 ∨ (more = true ∧ q = p) then thrGo cap f v more q p else cap (thrGo cap f v more q p + v p * f p q)
def thrR (cap : Nat → Nat) (n : Nat) (f : Nat → Row) (v : Row) (more : Bool) : Row := fun q => thrGo cap f v more q (n + 1)
def noneR (n : Nat) (v : Row) : Bool := (List.range (n + 1)).all fun q => decide (v q = 0)
def timesR (cap : Nat → Nat) (n : Nat) (f : Nat → Row) : Nat → Row → Row
  | 0, v => v
  | k + 1, v => timesR cap n f k (thrR cap n f v false)
def moreR (cap : Nat → Nat) (n : Nat) (f : Nat → Row) : Nat → Row → Row → Row
  | 0, _, all => all
  | k + 1, v, all =>
    if noneR n (thrR cap n f v true) = true then all
    else moreR cap n f k (thrR cap n f v true) (fun q => cap (all q + thrR cap n f v true q))
def repR (cap : Nat → Nat) (n lo : Nat) (hi : Int) (thin : Bool) (f : Nat → Row) (v : Row) : Row :=
  let v1 := timesR cap n f (if thin = true then min lo 1 else lo) v
  if thin = true then v1 else moreR cap n f (if hi < 0 then n + 2 else hi.toNat - lo) v1 v1
mutual
def rowR (cap : Nat → Nat) (s : List UInt8) : RE → Nat → Row
  | .byte b, a => fun q => if a < s.length ∧ hasS b (s.getD a 0).toNat = true ∧ q = a + 1 then 1 else 0
  | .bol, a => fun q => if a = 0 ∧ q = a then 1 else 0
  | .eol, a => fun q => if a = s.length ∧ q = a then 1 else 0
  | .back _, a => fun q => if a ≤ q then 1 else 0
  | .rep lo hi k, a => repR cap s.length lo hi k.thin (rowR cap s k) (unitR a)
  | .cat ks, a => catR cap s ks (unitR a)
  | .group _ k, a => thrR cap s.length (rowR cap s k) (unitR a) false
def catR (cap : Nat → Nat) (s : List UInt8) : List RE → Row → Row
  | [], v => v
  | k :: ks, v => catR cap s ks (thrR cap s.length (rowR cap s k) v false)
end
def sumGo (cap : Nat → Nat) (v : Row) : Nat → Nat
  | 0 => 0
  | q + 1 => cap (sumGo cap v q + v q)
def sumR (cap : Nat → Nat) (n : Nat) (v : Row) : Nat := sumGo cap v (n + 1)
abbrev rowW (s : List UInt8) (r : RE) (a : Nat) : Row := rowR capW s r a
abbrev rowE (s : List UInt8) (r : RE) (a : Nat) : Row := rowR id s r a
def countM (s : List UInt8) (r : RE) (a : Nat) : Nat := sumR capW s.length (rowW s r a)
def waysM (t s : List UInt8) (a : Int) : Nat × Int :=
  if (parseM t).e ≠ 0 then (0, (parseM t).e)
  else if 1024 < s.length then (0, 15)
  else if a < 0 ∨ (s.length : Int) < a then (0, 1)
  else (countM s (parseM t).tree a.toNat, 0)
theorem cap_add (x y : Nat) : capW (capW x + capW y) = capW (x + y) := by unfold capW; omega
theorem cap_le (x : Nat) : capW x ≤ 4097 := by unfold capW; omega
theorem cap_zero (x : Nat) : capW x = 0 ↔ x = 0 := by unfold capW; omega
theorem cap_mul (x y : Nat) : capW (capW x * capW y) = capW (x * y) := by
  unfold capW
  rcases Nat.lt_or_ge x 4097 with hx | hx
  · rcases Nat.lt_or_ge y 4097 with hy | hy
    · rw [Nat.min_eq_left (show x ≤ 4097 by omega), Nat.min_eq_left (show y ≤ 4097 by omega)]
    · rw [Nat.min_eq_left (show x ≤ 4097 by omega), Nat.min_eq_right (show 4097 ≤ y by omega)]
      rcases Nat.eq_zero_or_pos x with h0 | h0
      · subst h0; simp
      · have h1 : 1 * 4097 ≤ x * 4097 := Nat.mul_le_mul_right _ h0
        have h2 : 1 * y ≤ x * y := Nat.mul_le_mul_right _ h0
        omega
  · rw [Nat.min_eq_right (show 4097 ≤ x by omega)]
    rcases Nat.eq_zero_or_pos y with h0 | h0
    · subst h0; simp
    · have h3 : 1 ≤ min y 4097 := by omega
      have h1 : 4097 * 1 ≤ 4097 * min y 4097 := Nat.mul_le_mul_left _ h3
      have h2 : x * 1 ≤ x * y := Nat.mul_le_mul_left _ h0
      omega
theorem cap_step (x y z : Nat) : capW (capW x + capW y * capW z) = capW (x + y * z) := by
  have h1 := cap_mul y z
  have h2 := cap_add x (y * z)
  have h3 : capW (capW x + capW y * capW z) = capW (capW x + capW (capW y * capW z)) := by unfold capW; omega
  rw [h3, h1, h2]
theorem thr_cap (f : Nat → Row) (v : Row) (more : Bool) (q : Nat) : ∀ p, thrGo capW (fun a q => capW (f a q)) (fun q => capW (v q)) more q p = capW (thrGo id f v more q p)
  | 0 => rfl
  | p + 1 => by
    rw [thrGo, thrGo, thr_cap f v more q p]
    simp only [cap_zero]
    split
    · rfl
    · exact cap_step _ _ _
abbrev capR (v : Row) : Row := fun q => capW (v q)
theorem thrR_cap (n : Nat) (f : Nat → Row) (v : Row) (more : Bool) : thrR capW n (fun a => capR (f a)) (capR v) more = capR (thrR id n f v more) := by
  funext q
  exact thr_cap f v more q (n + 1)
theorem none_cap (n : Nat) (v : Row) : noneR n (capR v) = noneR n v := by
  unfold noneR
  congr 1
  funext q
  simp only [capR, cap_zero]
theorem times_cap (n : Nat) (f : Nat → Row) : ∀ (k : Nat) (v : Row), timesR capW n (fun a => capR (f a)) k (capR v) = capR (timesR id n f k v)
  | 0, v => rfl
  | k + 1, v => by rw [timesR, timesR, thrR_cap, times_cap n f k]
theorem more_cap (n : Nat) (f : Nat → Row) : ∀ (k : Nat) (v all : Row), moreR capW n (fun a => capR (f a)) k (capR v) (capR all) = capR (moreR id n f k v all)
  | 0, v, all => rfl
  | k + 1, v, all => by
    rw [moreR, moreR, thrR_cap, none_cap]
    split
    · rfl
    · rw [← more_cap n f k]
      congr 1
      funext q
      exact cap_add _ _
theorem unit_cap (i : Nat) : unitR i = capR (unitR i) := by
  funext q
  simp only [unitR, capR]
  split <;> rfl
theorem one_cap (p : Prop) [Decidable p] : (if p then 1 else 0 : Nat) = capW (if p then 1 else 0) := by split <;> rfl
mutual
theorem row_cap (s : List UInt8) : ∀ (r : RE), rowR capW s r = fun a => capR (rowR id s r a)
  | .byte b => by funext a q; simp only [rowR, capR]; exact one_cap _
  | .bol => by funext a q; simp only [rowR, capR]; exact one_cap _
  | .eol => by funext a q; simp only [rowR, capR]; exact one_cap _
  | .back _ => by funext a q; simp only [rowR, capR]; exact one_cap _
  | .rep lo hi k => by
    funext a
    rw [rowR, rowR, row_cap s k]
    unfold repR
    dsimp only
    rw [unit_cap a, times_cap]
    split
    · rw [← unit_cap a]
    · rw [more_cap, ← unit_cap a]
  | .cat ks => by
    funext a
    rw [rowR, rowR, unit_cap a, cat_cap s ks, ← unit_cap a]
  | .group _ k => by
    funext a
    rw [rowR, rowR, row_cap s k, unit_cap a, thrR_cap, ← unit_cap a]
theorem cat_cap (s : List UInt8) : ∀ (ks : List RE) (v : Row), catR capW s ks (capR v) = capR (catR id s ks v)
  | [], v => by rw [catR, catR]
  | k :: ks, v => by
    rw [catR, catR, row_cap s k, thrR_cap, cat_cap s ks]
end
theorem sum_cap (v : Row) : ∀ q, sumGo capW (capR v) q = capW (sumGo id v q)
  | 0 => rfl
  | q + 1 => by rw [sumGo, sumGo, sum_cap v q]; exact cap_add _ _
theorem count_exact (s : List UInt8) (r : RE) (a : Nat) : countM s r a = capW (sumR id s.length (rowE s r a)) := by
  unfold countM sumR rowW rowE
  rw [row_cap s r]
  exact sum_cap _ _
end Go.Proofs.YthcbjbkheodejaaGreat
namespace Go.Proofs.YthcbjbkheodejaaGreat
open Go Go.RowKit Sl
set_option maxRecDepth 100000
set_option maxHeartbeats 8000000
attribute [local irreducible] ES EL PX wps
def Node (S : Nat → Prop) (w : World) (g off : Nat) (r : RE) : Prop :=
  ∃ ad cap cs0, Reads S w (some ⟨g, off, none⟩) (reCells r (.slice ad r.kids.length cap)) ∧ Forest S w r.kids cs0 ∧ Reads S w ad cs0 ∧ r.kids.length ≤ cap
abbrev NodeRd (w : World) (B g off : Nat) (r : RE) : Prop := Node (· < B) w g off r
theorem Node.mono {S S' : Nat → Prop} {w : World} {g off : Nat} {r : RE} (h : Node S w g off r) (hs : ∀ g, S g → S' g) : Node S' w g off r := by
  obtain ⟨ad, cap, cs0, h1, h2, h3, h4⟩ := h
  exact ⟨ad, cap, cs0, h1.mono hs, h2.mono hs, h3.mono hs, h4⟩
theorem Node.loc {S : Nat → Prop} {w w' : World} {g off : Nat} {r : RE} (h : Node S w g off r) (hl : ∀ g, S g → w'.heap[g]? = w.heap[g]?) : Node S w' g off r := by
  obtain ⟨ad, cap, cs0, h1, h2, h3, h4⟩ := h
  exact ⟨ad, cap, cs0, h1.loc hl, h2.loc hl, h3.loc hl, h4⟩
theorem NodeRd.beneath {w0 w : World} {B B' g off : Nat} {r : RE} (h : NodeRd w0 B g off r) (hb : Below B w0 w) (hB : B ≤ B') : NodeRd w B' g off r :=
  (h.loc (fun g hg => hb.block g hg)).mono (fun g hg => Nat.lt_of_lt_of_le hg hB)
theorem NodeRd.sat {w0 w : World} {B g off : Nat} {H : List HA} {r : RE} (h : NodeRd w0 B g off r) (hs : Sat w0 B H w) : NodeRd w w.heap.size g off r := h.beneath hs.below hs.base
theorem Reads.take9 {S : Nat → Prop} {w : World} {g off : Nat} {cs : List Value} (h : Reads S w (some ⟨g, off, none⟩) cs) (i : Nat) (hi : i * 9 < cs.length) : Reads S w (some ⟨g, off + i * 9, none⟩) ((cs.drop (i * 9)).take 9) := by
  intro _
  obtain ⟨g', off', h1, h2, ca, ta, h3, h4⟩ := h (fun e => by subst e; simp at hi)
  simp only [Option.some.injEq, Addr.mk.injEq] at h1
  obtain ⟨rfl, rfl, _⟩ := h1
  refine ⟨g, off + i * 9, rfl, h2, ca, ta, h3, fun j v hj => ?_⟩
  rw [List.getElem?_take] at hj
  split at hj
  · rw [List.getElem?_drop] at hj
    have := h4 _ v hj
    rwa [← Nat.add_assoc] at this
  · cases hj
theorem Node.of_row {S : Nat → Prop} {w : World} {g off i : Nat} {ks : List RE} {cs : List Value} {k : RE} (hf : Forest S w ks cs) (hr : Reads S w (some ⟨g, off, none⟩) cs) (hi : ks[i]? = some k) : Node S w g (off + i * 9) k := by
  obtain ⟨ad, cap, cs0, h1, h2, h3, h4⟩ := hf.get i k hi
  have hlt : i < ks.length := (List.getElem?_eq_some_iff.1 hi).1
  have hr9 := hr.take9 i (by rw [hf.len]; omega)
  rw [h1] at hr9
  exact ⟨ad, cap, cs0, hr9, h2, h3, h4⟩
theorem Node.kids {S : Nat → Prop} {w : World} {g off : Nat} {r : RE} (h : Node S w g off r) : ∃ ad cap, Reads S w (some ⟨g, off, none⟩) (reCells r (.slice ad r.kids.length cap)) ∧ (r.kids ≠ [] → ∃ g' o', ad = some ⟨g', o', none⟩ ∧ ∀ i k, r.kids[i]? = some k → Node S w g' (o' + i * 9) k) := by
  obtain ⟨ad, cap, cs0, h1, h2, h3, _⟩ := h
  refine ⟨ad, cap, h1, fun hne => ?_⟩
  have hl := h2.len
  have hpos : 0 < r.kids.length := List.length_pos_iff.2 hne
  obtain ⟨g', o', rfl, _⟩ := h3 (fun e => by rw [e] at hl; simp at hl; omega)
  exact ⟨g', o', rfl, fun i k hi => Node.of_row h2 h3 hi⟩
abbrev KidsRd (w : World) (B : Nat) (ks : List RE) (ad : Option Addr) : Prop := ∀ i k, ks[i]? = some k → ∃ g o, ad = some ⟨g, o, none⟩ ∧ NodeRd w B g (o + i * 9) k
theorem Node.kids2 {S : Nat → Prop} {w : World} {g off : Nat} {r : RE} (h : Node S w g off r) : ∃ ad cap, Reads S w (some ⟨g, off, none⟩) (reCells r (.slice ad r.kids.length cap)) ∧ (∀ i k, r.kids[i]? = some k → ∃ g' o', ad = some ⟨g', o', none⟩ ∧ Node S w g' (o' + i * 9) k) ∧ r.kids.length ≤ cap := by
  obtain ⟨ad, cap, cs0, h1, h2, h3, h4⟩ := h
  refine ⟨ad, cap, h1, fun i k hi => ?_, h4⟩
  have hl := h2.len
  have hlt : i < r.kids.length := (List.getElem?_eq_some_iff.1 hi).1
  obtain ⟨g', o', rfl, _⟩ := h3 (fun e => by rw [e] at hl; simp at hl; omega)
  exact ⟨g', o', rfl, Node.of_row h2 h3 hi⟩
theorem kids_of {w0 w : World} {B : Nat} {H : List HA} {r : RE} {ad : Option Addr} {cap : Nat} {fp : List Nat} (hs : Sat w0 B H w) (h2 : Mem H (HA.forest fp [r] (reCells r (.slice ad r.kids.length cap)))) : KidsRd w w.heap.size r.kids ad := by
  have hf := Forest.sat hs h2
  obtain ⟨ad', cap', cs0, e1, e2, e3, _⟩ := hf.get 0 r rfl
  have e4 : reCells r (.slice ad r.kids.length cap) = reCells r (.slice ad' r.kids.length cap') := by
    rw [← e1]; simp [reCells]
  simp only [reCells, List.cons.injEq, Value.slice.injEq, and_true, true_and] at e4
  obtain ⟨rfl, rfl⟩ := e4
  intro i k hi
  have hl := e2.len
  have hlt : i < r.kids.length := (List.getElem?_eq_some_iff.1 hi).1
  obtain ⟨g, o, rfl, _⟩ := e3 (fun e => by rw [e] at hl; simp at hl; omega)
  exact ⟨g, o, rfl, Node.of_row e2 e3 hi⟩
theorem node_of {w0 w : World} {B g e : Nat} {H : List HA} {r : RE} {ad : Option Addr} {cap : Nat} {fp : List Nat} (hs : Sat w0 B H w) (h1 : Mem H (HA.blk g (.cells (reCells r (.slice ad r.kids.length cap)).toArray e))) (h2 : Mem H (HA.forest fp [r] (reCells r (.slice ad r.kids.length cap)))) : NodeRd w w.heap.size g 0 r := by
  have hb : w.heap[g]? = some (.cells (reCells r (.slice ad r.kids.length cap)).toArray e (0, 0)) := hs.all _ h1.mem
  have hlt : g < w.heap.size := (Array.getElem?_eq_some_iff.1 hb).1
  have hf := Forest.sat hs h2
  obtain ⟨ad', cap', cs0, e1, e2, e3, e5⟩ := hf.get 0 r rfl
  have e4 : reCells r (.slice ad r.kids.length cap) = reCells r (.slice ad' r.kids.length cap') := by
    rw [← e1]; simp [reCells]
  simp only [reCells, List.cons.injEq, Value.slice.injEq, and_true, true_and] at e4
  obtain ⟨rfl, rfl⟩ := e4
  exact ⟨ad, cap, cs0, fun _ => ⟨g, 0, rfl, hlt, _, e, hb, fun j v hj => by rw [Nat.zero_add]; simpa using hj⟩, e2, e3, e5⟩
mutual
def RE.sz : RE → Nat
  | .cat ks => szL ks + 1
  | .group _ k => k.sz + 1
  | .rep _ _ k => k.sz + 1
  | _ => 1
def szL : List RE → Nat
  | [] => 0
  | k :: ks => k.sz + szL ks
end
theorem sz_mem : ∀ {ks : List RE} {k : RE}, k ∈ ks → k.sz ≤ szL ks
  | k' :: ks, k, h => by
    rw [szL]
    rcases List.mem_cons.1 h with rfl | h
    · omega
    · have := sz_mem h; omega
theorem sz_pos (r : RE) : 0 < r.sz := by cases r <;> simp [RE.sz]
theorem kids_lt {r k : RE} (h : k ∈ r.kids) : k.sz < r.sz := by
  cases r <;> simp only [RE.kids, List.mem_cons, List.not_mem_nil, or_false] at h
  · have := sz_mem h
    simp only [RE.sz]; omega
  · subst h; simp only [RE.sz]; omega
  · subst h; simp only [RE.sz]; omega
theorem wv_inj {x y : UInt64} (h : Wv x = Wv y) : x = y := by
  simp only [Value.int.injEq, true_and] at h
  exact UInt64.toNat_inj.1 (by omega)
theorem iv_inj {x y : Nat} (h : Iv (x : Nat) = Iv (y : Nat)) : x = y := by
  simp only [Value.int.injEq, true_and] at h
  omega
theorem bs_inj {s t : BS} (ha : s.a = t.a) (hb : s.b = t.b) (hc : s.c = t.c) (hd : s.d = t.d) : s = t := by
  cases s; cases t; simp_all
theorem re_ext {r r' : RE} (h1 : r.kind = r'.kind) (h2 : r.set = r'.set) (h3 : r.lo = r'.lo) (h4 : r.hi = r'.hi) (h5 : r.num = r'.num) (h6 : r.kids = r'.kids) : r = r' := by
  cases r <;> cases r' <;> simp_all [RE.kind, RE.set, RE.lo, RE.hi, RE.num, RE.kids]
theorem Reads.one {S S' : Nat → Prop} {w : World} {g off : Nat} {cs cs' : List Value} (h : Reads S w (some ⟨g, off, none⟩) cs) (h' : Reads S' w (some ⟨g, off, none⟩) cs') (hl : cs.length = cs'.length) : cs = cs' := by
  apply List.ext_getElem hl
  intro i h1 h2
  have e1 := h.cell i _ (List.getElem?_eq_getElem h1)
  have e2 := h'.cell i _ (List.getElem?_eq_getElem h2)
  rw [e1] at e2
  exact Option.some.inj e2
theorem node_inj {S S' : Nat → Prop} {w : World} (n : Nat) : ∀ (g off : Nat) (r r' : RE), r.sz ≤ n → Node S w g off r → Node S' w g off r' → r = r' := by
  induction n with
  | zero => intro g off r r' hr; exact absurd (sz_pos r) (by omega)
  | succ n ih =>
    intro g off r r' hr h h'
    obtain ⟨ad, cap, hrd, hk⟩ := h.kids
    obtain ⟨ad', cap', hrd', hk'⟩ := h'.kids
    have he := hrd.one hrd' rfl
    simp only [reCells, List.cons.injEq, and_true] at he
    obtain ⟨h1, h2, h3, h4, h5, h6, h7, h8, h9⟩ := he
    simp only [Value.slice.injEq] at h9
    obtain ⟨rfl, hl, rfl⟩ := h9
    refine re_ext (iv_inj h1) (bs_inj (wv_inj h2) (wv_inj h3) (wv_inj h4) (wv_inj h5)) (iv_inj h6) (by simpa using h7) (iv_inj h8) ?_
    apply List.ext_getElem hl
    intro i a1 a2
    obtain ⟨g1, o1, e1, q1⟩ := hk (by intro e; rw [e] at a1; simp at a1)
    obtain ⟨g2, o2, e2, q2⟩ := hk' (by intro e; rw [e] at a2; simp at a2)
    rw [e1] at e2
    simp only [Option.some.injEq, Addr.mk.injEq] at e2
    obtain ⟨rfl, rfl, _⟩ := e2
    refine ih g1 (o1 + i * 9) _ _ ?_ (q1 i _ (List.getElem?_eq_getElem a1)) (q2 i _ (List.getElem?_eq_getElem a2))
    have := kids_lt (List.getElem_mem a1)
    omega
theorem Node.inj {S S' : Nat → Prop} {w : World} {g off : Nat} {r r' : RE} (h : Node S w g off r) (h' : Node S' w g off r') : r = r' := node_inj r.sz g off r r' (Nat.le_refl _) h h'
mutual
def RE.fine : RE → Prop
  | .cat ks => ks.length ≤ 1024 ∧ fineL ks
  | .group n k => n ≤ 9 ∧ k.fine
  | .rep lo hi k => lo ≤ 255 ∧ -1 ≤ hi ∧ hi ≤ 255 ∧ (0 ≤ hi → (lo : Int) ≤ hi) ∧ k.fine
  | .back n => 1 ≤ n ∧ n ≤ 9
  | _ => True
def fineL : List RE → Prop
  | [] => True
  | k :: ks => k.fine ∧ fineL ks
end
theorem fineL_iff : ∀ ks : List RE, fineL ks ↔ ∀ k ∈ ks, k.fine
  | [] => by simp [fineL]
  | k :: ks => by rw [fineL, fineL_iff ks]; simp
theorem fine_kid {r k : RE} (h : r.fine) (hk : k ∈ r.kids) : k.fine := by
  cases r <;> simp only [RE.kids, List.mem_cons, List.not_mem_nil, or_false] at hk
  · exact (fineL_iff _).1 h.2 k hk
  · subst hk; exact h.2
  · subst hk; exact h.2.2.2.2
theorem fine_len {r : RE} (h : r.fine) : r.kids.length ≤ 1024 := by
  cases r <;> simp only [RE.kids, List.length_nil, List.length_singleton] <;> first | omega | exact h.1
theorem thinL_all : ∀ ks : List RE, thinL ks = ks.all RE.thin
  | [] => rfl
  | k :: ks => by rw [thinL, List.all_cons, thinL_all ks]
theorem thin_eq (r : RE) : r.thin = if r.kind = 1 ∨ r.kind = 6 then false else if r.kind = 5 ∧ r.hi = 0 then true else r.kids.all RE.thin := by
  cases r with
  | cat ks => simp [RE.thin, RE.kind, RE.kids, thinL_all]
  | byte s => simp [RE.thin, RE.kind]
  | bol => simp [RE.thin, RE.kind, RE.kids]
  | eol => simp [RE.thin, RE.kind, RE.kids]
  | group n k => simp [RE.thin, RE.kind, RE.kids]
  | rep lo hi k => simp only [RE.thin, RE.kind, RE.kids, RE.hi]; by_cases h : hi = 0 <;> simp [h]
  | back n => simp [RE.thin, RE.kind]
theorem all_take {α : Type _} (p : α → Bool) (l : List α) (i : Nat) (k : α) (hi : l[i]? = some k) : (l.take (i + 1)).all p = ((l.take i).all p && p k) := by
  have hlt : i < l.length := (List.getElem?_eq_some_iff.1 hi).1
  rw [List.take_succ_eq_append_getElem hlt, (List.getElem?_eq_some_iff.1 hi).2]
  simp
theorem all_false {α : Type _} (p : α → Bool) (l : List α) (i : Nat) (k : α) (hi : l[i]? = some k) (h : p k = false) : l.all p = false := by
  rw [Bool.eq_false_iff]
  intro h2
  have := List.all_eq_true.1 h2 k (List.mem_of_getElem? hi)
  rw [h] at this; cases this
theorem thin_n (n : Nat) : ∀ (r : RE), r.sz ≤ n → r.fine → ∀ (g off : Nat) (w : World), NodeRd w w.heap.size g off r → Pure Tryz.prog 87 #[Pv g off] (fun _ : Unit => .bool r.thin) (fun _ => []) w := by
  induction n with
  | zero => intro r hr; exact absurd (sz_pos r) (by omega)
  | succ n ih =>
    intro r hr hfine g off w hn
    have hkl := fine_len hfine
    obtain ⟨ad, cap, hrd, hkids⟩ := hn.kids
    have hrd := hrd.rd
    have hte := thin_eq r
    refine calls_of_ES TB Tryz.func87 rfl _ Tryz.ntmps87 rfl (Sat.start w) ?_; refine .go ?_; (repeat constructor); refine .as_ ?_; refine .go ?_; repeat constructor
    refine EL.cutX (X := Unit) (fun _ => [(0, Pv g off), (4, .bool (decide (r.kind = 1 ∨ r.kind = 6)))]) (fun _ => []) ?_ (fun _ => ?_)
    · refine .go ?_; (repeat constructor); refine .mv ?_; refine .nc ?_; refine .fa ?_; refine EL.loadOld rfl rfl rfl rfl rfl hrd rfl ?_; refine .ei ?_; refine .mv ?_
      first | refine EL.splitD (d := 10) rfl (fun hp10 => ?_) (fun hp10 => ?_) | refine EL.splitN (d := 10) rfl (fun hp10 => ?_) (fun hp10 => ?_) | refine EL.splitB (d := 10) rfl (fun hp10 => ?_) (fun hp10 => ?_)
      · refine .ps ?_; refine .ps ?_; refine .ps ?_; refine .ps ?_; refine .ps ?_; refine .pt ?_; refine .as_ ?_
        exact .dx () ⟨rfl, getA rfl (congrArg Value.bool (by rw [Bool.eq_iff_iff]; simp only [decide_eq_true_eq, true_iff]; omega)), trivial⟩
      · refine .mv ?_; refine .nc ?_; refine .fa ?_; refine EL.loadOld rfl rfl rfl rfl rfl hrd rfl ?_; refine .ei ?_; refine .pf ?_; refine .as_ ?_
        exact .dx () ⟨rfl, getA rfl (congrArg Value.bool (by rw [Bool.eq_iff_iff]; simp only [decide_eq_true_eq, true_iff]; omega)), trivial⟩
    refine ES.condD rfl (fun h1 => ?_) (fun h1 => ?_)
    · rw [if_pos h1] at hte
      rw [hte]
      refine .go ?_; (repeat constructor); refine .as_ ?_; refine .go ?_; repeat constructor
      exact PX.ret rfl Tryz.results87 (.cons (.tmp rfl) .nil) (fun w hs => ⟨(), rfl, hs.ent (.i (by repeat constructor))⟩)
    rw [if_neg h1] at hte
    refine .go ?_; repeat constructor
    refine EL.cutX (X := Unit) (fun _ => [(0, Pv g off), (17, .bool (decide (r.kind = 5 ∧ r.hi = 0)))]) (fun _ => []) ?_ (fun _ => ?_)
    · refine .go ?_; (repeat constructor); refine .mv ?_; refine .nc ?_; refine .fa ?_; refine EL.loadOld rfl rfl rfl rfl rfl hrd rfl ?_; refine .ei ?_; refine .mv ?_
      first | refine EL.splitD (d := 23) rfl (fun hp23 => ?_) (fun hp23 => ?_) | refine EL.splitN (d := 23) rfl (fun hp23 => ?_) (fun hp23 => ?_) | refine EL.splitB (d := 23) rfl (fun hp23 => ?_) (fun hp23 => ?_)
      · refine .mv ?_; refine .nc ?_; refine .fa ?_; refine EL.loadOld rfl rfl rfl rfl rfl hrd rfl ?_; refine .ei ?_; refine .pt ?_; refine .as_ ?_
        exact .dx () ⟨rfl, getA rfl (congrArg Value.bool (by rw [Bool.eq_iff_iff]; simp only [decide_eq_true_eq, Bool.false_eq_true, false_iff]; omega)), trivial⟩
      · refine .ps ?_; refine .ps ?_; refine .ps ?_; refine .ps ?_; refine .ps ?_; refine .pf ?_; refine .as_ ?_
        exact .dx () ⟨rfl, getA rfl (congrArg Value.bool (by rw [Bool.eq_iff_iff]; simp only [decide_eq_true_eq, Bool.false_eq_true, false_iff]; omega)), trivial⟩
    refine ES.condD rfl (fun h2 => ?_) (fun h2 => ?_)
    · rw [if_pos h2] at hte
      rw [hte]
      refine .go ?_; (repeat constructor); refine .as_ ?_; refine .go ?_; repeat constructor
      exact PX.ret rfl Tryz.results87 (.cons (.tmp rfl) .nil) (fun w hs => ⟨(), rfl, hs.ent (.i (by repeat constructor))⟩)
    rw [if_neg h2] at hte
    refine .go ?_; (repeat constructor); refine .mv ?_; refine .nc ?_; refine .fa ?_; refine EL.loadOld rfl rfl rfl rfl rfl hrd rfl ?_; refine .lL ?_; refine .mv ?_; refine .go ?_; (repeat constructor); refine ES.loop (σ := Nat) (fun i => i ≤ r.kids.length ∧ (r.kids.take i).all RE.thin = true) (fun i => [(0, Pv g off), (34, Iv (r.kids.length : Nat)), (35, Iv (i : Nat))]) (fun _ => []) (fun i => r.kids.length - i) 0 ⟨Nat.zero_le _, rfl⟩ ⟨rfl, rfl, rfl, trivial⟩ (.i (by repeat constructor)) ?_
    rintro i ⟨hi, hall⟩
    dsimp only at hi hall ⊢
    refine .go ?_; (repeat constructor); refine .ls ?_; refine .go ?_; repeat constructor
    refine ES.condD rfl (fun hlt => ?_) (fun hge => ?_)
    · have hlt' : i < r.kids.length := by omega
      obtain ⟨g', o', rfl, hk⟩ := hkids (by intro e; rw [e] at hlt'; simp at hlt')
      obtain ⟨k, hki⟩ : ∃ k, r.kids[i]? = some k := ⟨_, List.getElem?_eq_getElem hlt'⟩
      have hkn := hk i k hki
      have hks := kids_lt (List.mem_of_getElem? hki)
      refine .go ?_; (repeat constructor); refine .mv ?_; refine .as_ ?_; refine .go ?_; (repeat constructor); refine .mv ?_; refine .nc ?_; refine .fa ?_; refine EL.loadOld rfl rfl rfl rfl rfl hrd rfl ?_; refine .mv ?_; refine EL.indexAddrL rfl rfl rfl rfl rfl rfl rfl (by omega) ?_; refine EL.callPw rfl rfl rfl ent87 rfl (fun w hs => ih k (by omega) (fine_kid hfine (List.mem_of_getElem? hki)) g' (o' + i * 9) w (NodeRd.sat hkn hs)) ?_; refine .nt ?_; refine .go ?_; repeat constructor
      refine ES.cond rfl (fun hf => ?_) (fun ht => ?_)
      · rw [Bool.not_eq_true'] at hf
        rw [hte, all_false _ _ _ _ hki hf]
        refine .go ?_; (repeat constructor); refine .as_ ?_; refine .go ?_; repeat constructor
        exact PX.ret rfl Tryz.results87 (.cons (.tmp rfl) .nil) (fun w hs => ⟨(), rfl, hs.ent (.i (by repeat constructor))⟩)
      · rw [Bool.not_eq_false'] at ht
        refine .go ?_; (repeat constructor); refine .a1 ?_; refine .mv ?_; refine .go ?_; repeat constructor
        exact .ly (i + 1) ⟨hlt', by rw [all_take _ _ _ _ hki, hall, ht]; rfl⟩ (by omega)
    · rw [hte, show r.kids.all RE.thin = true by rw [List.take_of_length_le (by omega)] at hall; exact hall]
      refine .go ?_; (repeat constructor); refine .as_ ?_; refine .go ?_; repeat constructor
      exact PX.ret rfl Tryz.results87 (.cons (.tmp rfl) .nil) (fun w hs => ⟨(), rfl, hs.ent (.i (by repeat constructor))⟩)
theorem thin_c (r : RE) (hf : r.fine) (g off : Nat) (w : World) (h : NodeRd w w.heap.size g off r) : Pure Tryz.prog 87 #[Pv g off] (fun _ : Unit => .bool r.thin) (fun _ => []) w := thin_n r.sz r (Nat.le_refl _) hf g off w h
theorem least_c (lo : Nat) (hi : Int) (k : RE) (hf : (RE.rep lo hi k).fine) (g off : Nat) (w : World) (h : NodeRd w w.heap.size g off (.rep lo hi k)) : Pure Tryz.prog 68 #[Pv g off] (fun _ : Unit => Iv (leastM lo k : Nat)) (fun _ => []) w := by
  obtain ⟨ad, cap, hrd, hkids⟩ := h.kids
  have hrd := hrd.rd
  obtain ⟨g', o', rfl, hk⟩ := hkids (by simp [RE.kids])
  have hkn : NodeRd w w.heap.size g' o' k := by have := hk 0 k rfl; rwa [Nat.zero_mul, Nat.add_zero] at this
  have hlo := hf.1
  have hle : leastM lo k = if k.thin = true then min lo 1 else lo := rfl
  refine calls_of_ES TB Tryz.func68 rfl _ Tryz.ntmps68 rfl (Sat.start w) ?_; refine .go ?_; (repeat constructor); refine .as_ ?_; refine .go ?_; (repeat constructor); refine .mv ?_; refine .nc ?_; refine .fa ?_; refine EL.loadOld rfl rfl rfl rfl rfl hrd rfl ?_; refine EL.indexAddrL (i := 0) rfl rfl rfl rfl rfl rfl rfl (by simp [RE.kids]) ?_; refine EL.callPw rfl rfl rfl ent87 rfl (fun w hs => thin_c k hf.2.2.2.2 g' o' w (NodeRd.sat hkn hs)) ?_; refine .go ?_; repeat constructor
  refine ES.cond rfl (fun ht => ?_) (fun hf => ?_)
  · rw [if_pos ht] at hle
    rw [hle]
    refine .go ?_; (repeat constructor); refine .mv ?_; refine .nc ?_; refine .fa ?_; refine EL.loadOld rfl rfl rfl rfl rfl hrd rfl ?_
    refine EL.ofRV (RV.minI rfl rfl) rfl rfl rfl (by intro c h; cases h) ?_
    refine .as_ ?_; refine .go ?_; repeat constructor
    exact PX.ret rfl Tryz.results68 (.cons (.tmp rfl) .nil) (fun w hs => ⟨(), by show Ending.returned (Iv (min (lo : Int) 1)) = Ending.returned (Iv ((min lo 1 : Nat) : Int)); congr 2; omega, hs.ent (.i (by repeat constructor))⟩)
  · rw [if_neg (by rw [hf]; decide)] at hle
    rw [hle]
    refine .go ?_; (repeat constructor); refine .mv ?_; refine .nc ?_; refine .fa ?_; refine EL.loadOld rfl rfl rfl rfl rfl hrd rfl ?_; refine .as_ ?_; refine .go ?_; repeat constructor
    exact PX.ret rfl Tryz.results68 (.cons (.tmp rfl) .nil) (fun w hs => ⟨(), rfl, hs.ent (.i (by repeat constructor))⟩)
theorem kind_1 {r : RE} (h : r.kind = 1) : ∃ b, r = .byte b := by cases r <;> first | (simp [RE.kind] at h; done) | exact ⟨_, rfl⟩
theorem kind_2 {r : RE} (h : r.kind = 2) : r = .bol := by cases r <;> first | (simp [RE.kind] at h; done) | rfl
theorem kind_3 {r : RE} (h : r.kind = 3) : r = .eol := by cases r <;> first | (simp [RE.kind] at h; done) | rfl
theorem kind_6 {r : RE} (h : r.kind = 6) : ∃ n, r = .back n := by cases r <;> first | (simp [RE.kind] at h; done) | exact ⟨_, rfl⟩
theorem kind_5 {r : RE} (h : r.kind = 5) : ∃ lo hi k, r = .rep lo hi k := by cases r <;> first | (simp [RE.kind] at h; done) | exact ⟨_, _, _, rfl⟩
theorem kind_le (r : RE) : r.kind ≤ 6 := by cases r <;> simp [RE.kind]
theorem set_cells (r : RE) (kv : Value) : ∀ i u, [Wv r.set.a, Wv r.set.b, Wv r.set.c, Wv r.set.d][i]? = some u → (reCells r kv)[1 + i]? = some u := by
  intro i u hi
  rw [Nat.add_comm]
  simp only [reCells, List.getElem?_cons_succ]
  rcases i with _ | _ | _ | _ | i <;> simp_all
end Go.Proofs.YthcbjbkheodejaaGreat
namespace Go.Proofs.YthcbjbkheodejaaGreat
open Go Go.RowKit Sl
set_option maxRecDepth 100000
set_option maxHeartbeats 8000000
attribute [local irreducible] ES EL PX wps
def kidsFine (p : PS) : Prop := ∀ f ∈ p.top :: p.rest, ∀ k ∈ f.kids, k.fine
theorem put_fine {p : PS} {r : RE} {n : Nat} {sz : Nat} (h : kidsFine p) (hr : r.fine) : kidsFine { p with top := p.top.put r n, size := sz } := by
  intro f hf k hk
  rcases List.mem_cons.1 hf with rfl | hf
  · simp only [put_kids, List.mem_append, List.mem_singleton] at hk
    rcases hk with hk | rfl
    · exact h p.top (by simp) k hk
    · exact hr
  · exact h f (by simp [hf]) k hk
theorem takeM_fine {p : PS} {N : Nat} (hN : N ≤ 1024) {k : Tok} (hp : POk p N) (hk : TokOk p k) (h6 : k.kind ≤ 6) (he : (takeM p k).2 = 0) (h : kidsFine p) : kidsFine (takeM p k).1 := by
  rcases (by omega : k.kind = 0 ∨ k.kind = 1 ∨ k.kind = 2 ∨ k.kind = 3 ∨ k.kind = 4 ∨ k.kind = 5 ∨ k.kind = 6) with h0 | h0 | h0 | h0 | h0 | h0 | h0
  · rw [takeM_0 h0]
    exact put_fine h (by simp [RE.fine])
  · rw [takeM_1 h0]
    exact put_fine h (by simp [RE.fine])
  · rw [takeM_2 h0]
    exact put_fine h (by simp [RE.fine])
  · rw [takeM_3 h0] at he ⊢
    split at he
    · cases he
    · rename_i hg
      rw [if_neg hg]
      intro f hf
      rcases List.mem_cons.1 hf with rfl | hf
      · simp
      · exact h f hf
  · rw [takeM_4 h0] at he ⊢
    obtain ⟨top, rest, groups, shut, size⟩ := p
    cases rest with
    | nil => cases he
    | cons f r =>
      dsimp only
      have hn := hp.ok.num top (by simp)
      have hkl := hp.kids top (by simp)
      intro f' hf k' hk'
      rcases List.mem_cons.1 hf with rfl | hf
      · simp only [put_kids, List.mem_append, List.mem_singleton] at hk'
        rcases hk' with hk' | rfl
        · exact h f (by simp) k' hk'
        · refine ⟨hn, by omega, (fineL_iff _).2 (fun k2 hk2 => h top (by simp) k2 hk2)⟩
      · exact h f' (by simp [hf]) k' hk'
  · rw [takeM_5 h0] at he ⊢
    obtain ⟨hne, q1, q2, q3, q4, q5⟩ := hk.rep h0
    dsimp only
    have hl := dropLast_last p.top.kids .bol hne
    intro f hf k' hk'
    rcases List.mem_cons.1 hf with rfl | hf
    · simp only [List.mem_append, List.mem_singleton] at hk'
      rcases hk' with hk' | rfl
      · exact h p.top (by simp) k' (by rw [hl]; exact List.mem_append_left _ hk')
      · have hlast : p.top.kids.getLastD .bol ∈ p.top.kids := by
          have hm : p.top.kids.getLastD .bol ∈ p.top.kids.dropLast ++ [p.top.kids.getLastD .bol] := List.mem_append_right _ List.mem_cons_self
          rwa [← hl] at hm
        refine ⟨by omega, q3, q4, fun hh => ?_, h p.top (by simp) _ hlast⟩
        have := q5 hh
        omega
    · exact h f (by simp [hf]) k' hk'
  · rw [takeM_6 h0] at he ⊢
    split at he
    · rename_i hs
      rw [if_pos hs]
      have := hk.back h0
      exact put_fine h ⟨by omega, by omega⟩
    · cases he
theorem parseGo_fine : ∀ (ks : List Tok) (p : PS) (N : Nat), N + ks.length ≤ 1024 → POk p N → TksOk ks p → kidsFine p → (parseGo ks p).tree.fine
  | [], p, N, hN, hp, _, h => by
    rw [parseGo]
    unfold endM
    split
    · exact ⟨by have := hp.kids p.top (by simp); omega, (fineL_iff _).2 (fun k hk => h p.top (by simp) k hk)⟩
    · exact ⟨by simp, trivial⟩
  | k :: ks, p, N, hN, hp, hk, h => by
    rw [parseGo]
    simp only [List.length_cons] at hN
    obtain ⟨h1, h2, h3, h4⟩ := hk
    split
    · exact ⟨by simp, trivial⟩
    · rename_i he
      have he := Classical.not_not.1 he
      have h6 : k.kind ≤ 6 := by
        rcases Nat.lt_or_ge k.kind 7 with hh | hh
        · omega
        · rw [takeM_7 hh] at he; exact absurd he (h3 (by omega))
      exact parseGo_fine ks _ (N + 1) (by omega) (takeM_ok hp h1 he h6) (h4 he) (takeM_fine (by omega) hp h1 h6 he h)
theorem parse_fine (t : List UInt8) : (parseM t).tree.fine := by
  unfold parseM
  split
  · exact ⟨by simp, trivial⟩
  · rename_i ht
    have := toks_len t t.length 0 true true
    exact parseGo_fine _ _ 0 (by unfold toksM; omega) ps0_pok (parse_toks_ok t) (by intro f hf k hk; simp [ps0] at hf; subst hf; simp at hk)
end Go.Proofs.YthcbjbkheodejaaGreat
namespace Go.Proofs.YthcbjbkheodejaaGreat.Sl
open Go Go.RowKit
structure MK where
  g : Nat
  off : Nat
  is : List Int
deriving DecidableEq
def MK.cells (k : MK) : Array Value := (Pv k.g k.off :: k.is.map fun i : Int => Iv i).toArray
abbrev MK.val (k : MK) : Value := .agg k.cells
def PlainAt (w : World) (g : Nat) : Prop := ∃ ca ta, w.heap[g]? = some (.cells ca ta (0, 0))
def intFields (P : Program) (T : TyTab P) : Nat → List Field → Prop
  | _, [] => True
  | o, f :: fs => (∃ tj, T.f f.type = some tj ∧ tj.u = .int .i64) ∧ f.offset = o ∧ (f.name == "_") = false ∧ intFields P T (o + 1) fs
section eq
variable {P : Program} (T : TyTab P)
theorem run_eqInts (d : Nat) (w : World) : ∀ (fs : List Field) (o : Nat) (is js : List Int) (xs ys : Array Value), intFields P T o fs → is.length = fs.length → js.length = fs.length → (∀ i m, is[i]? = some m → xs[o + i]? = some (Iv m)) → (∀ i m, js[i]? = some m → ys[o + i]? = some (Iv m)) →
    (Op.eqFields (d + 1) xs ys fs).run P w = .ok (decide (is = js)) w
  | [], o, is, js, xs, ys, _, hi, hj, _, _ => by
    obtain rfl := List.eq_nil_of_length_eq_zero hi
    obtain rfl := List.eq_nil_of_length_eq_zero hj
    simp [Op.eqFields]
  | f :: fs, o, [], js, xs, ys, _, hi, _, _, _ => by simp at hi
  | f :: fs, o, _ :: _, [], xs, ys, _, _, hj, _, _ => by simp at hj
  | f :: fs, o, m :: is, n :: js, xs, ys, h, hi, hj, hx, hy => by
    obtain ⟨⟨tj, ht, hu⟩, ho, hn, hr⟩ := h
    have hE := (T.ok _ _ ht).u
    rw [hu] at hE
    have hI := ((T.ok _ _ ht).runInfo w).2.2.2
    have hag : tj.agg = false := by simp [TI.agg, hu]
    have hnm : f.name ≠ "_" := by simpa using hn
    have h1 := hx 0 m rfl
    have h2 := hy 0 n rfl
    rw [Nat.add_zero] at h1 h2
    have ih := run_eqInts d w fs (o + 1) is js xs ys hr (by simpa using hi) (by simpa using hj) (fun i m' hm => by rw [show o + 1 + i = o + (i + 1) by omega]; exact hx (i + 1) m' hm) (fun i m' hm => by rw [show o + 1 + i = o + (i + 1) by omega]; exact hy (i + 1) m' hm)
    rw [Op.eqFields, if_pos hnm]
    simp only [Go.part, Sem.run_bind, hI, hag, ho, h1, h2, Result.andThen, Bool.false_eq_true, if_false, Sem.run_pure, run_equalIn_int hE]
    by_cases e : m = n
    · subst e
      simp [ih]
    · simp [e]
theorem run_equal_key {t : Nat} {ti t0 te : TI} {f0 : Field} {fs : List Field} {el : Nat} (ht : T.f t = some ti) (hu : ti.u = .struct (f0 :: fs).toArray) (hst : P.stoodInHeld t = false) (h0 : T.f f0.type = some t0) (hu0 : t0.u = .pointer el) (hte : T.f el = some te) (hez : te.size ≠ 0)
    (ho0 : f0.offset = 0) (hn0 : (f0.name == "_") = false) (hfs : intFields P T 1 fs) (k k' : MK) (hk : k.is.length = fs.length) (hk' : k'.is.length = fs.length) (w : World) (hp : PlainAt w k.g) (hp' : PlainAt w k'.g) :
    (Op.equal t k.val k'.val).run P w = .ok (decide (k = k')) w := by
  have hT := (T.ok t ti ht).u
  rw [hu] at hT
  have hfo : P.fieldsOf t = (f0 :: fs).toArray := by unfold Program.fieldsOf; rw [hT]
  have hE := (T.ok _ _ h0).u
  rw [hu0] at hE
  have hI := ((T.ok _ _ h0).runInfo w).2.2.2
  have hag : t0.agg = false := by simp [TI.agg, hu0]
  have hnm : f0.name ≠ "_" := by simpa using hn0
  have hsz := ((T.ok _ _ hte).runInfo w).1
  have hints := fun d => run_eqInts T d w fs 1 k.is k'.is k.cells k'.cells hfs hk hk' (fun i m hm => by rw [Nat.add_comm]; simp [MK.cells, hm]) (fun i m hm => by rw [Nat.add_comm]; simp [MK.cells, hm])
  have key : ∀ d, (Op.equalIn (d + 2) t k.val k'.val).run P w = .ok (decide (k = k')) w := fun d => by
    rw [run_equalIn_struct w (d + 1) t _ _ (by rw [hfo]; exact hT) hst, hfo]
    rw [Op.eqFields, if_pos hnm]
    have c1 : k.cells[0]? = some (Pv k.g k.off) := by simp [MK.cells]
    have c2 : k'.cells[0]? = some (Pv k'.g k'.off) := by simp [MK.cells]
    have hptr : (Op.equalIn (d + 1) f0.type (Pv k.g k.off) (Pv k'.g k'.off)).run P w = .ok (decide (k.g = k'.g ∧ k.off = k'.off)) w := by
      obtain ⟨ca, ta, ha⟩ := hp
      obtain ⟨cb, tb, hb⟩ := hp'
      by_cases e : k.g = k'.g ∧ k.off = k'.off
      · rw [e.1, e.2]
        simp [Op.equalIn, run_underlying hE, hsz, hez, run_sameAddr_same, Result.andThen]
      · have hne : (⟨k.g, k.off, none⟩ : Addr) ≠ ⟨k'.g, k'.off, none⟩ := by
          intro h; simp only [Addr.mk.injEq, and_true] at h; exact e h
        simp [Op.equalIn, run_underlying hE, hsz, hez, run_sameAddr_other w hne ha hb, Result.andThen, e]
    simp only [Go.part, Sem.run_bind, hI, hag, ho0, c1, c2, Result.andThen, Bool.false_eq_true, if_false, Sem.run_pure, hptr, Sem.run_ite, hints d]
    obtain ⟨g, off, is⟩ := k
    obtain ⟨g', off', is'⟩ := k'
    by_cases e : g = g' ∧ off = off'
    · simp [e]
    · simp only [e, decide_false, Bool.not_false, if_true, MK.mk.injEq]
      congr 1
      rw [eq_comm, decide_eq_false_iff_not]
      exact fun h => e ⟨h.1, h.2.1⟩
  exact key 9998
theorem run_check_one {n t : Nat} {d : TypeDesc} {e : Bool} (hT : P.underlying t = some d) (hd : (∃ el, d = .pointer el) ∨ ∃ q, d = .int q) (v : Value) (w : World) : (Instr.checkKey e (n + 1) t v).run P w = .ok () w := by
  rcases hd with ⟨el, rfl⟩ | ⟨q, rfl⟩
  · simp [Instr.checkKey, run_underlying hT, Result.andThen]
  · simp [Instr.checkKey, run_underlying hT, Result.andThen]
theorem run_check_ints (e : Bool) (n m : Nat) (hnm : n = m + 1) (w : World) (cs : Array Value) : ∀ (fs : List Field) (o : Nat), intFields P T o fs → (o + fs.length ≤ cs.size) →
    (forIn fs PUnit.unit (fun f (_ : PUnit) => if f.name ≠ "_" then (do let v ← part f.type cs f.offset; Instr.checkKey e n f.type v; pure (ForInStep.yield PUnit.unit)) else pure (ForInStep.yield PUnit.unit)) : Sem PUnit).run P w = .ok PUnit.unit w
  | [], o, _, _ => by simp
  | f :: fs, o, h, hl => by
    obtain ⟨⟨tj, ht, hu⟩, ho, hn, hr⟩ := h
    have hE := (T.ok _ _ ht).u
    have hI := ((T.ok _ _ ht).runInfo w).2.2.2
    have hag : tj.agg = false := by simp [TI.agg, hu]
    have hnm' : f.name ≠ "_" := by simpa using hn
    simp only [List.length_cons] at hl
    have hg : cs[o]? = some cs[o] := Array.getElem?_eq_getElem (by omega)
    have ih := run_check_ints e n m hnm w cs fs (o + 1) hr (by omega)
    have hc := run_check_one (P := P) (n := m) (e := e) hE (.inr ⟨_, hu⟩) cs[o] w
    rw [← hnm] at hc
    rw [List.forIn_cons]
    simp only [if_pos hnm', Sem.run_bind, Go.part, hI, hag, ho, hg, Result.andThen, Bool.false_eq_true, if_false, Sem.run_pure, hc]
    exact ih
theorem run_check_key {e : Bool} {t : Nat} {ti t0 : TI} {f0 : Field} {fs : List Field} {el : Nat} (ht : T.f t = some ti) (hu : ti.u = .struct (f0 :: fs).toArray) (h0 : T.f f0.type = some t0) (hu0 : t0.u = .pointer el) (ho0 : f0.offset = 0) (hfs : intFields P T 1 fs) (k : MK) (hk : k.is.length = fs.length) (w : World) :
    (Instr.checkKey e 10000 t k.val).run P w = .ok () w := by
  have hT := (T.ok t ti ht).u
  rw [hu] at hT
  have hE := (T.ok _ _ h0).u
  rw [hu0] at hE
  have hI := ((T.ok _ _ h0).runInfo w).2.2.2
  have hag : t0.agg = false := by simp [TI.agg, hu0]
  have c1 : k.cells[0]? = some (Pv k.g k.off) := by simp [MK.cells]
  have hi := run_check_ints T e 9999 9998 rfl w k.cells fs 1 hfs (by simp [MK.cells, hk]; omega)
  rw [Instr.checkKey]
  simp only [Sem.run_bind, run_underlying hT, Result.andThen, List.forIn_toArray]
  rw [List.forIn_cons]
  have hc := run_check_one (P := P) (n := 9998) (e := e) hE (.inl ⟨_, rfl⟩) (Pv k.g k.off) w
  have hpart : (Go.part f0.type k.cells f0.offset).run P w = .ok (Pv k.g k.off) w := by
    simp only [Go.part, Sem.run_bind, hI, hag, ho0, c1, Result.andThen, Bool.false_eq_true, if_false, Sem.run_pure]
  have hfin := congrArg (fun r : Result PUnit => match r with | .ok _ w => Result.ok () w | .halt h w => Result.halt h w) hi
  by_cases hnm : f0.name ≠ "_"
  · simp only [if_pos hnm, Sem.run_bind, hpart, Result.andThen, Sem.run_pure, hc]
    rw [hi]
  · simp only [if_neg hnm, Sem.run_bind, Sem.run_pure, Result.andThen]
    rw [hi]
def findE (k : MK) : List (MK × Value) → Nat → Option (Nat × Value)
  | [], _ => none
  | (k', v) :: r, i => if k = k' then some (i, v) else findE k r (i + 1)
theorem run_findAsking (kt : Nat) (k : MK) (w : World) : ∀ (es : List MapEntry) (ps : List (MK × Value)) (i : Nat), es.map (fun x => (x.key, x.val)) = ps.map (fun p => (p.1.val, p.2)) → (∀ p ∈ ps, (Op.equal kt k.val p.1.val).run P w = .ok (decide (k = p.1)) w) →
    (Instr.findAsking kt k.val es i).run P w = .ok (findE k ps i) w
  | [], [], i, _, _ => by simp [Instr.findAsking, findE]
  | [], _ :: _, i, h, _ => by simp at h
  | _ :: _, [], i, h, _ => by simp at h
  | e :: es, (k', v) :: ps, i, h, he => by
    simp only [List.map_cons, List.cons.injEq, Prod.mk.injEq] at h
    obtain ⟨⟨h1, h2⟩, h3⟩ := h
    have h4 := he (k', v) (by simp)
    have ih := run_findAsking kt k w es ps (i + 1) h3 (fun p hp => he p (by simp [hp]))
    rw [Instr.findAsking, findE]
    simp only [Sem.run_bind, h1, h4, Result.andThen, h2, Sem.run_ite, Sem.run_pure, ih]
    by_cases e : k = k' <;> simp [e]
theorem run_findKey_k {kt : Nat} {fs : Array Field} (hT : P.underlying kt = some (.struct fs)) (k : MK) (w : World) (es : List MapEntry) (ps : List (MK × Value)) (h : es.map (fun x => (x.key, x.val)) = ps.map (fun p => (p.1.val, p.2))) (he : ∀ p ∈ ps, (Op.equal kt k.val p.1.val).run P w = .ok (decide (k = p.1)) w) :
    (Instr.findKey kt k.val es).run P w = .ok (findE k ps 0) w := by
  unfold Instr.findKey
  cases es with
  | nil =>
    cases ps with
    | nil => simp [run_underlying hT, Result.andThen, Instr.findNow, findE]
    | cons p ps => simp at h
  | cons e es =>
    simp only [Sem.run_bind, run_underlying hT, Result.andThen, Instr.findNow, Instr.sameNow]
    exact run_findAsking kt k w _ _ 0 h he
end eq
def KeyTy (P : Program) (T : TyTab P) (kt n : Nat) : Prop := ∃ ti t0 te f0 fs el, T.f kt = some ti ∧ ti.u = .struct (f0 :: fs).toArray ∧ P.stoodInHeld kt = false ∧ T.f f0.type = some t0 ∧ t0.u = .pointer el ∧ T.f el = some te ∧ te.size ≠ 0 ∧ f0.offset = 0 ∧ (f0.name == "_") = false ∧ intFields P T 1 fs ∧ fs.length = n
structure ME where
  key : MK
  val : Value
  cells : List Value
def memoGet (k : MK) (es : List ME) : Option ME := es.find? fun m => decide (k = m.key)
theorem findE_get (k : MK) : ∀ (es : List ME) (i : Nat), (findE k (es.map fun m => (m.key, m.val)) i).map Prod.snd = (memoGet k es).map ME.val
  | [], i => rfl
  | m :: es, i => by
    simp only [List.map_cons, findE, memoGet, List.find?_cons]
    by_cases e : k = m.key
    · simp [e]
    · simp only [e, if_false, decide_false]
      exact findE_get k es (i + 1)
theorem findE_none (k : MK) : ∀ (es : List ME) (i : Nat), memoGet k es = none → findE k (es.map fun m => (m.key, m.val)) i = none
  | [], i, _ => rfl
  | m :: es, i, h => by
    simp only [memoGet, List.find?_cons] at h
    simp only [List.map_cons, findE]
    by_cases e : k = m.key
    · simp [e] at h
    · simp only [e, decide_false] at h
      rw [if_neg e]
      exact findE_none k es (i + 1) h
def HA.rowsOf (e : Nat) (es : List ME) : HA := ⟨es.flatMap fun m => m.val.ownBlock.toList, fun w => ∀ m ∈ es, w.ownsRow 0 e 1 m.val m.cells.length m.cells, fun w w' h hw m hm => ownsRow_loc (fun g hg => h g (List.mem_flatMap.2 ⟨m, hm, hg⟩)) (hw m hm)⟩
def mapAt (w : World) (gm : Nat) (ps : List (MK × Value)) : Prop := ∃ ents clock, w.heap[gm]? = some (.map ents clock) ∧ ents.toList.map (fun x => (x.key, x.val)) = ps.map fun p => (p.1.val, p.2)
abbrev pairsOf (es : List ME) : List (MK × Value) := es.map fun m => (m.key, m.val)
def HA.memo (gm e : Nat) (es : List ME) : HA := ⟨gm :: es.flatMap fun m => m.val.ownBlock.toList, fun w => mapAt w gm (pairsOf es) ∧ ∀ m ∈ es, w.ownsRow 0 e 1 m.val m.cells.length m.cells, fun w w' h hw => by
  obtain ⟨⟨ents, clock, h1, h2⟩, h3⟩ := hw
  exact ⟨⟨ents, clock, (h gm (by simp)).trans h1, h2⟩, fun m hm => ownsRow_loc (fun g hg => h g (List.mem_cons_of_mem _ (List.mem_flatMap.2 ⟨m, hm, hg⟩))) (h3 m hm)⟩⟩
theorem Sat.rules {w0 w : World} {B : Nat} {Hs Hs' R : List HA} (h : Sat w0 B (Hs ++ R) w) (hf : (fps Hs).Perm (fps Hs')) (hA : (∀ X ∈ Hs, X.holds w) → ∀ Y ∈ Hs', Y.holds w) : Sat w0 B (Hs' ++ R) w := by
  have hp : (fps (Hs ++ R)).Perm (fps (Hs' ++ R)) := by rw [fps_append, fps_append]; exact hf.append_right _
  refine ⟨h.below, h.base, hp.nodup_iff.1 h.nodup, fun g hg => h.lo g (hp.mem_iff.2 hg), fun X hX => ?_⟩
  rcases List.mem_append.1 hX with hX | hX
  · exact hA (fun Y hY => h.all Y (by simp [hY])) X hX
  · exact h.all X (by simp [hX])
theorem Sat.memo0 {w0 w : World} {B gm clock : Nat} {R : List HA} (e : Nat) (h : Sat w0 B (HA.blk gm (.map #[] clock) :: R) w) : Sat w0 B (HA.memo gm e [] :: R) w :=
  Sat.rules (Hs := [HA.blk gm (.map #[] clock)]) (Hs' := [HA.memo gm e []]) h (by simp [fps, HA.memo, HA.blk]) (fun hh Y hY => by
    rw [List.mem_singleton] at hY
    subst hY
    exact ⟨⟨#[], clock, hh _ List.mem_cons_self, rfl⟩, fun m hm => by simp at hm⟩)
theorem wps_B (C : Cx) (w1 : World) (B1 : Nat) (Q : Qt) : ∀ cs, wps { C with w0 := w1, B := B1 } cs Q = wps C cs Q
  | [] => rfl
  | c :: cs => by simp only [wps, wps_B C w1 B1 Q cs]
theorem ES.rebase {C : Cx} {cs : List Code} {Q : Qt} {E : Env} {H : List HA} (h : ∀ w1, Sat C.w0 C.B H w1 → ES { C with w0 := w1, B := w1.heap.size } cs Q E []) : ES C cs Q E H := fun a w ha => by
  have h1 := h w ha.2 a w ⟨ha.1, Sat.start w⟩
  rw [wps_B] at h1
  exact h1
section maps
variable {C : Cx} {all : Array Oper} {ops : List Oper} {Q : Qt} {E : Env} {H H' R : List HA} {d ty t t' : Nat} {pos : String} {af : Array Edge} {gd : Option (Nat × Bool)} {x y z : Operand}
def memoV (o : Option ME) : Value := match o with
  | some m => .tuple #[m.val, .bool true]
  | none => .tuple #[.slice none 0 0, .bool false]
theorem run_equal_ty {P : Program} {T : TyTab P} {kt n : Nat} (hk : KeyTy P T kt n) {k k' : MK} (h1 : k.is.length = n) (h2 : k'.is.length = n) (w : World) (p1 : PlainAt w k.g) (p2 : PlainAt w k'.g) : (Op.equal kt k.val k'.val).run P w = .ok (decide (k = k')) w := by
  obtain ⟨ti, t0, te, f0, fs, el, a1, a2, a3, a4, a5, a6, a7, a8, a9, a10, a11⟩ := hk
  exact run_equal_key T a1 a2 a3 a4 a5 a6 a7 a8 a9 a10 k k' (h1.trans a11.symm) (h2.trans a11.symm) w p1 p2
theorem run_check_ty {P : Program} {T : TyTab P} {kt n : Nat} (hk : KeyTy P T kt n) {k : MK} (e : Bool) (h1 : k.is.length = n) (w : World) : (Instr.checkKey e 10000 kt k.val).run P w = .ok () w := by
  obtain ⟨ti, t0, te, f0, fs, el, a1, a2, a3, a4, a5, a6, a7, a8, a9, a10, a11⟩ := hk
  exact run_check_key T a1 a2 a4 a5 a8 a10 k (h1.trans a11.symm) w
theorem run_find_ty {P : Program} {T : TyTab P} {kt n : Nat} (hk : KeyTy P T kt n) {k : MK} (h1 : k.is.length = n) (w : World) (p1 : PlainAt w k.g) (es : List MapEntry) (ps : List (MK × Value)) (h : es.map (fun x => (x.key, x.val)) = ps.map (fun p => (p.1.val, p.2))) (he : ∀ p ∈ ps, p.1.is.length = n ∧ PlainAt w p.1.g) :
    (Instr.findKey kt k.val es).run P w = .ok (findE k ps 0) w := by
  have hk' := hk
  obtain ⟨ti, t0, te, f0, fs, el, a1, a2, a3, a4, a5, a6, a7, a8, a9, a10, a11⟩ := hk
  have hT := (T.ok kt ti a1).u
  rw [a2] at hT
  exact run_findKey_k hT k w es ps h (fun p hp => run_equal_ty hk' h1 (he p hp).1 w p1 (he p hp).2)
theorem RV.lookupM {gm e kt el n : Nat} {ti te : TI} {k : MK} {es : List ME} (hx : E.ev x = some (.map (some gm))) (hy : E.ev y = some k.val) (ht : C.T.f t = some ti) (hu : ti.u = .map kt el) (hel : C.T.f el = some te) (hz : te.zero = .slice none 0 0) (hkt : KeyTy C.P C.T kt n) (hm : Mem H (HA.memo gm e es)) (hk : k.is.length = n)
    (hl : ∀ m ∈ es, m.key.is.length = n) (hpl : ∀ w, Sat C.w0 C.B H w → PlainAt w k.g ∧ ∀ m ∈ es, PlainAt w m.key.g) : RunV C E H ⟨some d, .lookup t x y true, ty, pos, af, gd⟩ (memoV (memoGet k es)) := fun a w ha => by
  obtain ⟨⟨ents, clock, hb, hents⟩, _⟩ : mapAt w gm (pairsOf es) ∧ _ := ha.2.all _ hm.mem
  obtain ⟨p1, p2⟩ := hpl w ha.2
  have hT := (C.T.ok t ti ht).u
  rw [hu] at hT
  have hzz := ((C.T.ok el te hel).runInfo w).2.1
  rw [hz] at hzz
  have hfind := run_find_ty hkt hk w p1 ents.toList (pairsOf es) hents (fun p hp => by
    obtain ⟨m, hm, rfl⟩ := List.mem_map.1 hp
    exact ⟨hl m hm, p2 m hm⟩)
  have hg := findE_get k es 0
  have hlook : (Instr.lookup t (.map (some gm)) k.val true).run C.P w = .ok (memoV (memoGet k es)) w := by
    simp only [Instr.lookup, Sem.run_bind, run_underlying hT, Result.andThen, MapKept.run_getObj_map hb, Sem.run_pure, run_check_ty hkt _ hk w, hfind]
    revert hg
    cases findE k (pairsOf es) 0 with
    | none =>
      intro hg
      cases hmg : memoGet k es with
      | none => simp [hzz, memoV, Result.andThen]
      | some m => rw [hmg] at hg; simp at hg
    | some q =>
      obtain ⟨i, v⟩ := q
      intro hg
      cases hmg : memoGet k es with
      | none => rw [hmg] at hg; simp at hg
      | some m =>
        rw [hmg] at hg
        simp only [Option.map_some, Option.some.injEq] at hg
        simp [memoV, hg, Result.andThen]
  simp only [execOp, ha.1.ev hx, ha.1.ev hy, Sem.run_bind, hlook, Result.andThen, Sem.run_pure]
theorem RV.lookupHit {gm e kt el n : Nat} {ti te : TI} {k : MK} {es : List ME} {m : ME} (hx : E.ev x = some (.map (some gm))) (hy : E.ev y = some k.val) (ht : C.T.f t = some ti) (hu : ti.u = .map kt el) (hel : C.T.f el = some te) (hz : te.zero = .slice none 0 0) (hkt : KeyTy C.P C.T kt n) (hm : Mem H (HA.memo gm e es)) (hk : k.is.length = n)
    (hl : ∀ m ∈ es, m.key.is.length = n) (hpl : ∀ w, Sat C.w0 C.B H w → PlainAt w k.g ∧ ∀ m ∈ es, PlainAt w m.key.g) (hg : memoGet k es = some m) : RunV C E H ⟨some d, .lookup t x y true, ty, pos, af, gd⟩ (.tuple #[m.val, .bool true]) := by
  have h := RV.lookupM (C := C) (E := E) (H := H) (d := d) (ty := ty) (pos := pos) (af := af) (gd := gd) hx hy ht hu hel hz hkt hm hk hl hpl
  rw [hg] at h; exact h
theorem RV.lookupMiss {gm e kt el n : Nat} {ti te : TI} {k : MK} {es : List ME} (hx : E.ev x = some (.map (some gm))) (hy : E.ev y = some k.val) (ht : C.T.f t = some ti) (hu : ti.u = .map kt el) (hel : C.T.f el = some te) (hz : te.zero = .slice none 0 0) (hkt : KeyTy C.P C.T kt n) (hm : Mem H (HA.memo gm e es)) (hk : k.is.length = n)
    (hl : ∀ m ∈ es, m.key.is.length = n) (hpl : ∀ w, Sat C.w0 C.B H w → PlainAt w k.g ∧ ∀ m ∈ es, PlainAt w m.key.g) (hg : memoGet k es = none) : RunV C E H ⟨some d, .lookup t x y true, ty, pos, af, gd⟩ (.tuple #[.slice none 0 0, .bool false]) := by
  have h := RV.lookupM (C := C) (E := E) (H := H) (d := d) (ty := ty) (pos := pos) (af := af) (gd := gd) hx hy ht hu hel hz hkt hm hk hl hpl
  rw [hg] at h; exact h
theorem RV.loadOldA {ti : TI} {g off j : Nat} {cs vs : List Value} (hx : E.ev x = some (Pv g (off + j))) (ht : C.T.f t = some ti) (hu : ti.agg = true) (hl : ti.size = vs.length) (hpos : 0 < vs.length) (hr : Rd C.w0 C.B (some ⟨g, off, none⟩) cs) (hc : ∀ i u, vs[i]? = some u → cs[j + i]? = some u) : RunV C E H ⟨some d, .load t x, ty, pos, af, gd⟩ (.agg vs.toArray) :=
  RV.loadAgg (cs := vs) hx ht hu hl (fun w hs i u hi => by
    have hci := hc i u hi
    have hne : cs ≠ [] := fun e => by rw [e] at hci; simp at hci
    obtain ⟨g', off', h1, h2, h3⟩ := hr.sat hs hne
    simp only [Option.some.injEq, Addr.mk.injEq] at h1
    obtain ⟨rfl, rfl, _⟩ := h1
    have := h3 (j + i) u hci
    rw [add_n, Nat.add_assoc]
    exact this)
theorem RV.loadMemo {gm e len cap : Nat} {ti : TI} {g off : Nat} {v : Value} {es : List ME} {m : ME} (hx : E.ev x = some (Pv g off)) (ht : C.T.f t = some ti) (hu : ti.agg = false) (hm : Mem H (HA.memo gm e es)) (hme : m ∈ es) (hv : m.val = .slice (some ⟨g, 0, none⟩) len cap) (hc : m.cells[off]? = some v) : RunV C E H ⟨some d, .load t x, ty, pos, af, gd⟩ v :=
  RV.load hx ht hu (fun w hs => by
    obtain ⟨_, h2⟩ : mapAt w gm (pairsOf es) ∧ _ := hs.all _ hm.mem
    have h3 := h2 m hme
    rw [hv] at h3
    exact row_cell h3 off v hc)
theorem EL.makeMap (e : Nat) (hg : guardOk all E gd = some true) (hd : Nat.blt d C.n = true) (k : ∀ g, EL C all ops Q ((d, .map (some g)) :: E) (HA.memo g e [] :: H)) : EL C all (⟨some d, .makeMap t none, ty, pos, af, gd⟩ :: ops) Q E H := by
  intro a w ha
  simp only [wpListIn, guardOk_wanted (o := ⟨some d, .makeMap t none, ty, pos, af, gd⟩) hg ha.1, if_true]
  refine ⟨fun _ _ => trivial, ?_⟩
  rw [sem_plain (by simp)]
  have hr : (execOp a.eval ⟨some d, .makeMap t none, ty, pos, af, gd⟩).run C.P w = .ok (.value (.map (some w.heap.size))) (w.alloc (.map #[] 0)) := by
    simp [execOp, Instr.makeMap, newObj, Result.andThen]
    rfl
  rw [hr]
  exact k w.heap.size _ _ ⟨ha.1.put (by simpa using hd) _, Sat.memo0 e (ha.2.alloc _)⟩
theorem Sat.memoSet {w0 w : World} {B gm e len clock : Nat} {ents : Array MapEntry} {k : MK} {v : Value} {cells : List Value} {es : List ME} {R : List HA} (h : Sat w0 B (HA.memo gm e es :: HA.row v e 1 len cells :: R) w) (hb : w.heap[gm]? = some (.map ents clock)) (hents : ents.toList.map (fun x => (x.key, x.val)) = (pairsOf es).map fun p => (p.1.val, p.2)) (hlen : len = cells.length) :
    Sat w0 B (HA.memo gm e (es ++ [⟨k, v, cells⟩]) :: R) (w.putObj gm (.map (ents.push { key := k.val, val := v, born := clock }) (clock + 1))) := by
  subst hlen
  have h1 : Sat w0 B ([HA.blk gm (.map ents clock), HA.rowsOf e es, HA.row v e 1 cells.length cells] ++ R) w :=
    Sat.rules (Hs := [HA.memo gm e es, HA.row v e 1 cells.length cells]) h (by simp [fps, HA.memo, HA.blk, HA.rowsOf, HA.row]) (fun hh Y hY => by
      simp only [List.mem_cons, List.not_mem_nil, or_false] at hY
      rcases hY with rfl | rfl | rfl
      · exact hb
      · exact (hh (HA.memo gm e es) (by simp)).2
      · exact hh _ (by simp))
  have h2 := Sat.putObj (.map (ents.push { key := k.val, val := v, born := clock }) (clock + 1)) h1
  refine Sat.rules (Hs := [HA.blk gm (.map (ents.push { key := k.val, val := v, born := clock }) (clock + 1)), HA.rowsOf e es, HA.row v e 1 cells.length cells]) (Hs' := [HA.memo gm e (es ++ [⟨k, v, cells⟩])]) h2 (by simp [fps, HA.memo, HA.blk, HA.rowsOf, HA.row]) (fun hh Y hY => ?_)
  rw [List.mem_singleton] at hY
  subst hY
  refine ⟨⟨_, _, hh _ List.mem_cons_self, by simp [pairsOf] at hents ⊢; exact hents⟩, fun m hm => ?_⟩
  rcases List.mem_append.1 hm with hm | hm
  · exact hh (HA.rowsOf e es) (by simp) m hm
  · rw [List.mem_singleton] at hm
    subst hm
    exact hh (HA.row v e 1 cells.length cells) (by simp)
theorem EL.mapSet {gm e kt el n len : Nat} {ti : TI} {k : MK} {v : Value} {cells : List Value} {es : List ME} (hg : guardOk all E gd = some true) (hx : E.ev x = some (.map (some gm))) (hy : E.ev y = some k.val) (hv : E.ev z = some v) (ht : C.T.f t = some ti) (hu : ti.u = .map kt el) (hkt : KeyTy C.P C.T kt n) (hk : k.is.length = n)
    (hl : ∀ m ∈ es, m.key.is.length = n) (hpl : ∀ w, Sat C.w0 C.B H w → PlainAt w k.g ∧ ∀ m ∈ es, PlainAt w m.key.g) (hnew : memoGet k es = none) (tk : Takes H [HA.memo gm e es, HA.row v e 1 len cells] R) (hlen : len = cells.length)
    (kk : EL C all ops Q E (HA.memo gm e (es ++ [⟨k, v, cells⟩]) :: R)) : EL C all (⟨none, .mapUpdate t x y z, ty, pos, af, gd⟩ :: ops) Q E H :=
  EL.unit hg rfl (by simp) (fun a w ha => by
    have hs := ha.2.perm tk.perm
    obtain ⟨⟨ents, clock, hb, hents⟩, _⟩ : mapAt w gm (pairsOf es) ∧ _ := hs.head
    obtain ⟨p1, p2⟩ := hpl w ha.2
    have hT := (C.T.ok t ti ht).u
    rw [hu] at hT
    have hfind := run_find_ty hkt hk w p1 ents.toList (pairsOf es) hents (fun p hp => by
      obtain ⟨m, hm, rfl⟩ := List.mem_map.1 hp
      exact ⟨hl m hm, p2 m hm⟩)
    rw [findE_none k es 0 hnew] at hfind
    refine ⟨_, ?_, Sat.memoSet (k := k) hs hb hents hlen⟩
    have hup : (Instr.mapUpdate t (.map (some gm)) k.val v).run C.P w = .ok () (w.putObj gm (.map (ents.push { key := k.val, val := v, born := clock }) (clock + 1))) := by
      simp only [Instr.mapUpdate, Sem.run_bind, run_underlying hT, Result.andThen, MapKept.run_getObj_map hb, run_check_ty hkt _ hk w, hfind, MapKept.run_setObj_map _ hb]
      rfl
    simp only [execOp, ha.1.ev hx, ha.1.ev hy, ha.1.ev hv, Sem.run_bind, hup, Result.andThen, Sem.run_pure]) kk
end maps
end Go.Proofs.YthcbjbkheodejaaGreat.Sl
namespace Go.Proofs.YthcbjbkheodejaaGreat
open Go Go.RowKit Sl
set_option maxRecDepth 100000
set_option maxHeartbeats 8000000
attribute [local irreducible] ES EL PX wps
structure Ed where
  kind : Nat
  set : BS
  to : Nat
structure AM where
  out : List (List Ed)
  back : List (List Ed)
def addTo (l : List (List Ed)) (i : Nat) (e : Ed) : List (List Ed) := l.set i (l.getD i [] ++ [e])
def AM.add (a : AM) : AM := ⟨a.out ++ [[]], a.back ++ [[]]⟩
def AM.link (a : AM) (f t k : Nat) (s : BS) : AM := ⟨addTo a.out f ⟨k, s, t⟩, addTo a.back t ⟨k, s, f⟩⟩
def AM.step (a : AM) (f k : Nat) (s : BS) : AM := a.add.link f a.out.length k s
def timesA (f : AM → Nat → AM × Nat) : Nat → AM → Nat → AM × Nat
  | 0, a, p => (a, p)
  | n + 1, a, p => timesA f n (f a p).1 (f a p).2
def optA (f : AM → Nat → AM × Nat) (out : Nat) : Nat → AM → Nat → AM
  | 0, a, _ => a
  | n + 1, a, p => optA f out n ((f a p).1.link (f a p).2 out 0 zeroS) (f a p).2
def repA (lo : Nat) (hi : Int) (k : RE) (f : AM → Nat → AM × Nat) (a : AM) (p : Nat) : AM × Nat :=
  let x := timesA f (leastM lo k) a p
  if hi = (lo : Int) ∨ k.thin = true then x
  else if hi < 0 then
    let h := x.1.out.length
    let y := f (x.1.step x.2 0 zeroS) h
    (y.1.link y.2 h 0 zeroS, h)
  else
    let o := x.1.out.length
    (optA f o (hi.toNat - lo) (x.1.step x.2 0 zeroS) x.2, o)
mutual
def layM : RE → AM → Nat → AM × Nat
  | .byte s, a, p => (a.step p 1 s, a.out.length)
  | .bol, a, p => (a.step p 2 zeroS, a.out.length)
  | .eol, a, p => (a.step p 3 zeroS, a.out.length)
  | .back _, a, p => ((a.step p 0 zeroS).link a.out.length a.out.length 1 (notS zeroS), a.out.length)
  | .rep lo hi k, a, p => repA lo hi k (layM k) a p
  | .cat ks, a, p => layL ks a p
  | .group _ k, a, p => layM k a p
def layL : List RE → AM → Nat → AM × Nat
  | [], a, p => (a, p)
  | k :: ks, a, p => layL ks (layM k a p).1 (layM k a p).2
end
def makeM (ks : List RE) : AM × Nat := layL ks (AM.add ⟨[], []⟩) 0
theorem add_len (a : AM) : a.add.out.length = a.out.length + 1 := by simp [AM.add]
theorem addTo_len (l : List (List Ed)) (i : Nat) (e : Ed) : (addTo l i e).length = l.length := by simp [addTo]
theorem link_len (a : AM) (f t k : Nat) (s : BS) : (a.link f t k s).out.length = a.out.length ∧ (a.link f t k s).back.length = a.back.length := ⟨addTo_len _ _ _, addTo_len _ _ _⟩
def EdsOk (es : List (List Ed)) : Prop := ∀ l ∈ es, ∀ e ∈ l, e.to < es.length ∧ e.kind ≤ 3
structure AM.Room (a : AM) (n : Nat) : Prop where
  out : a.out.length + n ≤ 131072
  same : a.back.length = a.out.length
  ro : ∀ l ∈ a.out, l.length + n ≤ 131072
  rb : ∀ l ∈ a.back, l.length + n ≤ 131072
  eo : EdsOk a.out
  eb : EdsOk a.back
theorem AM.Room.less {a : AM} {n m : Nat} (h : a.Room n) (hm : m ≤ n) : a.Room m := ⟨by have := h.out; omega, h.same, fun l hl => by have := h.ro l hl; omega, fun l hl => by have := h.rb l hl; omega, h.eo, h.eb⟩
theorem eds_add {l : List (List Ed)} (h : EdsOk l) : EdsOk (l ++ [[]]) := fun x hx e he => by
  rcases List.mem_append.1 hx with hx | hx
  · have := h x hx e he
    simp only [List.length_append, List.length_singleton]; exact ⟨by omega, this.2⟩
  · simp only [List.mem_singleton] at hx; subst hx; cases he
theorem eds_link {l : List (List Ed)} (h : EdsOk l) {i : Nat} {e : Ed} (ht : e.to < l.length) (hk : e.kind ≤ 3) : EdsOk (addTo l i e) := fun x hx e' he => by
  rw [addTo_len]
  rcases List.mem_or_eq_of_mem_set hx with hx | rfl
  · exact h x hx e' he
  · rcases List.mem_append.1 he with he | he
    · rw [List.getD_eq_getElem?_getD] at he
      cases hg : l[i]? with
      | none => rw [hg] at he; cases he
      | some y => rw [hg] at he; exact h y (List.mem_of_getElem? hg) e' he
    · rw [List.mem_singleton] at he; subst he; exact ⟨ht, hk⟩
theorem add_room {a : AM} {n : Nat} (h : a.Room (n + 1)) : a.add.Room n := by
  refine ⟨by have := h.out; rw [add_len]; omega, by simp [AM.add, h.same], fun l hl => ?_, fun l hl => ?_, eds_add h.eo, eds_add h.eb⟩
  · rcases List.mem_append.1 hl with hl | hl
    · have := h.ro l hl; omega
    · have := h.out; simp only [List.mem_singleton] at hl; subst hl; simp; omega
  · rcases List.mem_append.1 hl with hl | hl
    · have := h.rb l hl; omega
    · have := h.out; simp only [List.mem_singleton] at hl; subst hl; simp; omega
theorem addTo_room {l : List (List Ed)} {n : Nat} (h : ∀ x ∈ l, x.length + (n + 1) ≤ 131072) {i : Nat} (hi : i < l.length) (e : Ed) : ∀ x ∈ addTo l i e, x.length + n ≤ 131072 := by
  intro x hx
  rcases List.mem_or_eq_of_mem_set hx with hx | rfl
  · have := h x hx; omega
  · have := h l[i] (List.getElem_mem hi)
    simp only [List.getD_eq_getElem?_getD, List.getElem?_eq_getElem hi, Option.getD_some, List.length_append, List.length_singleton]
    omega
theorem link_room {a : AM} {n f t k : Nat} {s : BS} (h : a.Room (n + 1)) (hf : f < a.out.length) (ht : t < a.out.length) (hk : k ≤ 3 := by omega) : (a.link f t k s).Room n :=
  ⟨by rw [(link_len a f t k s).1]; have := h.out; omega, by rw [(link_len a f t k s).1, (link_len a f t k s).2]; exact h.same, addTo_room h.ro hf _, addTo_room h.rb (by rw [h.same]; exact ht) _, eds_link h.eo ht hk, eds_link h.eb (by rw [h.same]; exact hf) hk⟩
theorem step_len (a : AM) (f k : Nat) (s : BS) : (a.step f k s).out.length = a.out.length + 1 := by
  unfold AM.step; rw [(link_len _ _ _ _ _).1, add_len]
theorem step_room {a : AM} {n f k : Nat} {s : BS} (h : a.Room (n + 2)) (hf : f < a.out.length) (hk : k ≤ 3 := by omega) : (a.step f k s).Room n :=
  link_room (add_room h) (by rw [add_len]; omega) (by rw [add_len]; omega) hk
mutual
/-- How many states and edges a tree takes at the most. -/
def RE.cost : RE → Nat
  | .byte _ => 2
  | .bol => 2
  | .eol => 2
  | .back _ => 3
  | .cat ks => costL ks
  | .group _ k => k.cost
  | .rep lo hi k => leastM lo k * k.cost + (if hi = (lo : Int) ∨ k.thin = true then 0 else if hi < 0 then k.cost + 3 else (hi.toNat - lo) * (k.cost + 1) + 2)
def costL : List RE → Nat
  | [] => 0
  | k :: ks => k.cost + costL ks
end
structure Lays (c : Nat) (f : AM → Nat → AM × Nat) : Prop where
  room : ∀ a p n, a.Room (c + n) → p < a.out.length → (f a p).1.Room n ∧ (f a p).2 < (f a p).1.out.length ∧ a.out.length ≤ (f a p).1.out.length
theorem times_room {c : Nat} {f : AM → Nat → AM × Nat} (hf : Lays c f) : ∀ (m : Nat) (a : AM) (p n : Nat), a.Room (m * c + n) → p < a.out.length → (timesA f m a p).1.Room n ∧ (timesA f m a p).2 < (timesA f m a p).1.out.length ∧ a.out.length ≤ (timesA f m a p).1.out.length
  | 0, a, p, n, h, hp => ⟨h.less (by omega), hp, Nat.le_refl _⟩
  | m + 1, a, p, n, h, hp => by
    have h1 := hf.room a p (m * c + n) (h.less (by rw [Nat.succ_mul]; omega)) hp
    have h2 := times_room hf m _ _ n h1.1 h1.2.1
    exact ⟨h2.1, h2.2.1, by have := h1.2.2; have := h2.2.2; simp only [timesA]; omega⟩
theorem opt_room {c : Nat} {f : AM → Nat → AM × Nat} (hf : Lays c f) {o : Nat} : ∀ (m : Nat) (a : AM) (p n : Nat), a.Room (m * (c + 1) + n) → p < a.out.length → o < a.out.length → (optA f o m a p).Room n ∧ a.out.length ≤ (optA f o m a p).out.length
  | 0, a, p, n, h, hp, ho => ⟨h.less (by omega), Nat.le_refl _⟩
  | m + 1, a, p, n, h, hp, ho => by
    have h1 := hf.room a p (m * (c + 1) + n + 1) (h.less (by rw [Nat.succ_mul]; omega)) hp
    have h2 := opt_room hf (o := o) m ((f a p).1.link (f a p).2 o 0 zeroS) (f a p).2 n (link_room h1.1 h1.2.1 (by omega)) (by rw [(link_len _ _ _ _ _).1]; exact h1.2.1) (by rw [(link_len _ _ _ _ _).1]; omega)
    refine ⟨h2.1, ?_⟩
    have := h2.2
    rw [(link_len _ _ _ _ _).1] at this
    simp only [optA]; omega
theorem rep_room {lo : Nat} {hi : Int} {k : RE} (hk : Lays k.cost (layM k)) (a : AM) (p n : Nat) (h : a.Room ((RE.rep lo hi k).cost + n)) (hp : p < a.out.length) :
    (repA lo hi k (layM k) a p).1.Room n ∧ (repA lo hi k (layM k) a p).2 < (repA lo hi k (layM k) a p).1.out.length ∧ a.out.length ≤ (repA lo hi k (layM k) a p).1.out.length := by
  rw [RE.cost] at h
  unfold repA
  dsimp only
  split
  · rename_i hc
    rw [if_pos hc] at h
    exact times_room hk _ a p n (h.less (by omega)) hp
  · rename_i hc
    rw [if_neg hc] at h
    split
    · rename_i hneg
      rw [if_pos hneg] at h
      have h1 := times_room hk (leastM lo k) a p (k.cost + 3 + n) (h.less (by omega)) hp
      generalize timesA (layM k) (leastM lo k) a p = x at h1
      have h2 := step_room (k := 0) (s := zeroS) (n := k.cost + (1 + n)) (h1.1.less (by omega)) h1.2.1
      have h3 := hk.room _ x.1.out.length (1 + n) h2 (by rw [step_len]; omega)
      rw [step_len] at h3
      refine ⟨link_room (h3.1.less (by omega)) h3.2.1 (by omega), ?_, ?_⟩
      · rw [(link_len _ _ _ _ _).1]; omega
      · rw [(link_len _ _ _ _ _).1]; omega
    · rename_i hneg
      rw [if_neg hneg] at h
      have h1 := times_room hk (leastM lo k) a p ((hi.toNat - lo) * (k.cost + 1) + 2 + n) (h.less (by omega)) hp
      generalize timesA (layM k) (leastM lo k) a p = x at h1
      have h2 := step_room (k := 0) (s := zeroS) (n := (hi.toNat - lo) * (k.cost + 1) + n) (h1.1.less (by omega)) h1.2.1
      have h3 := opt_room hk (o := x.1.out.length) (hi.toNat - lo) (x.1.step x.2 0 zeroS) x.2 n h2 (by rw [step_len]; omega) (by rw [step_len]; omega)
      rw [step_len] at h3
      exact ⟨h3.1, by dsimp only; omega, by dsimp only; omega⟩
mutual
theorem lay_room : ∀ r : RE, Lays r.cost (layM r)
  | .byte s => ⟨fun a p n h hp => by rw [RE.cost] at h; exact ⟨step_room (h.less (by omega)) hp, by rw [layM, step_len]; dsimp only; omega, by rw [layM, step_len]; omega⟩⟩
  | .bol => ⟨fun a p n h hp => by rw [RE.cost] at h; exact ⟨step_room (h.less (by omega)) hp, by rw [layM, step_len]; dsimp only; omega, by rw [layM, step_len]; omega⟩⟩
  | .eol => ⟨fun a p n h hp => by rw [RE.cost] at h; exact ⟨step_room (h.less (by omega)) hp, by rw [layM, step_len]; dsimp only; omega, by rw [layM, step_len]; omega⟩⟩
  | .back _ => ⟨fun a p n h hp => by
      rw [RE.cost] at h
      rw [layM]
      dsimp only
      have h1 := step_room (k := 0) (s := zeroS) (n := n + 1) (h.less (by omega)) hp
      exact ⟨link_room h1 (by rw [step_len]; omega) (by rw [step_len]; omega), by rw [(link_len _ _ _ _ _).1, step_len]; omega, by rw [(link_len _ _ _ _ _).1, step_len]; omega⟩⟩
  | .rep lo hi k => ⟨fun a p n h hp => by rw [layM]; exact rep_room (lay_room k) a p n h hp⟩
  | .cat ks => ⟨fun a p n h hp => by rw [RE.cost] at h; rw [layM]; exact layL_room ks a p n h hp⟩
  | .group _ k => ⟨fun a p n h hp => by rw [RE.cost] at h; rw [layM]; exact (lay_room k).room a p n h hp⟩
theorem layL_room : ∀ (ks : List RE) (a : AM) (p n : Nat), a.Room (costL ks + n) → p < a.out.length → (layL ks a p).1.Room n ∧ (layL ks a p).2 < (layL ks a p).1.out.length ∧ a.out.length ≤ (layL ks a p).1.out.length
  | [], a, p, n, h, hp => by rw [layL]; rw [costL] at h; exact ⟨h.less (by omega), hp, Nat.le_refl _⟩
  | k :: ks, a, p, n, h, hp => by
    rw [costL] at h
    have h1 := (lay_room k).room a p (costL ks + n) (h.less (by omega)) hp
    have h2 := layL_room ks _ _ n h1.1 h1.2.1
    rw [layL]
    exact ⟨h2.1, h2.2.1, by omega⟩
end
end Go.Proofs.YthcbjbkheodejaaGreat
namespace Go.Proofs.YthcbjbkheodejaaGreat
open Go Go.RowKit Sl
set_option maxRecDepth 100000
set_option maxHeartbeats 8000000
attribute [local irreducible] ES EL PX wps
structure FS where
  marks : List Bool
  seen : List Bool
  todo : List (Nat × Nat)
  steps : Nat
def inB (n : Nat) (fwd : Bool) (a : Nat) : Bool := if fwd = true then decide (a < n) else decide (0 < a ∧ a - 1 < n)
def bAt (fwd : Bool) (a : Nat) : Nat := if fwd = true then a else a - 1
def cntM (n : Nat) (fwd : Bool) (e : Ed) (a : Nat) : Nat := if e.kind = 1 ∧ inB n fwd a = true then 1 else 0
def placeM (s : List UInt8) (fwd : Bool) (e : Ed) (a : Nat) : Option Nat :=
  if e.kind = 1 then (if inB s.length fwd a = true ∧ hasS e.set (s.getD (bAt fwd a) 0).toNat = true then some (if fwd = true then a + 1 else a - 1) else none)
  else if e.kind = 2 then (if a = 0 then some a else none)
  else if e.kind = 3 then (if a = s.length then some a else none)
  else some a
def pushM (n : Nat) (st : FS) (q a : Nat) : FS := if st.seen.getD (q * (n + 1) + a) false = true then st else { st with seen := st.seen.set (q * (n + 1) + a) true, todo := st.todo ++ [(q, a)] }
def edgeM (s : List UInt8) (fwd : Bool) (a : Nat) (st : FS) (e : Ed) : FS :=
  match placeM s fwd e a with
  | none => { st with steps := st.steps + cntM s.length fwd e a }
  | some b => pushM s.length { st with steps := st.steps + cntM s.length fwd e a } e.to b
def popM (goal : Nat) (st : FS) (p : Nat × Nat) : FS := { st with todo := st.todo.dropLast, marks := if p.1 = goal then st.marks.set p.2 true else st.marks }
def floodGo (es : List (List Ed)) (s : List UInt8) (goal : Nat) (fwd : Bool) : Nat → FS → FS
  | 0, st => st
  | f + 1, st =>
    match st.todo.getLast? with
    | none => st
    | some p => floodGo es s goal fwd f ((es.getD p.1 []).foldl (edgeM s fwd p.2) (popM goal st p))
def fs0 (N n : Nat) (p : Nat × Nat) (steps : Nat) : FS := ⟨List.replicate (n + 1) false, (List.replicate (N * (n + 1)) false).set (p.1 * (n + 1) + p.2) true, [p], steps⟩
def floodM (es : List (List Ed)) (s : List UInt8) (p : Nat × Nat) (goal : Nat) (fwd : Bool) (steps : Nat) : FS := floodGo es s goal fwd (es.length * (s.length + 1)) (fs0 es.length s.length p steps)
def FS.mu (st : FS) : Nat := st.seen.count false + st.todo.length
structure FS.Ok (N n : Nat) (st : FS) : Prop where
  marks : st.marks.length = n + 1
  seen : st.seen.length = N * (n + 1)
  todo : ∀ p ∈ st.todo, p.1 < N ∧ p.2 ≤ n
theorem idx_lt {N n q a : Nat} (hq : q < N) (ha : a ≤ n) : q * (n + 1) + a < N * (n + 1) := by
  have : (q + 1) * (n + 1) ≤ N * (n + 1) := Nat.mul_le_mul_right _ hq
  rw [Nat.succ_mul] at this
  omega
theorem idx_inj {n q a q' a' : Nat} (ha : a ≤ n) (ha' : a' ≤ n) (h : q * (n + 1) + a = q' * (n + 1) + a') : q = q' ∧ a = a' := by
  have h1 : (q * (n + 1) + a) / (n + 1) = q := by rw [Nat.mul_comm, Nat.mul_add_div (by omega), Nat.div_eq_of_lt (by omega)]; rfl
  have h2 : (q' * (n + 1) + a') / (n + 1) = q' := by rw [Nat.mul_comm, Nat.mul_add_div (by omega), Nat.div_eq_of_lt (by omega)]; rfl
  have : q = q' := by rw [← h1, h, h2]
  subst this
  exact ⟨rfl, by omega⟩
theorem place_le {s : List UInt8} {fwd : Bool} {e : Ed} {a b : Nat} (ha : a ≤ s.length) (h : placeM s fwd e a = some b) : b ≤ s.length := by
  unfold placeM at h
  split at h
  · split at h
    · rename_i h2
      have h3 := h2.1
      unfold inB at h3
      cases fwd <;> simp at h h3 <;> omega
    · cases h
  · split at h
    · split at h
      · cases h; exact ha
      · cases h
    · split at h
      · split at h
        · cases h; exact ha
        · cases h
      · cases h; exact ha
theorem count_set_false : ∀ (l : List Bool) (i : Nat), l[i]? = some false → (l.set i true).count false + 1 = l.count false
  | [], i, h => by simp at h
  | b :: l, 0, h => by
    simp only [List.getElem?_cons_zero, Option.some.injEq] at h
    subst h
    simp
  | b :: l, i + 1, h => by
    simp only [List.getElem?_cons_succ] at h
    have := count_set_false l i h
    simp only [List.set_cons_succ, List.count_cons]
    omega
theorem push_ok {N n : Nat} {st : FS} (h : st.Ok N n) {q a : Nat} (hq : q < N) (ha : a ≤ n) : (pushM n st q a).Ok N n ∧ (pushM n st q a).mu = st.mu ∧ (pushM n st q a).steps = st.steps := by
  unfold pushM
  split
  · exact ⟨h, rfl, rfl⟩
  · rename_i hf
    have hlt : q * (n + 1) + a < st.seen.length := by rw [h.seen]; exact idx_lt hq ha
    refine ⟨⟨h.marks, by simp [h.seen], fun p hp => ?_⟩, ?_, rfl⟩
    · rcases List.mem_append.1 hp with hp | hp
      · exact h.todo p hp
      · rw [List.mem_singleton] at hp; subst hp; exact ⟨hq, ha⟩
    · have hg : st.seen[q * (n + 1) + a]? = some false := by
        simp only [List.getD_eq_getElem?_getD, List.getElem?_eq_getElem hlt, Option.getD_some] at hf ⊢
        simpa using hf
      have := count_set_false _ _ hg
      simp only [FS.mu, List.length_append, List.length_singleton]
      omega
theorem cnt_le (n : Nat) (fwd : Bool) (e : Ed) (a : Nat) : cntM n fwd e a ≤ 1 := by unfold cntM; split <;> omega
theorem edge_ok {N : Nat} {s : List UInt8} {fwd : Bool} {st : FS} (h : st.Ok N s.length) {a : Nat} (ha : a ≤ s.length) {e : Ed} (he : e.to < N) :
    (edgeM s fwd a st e).Ok N s.length ∧ (edgeM s fwd a st e).mu = st.mu ∧ (edgeM s fwd a st e).steps = st.steps + cntM s.length fwd e a := by
  unfold edgeM
  split
  · exact ⟨⟨h.marks, h.seen, h.todo⟩, rfl, rfl⟩
  · rename_i b hb
    have := push_ok (st := { st with steps := st.steps + cntM s.length fwd e a }) ⟨h.marks, h.seen, h.todo⟩ he (place_le ha hb)
    exact ⟨this.1, this.2.1, this.2.2⟩
theorem edges_ok {N : Nat} {s : List UInt8} {fwd : Bool} {a : Nat} (ha : a ≤ s.length) : ∀ (es : List Ed) {st : FS}, st.Ok N s.length → (∀ e ∈ es, e.to < N) →
    (es.foldl (edgeM s fwd a) st).Ok N s.length ∧ (es.foldl (edgeM s fwd a) st).mu = st.mu ∧ (es.foldl (edgeM s fwd a) st).steps = st.steps + (es.map (cntM s.length fwd · a)).sum
  | [], st, h, _ => ⟨h, rfl, rfl⟩
  | e :: es, st, h, he => by
    have h1 := edge_ok (fwd := fwd) h ha (he e (by simp))
    have h2 := edges_ok (fwd := fwd) ha es h1.1 (fun e he' => he e (by simp [he']))
    exact ⟨h2.1, h2.2.1.trans h1.2.1, by rw [List.foldl_cons, h2.2.2, h1.2.2, List.map_cons, List.sum_cons]; omega⟩
theorem sum_le_len : ∀ (l : List Nat), (∀ x ∈ l, x ≤ 1) → l.sum ≤ l.length
  | [], _ => Nat.le_refl _
  | x :: l, h => by
    have h1 := h x (by simp)
    have h2 := sum_le_len l (fun y hy => h y (by simp [hy]))
    simp only [List.sum_cons, List.length_cons]; omega
theorem cnts_le (n : Nat) (fwd : Bool) (a : Nat) (es : List Ed) : (es.map (cntM n fwd · a)).sum ≤ es.length := by
  have := sum_le_len (es.map (cntM n fwd · a)) (fun x hx => by
    obtain ⟨e, _, rfl⟩ := List.mem_map.1 hx
    exact cnt_le n fwd e a)
  simpa using this
theorem last_split {α : Type _} {l : List α} {p : α} (h : l.getLast? = some p) : l = l.dropLast ++ [p] := by
  have hne : l ≠ [] := fun e => by subst e; simp at h
  rw [List.getLast?_eq_some_getLast hne] at h
  rw [← Option.some.inj h]
  exact (List.dropLast_concat_getLast hne).symm
theorem pop_ok {N n goal : Nat} {st : FS} (h : st.Ok N n) {p : Nat × Nat} (hp : st.todo.getLast? = some p) : (popM goal st p).Ok N n ∧ (popM goal st p).mu + 1 = st.mu ∧ p.1 < N ∧ p.2 ≤ n := by
  have hs := last_split hp
  have hm : p ∈ st.todo := by rw [hs]; simp
  refine ⟨⟨?_, h.seen, fun q hq => h.todo q (List.dropLast_subset _ hq)⟩, ?_, h.todo p hm⟩
  · unfold popM; dsimp only; split <;> simp [h.marks]
  · have : st.todo.length = st.todo.dropLast.length + 1 := by
      have h2 := congrArg List.length hs
      rw [List.length_append, List.length_singleton] at h2
      exact h2
    simp only [FS.mu, popM]; omega
theorem fs0_ok {N n : Nat} {p : Nat × Nat} (h1 : p.1 < N) (h2 : p.2 ≤ n) (steps : Nat) : (fs0 N n p steps).Ok N n ∧ (fs0 N n p steps).mu = N * (n + 1) := by
  refine ⟨⟨by simp [fs0], by simp [fs0], fun q hq => ?_⟩, ?_⟩
  · simp only [fs0, List.mem_singleton] at hq
    subst hq; exact ⟨h1, h2⟩
  · have hlt := idx_lt h1 h2
    have := count_set_false (List.replicate (N * (n + 1)) false) (p.1 * (n + 1) + p.2) (by simp [hlt])
    simp only [List.count_replicate_self] at this
    simp only [FS.mu, fs0, List.length_singleton]
    omega
inductive Rch (es : List (List Ed)) (s : List UInt8) (fwd : Bool) (x : Nat × Nat) : Nat × Nat → Prop
  | here : Rch es s fwd x x
  | step {q a b : Nat} {e : Ed} (h : Rch es s fwd x (q, a)) (he : e ∈ es.getD q []) (hp : placeM s fwd e a = some b) : Rch es s fwd x (e.to, b)
def cntAt (es : List (List Ed)) (n : Nat) (fwd : Bool) (x : Nat × Nat) : Nat := ((es.getD x.1 []).map (cntM n fwd · x.2)).sum
abbrev FS.has (n : Nat) (st : FS) (x : Nat × Nat) : Prop := st.seen.getD (x.1 * (n + 1) + x.2) false = true
def nowC (n : Nat) (fwd : Bool) (done : List (Nat × Nat)) (now : List Ed) : Nat := match done with
  | [] => 0
  | x :: _ => (now.map (cntM n fwd · x.2)).sum
theorem nowC_nil (n : Nat) (fwd : Bool) (done : List (Nat × Nat)) : nowC n fwd done [] = 0 := by cases done <;> rfl
structure FInv (es : List (List Ed)) (s : List UInt8) (fwd : Bool) (goal st0 : Nat) (x0 : Nat × Nat) (st : FS) (done : List (Nat × Nat)) (now : List Ed) : Prop where
  ok : st.Ok es.length s.length
  dok : ∀ x ∈ done, x.1 < es.length ∧ x.2 ≤ s.length
  seen : ∀ x : Nat × Nat, x.1 < es.length → x.2 ≤ s.length → (st.has s.length x ↔ x ∈ st.todo ∨ x ∈ done)
  nodup : (st.todo ++ done).Nodup
  rch : ∀ x, x ∈ st.todo ∨ x ∈ done → Rch es s fwd x0 x
  x0 : x0 ∈ st.todo ∨ x0 ∈ done
  closed : ∀ (i : Nat) (x : Nat × Nat), done[i]? = some x → ∀ e ∈ es.getD x.1 [], (i = 0 ∧ e ∈ now) ∨ ∀ b, placeM s fwd e x.2 = some b → (e.to, b) ∈ st.todo ∨ (e.to, b) ∈ done
  marks : ∀ a, a ≤ s.length → (st.marks.getD a false = true ↔ (goal, a) ∈ done)
  steps : st.steps + nowC s.length fwd done now = st0 + (done.map (cntAt es s.length fwd)).sum
theorem getD_set_bool (l : List Bool) (i j : Nat) (hi : i < l.length) : (l.set i true).getD j false = true ↔ l.getD j false = true ∨ i = j := by
  simp only [List.getD_eq_getElem?_getD, List.getElem?_set]
  by_cases h : i = j
  · subst h; simp [hi]
  · simp [h]
theorem FInv.edge {es : List (List Ed)} {s : List UInt8} {fwd : Bool} {goal st0 : Nat} {x0 x : Nat × Nat} {st : FS} {done : List (Nat × Nat)} {e : Ed} {now : List Ed} (h : FInv es s fwd goal st0 x0 st (x :: done) (e :: now)) (he : e ∈ es.getD x.1 []) (hto : e.to < es.length) (hle : ∀ e' ∈ now, e' ∈ es.getD x.1 []) :
    FInv es s fwd goal st0 x0 (edgeM s fwd x.2 st e) (x :: done) now := by
  have hx := h.dok x (by simp)
  have ho := edge_ok (fwd := fwd) h.ok hx.2 hto
  have hsteps : (edgeM s fwd x.2 st e).steps + nowC s.length fwd (x :: done) now = st0 + ((x :: done).map (cntAt es s.length fwd)).sum := by
    have := h.steps
    simp only [nowC, List.map_cons, List.sum_cons] at this ⊢
    rw [ho.2.2]; omega
  cases hp : placeM s fwd e x.2 with
  | none =>
    have he2 : edgeM s fwd x.2 st e = { st with steps := st.steps + cntM s.length fwd e x.2 } := by unfold edgeM; rw [hp]
    rw [he2] at ho hsteps ⊢
    refine ⟨ho.1, h.dok, h.seen, h.nodup, h.rch, h.x0, fun i y hy e' he' => ?_, h.marks, hsteps⟩
    rcases h.closed i y hy e' he' with ⟨rfl, hm⟩ | hm
    · rcases List.mem_cons.1 hm with rfl | hm
      · right
        simp only [List.getElem?_cons_zero, Option.some.injEq] at hy
        subst hy
        intro b hb
        rw [hp] at hb; cases hb
      · exact .inl ⟨rfl, hm⟩
    · exact .inr hm
  | some b =>
    have hb := place_le hx.2 hp
    have hrx : Rch es s fwd x0 (e.to, b) := Rch.step (q := x.1) (a := x.2) (h.rch x (.inr (by simp))) he hp
    have he2 : edgeM s fwd x.2 st e = pushM s.length { st with steps := st.steps + cntM s.length fwd e x.2 } e.to b := by unfold edgeM; rw [hp]
    rw [he2] at ho hsteps ⊢
    unfold pushM at ho hsteps ⊢
    have hhas := h.seen (e.to, b) hto hb
    split
    · rename_i hs
      rw [if_pos hs] at ho hsteps
      have hin : (e.to, b) ∈ st.todo ∨ (e.to, b) ∈ x :: done := hhas.1 hs
      refine ⟨ho.1, h.dok, h.seen, h.nodup, h.rch, h.x0, fun i y hy e' he' => ?_, h.marks, hsteps⟩
      rcases h.closed i y hy e' he' with ⟨rfl, hm⟩ | hm
      · rcases List.mem_cons.1 hm with rfl | hm
        · right
          simp only [List.getElem?_cons_zero, Option.some.injEq] at hy
          subst hy
          intro b' hb'
          rw [hp] at hb'
          rw [← Option.some.inj hb']; exact hin
        · exact .inl ⟨rfl, hm⟩
      · exact .inr hm
    · rename_i hs
      rw [if_neg hs] at ho hsteps
      have hnin : ¬ ((e.to, b) ∈ st.todo ∨ (e.to, b) ∈ x :: done) := fun hh => hs (hhas.2 hh)
      have hlt : e.to * (s.length + 1) + b < st.seen.length := by rw [h.ok.seen]; exact idx_lt hto hb
      refine ⟨ho.1, h.dok, fun y hy1 hy2 => ?_, ?_, fun y hy => ?_, ?_, fun i y hy e' he' => ?_, h.marks, hsteps⟩
      · show (st.seen.set (e.to * (s.length + 1) + b) true).getD (y.1 * (s.length + 1) + y.2) false = true ↔ _
        rw [getD_set_bool _ _ _ hlt]
        have hold := h.seen y hy1 hy2
        constructor
        · rintro (h1 | h1)
          · rcases hold.1 h1 with h2 | h2
            · exact .inl (by simp [h2])
            · exact .inr h2
          · obtain ⟨e1, e2⟩ := idx_inj hb hy2 h1
            left
            simp only [List.mem_append, List.mem_singleton]
            exact .inr (Prod.ext e1.symm e2.symm)
        · rintro (h1 | h1)
          · rcases List.mem_append.1 h1 with h1 | h1
            · exact .inl (hold.2 (.inl h1))
            · rw [List.mem_singleton] at h1
              subst h1; exact .inr rfl
          · exact .inl (hold.2 (.inr h1))
      · show ((st.todo ++ [(e.to, b)]) ++ x :: done).Nodup
        have hn := h.nodup
        rw [List.append_assoc]
        rw [List.nodup_append] at hn ⊢
        refine ⟨hn.1, ?_, ?_⟩
        · rw [List.singleton_append, List.nodup_cons]
          exact ⟨fun hm => hnin (.inr hm), hn.2.1⟩
        · intro u hu v hv
          rcases List.mem_append.1 hv with hv | hv
          · rw [List.mem_singleton] at hv
            subst hv
            intro hne
            exact hnin (.inl (hne ▸ hu))
          · exact hn.2.2 u hu v hv
      · rcases hy with hy | hy
        · rcases List.mem_append.1 hy with hy | hy
          · exact h.rch y (.inl hy)
          · rw [List.mem_singleton] at hy; subst hy; exact hrx
        · exact h.rch y (.inr hy)
      · rcases h.x0 with h0 | h0
        · exact .inl (by simp [h0])
        · exact .inr h0
      · have up : ∀ z, (z ∈ st.todo ∨ z ∈ x :: done) → (z ∈ st.todo ++ [(e.to, b)] ∨ z ∈ x :: done) := fun z hz => hz.imp (fun h => by simp [h]) id
        rcases h.closed i y hy e' he' with ⟨rfl, hm⟩ | hm
        · rcases List.mem_cons.1 hm with rfl | hm
          · right
            simp only [List.getElem?_cons_zero, Option.some.injEq] at hy
            subst hy
            intro b' hb'
            rw [hp] at hb'
            rw [← Option.some.inj hb']
            exact .inl (by simp)
          · exact .inl ⟨rfl, hm⟩
        · exact .inr (fun b' hb' => up _ (hm b' hb'))
theorem FInv.edges {es : List (List Ed)} {s : List UInt8} {fwd : Bool} {goal st0 : Nat} {x0 x : Nat × Nat} {done : List (Nat × Nat)} : ∀ (now : List Ed) {st : FS}, FInv es s fwd goal st0 x0 st (x :: done) now → (∀ e ∈ now, e ∈ es.getD x.1 [] ∧ e.to < es.length) → FInv es s fwd goal st0 x0 (now.foldl (edgeM s fwd x.2) st) (x :: done) []
  | [], st, h, _ => h
  | e :: now, st, h, hm => FInv.edges now (h.edge (hm e (by simp)).1 (hm e (by simp)).2 (fun e' he' => (hm e' (by simp [he'])).1)) (fun e' he' => hm e' (by simp [he']))
theorem FInv.pop {es : List (List Ed)} {s : List UInt8} {fwd : Bool} {goal st0 : Nat} {x0 p : Nat × Nat} {done : List (Nat × Nat)} {st : FS} (h : FInv es s fwd goal st0 x0 st done []) (hp : st.todo.getLast? = some p) : FInv es s fwd goal st0 x0 (popM goal st p) (p :: done) (es.getD p.1 []) := by
  have hs := last_split hp
  obtain ⟨k1, _, k3⟩ := pop_ok (goal := goal) h.ok hp
  have hmem : ∀ x, (x ∈ st.todo.dropLast ∨ x ∈ p :: done) ↔ (x ∈ st.todo ∨ x ∈ done) := fun x => by
    conv => rhs; rw [hs]
    simp only [List.mem_append, List.mem_cons, List.not_mem_nil, or_false]
    constructor
    · rintro (h | h | h)
      · exact .inl (.inl h)
      · exact .inl (.inr h)
      · exact .inr h
    · rintro ((h | h) | h)
      · exact .inl h
      · exact .inr (.inl h)
      · exact .inr (.inr h)
  refine ⟨k1, fun x hx => ?_, fun x h1 h2 => (h.seen x h1 h2).trans (hmem x).symm, ?_, fun x hx => h.rch x ((hmem x).1 hx), (hmem x0).2 h.x0, fun i x hx e he => ?_, fun a ha => ?_, ?_⟩
  · rcases List.mem_cons.1 hx with rfl | hx
    · exact k3
    · exact h.dok x hx
  · have hn := h.nodup
    rw [hs, List.append_assoc, List.singleton_append] at hn
    exact hn
  · cases i with
    | zero =>
      simp only [List.getElem?_cons_zero, Option.some.injEq] at hx
      subst hx
      exact .inl ⟨rfl, he⟩
    | succ i =>
      simp only [List.getElem?_cons_succ] at hx
      rcases h.closed i x hx e he with ⟨_, hm⟩ | hm
      · cases hm
      · exact .inr (fun b hb => (hmem _).2 (hm b hb))
  · show (if p.1 = goal then st.marks.set p.2 true else st.marks).getD a false = true ↔ _
    have hold := h.marks a ha
    split
    · rename_i hg
      rw [getD_set_bool _ _ _ (by rw [h.ok.marks]; omega), hold, List.mem_cons]
      constructor
      · rintro (h1 | h1)
        · exact .inr h1
        · exact .inl (Prod.ext hg.symm h1.symm)
      · rintro (h1 | h1)
        · right; rw [← h1]
        · exact .inl h1
    · rename_i hg
      rw [hold, List.mem_cons]
      exact ⟨.inr, fun h1 => h1.resolve_left (fun e => hg (by rw [← e]))⟩
  · have := h.steps
    show st.steps + _ = _
    simp only [List.map_cons, List.sum_cons, cntAt]
    rw [nowC_nil] at this
    simp only [cntAt, nowC] at this ⊢
    omega
theorem FInv.flood {es : List (List Ed)} {s : List UInt8} {fwd : Bool} {goal st0 : Nat} {x0 : Nat × Nat} (hes : EdsOk es) : ∀ (f : Nat) (done : List (Nat × Nat)) (st : FS), FInv es s fwd goal st0 x0 st done [] → st.mu ≤ f → ∃ done', FInv es s fwd goal st0 x0 (floodGo es s goal fwd f st) done' [] ∧ (floodGo es s goal fwd f st).todo = []
  | 0, done, st, h, hm => ⟨done, h, by
    unfold FS.mu at hm
    exact List.eq_nil_of_length_eq_zero (by show st.todo.length = 0; omega)⟩
  | f + 1, done, st, h, hm => by
    rw [floodGo]
    split
    · rename_i hp
      exact ⟨done, h, List.getLast?_eq_none_iff.1 hp⟩
    · rename_i p hp
      have hpop := h.pop hp
      obtain ⟨k1, k2, k3⟩ := pop_ok (goal := goal) h.ok hp
      have hrow : ∀ e ∈ es.getD p.1 [], e ∈ es.getD p.1 [] ∧ e.to < es.length := fun e he => ⟨he, by
        rw [List.getD_eq_getElem?_getD, List.getElem?_eq_getElem k3.1, Option.getD_some] at he
        exact (hes _ (List.getElem_mem k3.1) e he).1⟩
      have h2 := hpop.edges (es.getD p.1 []) hrow
      have h3 := edges_ok (fwd := fwd) k3.2 (es.getD p.1 []) k1 (fun e he => (hrow e he).2)
      exact FInv.flood hes f _ _ h2 (by rw [h3.2.1]; omega)
theorem FInv.start {es : List (List Ed)} {s : List UInt8} {fwd : Bool} {goal st0 : Nat} {x0 : Nat × Nat} (h1 : x0.1 < es.length) (h2 : x0.2 ≤ s.length) : FInv es s fwd goal st0 x0 (fs0 es.length s.length x0 st0) [] [] := by
  have hlt := idx_lt h1 h2
  refine ⟨(fs0_ok h1 h2 st0).1, by simp, fun x hx1 hx2 => ?_, by simp [fs0], fun x hx => ?_, .inl (by simp [fs0]), by simp, fun a ha => by
    have : (fs0 es.length s.length x0 st0).marks.getD a false = false := by
      simp only [fs0, List.getD_eq_getElem?_getD, List.getElem?_replicate]
      split <;> rfl
    rw [this]; simp, rfl⟩
  · show ((List.replicate (es.length * (s.length + 1)) false).set (x0.1 * (s.length + 1) + x0.2) true).getD _ false = true ↔ _
    rw [getD_set_bool _ _ _ (by simpa using hlt)]
    simp only [fs0, List.mem_singleton, List.not_mem_nil, or_false]
    constructor
    · rintro (h | h)
      · simp [List.getD_eq_getElem?_getD] at h
        rw [List.getElem?_replicate] at h
        split at h <;> simp at h
      · obtain ⟨e1, e2⟩ := idx_inj h2 hx2 h
        exact Prod.ext e1.symm e2.symm
    · intro h; subst h; exact .inr rfl
  · simp only [fs0, List.mem_singleton, List.not_mem_nil, or_false] at hx
    subst hx; exact .here
structure Flood (es : List (List Ed)) (s : List UInt8) (x0 : Nat × Nat) (goal : Nat) (fwd : Bool) (st0 : Nat) (r : FS) (done : List (Nat × Nat)) : Prop where
  len : r.marks.length = s.length + 1
  nodup : done.Nodup
  all : ∀ x, x ∈ done ↔ Rch es s fwd x0 x
  marks : ∀ a, a ≤ s.length → (r.marks.getD a false = true ↔ Rch es s fwd x0 (goal, a))
  dok : ∀ x ∈ done, x.1 < es.length ∧ x.2 ≤ s.length
  steps : r.steps = st0 + (done.map (cntAt es s.length fwd)).sum
theorem flood_spec {es : List (List Ed)} (hes : EdsOk es) (s : List UInt8) {x0 : Nat × Nat} (h1 : x0.1 < es.length) (h2 : x0.2 ≤ s.length) (goal : Nat) (fwd : Bool) (st0 : Nat) : ∃ done, Flood es s x0 goal fwd st0 (floodM es s x0 goal fwd st0) done := by
  obtain ⟨done, h, hnil⟩ := FInv.flood (goal := goal) (fwd := fwd) (st0 := st0) hes (es.length * (s.length + 1)) [] _ (FInv.start h1 h2) (by rw [(fs0_ok h1 h2 st0).2]; exact Nat.le_refl _)
  have hall : ∀ x, x ∈ done ↔ Rch es s fwd x0 x := fun x => ⟨fun hx => h.rch x (.inr hx), fun hx => by
    induction hx with
    | here =>
      rcases h.x0 with h0 | h0
      · rw [hnil] at h0; cases h0
      · exact h0
    | @step q a b e hr he hp ih =>
      obtain ⟨i, hi⟩ := List.mem_iff_getElem?.1 ih
      rcases h.closed i (q, a) hi e he with ⟨_, hm⟩ | hm
      · cases hm
      · rcases hm b hp with h0 | h0
        · rw [hnil] at h0; cases h0
        · exact h0⟩
  refine ⟨done, h.ok.marks, ?_, hall, fun a ha => (h.marks a ha).trans (hall _), h.dok, ?_⟩
  · have := h.nodup
    rw [hnil] at this
    simpa using this
  · have := h.steps
    rw [nowC_nil] at this
    exact this
def edC (e : Ed) : List Value := [Iv (e.kind : Nat), Wv e.set.a, Wv e.set.b, Wv e.set.c, Wv e.set.d, Iv (e.to : Nat)]
def edsC (es : List Ed) : List Value := es.flatMap edC
abbrev EP := Value × List Ed
abbrev edRow (p : EP) : HA := HA.row p.1 180 6 p.2.length (edsC p.2)
def HA.edg (ps : List EP) : HA := ⟨ps.flatMap fun p => p.1.ownBlock.toList, fun w => ∀ p ∈ ps, w.ownsRow 0 180 6 p.1 p.2.length (edsC p.2), fun w w' h hw p hp => ownsRow_loc (fun g hg => h g (List.mem_flatMap.2 ⟨p, hp, hg⟩)) (hw p hp)⟩
theorem Sat.edgOut {w0 w : World} {B : Nat} {l m : List EP} {R : List HA} {p : EP} (h : Sat w0 B (HA.edg (l ++ p :: m) :: R) w) : Sat w0 B (edRow p :: HA.edg (l ++ m) :: R) w :=
  Sl.Sat.rules (Hs := [HA.edg (l ++ p :: m)]) (Hs' := [edRow p, HA.edg (l ++ m)]) h (by
    simp only [fps, List.flatMap_cons, List.flatMap_nil, HA.edg, HA.row, List.append_nil, List.flatMap_append]
    exact List.perm_append_comm_assoc _ _ _) (fun hh Y hY => by
    have h1 := hh (HA.edg (l ++ p :: m)) (by simp)
    simp only [List.mem_cons, List.not_mem_nil, or_false] at hY
    rcases hY with rfl | rfl
    · exact h1 p (by simp)
    · exact fun q hq => h1 q (by rcases List.mem_append.1 hq with hq | hq <;> simp [hq]))
theorem Sat.edgIn {w0 w : World} {B : Nat} {l m : List EP} {R : List HA} {p : EP} (h : Sat w0 B (edRow p :: HA.edg (l ++ m) :: R) w) : Sat w0 B (HA.edg (l ++ p :: m) :: R) w :=
  Sl.Sat.rules (Hs := [edRow p, HA.edg (l ++ m)]) (Hs' := [HA.edg (l ++ p :: m)]) h (by
    simp only [fps, List.flatMap_cons, List.flatMap_nil, HA.edg, HA.row, List.append_nil, List.flatMap_append]
    exact (List.perm_append_comm_assoc _ _ _).symm) (fun hh Y hY => by
    have h1 : (HA.edg (l ++ m)).holds w := hh (HA.edg (l ++ m)) (by simp)
    have h2 : (edRow p).holds w := hh (edRow p) (by simp)
    rw [List.mem_singleton] at hY
    subst hY
    intro q hq
    rcases List.mem_append.1 hq with hq | hq
    · exact h1 q (by simp [hq])
    · rcases List.mem_cons.1 hq with rfl | hq
      · exact h2
      · exact h1 q (by simp [hq]))
theorem Sat.edgNew {w0 w : World} {B : Nat} {l : List EP} {R : List HA} (h : Sat w0 B (HA.edg l :: R) w) : Sat w0 B (HA.edg (l ++ [((.slice none 0 0, []) : EP)]) :: R) w :=
  Sl.Sat.rules (Hs := [HA.edg l]) (Hs' := [HA.edg (l ++ [((.slice none 0 0, []) : EP)])]) h (by
    simp only [fps, List.flatMap_cons, List.flatMap_nil, HA.edg, List.append_nil, List.flatMap_append, Value.ownBlock, Option.toList]
    exact List.Perm.refl _) (fun hh Y hY => by
    have h1 : (HA.edg l).holds w := hh (HA.edg l) (by simp)
    rw [List.mem_singleton] at hY
    subst hY
    intro q hq
    rcases List.mem_append.1 hq with hq | hq
    · exact h1 q hq
    · rw [List.mem_singleton] at hq
      subst hq
      exact World.ownsRow_nil _ _ _ _)
abbrev OR (ad : Option Addr) (cap : Nat) (ps : List EP) : HA := HA.row (.slice ad ps.length cap) 178 1 ps.length (ps.map Prod.fst)
structure AV where
  oad : Option Addr
  ocap : Nat
  bad : Option Addr
  bcap : Nat
  ps : List EP
  qs : List EP
abbrev AVal (ga : Nat) (v : AV) (en : Nat) : HA := HA.blk ga (.cells #[.slice v.oad v.ps.length v.ocap, .slice v.bad v.qs.length v.bcap, Iv (en : Nat)] 121)
abbrev AH (ga : Nat) (v : AV) (en : Nat) : List HA := [AVal ga v en, OR v.oad v.ocap v.ps, HA.edg v.ps, OR v.bad v.bcap v.qs, HA.edg v.qs]
structure AV.Is (v : AV) (a : AM) : Prop where
  out : v.ps.map Prod.snd = a.out
  back : v.qs.map Prod.snd = a.back
abbrev AX (a : AM) : Type := { v : AV // v.Is a }
end Go.Proofs.YthcbjbkheodejaaGreat
