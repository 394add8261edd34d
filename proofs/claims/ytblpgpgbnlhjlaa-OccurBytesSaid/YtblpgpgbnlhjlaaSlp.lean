/- THE BASE: regions that draw their order, in two parts: what is kept while the first m operations are under way may be turned by those behind them, which bind on all of the first. -/
import Derived.Test.YtblpgpgbnlhjlaaSlm
namespace Go.Proofs.Ytblpgpgbnlhjlaa.Sl
open Go Go.RowKit
set_option linter.unusedVariables false
set_option linter.unusedSimpArgs false
section draws2
variable {C : Cx} {all : Array Oper} {Q : Qt}
/-- j binds on k, by at most so many steps. -/
def bindsT (all : Array Oper) : Nat → Nat → Nat → Bool
  | 0, _, _ => false
  | f + 1, j, k => match all[j]? with
    | some o => o.after.any fun e => Region.binds .any e && (Nat.beq e.on k || bindsT all f e.on k)
    | none => false
def lateBinds (all : Array Oper) (m : Nat) : Bool := (List.range all.size).all fun j => Nat.blt j m || (List.range m).all fun k => bindsT all 7 j k
theorem bindsT_done {L : Array Bool} (hcl : Closed all L) : ∀ (f j k : Nat) (oj : Oper), bindsT all f j k = true → all[j]? = some oj → (∀ e ∈ oj.after, Region.binds .any e = true → L.getD e.on false = true) → L.getD k false = true
  | 0, _, _, _, h, _, _ => by cases h
  | f + 1, j, k, oj, h, hj, hall => by
    simp only [bindsT, hj] at h
    obtain ⟨e, he, h2⟩ := Array.any_eq_true'.1 h
    simp only [Bool.and_eq_true, Bool.or_eq_true] at h2
    have hd := hall e he h2.1
    rcases h2.2 with h3 | h3
    · rw [Nat.eq_of_beq_eq_true h3] at hd; exact hd
    · cases f with
      | zero => cases h3
      | succ f =>
        cases ho : all[e.on]? with
        | none => simp only [bindsT, ho] at h3; cases h3
        | some o => exact bindsT_done hcl (f + 1) e.on k o h3 ho (fun e' he' hb' => hcl e.on o ho hd e' he' hb')
/-- While one of the first is to be done, none of the others can come, and none has. -/
theorem late_not {m : Nat} {L : Array Bool} (hb : lateBinds all m = true) (hcl : Closed all L) {i j : Nat} {oj : Oper} (hi : L.getD i false = true → False) (him : i < m) (hj : all[j]? = some oj) (hjm : m ≤ j)
    (h : (∀ e ∈ oj.after, Region.binds .any e = true → L.getD e.on false = true)) : False := by
  have hlt : j < all.size := (Array.getElem?_eq_some_iff.1 hj).1
  have h1 := List.all_eq_true.1 hb j (List.mem_range.2 hlt)
  simp only [Bool.or_eq_true] at h1
  rcases h1 with h1 | h1
  · have : j < m := by simpa using h1
    omega
  · exact hi (bindsT_done hcl 7 j i oj (List.all_eq_true.1 h1 i (List.mem_range.2 him)) hj h)
def someLate (m : Nat) (L : Array Bool) : Bool := (List.range L.size).any fun k => Nat.ble m k && L.getD k false
theorem someLate_true {m : Nat} {L : Array Bool} (h : someLate m L = true) : ∃ k, m ≤ k ∧ L.getD k false = true := by
  obtain ⟨k, _, h2⟩ := List.any_eq_true.1 h
  simp only [Bool.and_eq_true] at h2
  exact ⟨k, Nat.le_of_ble_eq_true h2.1, h2.2⟩
theorem someLate_of {m : Nat} {L : Array Bool} {k : Nat} (hk : m ≤ k) (h : L.getD k false = true) : someLate m L = true := by
  have hlt : k < L.size := by
    rcases Nat.lt_or_ge k L.size with h' | h'
    · exact h'
    · simp [Array.getElem?_eq_none h'] at h
  exact List.any_eq_true.2 ⟨k, List.mem_range.2 hlt, by rw [h, Nat.ble_eq_true_of_le hk]; rfl⟩
/-- What is kept. -/
def KS (C : Cx) (Hs : List HA) (m : Nat) (L : Array Bool) (w : World) : Prop := Sat C.w0 C.B [] w ∧ (someLate m L = false → Sat C.w0 C.B Hs w)
def wpAnyG (C : Cx) (all : Array Oper) (Q : Qt) (Hs : List HA) (m : Nat) : Nat → Array Bool → Act → World → Prop
  | 0, L, a, w => Region.ready .any all L = [] ∧ Q .normal a w
  | f + 1, L, a, w => (Region.ready .any all L = [] → Q .normal a w) ∧
    ∀ i ∈ Region.ready .any all L, wpOpIn (F0 C.r) 0 C.P all Q i (fun a' w' => KS C Hs m (L.setIfInBounds i true) w' ∧ wpAnyG C all Q Hs m f (L.setIfInBounds i true) a' w') a w
theorem wpAnyG.any {Hs : List HA} {m : Nat} : ∀ (f : Nat) (L : Array Bool) (a : Act) (w : World), wpAnyG C all Q Hs m f L a w → wpAnyIn (F0 C.r) 0 C.P .any all Q f L a w
  | 0, _, _, _, h => h
  | f + 1, _, _, _, h => ⟨h.1, fun i hi => wpOpIn_mono (fun a' w' h' => wpAnyG.any f _ a' w' h'.2) (h.2 i hi)⟩
theorem ready_undone {L : Array Bool} {i : Nat} (h : i ∈ Region.ready .any all L) : L.getD i false = true → False := fun h1 => by
  have h0 := (mem_ready.1 h).1
  rcases Nat.lt_or_ge i L.size with h' | h'
  · simp [h'] at h0 h1; rw [h0] at h1; cases h1
  · simp [Array.getElem?_eq_none h'] at h1
/-- Of what the moved operation asks: the first ones of what is kept, the others of nothing. -/
def need (Hs : List HA) (m i : Nat) : List HA := bif Nat.blt i m then Hs else []
theorem KS.need {Hs : List HA} {m i : Nat} {L : Array Bool} {w : World} (hb : lateBinds all m = true) (hcl : Closed all L) (hsz : L.size = all.size) (hi : i ∈ Region.ready .any all L) (h : KS C Hs m L w) : Sat C.w0 C.B (need Hs m i) w := by
  unfold Sl.need
  cases hm : Nat.blt i m with
  | false => exact h.1
  | true =>
    have him : i < m := by simpa using hm
    refine h.2 ?_
    cases hl : someLate m L with
    | false => rfl
    | true =>
      obtain ⟨k, hk, hd⟩ := someLate_true hl
      have hks : k < all.size := by
        rw [← hsz]
        rcases Nat.lt_or_ge k L.size with h' | h'
        · exact h'
        · simp [Array.getElem?_eq_none h'] at hd
      exact (late_not hb hcl (ready_undone hi) him (Array.getElem?_eq_getElem hks) hk (fun e he hb' => hcl k _ (Array.getElem?_eq_getElem hks) hd e he hb')).elim
theorem KS.back {Hs : List HA} {m i j : Nat} {L : Array Bool} {w : World} (hb : lateBinds all m = true) (hcl : Closed all L) (hi : i ∈ Region.ready .any all L) (hj : j ∈ Region.ready .any all L) (hji : j ≠ i) (h : KS C Hs m ((L.setIfInBounds i true).setIfInBounds j true) w) : KS C Hs m (L.setIfInBounds j true) w := by
  refine ⟨h.1, fun hl => h.2 ?_⟩
  cases hl2 : someLate m ((L.setIfInBounds i true).setIfInBounds j true) with
  | false => rfl
  | true =>
    exfalso
    obtain ⟨k, hk, hd⟩ := someLate_true hl2
    obtain ⟨hiun, oi, hoi, halli⟩ := mem_ready.1 hi
    obtain ⟨hjun, oj, hoj, hallj⟩ := mem_ready.1 hj
    by_cases hkj : j = k
    · subst hkj
      have hs : j < L.size := by
        rcases Nat.lt_or_ge j L.size with h' | h'
        · exact h'
        · simp [Array.getElem?_eq_none h'] at hjun
      have : someLate m (L.setIfInBounds j true) = true := someLate_of hk (by simp [hs])
      rw [this] at hl; cases hl
    · rw [getD_set_ne false hkj] at hd
      by_cases hki : i = k
      · subst hki
        rcases Nat.lt_or_ge j m with hjm | hjm
        · exact late_not hb hcl (ready_undone hj) hjm hoi hk halli
        · have hs : j < L.size := by
            rcases Nat.lt_or_ge j L.size with h' | h'
            · exact h'
            · simp [Array.getElem?_eq_none h'] at hjun
          have : someLate m (L.setIfInBounds j true) = true := someLate_of hjm (by simp [hs])
          rw [this] at hl; cases hl
      · rw [getD_set_ne false hki] at hd
        have : someLate m (L.setIfInBounds j true) = true := someLate_of hk (by rw [getD_set_ne false hkj]; exact hd)
        rw [this] at hl; cases hl
theorem KS.quiet {Hs : List HA} {m i : Nat} {L : Array Bool} {w : World} (h : KS C Hs m L w) : KS C Hs m (L.setIfInBounds i true) w := by
  refine ⟨h.1, fun hl => h.2 ?_⟩
  cases hl2 : someLate m L with
  | false => rfl
  | true =>
    obtain ⟨k, hk, hd⟩ := someLate_true hl2
    rw [someLate_of hk (getD_set_done hd)] at hl; cases hl
theorem wpAnyG.first {i : Nat} {oi : Oper} {v : Value} (hi : all[i]? = some oi) (hnd : noDefer all = true) (hQ : ∀ c a w, ¬ Q (.panic c) a w) {Hs : List HA} {m : Nat} (hb : lateBinds all m = true) :
    ∀ (f : Nat) (L : Array Bool) (a : Act) (w : World), (∀ j oj, all[j]? = some oj → j ≠ i → L.getD j true = false → (∀ e ∈ oj.after, Region.binds .any e = true → e.on ≠ i) → oi.apart all oj = true) →
      Closed all L → L.size = all.size → i ∈ Region.ready .any all L → YieldsS C all (Sat C.w0 C.B (need Hs m i)) oi v a → KS C Hs m L w → wpAnyG C all Q Hs m f (L.setIfInBounds i true) (a.put oi.dst v) w → wpAnyG C all Q Hs m (f + 1) L a w := by
  have hdi := noDefer_spec hnd hi
  intro f
  induction f with
  | zero =>
    intro L a w _ hcl hsz hr hy hS H
    refine ⟨fun h => (by rw [h] at hr; cases hr), fun j hj => ?_⟩
    by_cases hji : j = i
    · subst hji; exact hy.step hi hdi.1 (hS.need hb hcl hsz hr) ⟨hS.quiet, H⟩
    · have := ready_mono hj hji
      rw [H.1] at this
      cases this
  | succ f ih =>
    intro L a w hfree hcl hsz hr hy hS H
    refine ⟨fun h => (by rw [h] at hr; cases hr), fun j hj => ?_⟩
    by_cases hji : j = i
    · subst hji; exact hy.step hi hdi.1 (hS.need hb hcl hsz hr) ⟨hS.quiet, H⟩
    · have h1 := H.2 j (ready_mono hj hji)
      obtain ⟨hjun, oj, hoj, hall⟩ := mem_ready.1 hj
      have hnot : ∀ e ∈ oj.after, Region.binds .any e = true → e.on ≠ i := fun e he hb heq => by
        have h1 := hall e he hb
        rw [heq] at h1
        exact ready_undone hr h1
      have hdj := noDefer_spec hnd hoj
      have h2 := YieldsS.other hoj (hfree j oj hoj hji hjun hnot) hdi.2 hdj.2 hdj.1 hQ hy h1
      refine wpOpIn_mono (fun a' w' h3 => ⟨h3.2.1.back hb hcl hr hj hji, ih (L.setIfInBounds j true) a' w' (fun k ok hk hki hun hno => ?_) (hcl.set hj) (by rw [Array.size_setIfInBounds]; exact hsz) (ready_mono hr (Ne.symm hji)) h3.1 (h3.2.1.back hb hcl hr hj hji) ?_⟩) h2
      · refine hfree k ok hk hki ?_ hno
        by_cases hjk : j = k
        · subst hjk; exact hjun
        · rw [getD_set_ne true hjk] at hun; exact hun
      · rw [Array.setIfInBounds_comm _ _ hji]
        exact h3.2.2
/-! ### By the symbolic frame -/
def EG (C : Cx) (all : Array Oper) (Hs : List HA) (m f : Nat) (L : Array Bool) (E : Env) (H : List HA) (Q : Qt) : Prop := lateBinds all m = true → L.size = all.size → ∀ a w, At C E H a w → KS C Hs m L w → wpAnyG C all Q Hs m f L a w
variable {Hs : List HA} {m f : Nat} {L : Array Bool} {E E' : Env} {H H' : List HA}
theorem EG.take (i : Nat) {o : Oper} {d : Nat} {v : Value} (hi : all[i]? = some o) (hnd : noDefer all = true) (hQ : ∀ c a w, ¬ Q (.panic c) a w) (ht : takeOk all L i = true) (hg : guardOk all E o.guard = some true) (hd : o.dst = some d) (hdn : Nat.blt d C.n = true)
    (hv : RunV C E (need Hs m i) o v) (k : EG C all Hs m f (L.setIfInBounds i true) ((d, v) :: E) H Q) : EG C all Hs m (f + 1) L E H Q := by
  intro hb hsz a w ha hs
  simp only [takeOk, Bool.and_eq_true] at ht
  have hr : i ∈ Region.ready .any all L := by simpa using ht.1.2
  refine wpAnyG.first hi hnd hQ hb f L a w (fun j oj => Region.free_spec hi ht.1.1 j oj) (closedB_spec ht.2) hsz hr (.inl ⟨guardOk_wanted hg ha.1, fun w' hS => hv a w' ⟨ha.1, hS⟩⟩) hs ?_
  rw [hd]
  exact k hb (by rw [Array.size_setIfInBounds]; exact hsz) _ _ ⟨ha.1.put (by simpa using hdn) v, ha.2⟩ hs.quiet
theorem EG.pass (i : Nat) {o : Oper} {d : Nat} (hi : all[i]? = some o) (hnd : noDefer all = true) (hQ : ∀ c a w, ¬ Q (.panic c) a w) (ht : takeOk all L i = true) (hg : guardOk all E o.guard = some false) (hd : o.dst = some d) (hdn : Nat.blt d C.n = true)
    (k : EG C all Hs m f (L.setIfInBounds i true) ((d, undef) :: E) H Q) : EG C all Hs m (f + 1) L E H Q := by
  intro hb hsz a w ha hs
  simp only [takeOk, Bool.and_eq_true] at ht
  have hr : i ∈ Region.ready .any all L := by simpa using ht.1.2
  refine wpAnyG.first hi hnd hQ hb f L a w (fun j oj => Region.free_spec hi ht.1.1 j oj) (closedB_spec ht.2) hsz hr (.inr ⟨guardOk_wanted hg ha.1, rfl⟩) hs ?_
  rw [hd]
  exact k hb (by rw [Array.size_setIfInBounds]; exact hsz) _ _ ⟨ha.1.put (by simpa using hdn) undef, ha.2⟩ hs.quiet
theorem EG.partB {d : Nat} {b : Bool} (hv : E.get d = some (.bool b)) (ht : b = true → EG C all Hs m f L ((d, .bool true) :: E) H Q) (hf : b = false → EG C all Hs m f L ((d, .bool false) :: E) H Q) : EG C all Hs m f L E H Q := by
  intro hb hsz a w ha hs
  have hslot := ha.1.get d _ hv
  have fit : ∀ c : Bool, b = c → Fits C.n C.D ((d, .bool c) :: E) a := fun c hb => ⟨ha.1.dfr, ha.1.size, fun d' v' h' => by
    rw [Env.get_cons] at h'
    by_cases e : d = d'
    · subst e; rw [if_pos rfl] at h'; rw [← Option.some.inj h', hslot, hb]
    · rw [if_neg e] at h'; exact ha.1.get d' v' h'⟩
  cases hbb : b with
  | true => exact ht hbb hb hsz a w ⟨fit true hbb, ha.2⟩ hs
  | false => exact hf hbb hb hsz a w ⟨fit false hbb, ha.2⟩ hs
theorem EG.part {d : Nat} {p : Prop} [Decidable p] (hv : E.get d = some (.bool (decide p))) (ht : p → EG C all Hs m f L ((d, .bool true) :: E) H Q) (hf : ¬ p → EG C all Hs m f L ((d, .bool false) :: E) H Q) : EG C all Hs m f L E H Q :=
  EG.partB hv (fun e => ht (of_decide_eq_true e)) (fun e => hf (of_decide_eq_false e))
theorem EG.partN {d : Nat} {p : Prop} [Decidable p] (hv : E.get d = some (.bool (!decide p))) (ht : ¬ p → EG C all Hs m f L ((d, .bool true) :: E) H Q) (hf : p → EG C all Hs m f L ((d, .bool false) :: E) H Q) : EG C all Hs m f L E H Q :=
  EG.partB hv (fun e => ht (by simpa using e)) (fun e => hf (by simpa using e))
theorem EG.rew {d : Nat} {v v' : Value} (hv : E.get d = some v) (e : v = v') (k : EG C all Hs m f L ((d, v') :: E) H Q) : EG C all Hs m f L E H Q := by
  subst e
  intro hb hsz a w ha hs
  refine k hb hsz a w ⟨⟨ha.1.dfr, ha.1.size, fun d' v' h' => ?_⟩, ha.2⟩ hs
  rw [Env.get_cons] at h'
  by_cases e : d = d'
  · subst e; rw [if_pos rfl] at h'; rw [← Option.some.inj h', ha.1.get _ _ hv]
  · rw [if_neg e] at h'; exact ha.1.get d' v' h'
/-- What is owned is told otherwise. -/
theorem EG.imp (h : ∀ w, Sat C.w0 C.B H w → Sat C.w0 C.B H' w) (k : EG C all Hs m f L E H' Q) : EG C all Hs m f L E H Q := fun hb hsz a w ha hs => k hb hsz a w ⟨ha.1, h w ha.2⟩ hs
def GK (C : Cx) (all : Array Oper) (Hs : List HA) (m f : Nat) (L : Array Bool) (Q : Qt) : Qt := fun e a w => match e with
  | .normal => KS C Hs m L w ∧ wpAnyG C all Q Hs m f L a w
  | e => Q e a w
theorem loud_opG {i : Nat} {o : Oper} (hi : all[i]? = some o) (k : EL C all [o] (GK C all Hs m f (L.setIfInBounds i true) Q) E H) {a : Act} {w : World} (ha : At C E H a w) :
    wpOpIn (F0 C.r) 0 C.P all Q i (fun a' w' => KS C Hs m (L.setIfInBounds i true) w' ∧ wpAnyG C all Q Hs m f (L.setIfInBounds i true) a' w') a w := by
  have hk := k a w ha
  have hD : ∀ e a w, GK C all Hs m f (L.setIfInBounds i true) Q e a w → match e with | .normal => KS C Hs m (L.setIfInBounds i true) w ∧ wpAnyG C all Q Hs m f (L.setIfInBounds i true) a w | e => Q e a w := fun e a w h => by
    cases e with
    | normal => exact h
    | _ => exact h
  unfold wpOpIn
  simp only [hi]
  simp only [wpListIn] at hk
  split
  · rename_i hw
    simp only [hw, if_true] at hk
    refine ⟨fun _ _ => trivial, ?_⟩
    have h2 := hk.2
    generalize (o.semAt (F0 C.r).round a.eval).run C.P w = r at *
    cases r with
    | ok x w' =>
      cases x <;> simp only [Oper.uponIn] at h2 ⊢
      case value u => exact hD _ _ _ h2
      case skip => exact hD _ _ _ h2
      case defer d => exact hD _ _ _ h2
      case enter f args =>
        refine ⟨h2.1, CallsIn.mono h2.2 fun e w'' he => ?_⟩
        cases e with
        | returned u => exact hD _ _ _ he
        | panicked c => exact hD _ _ _ he
        | outgrown =>
          obtain ⟨a', w3, h3⟩ := he
          exact ⟨a', w3, hD _ _ _ h3⟩
      case row row args => exact ⟨h2.1, RowsIn.mono h2.2 fun u w'' he => hD _ _ _ he⟩
      case round l f tmps assign body =>
        refine ⟨h2.1, RoundIn.mono h2.2 fun e w'' he => ?_⟩
        cases e with
        | returned u => exact hD _ _ _ he
        | panicked c => exact hD _ _ _ he
        | outgrown =>
          obtain ⟨a', w3, h3⟩ := he
          exact ⟨a', w3, hD _ _ _ h3⟩
    | halt x w' =>
      cases x <;> simp only [Oper.uponIn] at h2 ⊢
      case panic u => exact hD _ _ _ h2
  · rename_i hw
    simp only [hw] at hk
    exact ⟨fun _ _ => trivial, hD _ _ _ hk.2⟩
def EGone (C : Cx) (all : Array Oper) (Hs : List HA) (m f : Nat) (L : Array Bool) (E : Env) (H : List HA) (Q : Qt) (j : Nat) : Prop := ∃ o, all[j]? = some o ∧ EL C all [o] (GK C all Hs m f (L.setIfInBounds j true) Q) E H
def EGall (C : Cx) (all : Array Oper) (Hs : List HA) (m f : Nat) (L : Array Bool) (E : Env) (H : List HA) (Q : Qt) : List Nat → Prop
  | [] => True
  | j :: r => EGone C all Hs m f L E H Q j ∧ EGall C all Hs m f L E H Q r
theorem EGall.get : ∀ {js : List Nat}, EGall C all Hs m f L E H Q js → ∀ j ∈ js, EGone C all Hs m f L E H Q j
  | j :: r, h, k, hk => by
    rcases List.mem_cons.1 hk with rfl | hk
    · exact h.1
    · exact EGall.get h.2 k hk
theorem EG.fork (i : Nat) (js : List Nat) (hr : (Region.ready .any all L == i :: js) = true) (h : EGall C all Hs m f L E H Q (i :: js)) : EG C all Hs m (f + 1) L E H Q := by
  intro hb hsz a w ha hs
  have hR : Region.ready .any all L = i :: js := by simpa using hr
  refine ⟨fun h => (by rw [hR] at h; cases h), fun j hj => ?_⟩
  rw [hR] at hj
  obtain ⟨o, ho, k⟩ := h.get j hj
  exact loud_opG ho k ha
theorem EG.loud (i : Nat) {o : Oper} (hi : all[i]? = some o) (hr : readyIs all L i = true) (k : EL C all [o] (GK C all Hs m f (L.setIfInBounds i true) Q) E H) : EG C all Hs m (f + 1) L E H Q := by
  intro hb hsz a w ha hs
  have hR : Region.ready .any all L = [i] := by
    unfold readyIs at hr
    split at hr
    · rename_i j hj; rw [hj, Nat.eq_of_beq_eq_true hr]
    · cases hr
  refine ⟨fun h => (by rw [hR] at h; cases h), fun j hj => ?_⟩
  rw [hR] at hj
  obtain rfl : j = i := by simpa using hj
  exact loud_opG hi k ha
theorem EG.next (hb : lateBinds all m = true) (hsz : Nat.beq L.size all.size = true) (hs : Ent H Hs) (k : EG C all Hs m f L E H Q) : EL C all [] (GK C all Hs m f L Q) E H := fun a w ha =>
  have hk : KS C Hs m L w := ⟨ha.2.ent (.nil _), fun _ => ha.2.ent hs⟩
  ⟨hk, k hb (Nat.eq_of_beq_eq_true hsz) a w ha hk⟩
/-- Behind one of the later operations nothing is kept. -/
theorem EG.nextL (hb : lateBinds all m = true) (hsz : Nat.beq L.size all.size = true) (hl : someLate m L = true) (k : EG C all Hs m f L E H Q) : EL C all [] (GK C all Hs m f L Q) E H := fun a w ha =>
  have hk : KS C Hs m L w := ⟨ha.2.ent (.nil _), fun h => by rw [hl] at h; cases h⟩
  ⟨hk, k hb (Nat.eq_of_beq_eq_true hsz) a w ha hk⟩
theorem EG.done (hr : (match Region.ready .any all L with | [] => true | _ => false) = true) (k : PX C Q .normal E H) : EG C all Hs m f L E H Q := by
  intro hb hsz a w ha hs
  have hR : Region.ready .any all L = [] := by
    split at hr
    · assumption
    · cases hr
  cases f with
  | zero => exact ⟨hR, k a w ha⟩
  | succ f => exact ⟨fun _ => k a w ha, fun i hi => absurd hi (by rw [hR]; simp)⟩
theorem ES.drawG {X : Type} {id : Nat} {ops : Array Oper} {cs : List Code} (Ex : X → Env) (Hx : X → List HA) (m : Nat) (Hs : List HA) (hm : C.P.follows .mixedOrders = true) (hb : lateBinds ops m = true) (hs : Ent H Hs)
    (h : EG C ops Hs m ops.size (Array.replicate ops.size false) E H (CutX C Ex Hx)) (k : ∀ x, ES C cs Q (Ex x) (Hx x)) : ES C (.region id ops true :: cs) Q E H := by
  intro a w ha
  have h1 := wpAnyG.any _ _ _ _ (h hb (by simp) a { w with drawn := w.drawn + 1 } ⟨ha.1, ha.2.drewN _⟩ ⟨(ha.2.ent (.nil _)).drewN _, fun _ => (ha.2.ent hs).drewN _⟩)
  have h2 := wpIn_region_any (id := id) hm h1
  refine wpIn_mono h2 ?_
  intro e a' w' hq
  cases e with
  | normal =>
    obtain ⟨_, x, hat⟩ := hq
    exact k x a' w' hat
  | _ => cases (hq.1 : _ = Exit.normal)
end draws2
end Go.Proofs.Ytblpgpgbnlhjlaa.Sl
