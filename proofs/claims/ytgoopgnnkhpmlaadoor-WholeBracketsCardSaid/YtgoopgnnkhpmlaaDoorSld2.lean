/- THE BASE: regions that draw their order. What yields its value in every world that keeps the assertions Hs may be taken first. -/
import Derived.Test.YtgoopgnnkhpmlaaDoorSlr
import Derived.OrdersIn
namespace Go.Proofs.YtgoopgnnkhpmlaaDoor.Sl
open Go Go.RowKit
set_option linter.unusedVariables false
set_option linter.unusedSimpArgs false
section draws
variable {C : Cx} {all : Array Oper} {Q : Qt} {S : World → Prop}

def noDefer (ops : Array Oper) : Bool := ops.all fun o => match o.op with | .defer _ => false | .select .. => false | _ => true
theorem noDefer_spec (h : noDefer all = true) {j : Nat} {o : Oper} (hj : all[j]? = some o) : (∀ c, o.op ≠ .defer c) ∧ (∀ cs b, o.op ≠ .select cs b) := by
  have hm : o ∈ all := Array.mem_of_getElem? hj
  have := Array.all_eq_true_iff_forall_mem.1 h o hm
  constructor
  · intro c hc; rw [hc] at this; cases this
  · intro cs b hc; rw [hc] at this; cases this
/-- The last operation, and whether it comes behind all others: it may turn what is kept. -/
def bindsOn (o : Oper) (k : Nat) : Bool := o.after.any fun e => Nat.beq e.on k && Region.binds .any e
theorem bindsOn_spec {o : Oper} {k : Nat} (h : bindsOn o k = true) : ∃ e ∈ o.after, Region.binds .any e = true ∧ e.on = k := by
  obtain ⟨e, he, h2⟩ := Array.any_eq_true'.1 h
  simp only [Bool.and_eq_true] at h2
  exact ⟨e, he, h2.2, Nat.eq_of_beq_eq_true h2.1⟩
def lastBinds (all : Array Oper) : Bool := match all[all.size - 1]? with
  | some o => (List.range (all.size - 1)).all fun k => bindsOn o k || (List.range (all.size - 1)).any fun m => bindsOn o m && (match all[m]? with | some p => bindsOn p k | none => false)
  | none => false
def Brk (all : Array Oper) (i : Nat) : Prop := lastBinds all = true ∧ i = all.size - 1
def closedB (all : Array Oper) (L : Array Bool) : Bool := (List.range all.size).all fun m => !L.getD m false || (match all[m]? with | some o => o.after.all fun e => !Region.binds .any e || L.getD e.on false | none => true)
def Closed (all : Array Oper) (L : Array Bool) : Prop := ∀ m o, all[m]? = some o → L.getD m false = true → ∀ e ∈ o.after, Region.binds .any e = true → L.getD e.on false = true
theorem closedB_spec {all : Array Oper} {L : Array Bool} (h : closedB all L = true) : Closed all L := by
  intro m o hm hd e he hb
  have hlt : m < all.size := (Array.getElem?_eq_some_iff.1 hm).1
  have h1 := List.all_eq_true.1 h m (List.mem_range.2 hlt)
  rw [hd, hm] at h1
  simp only [Bool.not_true, Bool.false_or] at h1
  have h2 := Array.all_eq_true_iff_forall_mem.1 h1 e he
  rw [hb] at h2
  simpa using h2
theorem getD_set_done {L : Array Bool} {k j : Nat} (h : L.getD k false = true) : (L.setIfInBounds j true).getD k false = true := by
  have hk : k < L.size := by
    rcases Nat.lt_or_ge k L.size with h' | h'
    · exact h'
    · simp [Array.getElem?_eq_none h'] at h
  by_cases e : j = k
  · subst e; simp [hk]
  · rw [getD_set_ne false e]; exact h
theorem Closed.set {all : Array Oper} {L : Array Bool} (h : Closed all L) {j : Nat} (hj : j ∈ Region.ready .any all L) : Closed all (L.setIfInBounds j true) := by
  obtain ⟨_, oj, hoj, hall⟩ := mem_ready.1 hj
  intro m o hm hd e he hb
  refine getD_set_done ?_
  by_cases hmj : j = m
  · subst hmj
    rw [hoj] at hm
    obtain rfl := Option.some.inj hm
    exact hall e he hb
  · rw [getD_set_ne false hmj] at hd
    exact h m o hm hd e he hb
theorem Brk.no {all : Array Oper} {L : Array Bool} {j i : Nat} {oi : Oper} (h : Brk all j) (hcl : Closed all L) (hj : j ∈ Region.ready .any all L) (hi : i ∈ Region.ready .any all L) (hoi : all[i]? = some oi) (hne : i ≠ j) : False := by
  obtain ⟨hb, rfl⟩ := h
  obtain ⟨_, oj, hoj, hall⟩ := mem_ready.1 hj
  have hni := (mem_ready.1 hi).1
  have hlt : i < all.size := (Array.getElem?_eq_some_iff.1 hoi).1
  have hno : L.getD i false = true → False := fun h => by
    rcases Nat.lt_or_ge i L.size with h' | h'
    · simp [h'] at hni h; rw [hni] at h; cases h
    · simp [Array.getElem?_eq_none h'] at h
  unfold lastBinds at hb
  rw [hoj] at hb
  have h1 := List.all_eq_true.1 hb i (List.mem_range.2 (by omega))
  simp only [Bool.or_eq_true] at h1
  rcases h1 with h1 | h1
  · obtain ⟨e, he, h2, h3⟩ := bindsOn_spec h1
    have := hall e he h2
    rw [h3] at this
    exact hno this
  · obtain ⟨m, _, h2⟩ := List.any_eq_true.1 h1
    simp only [Bool.and_eq_true] at h2
    obtain ⟨e, he, h3, h4⟩ := bindsOn_spec h2.1
    have hm := hall e he h3
    rw [h4] at hm
    cases ho : all[m]? with
    | none => rw [ho] at h2; cases h2.2
    | some p =>
      rw [ho] at h2
      obtain ⟨e', he', h5, h6⟩ := bindsOn_spec h2.2
      have := hcl m p ho hm e' he' h5
      rw [h6] at this
      exact hno this
def wpAnyS (C : Cx) (all : Array Oper) (Q : Qt) (S : World → Prop) : Nat → Array Bool → Act → World → Prop
  | 0, L, a, w => Region.ready .any all L = [] ∧ Q .normal a w
  | f + 1, L, a, w => (Region.ready .any all L = [] → Q .normal a w) ∧
    ∀ i ∈ Region.ready .any all L, wpOpIn (F0 C.r) 0 C.P all Q i (fun a' w' => (Brk all i ∨ S w') ∧ wpAnyS C all Q S f (L.setIfInBounds i true) a' w') a w
theorem wpAnyS.any : ∀ (f : Nat) (L : Array Bool) (a : Act) (w : World), wpAnyS C all Q S f L a w → wpAnyIn (F0 C.r) 0 C.P .any all Q f L a w
  | 0, _, _, _, h => h
  | f + 1, _, _, _, h => ⟨h.1, fun i hi => wpOpIn_mono (fun a' w' h' => wpAnyS.any f _ a' w' h'.2) (h.2 i hi)⟩
/-- In state a, in every world that meets S, the operation leaves v in its slot and does nothing else. -/
def YieldsS (C : Cx) (all : Array Oper) (S : World → Prop) (o : Oper) (v : Value) (a : Act) : Prop :=
  (Region.wanted o (yielded all a.tmps) = true ∧ ∀ w, S w → (execOp a.eval o).run C.P w = .ok (.value v) w) ∨ (Region.wanted o (yielded all a.tmps) = false ∧ v = undef)
theorem YieldsS.step {i : Nat} {o : Oper} {v : Value} {a : Act} (hi : all[i]? = some o) (hd : ∀ c, o.op ≠ .defer c) (hy : YieldsS C all S o v a) {K : Act → World → Prop} {w : World} (hS : S w) (h : K (a.put o.dst v) w) : wpOpIn (F0 C.r) 0 C.P all Q i K a w := by
  unfold wpOpIn
  simp only [hi]
  rcases hy with ⟨hw, hv⟩ | ⟨hw, rfl⟩
  · simp only [hw, if_true, Oper.wpIn, sem_plain hd, hv w hS, Oper.uponIn]
    exact ⟨fun _ _ => trivial, h⟩
  · simp only [hw, Bool.false_eq_true, if_false]
    exact ⟨fun _ _ => trivial, h⟩
theorem YieldsS.other {j : Nat} {oi oj : Oper} {v : Value} (hj : all[j]? = some oj) (hap : oi.apart all oj = true) (hsi : ∀ cs b, oi.op ≠ .select cs b) (hsj : ∀ cs b, oj.op ≠ .select cs b) (hdj : ∀ c, oj.op ≠ .defer c)
    (hQ : ∀ c a w, ¬ Q (.panic c) a w) {K : Act → World → Prop} {a : Act} {w : World} (hy : YieldsS C all S oi v a) (h : wpOpIn (F0 C.r) 0 C.P all Q j K (a.put oi.dst v) w) :
    wpOpIn (F0 C.r) 0 C.P all Q j (fun a' w' => YieldsS C all S oi v a' ∧ K (a'.put oi.dst v) w') a w := by
  obtain ⟨h1, h2, h3⟩ := Oper.apart_spec hap
  have keep : ∀ u, YieldsS C all S oi v (a.put oj.dst u) := fun u => by
    unfold YieldsS at *
    rw [execOp_put oi hsi a oj.dst u h3, wanted_put oi a oj.dst u h3]
    exact hy
  unfold wpOpIn at *
  simp only [hj] at *
  rw [wanted_put oj a oi.dst v h1] at h
  split
  · rename_i hw
    simp only [hw, if_true] at h
    unfold Oper.wpIn at *
    refine ⟨fun _ _ => trivial, ?_⟩
    replace h := h.2
    rw [sem_plain hdj, execOp_put oj hsj a oi.dst v h1] at h
    rw [sem_plain hdj]
    generalize (execOp a.eval oj).run C.P w = r at *
    cases r with
    | ok x w' =>
      cases x <;> simp only [Oper.uponIn] at h ⊢
      case value u => exact ⟨keep u, by rw [← Act.put_comm a v u h2]; exact h⟩
      case skip => exact ⟨keep _, by rw [← Act.put_comm a v undef h2]; exact h⟩
      case defer d =>
        refine ⟨?_, ?_⟩
        · unfold YieldsS at *
          have e1 := execOp_put oi hsi { a with defers := d :: a.defers } oj.dst undef h3
          have e2 := wanted_put (ops := all) oi { a with defers := d :: a.defers } oj.dst undef h3
          rw [e1, e2]
          exact hy
        · rw [← Act.put_comm _ v undef h2, ← Act.put_defers]
          exact h
      case enter f args =>
        refine ⟨h.1, CallsIn.mono h.2 fun e w'' he => ?_⟩
        cases e with
        | returned u => exact ⟨keep u, by rw [← Act.put_comm a v u h2]; exact he⟩
        | panicked c => exact (hQ _ _ _ he).elim
        | outgrown => exact he
      case row row args => exact ⟨h.1, RowsIn.mono h.2 fun u w'' he => ⟨keep u, by rw [← Act.put_comm a v u h2]; exact he⟩⟩
      case round l f tmps assign body =>
        refine ⟨h.1, RoundIn.mono h.2 fun e w'' he => ?_⟩
        cases e with
        | returned u => exact ⟨keep u, by rw [← Act.put_comm a v u h2]; exact he⟩
        | panicked c => exact (hQ _ _ _ he).elim
        | outgrown => exact he
    | halt x w' =>
      cases x <;> simp only [Oper.uponIn] at h ⊢
      case panic u => exact (hQ _ _ _ h).elim
  · rename_i hw
    simp only [hw] at h
    exact ⟨fun _ _ => trivial, keep _, by rw [← Act.put_comm a v undef h2]; exact h.2⟩
theorem wpAnyS.first {i : Nat} {oi : Oper} {v : Value} (hi : all[i]? = some oi) (hnd : noDefer all = true) (hQ : ∀ c a w, ¬ Q (.panic c) a w) :
    ∀ (f : Nat) (L : Array Bool) (a : Act) (w : World), (∀ j oj, all[j]? = some oj → j ≠ i → L.getD j true = false → (∀ e ∈ oj.after, Region.binds .any e = true → e.on ≠ i) → oi.apart all oj = true) →
      Closed all L → i ∈ Region.ready .any all L → YieldsS C all S oi v a → S w → wpAnyS C all Q S f (L.setIfInBounds i true) (a.put oi.dst v) w → wpAnyS C all Q S (f + 1) L a w := by
  have hdi := noDefer_spec hnd hi
  intro f
  induction f with
  | zero =>
    intro L a w _ hcl hr hy hS H
    refine ⟨fun h => (by rw [h] at hr; cases hr), fun j hj => ?_⟩
    by_cases hji : j = i
    · subst hji; exact hy.step hi hdi.1 hS ⟨.inr hS, H⟩
    · have := ready_mono hj hji
      rw [H.1] at this
      cases this
  | succ f ih =>
    intro L a w hfree hcl hr hy hS H
    refine ⟨fun h => (by rw [h] at hr; cases hr), fun j hj => ?_⟩
    by_cases hji : j = i
    · subst hji; exact hy.step hi hdi.1 hS ⟨.inr hS, H⟩
    · have h1 := H.2 j (ready_mono hj hji)
      obtain ⟨hjun, oj, hoj, hall⟩ := mem_ready.1 hj
      have hnot : ∀ e ∈ oj.after, Region.binds .any e = true → e.on ≠ i := fun e he hb heq => by
        have h1 := hall e he hb
        have h0 := (mem_ready.1 hr).1
        rw [heq] at h1
        rcases Nat.lt_or_ge i L.size with h' | h'
        · simp [h'] at h0 h1; rw [h0] at h1; cases h1
        · simp [Array.getElem?_eq_none h'] at h1
      have hnb : ¬ Brk all j := fun hB => hB.no hcl hj hr hi (Ne.symm hji)
      have hdj := noDefer_spec hnd hoj
      have h2 := YieldsS.other hoj (hfree j oj hoj hji hjun hnot) hdi.2 hdj.2 hdj.1 hQ hy h1
      refine wpOpIn_mono (fun a' w' h3 => ⟨h3.2.1, ih (L.setIfInBounds j true) a' w' (fun k ok hk hki hun hno => ?_) (hcl.set hj) (ready_mono hr (Ne.symm hji)) h3.1 (h3.2.1.resolve_left hnb) ?_⟩) h2
      · refine hfree k ok hk hki ?_ hno
        by_cases hjk : j = k
        · subst hjk; exact hjun
        · rw [getD_set_ne true hjk] at hun; exact hun
      · rw [Array.setIfInBounds_comm _ _ hji]
        exact h3.2.2

/-! ### By the symbolic frame -/
/-- What is kept throughout the region: Hs. -/
def ED (C : Cx) (all : Array Oper) (Hs : List HA) (f : Nat) (L : Array Bool) (E : Env) (H : List HA) (Q : Qt) : Prop := ∀ a w, At C E H a w → Sat C.w0 C.B Hs w → wpAnyS C all Q (Sat C.w0 C.B Hs) f L a w
def readyIs (all : Array Oper) (L : Array Bool) (i : Nat) : Bool := match Region.ready .any all L with | [j] => Nat.beq i j | _ => false
def takeOk (all : Array Oper) (L : Array Bool) (i : Nat) : Bool := Region.free .any all L i && (Region.ready .any all L).contains i && closedB all L
variable {Hs : List HA} {f : Nat} {L : Array Bool} {E E' : Env} {H H' : List HA}
/-- A quiet operation is taken first. -/
theorem ED.take (i : Nat) {o : Oper} {d : Nat} {v : Value} (hi : all[i]? = some o) (hnd : noDefer all = true) (hQ : ∀ c a w, ¬ Q (.panic c) a w) (ht : takeOk all L i = true) (hg : guardOk all E o.guard = some true) (hd : o.dst = some d) (hdn : Nat.blt d C.n = true)
    (hv : RunV C E Hs o v) (k : ED C all Hs f (L.setIfInBounds i true) ((d, v) :: E) H Q) : ED C all Hs (f + 1) L E H Q := by
  intro a w ha hs
  simp only [takeOk, Bool.and_eq_true] at ht
  refine wpAnyS.first hi hnd hQ f L a w (fun j oj => Region.free_spec hi ht.1.1 j oj) (closedB_spec ht.2) (by simpa using ht.1.2) (.inl ⟨guardOk_wanted hg ha.1, fun w' hS => hv a w' ⟨ha.1, hS⟩⟩) hs ?_
  rw [hd]
  exact k _ _ ⟨ha.1.put (by simpa using hdn) v, ha.2⟩ hs
theorem ED.pass (i : Nat) {o : Oper} {d : Nat} (hi : all[i]? = some o) (hnd : noDefer all = true) (hQ : ∀ c a w, ¬ Q (.panic c) a w) (ht : takeOk all L i = true) (hg : guardOk all E o.guard = some false) (hd : o.dst = some d) (hdn : Nat.blt d C.n = true)
    (k : ED C all Hs f (L.setIfInBounds i true) ((d, undef) :: E) H Q) : ED C all Hs (f + 1) L E H Q := by
  intro a w ha hs
  simp only [takeOk, Bool.and_eq_true] at ht
  refine wpAnyS.first hi hnd hQ f L a w (fun j oj => Region.free_spec hi ht.1.1 j oj) (closedB_spec ht.2) (by simpa using ht.1.2) (.inr ⟨guardOk_wanted hg ha.1, rfl⟩) hs ?_
  rw [hd]
  exact k _ _ ⟨ha.1.put (by simpa using hdn) undef, ha.2⟩ hs
/-- Parting on a value while the order is open. -/
theorem ED.part {d : Nat} {p : Prop} [Decidable p] (hv : E.get d = some (.bool (decide p))) (ht : p → ED C all Hs f L ((d, .bool true) :: E) H Q) (hf : ¬ p → ED C all Hs f L ((d, .bool false) :: E) H Q) : ED C all Hs f L E H Q := by
  intro a w ha hs
  have hslot := ha.1.get d _ hv
  have fit : ∀ b : Bool, decide p = b → Fits C.n C.D ((d, .bool b) :: E) a := fun b hb => ⟨ha.1.dfr, ha.1.size, fun d' v' h' => by
    rw [Env.get_cons] at h'
    by_cases e : d = d'
    · subst e; rw [if_pos rfl] at h'; rw [← Option.some.inj h', hslot, hb]
    · rw [if_neg e] at h'; exact ha.1.get d' v' h'⟩
  by_cases hp : p
  · exact ht hp a w ⟨fit true (decide_eq_true hp), ha.2⟩ hs
  · exact hf hp a w ⟨fit false (decide_eq_false hp), ha.2⟩ hs
theorem ED.rew {d : Nat} {v v' : Value} (hv : E.get d = some v) (e : v = v') (k : ED C all Hs f L ((d, v') :: E) H Q) : ED C all Hs f L E H Q := by
  subst e
  intro a w ha hs
  refine k a w ⟨⟨ha.1.dfr, ha.1.size, fun d' v' h' => ?_⟩, ha.2⟩ hs
  rw [Env.get_cons] at h'
  by_cases e : d = d'
  · subst e; rw [if_pos rfl] at h'; rw [← Option.some.inj h', ha.1.get _ _ hv]
  · rw [if_neg e] at h'; exact ha.1.get d' v' h'
theorem RV.loadAggB {ty t e g d : Nat} {x : Operand} {pos : String} {af : Array Edge} {gd : Option (Nat × Bool)} {ti : TI} {cs : Array Value} {fr : Nat × Nat} (hx : E.ev x = some (Pv g 0)) (ht : C.T.f t = some ti) (hu : ti.agg = true) (hm : Mem H (HA.blk g (.cells cs e fr))) (hl : ti.size = cs.size) :
    RunV C E H ⟨some d, .load t x, ty, pos, af, gd⟩ (.agg cs) := by
  have := RV.loadAgg (C := C) (E := E) (H := H) (d := d) (ty := ty) (pos := pos) (af := af) (gd := gd) (cs := cs.toList) hx ht hu (by simpa using hl) (fun w hs j u hj => by rw [add_n, Nat.zero_add, blk_cell (hs.all _ hm.mem)]; simpa using hj)
  simpa using this
theorem RV.loadBm {α : Type} (fv : α → Value) (d0 : α) {ty t e g d off : Nat} {x : Operand} {pos : String} {af : Array Edge} {gd : Option (Nat × Bool)} {ti : TI} {l : List α} {fr : Nat × Nat} (hx : E.ev x = some (Pv g off)) (ht : C.T.f t = some ti) (hu : ti.agg = false) (hm : Mem H (HA.blk g (.cells (l.map fv).toArray e fr))) (hi : off < l.length) :
    RunV C E H ⟨some d, .load t x, ty, pos, af, gd⟩ (fv (l.getD off d0)) :=
  RV.loadB hx ht hu hm (map_get fv l off d0 hi)
theorem RV.loadRm {α : Type} (fv : α → Value) (d0 : α) {ty t e g d off : Nat} {x : Operand} {pos : String} {af : Array Edge} {gd : Option (Nat × Bool)} {ti : TI} {l : List α} {len cap sz n : Nat} (hx : E.ev x = some (Pv g off)) (ht : C.T.f t = some ti) (hu : ti.agg = false) (hm : Mem H (HA.row (.slice (some ⟨g, 0, none⟩) len cap) e sz n (l.map fv))) (hi : off < l.length) :
    RunV C E H ⟨some d, .load t x, ty, pos, af, gd⟩ (fv (l.getD off d0)) :=
  RV.loadR hx ht hu hm (getElem?_map fv l off d0 hi)
/-- What follows a loud operation. -/
def DK (C : Cx) (all : Array Oper) (Hs : List HA) (f : Nat) (L : Array Bool) (Q : Qt) : Qt := fun e a w => match e with
  | .normal => Sat C.w0 C.B Hs w ∧ wpAnyS C all Q (Sat C.w0 C.B Hs) f L a w
  | e => Q e a w
/-- The one operation that may come up now. -/
theorem loud_op {i : Nat} {o : Oper} {D : Qt} (hD : ∀ e a w, D e a w → match e with | .normal => (Brk all i ∨ Sat C.w0 C.B Hs w) ∧ wpAnyS C all Q (Sat C.w0 C.B Hs) f (L.setIfInBounds i true) a w | e => Q e a w) (hi : all[i]? = some o) (k : EL C all [o] D E H) {a : Act} {w : World} (ha : At C E H a w) :
    wpOpIn (F0 C.r) 0 C.P all Q i (fun a' w' => (Brk all i ∨ Sat C.w0 C.B Hs w') ∧ wpAnyS C all Q (Sat C.w0 C.B Hs) f (L.setIfInBounds i true) a' w') a w := by
  have hk := k a w ha
  unfold wpOpIn
  simp only [hi]
  simp only [wpListIn] at hk
  split
  · rename_i hw
    simp only [hw, if_true] at hk
    refine ⟨fun _ _ => trivial, ?_⟩
    have h2 := hk.2
    generalize (o.semAt (F0 C.r).round a.eval).run C.P w = r at *
    cases r with
    | ok x w' =>
      cases x <;> simp only [Oper.uponIn] at h2 ⊢
      case value u => exact hD _ _ _ h2
      case skip => exact hD _ _ _ h2
      case defer d => exact hD _ _ _ h2
      case enter f args =>
        refine ⟨h2.1, CallsIn.mono h2.2 fun e w'' he => ?_⟩
        cases e with
        | returned u => exact hD _ _ _ he
        | panicked c => exact hD _ _ _ he
        | outgrown =>
          obtain ⟨a', w3, h3⟩ := he
          exact ⟨a', w3, hD _ _ _ h3⟩
      case row row args => exact ⟨h2.1, RowsIn.mono h2.2 fun u w'' he => hD _ _ _ he⟩
      case round l f tmps assign body =>
        refine ⟨h2.1, RoundIn.mono h2.2 fun e w'' he => ?_⟩
        cases e with
        | returned u => exact hD _ _ _ he
        | panicked c => exact hD _ _ _ he
        | outgrown =>
          obtain ⟨a', w3, h3⟩ := he
          exact ⟨a', w3, hD _ _ _ h3⟩
    | halt x w' =>
      cases x <;> simp only [Oper.uponIn] at h2 ⊢
      case panic u => exact hD _ _ _ h2
  · rename_i hw
    simp only [hw] at hk
    exact ⟨fun _ _ => trivial, hD _ _ _ hk.2⟩
theorem ED.loudG (i : Nat) {o : Oper} {D : Qt} (hD : ∀ e a w, D e a w → match e with | .normal => (Brk all i ∨ Sat C.w0 C.B Hs w) ∧ wpAnyS C all Q (Sat C.w0 C.B Hs) f (L.setIfInBounds i true) a w | e => Q e a w) (hi : all[i]? = some o) (hr : readyIs all L i = true) (k : EL C all [o] D E H) : ED C all Hs (f + 1) L E H Q := by
  intro a w ha hs
  have hR : Region.ready .any all L = [i] := by
    unfold readyIs at hr
    split at hr
    · rename_i j hj; rw [hj, Nat.eq_of_beq_eq_true hr]
    · cases hr
  refine ⟨fun h => (by rw [hR] at h; cases h), fun j hj => ?_⟩
  rw [hR] at hj
  obtain rfl : j = i := by simpa using hj
  exact loud_op hD hi k ha
/-- Several operations may come up now: each way. -/
def EDone (C : Cx) (all : Array Oper) (Hs : List HA) (f : Nat) (L : Array Bool) (E : Env) (H : List HA) (Q : Qt) (j : Nat) : Prop := ∃ o, all[j]? = some o ∧ EL C all [o] (DK C all Hs f (L.setIfInBounds j true) Q) E H
def EDall (C : Cx) (all : Array Oper) (Hs : List HA) (f : Nat) (L : Array Bool) (E : Env) (H : List HA) (Q : Qt) : List Nat → Prop
  | [] => True
  | j :: r => EDone C all Hs f L E H Q j ∧ EDall C all Hs f L E H Q r
theorem EDall.get : ∀ {js : List Nat}, EDall C all Hs f L E H Q js → ∀ j ∈ js, EDone C all Hs f L E H Q j
  | j :: r, h, k, hk => by
    rcases List.mem_cons.1 hk with rfl | hk
    · exact h.1
    · exact EDall.get h.2 k hk
theorem ED.fork (i : Nat) (js : List Nat) (hr : (Region.ready .any all L == i :: js) = true) (h : EDall C all Hs f L E H Q (i :: js)) : ED C all Hs (f + 1) L E H Q := by
  intro a w ha hs
  have hR : Region.ready .any all L = i :: js := by simpa using hr
  refine ⟨fun h => (by rw [hR] at h; cases h), fun j hj => ?_⟩
  rw [hR] at hj
  obtain ⟨o, ho, k⟩ := h.get j hj
  exact loud_op (fun e a w h => by
    cases e with
    | normal => exact ⟨.inr h.1, h.2⟩
    | _ => exact h) ho k ha
theorem ED.loud (i : Nat) {o : Oper} (hi : all[i]? = some o) (hr : readyIs all L i = true) (k : EL C all [o] (DK C all Hs f (L.setIfInBounds i true) Q) E H) : ED C all Hs (f + 1) L E H Q :=
  ED.loudG i (fun e a w h => by
    cases e with
    | normal => exact ⟨.inr h.1, h.2⟩
    | _ => exact h) hi hr k
/-- The last operation, behind all others: it may turn what was kept. -/
theorem ED.last (i : Nat) {o : Oper} (hi : all[i]? = some o) (hr : readyIs all L i = true) (hb : (lastBinds all && Nat.beq i (all.size - 1)) = true) (he : (match Region.ready .any all (L.setIfInBounds i true) with | [] => true | _ => false) = true) (k : EL C all [o] Q E H) : ED C all Hs (f + 1) L E H Q :=
  ED.loudG i (fun e a w h => by
    simp only [Bool.and_eq_true] at hb
    have hR : Region.ready .any all (L.setIfInBounds i true) = [] := by
      split at he
      · assumption
      · cases he
    cases e with
    | normal =>
      refine ⟨.inl ⟨hb.1, Nat.eq_of_beq_eq_true hb.2⟩, ?_⟩
      cases f with
      | zero => exact ⟨hR, h⟩
      | succ f => exact ⟨fun _ => h, fun i hi => absurd hi (by rw [hR]; simp)⟩
    | _ => exact h) hi hr k
theorem EL.endQ (k : PX C Q .normal E H) : EL C all [] Q E H := k
theorem ED.next (hs : Ent H Hs) (k : ED C all Hs f L E H Q) : EL C all [] (DK C all Hs f L Q) E H := fun a w ha => ⟨ha.2.ent hs, k a w ha (ha.2.ent hs)⟩
theorem ED.done (hr : (match Region.ready .any all L with | [] => true | _ => false) = true) (k : PX C Q .normal E H) : ED C all Hs f L E H Q := by
  intro a w ha hs
  have hR : Region.ready .any all L = [] := by
    split at hr
    · assumption
    · cases hr
  cases f with
  | zero => exact ⟨hR, k a w ha⟩
  | succ f => exact ⟨fun _ => k a w ha, fun i hi => absurd hi (by rw [hR]; simp)⟩
/-- What a region comes to, whatever the order and the way; X: what only it knows. -/
def CutX {X : Type} (C : Cx) (E : X → Env) (H : X → List HA) : Qt := fun e a w => e = .normal ∧ ∃ x, At C (E x) (H x) a w
theorem CutX.no_panic {X : Type} {E : X → Env} {H : X → List HA} : ∀ c a w, ¬ CutX C E H (.panic c) a w := fun c a w h => by cases h.1
theorem PX.cutX {X : Type} {Ex : X → Env} {Hx : X → List HA} (x : X) (he : Has E (Ex x)) (hh : Ent H (Hx x)) : PX C (CutX C Ex Hx) .normal E H := fun a w h => ⟨rfl, x, h.sub he hh⟩
theorem ES.draw {X : Type} {id : Nat} {ops : Array Oper} {cs : List Code} (Ex : X → Env) (Hx : X → List HA) (Hs : List HA) (hm : C.P.follows .mixedOrders = true) (hs : Ent H Hs)
    (h : ED C ops Hs ops.size (Array.replicate ops.size false) E H (CutX C Ex Hx)) (k : ∀ x, ES C cs Q (Ex x) (Hx x)) : ES C (.region id ops true :: cs) Q E H := by
  intro a w ha
  have h1 := wpAnyS.any _ _ _ _ (h a { w with drawn := w.drawn + 1 } ⟨ha.1, ha.2.drewN _⟩ ((ha.2.ent hs).drewN _))
  have h2 := wpIn_region_any (id := id) hm h1
  refine wpIn_mono h2 ?_
  intro e a' w' hq
  cases e with
  | normal =>
    obtain ⟨_, x, hat⟩ := hq
    exact k x a' w' hat
  | _ => cases (hq.1 : _ = Exit.normal)
theorem getB {E : Env} {d : Nat} {v b : Bool} (h : E.get d = some (.bool v)) (hv : v = b) : E.get d = some (.bool b) := hv ▸ h
theorem EL.endK (he : Has E E') (hh : Ent H H') : EL C all [] (CutK C E' H') E H := fun a w h => ⟨rfl, h.sub he hh⟩
/-- A cut behind a region in the order of its text. -/
theorem ES.cutR {id : Nat} {ops : Array Oper} {cs : List Code} (E' : Env) (H' : List HA) (h : EL C ops ops.toList (CutK C E' H') E H) (k : ES C cs Q E' H') : ES C (.region id ops false :: cs) Q E H := by
  intro a w ha
  refine wpIn_mono (wpIn_region_list (h a w ha)) ?_
  intro e a' w' hq
  cases e with
  | normal => exact k a' w' hq.2
  | _ => cases (hq.1 : _ = Exit.normal)
theorem wpListIn_mono {F : Fence} {n : Nat} {P : Program} {Q Q' : Qt} (hq : ∀ e a w, Q e a w → Q' e a w) : ∀ (ops : List Oper) (a : Act) (w : World), wpListIn F n P all Q ops a w → wpListIn F n P all Q' ops a w
  | [], a, w, h => hq _ _ _ h
  | o :: r, a, w, h => by
    have ih := wpListIn_mono (F := F) (n := n) (P := P) hq r
    simp only [wpListIn] at h ⊢
    split
    · rename_i hw
      simp only [hw, if_true] at h
      refine ⟨h.1, ?_⟩
      have h2 := h.2
      generalize (o.semAt F.round a.eval).run P w = rr at *
      have hl : LetsOut Q → LetsOut Q' := fun ⟨a', w3, h3⟩ => ⟨a', w3, hq _ _ _ h3⟩
      cases rr with
      | ok x w' =>
        cases x <;> simp only [Oper.uponIn] at h2 ⊢
        case value u => exact ih _ _ h2
        case skip => exact ih _ _ h2
        case defer d => exact ih _ _ h2
        case enter f args =>
          refine ⟨h2.1, CallsIn.mono h2.2 fun e w'' he => ?_⟩
          cases e with
          | returned u => exact ih _ _ he
          | panicked c => exact hq _ _ _ he
          | outgrown => exact hl he
        case row row args => exact ⟨h2.1, RowsIn.mono h2.2 fun u w'' he => ih _ _ he⟩
        case round l f tmps assign body =>
          refine ⟨h2.1, RoundIn.mono h2.2 fun e w'' he => ?_⟩
          cases e with
          | returned u => exact ih _ _ he
          | panicked c => exact hq _ _ _ he
          | outgrown => exact hl he
      | halt x w' =>
        cases x <;> simp only [Oper.uponIn] at h2 ⊢
        case panic u => exact hq _ _ _ h2
    · rename_i hw
      simp only [hw] at h
      exact ⟨h.1, ih _ _ h.2⟩
/-- A cut within a region: what the rest of it comes to, whatever the way. -/
theorem EL.cut {cs : List Code} {ops : List Oper} (E' : Env) (H' : List HA) (h : EL C all ops (CutK C E' H') E H) (k : ES C cs Q E' H') : EL C all ops (Exit.then (wps C cs Q) Q) E H := by
  intro a w ha
  refine wpListIn_mono ?_ ops a w (h a w ha)
  intro e a' w' hq
  cases e with
  | normal => exact k a' w' hq.2
  | _ => cases (hq.1 : _ = Exit.normal)
theorem EL.cutX {X : Type} {cs : List Code} {ops : List Oper} (Ex : X → Env) (Hx : X → List HA) (h : EL C all ops (CutX C Ex Hx) E H) (k : ∀ x, ES C cs Q (Ex x) (Hx x)) : EL C all ops (Exit.then (wps C cs Q) Q) E H := by
  intro a w ha
  refine wpListIn_mono ?_ ops a w (h a w ha)
  intro e a' w' hq
  cases e with
  | normal =>
    obtain ⟨_, x, hat⟩ := hq
    exact k x a' w' hat
  | _ => cases (hq.1 : _ = Exit.normal)
/-- The same for a region in the order of its text. -/
theorem ES.cutX {X : Type} {id : Nat} {ops : Array Oper} {cs : List Code} (Ex : X → Env) (Hx : X → List HA) (h : EL C ops ops.toList (CutX C Ex Hx) E H) (k : ∀ x, ES C cs Q (Ex x) (Hx x)) : ES C (.region id ops false :: cs) Q E H := by
  intro a w ha
  refine wpIn_mono (wpIn_region_list (h a w ha)) ?_
  intro e a' w' hq
  cases e with
  | normal =>
    obtain ⟨_, x, hat⟩ := hq
    exact k x a' w' hat
  | _ => cases (hq.1 : _ = Exit.normal)
/-- A cut behind any one code. -/
theorem ES.cutC {X : Type} {c : Code} {cs : List Code} (Ex : X → Env) (Hx : X → List HA) (h : ES C [c] (CutX C Ex Hx) E H) (k : ∀ x, ES C cs Q (Ex x) (Hx x)) : ES C (c :: cs) Q E H := by
  intro a w ha
  refine wpIn_mono (h a w ha) ?_
  intro e a' w' hq
  cases e with
  | normal =>
    obtain ⟨_, x, hat⟩ := (hq : CutX C Ex Hx .normal a' w')
    exact k x a' w' hat
  | _ => cases (hq.1 : _ = Exit.normal)
theorem EL.endX {X : Type} {Ex : X → Env} {Hx : X → List HA} (x : X) (he : Has E (Ex x)) (hh : Ent H (Hx x)) : EL C all [] (CutX C Ex Hx) E H := fun a w h => ⟨rfl, x, h.sub he hh⟩
end draws
end Go.Proofs.YtgoopgnnkhpmlaaDoor.Sl
