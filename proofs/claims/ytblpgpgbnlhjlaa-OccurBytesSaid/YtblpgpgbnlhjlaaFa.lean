/- Layer 7 (nfa) in plain Lean: the flood through all pairs of a state and a place. -/
import Derived.Test.YtblpgpgbnlhjlaaAc
namespace Go.Proofs.Ytblpgpgbnlhjlaa
open Go Go.RowKit Sl
set_option maxRecDepth 100000
set_option maxHeartbeats 8000000
set_option linter.unusedVariables false
set_option linter.unusedSimpArgs false
attribute [local irreducible] ES EL PX wps

structure FS where
  marks : List Bool
  seen : List Bool
  todo : List (Nat × Nat)
  steps : Nat
/-- Is there a byte ahead (behind)? -/
def inB (n : Nat) (fwd : Bool) (a : Nat) : Bool := if fwd = true then decide (a < n) else decide (0 < a ∧ a - 1 < n)
def bAt (fwd : Bool) (a : Nat) : Nat := if fwd = true then a else a - 1
def cntM (n : Nat) (fwd : Bool) (e : Ed) (a : Nat) : Nat := if e.kind = 1 ∧ inB n fwd a = true then 1 else 0
def placeM (s : List UInt8) (fwd : Bool) (e : Ed) (a : Nat) : Option Nat :=
  if e.kind = 1 then (if inB s.length fwd a = true ∧ hasS e.set (s.getD (bAt fwd a) 0).toNat = true then some (if fwd = true then a + 1 else a - 1) else none)
  else if e.kind = 2 then (if a = 0 then some a else none)
  else if e.kind = 3 then (if a = s.length then some a else none)
  else some a
def pushM (n : Nat) (st : FS) (q a : Nat) : FS := if st.seen.getD (q * (n + 1) + a) false = true then st else { st with seen := st.seen.set (q * (n + 1) + a) true, todo := st.todo ++ [(q, a)] }
def edgeM (s : List UInt8) (fwd : Bool) (a : Nat) (st : FS) (e : Ed) : FS :=
  match placeM s fwd e a with
  | none => { st with steps := st.steps + cntM s.length fwd e a }
  | some b => pushM s.length { st with steps := st.steps + cntM s.length fwd e a } e.to b
def popM (goal : Nat) (st : FS) (p : Nat × Nat) : FS := { st with todo := st.todo.dropLast, marks := if p.1 = goal then st.marks.set p.2 true else st.marks }
def floodGo (es : List (List Ed)) (s : List UInt8) (goal : Nat) (fwd : Bool) : Nat → FS → FS
  | 0, st => st
  | f + 1, st =>
    match st.todo.getLast? with
    | none => st
    | some p => floodGo es s goal fwd f ((es.getD p.1 []).foldl (edgeM s fwd p.2) (popM goal st p))
def fs0 (N n : Nat) (p : Nat × Nat) (steps : Nat) : FS := ⟨List.replicate (n + 1) false, (List.replicate (N * (n + 1)) false).set (p.1 * (n + 1) + p.2) true, [p], steps⟩
def floodM (es : List (List Ed)) (s : List UInt8) (p : Nat × Nat) (goal : Nat) (fwd : Bool) (steps : Nat) : FS := floodGo es s goal fwd (es.length * (s.length + 1)) (fs0 es.length s.length p steps)

/-! the flood ends -/
def FS.mu (st : FS) : Nat := st.seen.count false + st.todo.length
structure FS.Ok (N n : Nat) (st : FS) : Prop where
  marks : st.marks.length = n + 1
  seen : st.seen.length = N * (n + 1)
  todo : ∀ p ∈ st.todo, p.1 < N ∧ p.2 ≤ n
theorem idx_lt {N n q a : Nat} (hq : q < N) (ha : a ≤ n) : q * (n + 1) + a < N * (n + 1) := by
  have : (q + 1) * (n + 1) ≤ N * (n + 1) := Nat.mul_le_mul_right _ hq
  rw [Nat.succ_mul] at this
  omega
theorem idx_inj {n q a q' a' : Nat} (ha : a ≤ n) (ha' : a' ≤ n) (h : q * (n + 1) + a = q' * (n + 1) + a') : q = q' ∧ a = a' := by
  have h1 : (q * (n + 1) + a) / (n + 1) = q := by rw [Nat.mul_comm, Nat.mul_add_div (by omega), Nat.div_eq_of_lt (by omega)]; rfl
  have h2 : (q' * (n + 1) + a') / (n + 1) = q' := by rw [Nat.mul_comm, Nat.mul_add_div (by omega), Nat.div_eq_of_lt (by omega)]; rfl
  have : q = q' := by rw [← h1, h, h2]
  subst this
  exact ⟨rfl, by omega⟩
theorem place_le {s : List UInt8} {fwd : Bool} {e : Ed} {a b : Nat} (ha : a ≤ s.length) (h : placeM s fwd e a = some b) : b ≤ s.length := by
  unfold placeM at h
  split at h
  · split at h
    · rename_i h2
      have h3 := h2.1
      unfold inB at h3
      cases fwd <;> simp at h h3 <;> omega
    · cases h
  · split at h
    · split at h
      · cases h; exact ha
      · cases h
    · split at h
      · split at h
        · cases h; exact ha
        · cases h
      · cases h; exact ha
theorem count_set_false : ∀ (l : List Bool) (i : Nat), l[i]? = some false → (l.set i true).count false + 1 = l.count false
  | [], i, h => by simp at h
  | b :: l, 0, h => by
    simp only [List.getElem?_cons_zero, Option.some.injEq] at h
    subst h
    simp
  | b :: l, i + 1, h => by
    simp only [List.getElem?_cons_succ] at h
    have := count_set_false l i h
    simp only [List.set_cons_succ, List.count_cons]
    omega
theorem push_ok {N n : Nat} {st : FS} (h : st.Ok N n) {q a : Nat} (hq : q < N) (ha : a ≤ n) : (pushM n st q a).Ok N n ∧ (pushM n st q a).mu = st.mu ∧ (pushM n st q a).steps = st.steps := by
  unfold pushM
  split
  · exact ⟨h, rfl, rfl⟩
  · rename_i hf
    have hlt : q * (n + 1) + a < st.seen.length := by rw [h.seen]; exact idx_lt hq ha
    refine ⟨⟨h.marks, by simp [h.seen], fun p hp => ?_⟩, ?_, rfl⟩
    · rcases List.mem_append.1 hp with hp | hp
      · exact h.todo p hp
      · rw [List.mem_singleton] at hp; subst hp; exact ⟨hq, ha⟩
    · have hg : st.seen[q * (n + 1) + a]? = some false := by
        simp only [List.getD_eq_getElem?_getD, List.getElem?_eq_getElem hlt, Option.getD_some] at hf ⊢
        simpa using hf
      have := count_set_false _ _ hg
      simp only [FS.mu, List.length_append, List.length_singleton]
      omega
theorem cnt_le (n : Nat) (fwd : Bool) (e : Ed) (a : Nat) : cntM n fwd e a ≤ 1 := by unfold cntM; split <;> omega
theorem edge_ok {N : Nat} {s : List UInt8} {fwd : Bool} {st : FS} (h : st.Ok N s.length) {a : Nat} (ha : a ≤ s.length) {e : Ed} (he : e.to < N) :
    (edgeM s fwd a st e).Ok N s.length ∧ (edgeM s fwd a st e).mu = st.mu ∧ (edgeM s fwd a st e).steps = st.steps + cntM s.length fwd e a := by
  unfold edgeM
  split
  · exact ⟨⟨h.marks, h.seen, h.todo⟩, rfl, rfl⟩
  · rename_i b hb
    have := push_ok (st := { st with steps := st.steps + cntM s.length fwd e a }) ⟨h.marks, h.seen, h.todo⟩ he (place_le ha hb)
    exact ⟨this.1, this.2.1, this.2.2⟩
theorem edges_ok {N : Nat} {s : List UInt8} {fwd : Bool} {a : Nat} (ha : a ≤ s.length) : ∀ (es : List Ed) {st : FS}, st.Ok N s.length → (∀ e ∈ es, e.to < N) →
    (es.foldl (edgeM s fwd a) st).Ok N s.length ∧ (es.foldl (edgeM s fwd a) st).mu = st.mu ∧ (es.foldl (edgeM s fwd a) st).steps = st.steps + (es.map (cntM s.length fwd · a)).sum
  | [], st, h, _ => ⟨h, rfl, rfl⟩
  | e :: es, st, h, he => by
    have h1 := edge_ok (fwd := fwd) h ha (he e (by simp))
    have h2 := edges_ok (fwd := fwd) ha es h1.1 (fun e he' => he e (by simp [he']))
    exact ⟨h2.1, h2.2.1.trans h1.2.1, by rw [List.foldl_cons, h2.2.2, h1.2.2, List.map_cons, List.sum_cons]; omega⟩
theorem sum_le_len : ∀ (l : List Nat), (∀ x ∈ l, x ≤ 1) → l.sum ≤ l.length
  | [], _ => Nat.le_refl _
  | x :: l, h => by
    have h1 := h x (by simp)
    have h2 := sum_le_len l (fun y hy => h y (by simp [hy]))
    simp only [List.sum_cons, List.length_cons]; omega
theorem cnts_le (n : Nat) (fwd : Bool) (a : Nat) (es : List Ed) : (es.map (cntM n fwd · a)).sum ≤ es.length := by
  have := sum_le_len (es.map (cntM n fwd · a)) (fun x hx => by
    obtain ⟨e, _, rfl⟩ := List.mem_map.1 hx
    exact cnt_le n fwd e a)
  simpa using this
theorem last_split {α : Type _} {l : List α} {p : α} (h : l.getLast? = some p) : l = l.dropLast ++ [p] := by
  have hne : l ≠ [] := fun e => by subst e; simp at h
  rw [List.getLast?_eq_some_getLast hne] at h
  rw [← Option.some.inj h]
  exact (List.dropLast_concat_getLast hne).symm
theorem pop_ok {N n goal : Nat} {st : FS} (h : st.Ok N n) {p : Nat × Nat} (hp : st.todo.getLast? = some p) : (popM goal st p).Ok N n ∧ (popM goal st p).mu + 1 = st.mu ∧ p.1 < N ∧ p.2 ≤ n := by
  have hs := last_split hp
  have hm : p ∈ st.todo := by rw [hs]; simp
  refine ⟨⟨?_, h.seen, fun q hq => h.todo q (List.dropLast_subset _ hq)⟩, ?_, h.todo p hm⟩
  · unfold popM; dsimp only; split <;> simp [h.marks]
  · have : st.todo.length = st.todo.dropLast.length + 1 := by
      have h2 := congrArg List.length hs
      rw [List.length_append, List.length_singleton] at h2
      exact h2
    simp only [FS.mu, popM]; omega
theorem fs0_ok {N n : Nat} {p : Nat × Nat} (h1 : p.1 < N) (h2 : p.2 ≤ n) (steps : Nat) : (fs0 N n p steps).Ok N n ∧ (fs0 N n p steps).mu = N * (n + 1) := by
  refine ⟨⟨by simp [fs0], by simp [fs0], fun q hq => ?_⟩, ?_⟩
  · simp only [fs0, List.mem_singleton] at hq
    subst hq; exact ⟨h1, h2⟩
  · have hlt := idx_lt h1 h2
    have := count_set_false (List.replicate (N * (n + 1)) false) (p.1 * (n + 1) + p.2) (by simp [hlt])
    simp only [List.count_replicate_self] at this
    simp only [FS.mu, fs0, List.length_singleton]
    omega

/-! what it reaches -/
inductive Rch (es : List (List Ed)) (s : List UInt8) (fwd : Bool) (x : Nat × Nat) : Nat × Nat → Prop
  | here : Rch es s fwd x x
  | step {q a b : Nat} {e : Ed} (h : Rch es s fwd x (q, a)) (he : e ∈ es.getD q []) (hp : placeM s fwd e a = some b) : Rch es s fwd x (e.to, b)
def cntAt (es : List (List Ed)) (n : Nat) (fwd : Bool) (x : Nat × Nat) : Nat := ((es.getD x.1 []).map (cntM n fwd · x.2)).sum
abbrev FS.has (n : Nat) (st : FS) (x : Nat × Nat) : Prop := st.seen.getD (x.1 * (n + 1) + x.2) false = true
def nowC (n : Nat) (fwd : Bool) (done : List (Nat × Nat)) (now : List Ed) : Nat := match done with
  | [] => 0
  | x :: _ => (now.map (cntM n fwd · x.2)).sum
theorem nowC_nil (n : Nat) (fwd : Bool) (done : List (Nat × Nat)) : nowC n fwd done [] = 0 := by cases done <;> rfl
/-- What holds while edges of the last one of 'done' are gone through; now: those that are left. -/
structure FInv (es : List (List Ed)) (s : List UInt8) (fwd : Bool) (goal st0 : Nat) (x0 : Nat × Nat) (st : FS) (done : List (Nat × Nat)) (now : List Ed) : Prop where
  ok : st.Ok es.length s.length
  dok : ∀ x ∈ done, x.1 < es.length ∧ x.2 ≤ s.length
  seen : ∀ x : Nat × Nat, x.1 < es.length → x.2 ≤ s.length → (st.has s.length x ↔ x ∈ st.todo ∨ x ∈ done)
  nodup : (st.todo ++ done).Nodup
  rch : ∀ x, x ∈ st.todo ∨ x ∈ done → Rch es s fwd x0 x
  x0 : x0 ∈ st.todo ∨ x0 ∈ done
  closed : ∀ (i : Nat) (x : Nat × Nat), done[i]? = some x → ∀ e ∈ es.getD x.1 [], (i = 0 ∧ e ∈ now) ∨ ∀ b, placeM s fwd e x.2 = some b → (e.to, b) ∈ st.todo ∨ (e.to, b) ∈ done
  marks : ∀ a, a ≤ s.length → (st.marks.getD a false = true ↔ (goal, a) ∈ done)
  steps : st.steps + nowC s.length fwd done now = st0 + (done.map (cntAt es s.length fwd)).sum
theorem getD_set_bool (l : List Bool) (i j : Nat) (hi : i < l.length) : (l.set i true).getD j false = true ↔ l.getD j false = true ∨ i = j := by
  simp only [List.getD_eq_getElem?_getD, List.getElem?_set]
  by_cases h : i = j
  · subst h; simp [hi]
  · simp [h]
theorem FInv.edge {es : List (List Ed)} {s : List UInt8} {fwd : Bool} {goal st0 : Nat} {x0 x : Nat × Nat} {st : FS} {done : List (Nat × Nat)} {e : Ed} {now : List Ed} (h : FInv es s fwd goal st0 x0 st (x :: done) (e :: now)) (he : e ∈ es.getD x.1 []) (hto : e.to < es.length) (hle : ∀ e' ∈ now, e' ∈ es.getD x.1 []) :
    FInv es s fwd goal st0 x0 (edgeM s fwd x.2 st e) (x :: done) now := by
  have hx := h.dok x (by simp)
  have ho := edge_ok (fwd := fwd) h.ok hx.2 hto
  have hsteps : (edgeM s fwd x.2 st e).steps + nowC s.length fwd (x :: done) now = st0 + ((x :: done).map (cntAt es s.length fwd)).sum := by
    have := h.steps
    simp only [nowC, List.map_cons, List.sum_cons] at this ⊢
    rw [ho.2.2]; omega
  cases hp : placeM s fwd e x.2 with
  | none =>
    have he2 : edgeM s fwd x.2 st e = { st with steps := st.steps + cntM s.length fwd e x.2 } := by unfold edgeM; rw [hp]
    rw [he2] at ho hsteps ⊢
    refine ⟨ho.1, h.dok, h.seen, h.nodup, h.rch, h.x0, fun i y hy e' he' => ?_, h.marks, hsteps⟩
    rcases h.closed i y hy e' he' with ⟨rfl, hm⟩ | hm
    · rcases List.mem_cons.1 hm with rfl | hm
      · right
        simp only [List.getElem?_cons_zero, Option.some.injEq] at hy
        subst hy
        intro b hb
        rw [hp] at hb; cases hb
      · exact .inl ⟨rfl, hm⟩
    · exact .inr hm
  | some b =>
    have hb := place_le hx.2 hp
    have hrx : Rch es s fwd x0 (e.to, b) := Rch.step (q := x.1) (a := x.2) (h.rch x (.inr (by simp))) he hp
    have he2 : edgeM s fwd x.2 st e = pushM s.length { st with steps := st.steps + cntM s.length fwd e x.2 } e.to b := by unfold edgeM; rw [hp]
    rw [he2] at ho hsteps ⊢
    unfold pushM at ho hsteps ⊢
    have hhas := h.seen (e.to, b) hto hb
    split
    · rename_i hs
      rw [if_pos hs] at ho hsteps
      have hin : (e.to, b) ∈ st.todo ∨ (e.to, b) ∈ x :: done := hhas.1 hs
      refine ⟨ho.1, h.dok, h.seen, h.nodup, h.rch, h.x0, fun i y hy e' he' => ?_, h.marks, hsteps⟩
      rcases h.closed i y hy e' he' with ⟨rfl, hm⟩ | hm
      · rcases List.mem_cons.1 hm with rfl | hm
        · right
          simp only [List.getElem?_cons_zero, Option.some.injEq] at hy
          subst hy
          intro b' hb'
          rw [hp] at hb'
          rw [← Option.some.inj hb']; exact hin
        · exact .inl ⟨rfl, hm⟩
      · exact .inr hm
    · rename_i hs
      rw [if_neg hs] at ho hsteps
      have hnin : ¬ ((e.to, b) ∈ st.todo ∨ (e.to, b) ∈ x :: done) := fun hh => hs (hhas.2 hh)
      have hlt : e.to * (s.length + 1) + b < st.seen.length := by rw [h.ok.seen]; exact idx_lt hto hb
      refine ⟨ho.1, h.dok, fun y hy1 hy2 => ?_, ?_, fun y hy => ?_, ?_, fun i y hy e' he' => ?_, h.marks, hsteps⟩
      · show (st.seen.set (e.to * (s.length + 1) + b) true).getD (y.1 * (s.length + 1) + y.2) false = true ↔ _
        rw [getD_set_bool _ _ _ hlt]
        have hold := h.seen y hy1 hy2
        constructor
        · rintro (h1 | h1)
          · rcases hold.1 h1 with h2 | h2
            · exact .inl (by simp [h2])
            · exact .inr h2
          · obtain ⟨e1, e2⟩ := idx_inj hb hy2 h1
            left
            simp only [List.mem_append, List.mem_singleton]
            exact .inr (Prod.ext e1.symm e2.symm)
        · rintro (h1 | h1)
          · rcases List.mem_append.1 h1 with h1 | h1
            · exact .inl (hold.2 (.inl h1))
            · rw [List.mem_singleton] at h1
              subst h1; exact .inr rfl
          · exact .inl (hold.2 (.inr h1))
      · show ((st.todo ++ [(e.to, b)]) ++ x :: done).Nodup
        have hn := h.nodup
        rw [List.append_assoc]
        rw [List.nodup_append] at hn ⊢
        refine ⟨hn.1, ?_, ?_⟩
        · rw [List.singleton_append, List.nodup_cons]
          exact ⟨fun hm => hnin (.inr hm), hn.2.1⟩
        · intro u hu v hv
          rcases List.mem_append.1 hv with hv | hv
          · rw [List.mem_singleton] at hv
            subst hv
            intro hne
            exact hnin (.inl (hne ▸ hu))
          · exact hn.2.2 u hu v hv
      · rcases hy with hy | hy
        · rcases List.mem_append.1 hy with hy | hy
          · exact h.rch y (.inl hy)
          · rw [List.mem_singleton] at hy; subst hy; exact hrx
        · exact h.rch y (.inr hy)
      · rcases h.x0 with h0 | h0
        · exact .inl (by simp [h0])
        · exact .inr h0
      · have up : ∀ z, (z ∈ st.todo ∨ z ∈ x :: done) → (z ∈ st.todo ++ [(e.to, b)] ∨ z ∈ x :: done) := fun z hz => hz.imp (fun h => by simp [h]) id
        rcases h.closed i y hy e' he' with ⟨rfl, hm⟩ | hm
        · rcases List.mem_cons.1 hm with rfl | hm
          · right
            simp only [List.getElem?_cons_zero, Option.some.injEq] at hy
            subst hy
            intro b' hb'
            rw [hp] at hb'
            rw [← Option.some.inj hb']
            exact .inl (by simp)
          · exact .inl ⟨rfl, hm⟩
        · exact .inr (fun b' hb' => up _ (hm b' hb'))
theorem FInv.edges {es : List (List Ed)} {s : List UInt8} {fwd : Bool} {goal st0 : Nat} {x0 x : Nat × Nat} {done : List (Nat × Nat)} : ∀ (now : List Ed) {st : FS}, FInv es s fwd goal st0 x0 st (x :: done) now → (∀ e ∈ now, e ∈ es.getD x.1 [] ∧ e.to < es.length) → FInv es s fwd goal st0 x0 (now.foldl (edgeM s fwd x.2) st) (x :: done) []
  | [], st, h, _ => h
  | e :: now, st, h, hm => FInv.edges now (h.edge (hm e (by simp)).1 (hm e (by simp)).2 (fun e' he' => (hm e' (by simp [he'])).1)) (fun e' he' => hm e' (by simp [he']))
theorem FInv.pop {es : List (List Ed)} {s : List UInt8} {fwd : Bool} {goal st0 : Nat} {x0 p : Nat × Nat} {done : List (Nat × Nat)} {st : FS} (h : FInv es s fwd goal st0 x0 st done []) (hp : st.todo.getLast? = some p) : FInv es s fwd goal st0 x0 (popM goal st p) (p :: done) (es.getD p.1 []) := by
  have hs := last_split hp
  obtain ⟨k1, _, k3⟩ := pop_ok (goal := goal) h.ok hp
  have hmem : ∀ x, (x ∈ st.todo.dropLast ∨ x ∈ p :: done) ↔ (x ∈ st.todo ∨ x ∈ done) := fun x => by
    conv => rhs; rw [hs]
    simp only [List.mem_append, List.mem_cons, List.not_mem_nil, or_false]
    constructor
    · rintro (h | h | h)
      · exact .inl (.inl h)
      · exact .inl (.inr h)
      · exact .inr h
    · rintro ((h | h) | h)
      · exact .inl h
      · exact .inr (.inl h)
      · exact .inr (.inr h)
  refine ⟨k1, fun x hx => ?_, fun x h1 h2 => (h.seen x h1 h2).trans (hmem x).symm, ?_, fun x hx => h.rch x ((hmem x).1 hx), (hmem x0).2 h.x0, fun i x hx e he => ?_, fun a ha => ?_, ?_⟩
  · rcases List.mem_cons.1 hx with rfl | hx
    · exact k3
    · exact h.dok x hx
  · have hn := h.nodup
    rw [hs, List.append_assoc, List.singleton_append] at hn
    exact hn
  · cases i with
    | zero =>
      simp only [List.getElem?_cons_zero, Option.some.injEq] at hx
      subst hx
      exact .inl ⟨rfl, he⟩
    | succ i =>
      simp only [List.getElem?_cons_succ] at hx
      rcases h.closed i x hx e he with ⟨_, hm⟩ | hm
      · cases hm
      · exact .inr (fun b hb => (hmem _).2 (hm b hb))
  · show (if p.1 = goal then st.marks.set p.2 true else st.marks).getD a false = true ↔ _
    have hold := h.marks a ha
    split
    · rename_i hg
      rw [getD_set_bool _ _ _ (by rw [h.ok.marks]; omega), hold, List.mem_cons]
      constructor
      · rintro (h1 | h1)
        · exact .inr h1
        · exact .inl (Prod.ext hg.symm h1.symm)
      · rintro (h1 | h1)
        · right; rw [← h1]
        · exact .inl h1
    · rename_i hg
      rw [hold, List.mem_cons]
      exact ⟨.inr, fun h1 => h1.resolve_left (fun e => hg (by rw [← e]))⟩
  · have := h.steps
    show st.steps + _ = _
    simp only [List.map_cons, List.sum_cons, cntAt]
    rw [nowC_nil] at this
    simp only [cntAt, nowC] at this ⊢
    omega
theorem FInv.flood {es : List (List Ed)} {s : List UInt8} {fwd : Bool} {goal st0 : Nat} {x0 : Nat × Nat} (hes : EdsOk es) : ∀ (f : Nat) (done : List (Nat × Nat)) (st : FS), FInv es s fwd goal st0 x0 st done [] → st.mu ≤ f → ∃ done', FInv es s fwd goal st0 x0 (floodGo es s goal fwd f st) done' [] ∧ (floodGo es s goal fwd f st).todo = []
  | 0, done, st, h, hm => ⟨done, h, by
    unfold FS.mu at hm
    exact List.eq_nil_of_length_eq_zero (by show st.todo.length = 0; omega)⟩
  | f + 1, done, st, h, hm => by
    rw [floodGo]
    split
    · rename_i hp
      exact ⟨done, h, List.getLast?_eq_none_iff.1 hp⟩
    · rename_i p hp
      have hpop := h.pop hp
      obtain ⟨k1, k2, k3⟩ := pop_ok (goal := goal) h.ok hp
      have hrow : ∀ e ∈ es.getD p.1 [], e ∈ es.getD p.1 [] ∧ e.to < es.length := fun e he => ⟨he, by
        rw [List.getD_eq_getElem?_getD, List.getElem?_eq_getElem k3.1, Option.getD_some] at he
        exact (hes _ (List.getElem_mem k3.1) e he).1⟩
      have h2 := hpop.edges (es.getD p.1 []) hrow
      have h3 := edges_ok (fwd := fwd) k3.2 (es.getD p.1 []) k1 (fun e he => (hrow e he).2)
      exact FInv.flood hes f _ _ h2 (by rw [h3.2.1]; omega)
theorem FInv.start {es : List (List Ed)} {s : List UInt8} {fwd : Bool} {goal st0 : Nat} {x0 : Nat × Nat} (h1 : x0.1 < es.length) (h2 : x0.2 ≤ s.length) : FInv es s fwd goal st0 x0 (fs0 es.length s.length x0 st0) [] [] := by
  have hlt := idx_lt h1 h2
  refine ⟨(fs0_ok h1 h2 st0).1, by simp, fun x hx1 hx2 => ?_, by simp [fs0], fun x hx => ?_, .inl (by simp [fs0]), by simp, fun a ha => by
    have : (fs0 es.length s.length x0 st0).marks.getD a false = false := by
      simp only [fs0, List.getD_eq_getElem?_getD, List.getElem?_replicate]
      split <;> rfl
    rw [this]; simp, rfl⟩
  · show ((List.replicate (es.length * (s.length + 1)) false).set (x0.1 * (s.length + 1) + x0.2) true).getD _ false = true ↔ _
    rw [getD_set_bool _ _ _ (by simpa using hlt)]
    simp only [fs0, List.mem_singleton, List.not_mem_nil, or_false]
    constructor
    · rintro (h | h)
      · simp [List.getD_eq_getElem?_getD] at h
        rw [List.getElem?_replicate] at h
        split at h <;> simp at h
      · obtain ⟨e1, e2⟩ := idx_inj h2 hx2 h
        exact Prod.ext e1.symm e2.symm
    · intro h; subst h; exact .inr rfl
  · simp only [fs0, List.mem_singleton, List.not_mem_nil, or_false] at hx
    subst hx; exact .here
structure Flood (es : List (List Ed)) (s : List UInt8) (x0 : Nat × Nat) (goal : Nat) (fwd : Bool) (st0 : Nat) (r : FS) (done : List (Nat × Nat)) : Prop where
  len : r.marks.length = s.length + 1
  nodup : done.Nodup
  all : ∀ x, x ∈ done ↔ Rch es s fwd x0 x
  marks : ∀ a, a ≤ s.length → (r.marks.getD a false = true ↔ Rch es s fwd x0 (goal, a))
  dok : ∀ x ∈ done, x.1 < es.length ∧ x.2 ≤ s.length
  steps : r.steps = st0 + (done.map (cntAt es s.length fwd)).sum
theorem flood_spec {es : List (List Ed)} (hes : EdsOk es) (s : List UInt8) {x0 : Nat × Nat} (h1 : x0.1 < es.length) (h2 : x0.2 ≤ s.length) (goal : Nat) (fwd : Bool) (st0 : Nat) : ∃ done, Flood es s x0 goal fwd st0 (floodM es s x0 goal fwd st0) done := by
  obtain ⟨done, h, hnil⟩ := FInv.flood (goal := goal) (fwd := fwd) (st0 := st0) hes (es.length * (s.length + 1)) [] _ (FInv.start h1 h2) (by rw [(fs0_ok h1 h2 st0).2]; exact Nat.le_refl _)
  have hall : ∀ x, x ∈ done ↔ Rch es s fwd x0 x := fun x => ⟨fun hx => h.rch x (.inr hx), fun hx => by
    induction hx with
    | here =>
      rcases h.x0 with h0 | h0
      · rw [hnil] at h0; cases h0
      · exact h0
    | @step q a b e hr he hp ih =>
      obtain ⟨i, hi⟩ := List.mem_iff_getElem?.1 ih
      rcases h.closed i (q, a) hi e he with ⟨_, hm⟩ | hm
      · cases hm
      · rcases hm b hp with h0 | h0
        · rw [hnil] at h0; cases h0
        · exact h0⟩
  refine ⟨done, h.ok.marks, ?_, hall, fun a ha => (h.marks a ha).trans (hall _), h.dok, ?_⟩
  · have := h.nodup
    rw [hnil] at this
    simpa using this
  · have := h.steps
    rw [nowC_nil] at this
    exact this
end Go.Proofs.Ytblpgpgbnlhjlaa
