/- Layer 7 in plain Lean: what the automaton of a tree reaches is what the tree matches. Layer 7 in plain Lean: copies with a way out, repeats, trees; Ends and Starts by what trees match. Layer 7 in plain Lean: backward edges are the forward ones turned; Starts by what trees match. -/
import Derived.Test.YtblpgpgbnlhjlaaFe
namespace Go.Proofs.Ytblpgpgbnlhjlaa
open Go Go.RowKit Sl
set_option maxRecDepth 100000
set_option maxHeartbeats 8000000
set_option linter.unusedVariables false
set_option linter.unusedSimpArgs false
attribute [local irreducible] ES EL PX wps

/-! what a tree matches -/
def Iter (R : Nat → Nat → Prop) : Nat → Nat → Nat → Prop
  | 0, i, j => i = j
  | c + 1, i, j => ∃ m, R i m ∧ Iter R c m j
theorem Iter.snoc {R : Nat → Nat → Prop} : ∀ {c i m j}, Iter R c i m → R m j → Iter R (c + 1) i j
  | 0, i, m, j, h, hr => by
    have h : i = m := h
    subst h
    exact ⟨j, hr, rfl⟩
  | c + 1, i, m, j, ⟨u, h1, h2⟩, hr => ⟨u, h1, Iter.snoc h2 hr⟩
theorem Iter.add {R : Nat → Nat → Prop} : ∀ {c d i j}, Iter R (c + d) i j ↔ ∃ m, Iter R c i m ∧ Iter R d m j
  | 0, d, i, j => by
    rw [Nat.zero_add]
    exact ⟨fun h => ⟨i, rfl, h⟩, fun ⟨m, h1, h2⟩ => by cases (show i = m from h1); exact h2⟩
  | c + 1, d, i, j => by
    rw [Nat.succ_add]
    constructor
    · rintro ⟨u, h1, h2⟩
      obtain ⟨m, h3, h4⟩ := Iter.add.1 h2
      exact ⟨m, ⟨u, h1, h3⟩, h4⟩
    · rintro ⟨m, ⟨u, h1, h3⟩, h4⟩
      exact ⟨u, h1, Iter.add.2 ⟨m, h3, h4⟩⟩
def RepN (lo : Nat) (hi : Int) (k : RE) (c : Nat) : Prop := leastM lo k ≤ c ∧ (if hi = (lo : Int) ∨ k.thin = true then c = leastM lo k else hi < 0 ∨ c ≤ leastM lo k + (hi.toNat - lo))
mutual
def Hit (s : List UInt8) : RE → Nat → Nat → Prop
  | .byte S, i, j => (i < s.length ∧ hasS S (s.getD i 0).toNat = true) ∧ j = i + 1
  | .bol, i, j => i = 0 ∧ j = i
  | .eol, i, j => i = s.length ∧ j = i
  | .back _, i, j => j = i ∨ (i < j ∧ j ≤ s.length)
  | .group _ k, i, j => Hit s k i j
  | .cat ks, i, j => HitL s ks i j
  | .rep lo hi k, i, j => ∃ c, RepN lo hi k c ∧ Iter (Hit s k) c i j
def HitL (s : List UInt8) : List RE → Nat → Nat → Prop
  | [], i, j => i = j
  | k :: ks, i, j => ∃ m, Hit s k i m ∧ HitL s ks m j
end

/-! paths -/
abbrev ERow (a : AM) (q : Nat) : List Ed := a.out.getD q []
abbrev FW (s : List UInt8) (a : AM) (x y : Nat × Nat) : Prop := Rch a.out s true x y
theorem getD_nil {l : List (List Ed)} {q : Nat} (h : l.length ≤ q) : l.getD q [] = [] := by
  rw [List.getD_eq_getElem?_getD, List.getElem?_eq_none h]; rfl
theorem row_lt {a : AM} {q : Nat} {e : Ed} (h : e ∈ ERow a q) : q < a.out.length := by
  apply Decidable.byContradiction
  intro hn
  rw [show ERow a q = [] from getD_nil (by omega)] at h
  cases h
theorem getD_addTo (l : List (List Ed)) (f q : Nat) (e : Ed) (hf : f < l.length) : (addTo l f e).getD q [] = if q = f then l.getD q [] ++ [e] else l.getD q [] := by
  unfold addTo
  by_cases h : q = f
  · subst h
    rw [if_pos rfl]
    simp [List.getD_eq_getElem?_getD, hf]
  · rw [if_neg h, List.getD_eq_getElem?_getD, List.getElem?_set, if_neg (fun e => h e.symm), ← List.getD_eq_getElem?_getD]
theorem getD_new (l : List (List Ed)) (q : Nat) : (l ++ [[]]).getD q [] = l.getD q [] := by
  rw [List.getD_eq_getElem?_getD, List.getD_eq_getElem?_getD]
  by_cases h : q < l.length
  · rw [List.getElem?_append_left h]
  · rw [List.getElem?_append_right (by omega), List.getElem?_eq_none (show l.length ≤ q by omega)]
    cases q - l.length with
    | zero => rfl
    | succ n => rfl
theorem row_link {a : AM} {f t k : Nat} {S : BS} (hf : f < a.out.length) (q : Nat) : ERow (a.link f t k S) q = if q = f then ERow a q ++ [⟨k, S, t⟩] else ERow a q := getD_addTo _ _ _ _ hf
theorem row_step {a : AM} {f k : Nat} {S : BS} (hf : f < a.out.length) (q : Nat) : ERow (a.step f k S) q = if q = f then ERow a q ++ [⟨k, S, a.out.length⟩] else ERow a q := by
  unfold AM.step
  rw [row_link (by rw [add_len]; omega), show ERow a.add q = ERow a q from getD_new _ _]
theorem Rch.mono {es es' : List (List Ed)} {s : List UInt8} {fwd : Bool} {x y : Nat × Nat} (h : ∀ q e, e ∈ es.getD q [] → e ∈ es'.getD q []) (hr : Rch es s fwd x y) : Rch es' s fwd x y := by
  induction hr with
  | here => exact .here
  | step _ he hp ih => exact .step ih (h _ _ he) hp
theorem Rch.trans {es : List (List Ed)} {s : List UInt8} {fwd : Bool} {x y z : Nat × Nat} (h1 : Rch es s fwd x y) (h2 : Rch es s fwd y z) : Rch es s fwd x z := by
  induction h2 with
  | here => exact h1
  | step _ he hp ih => exact .step ih he hp
theorem Rch.dead {es : List (List Ed)} {s : List UInt8} {fwd : Bool} {q i : Nat} {y : Nat × Nat} (hd : es.getD q [] = []) (h : Rch es s fwd (q, i) y) : y = (q, i) := by
  induction h with
  | here => rfl
  | step _ he _ ih =>
    injection ih with h1 h2
    subst h1
    rw [hd] at he
    cases he
/-- The last step of a path. -/
theorem Rch.inv {es : List (List Ed)} {s : List UInt8} {fwd : Bool} {x : Nat × Nat} {t b : Nat} (h : Rch es s fwd x (t, b)) : x = (t, b) ∨ ∃ q a e, Rch es s fwd x (q, a) ∧ e ∈ es.getD q [] ∧ e.to = t ∧ placeM s fwd e a = some b := by
  cases h with
  | here => exact .inl rfl
  | step h he hp => exact .inr ⟨_, _, _, h, he, rfl, hp⟩
theorem eps_place (s : List UInt8) (fwd : Bool) (S : BS) (t a : Nat) : placeM s fwd ⟨0, S, t⟩ a = some a := rfl
def Wf (a : AM) : Prop := ∀ q, ∀ e ∈ ERow a q, e.to < a.out.length
theorem wf_link {a : AM} {f t k : Nat} {S : BS} (h : Wf a) (hf : f < a.out.length) (ht : t < a.out.length) : Wf (a.link f t k S) := fun q e he => by
  rw [(link_len _ _ _ _ _).1]
  rw [row_link hf] at he
  split at he
  · rcases List.mem_append.1 he with he | he
    · exact h q e he
    · rw [List.mem_singleton] at he; subst he; exact ht
  · exact h q e he
theorem wf_step {a : AM} {f k : Nat} {S : BS} (h : Wf a) (hf : f < a.out.length) : Wf (a.step f k S) := fun q e he => by
  rw [step_len]
  rw [row_step hf] at he
  split at he
  · rcases List.mem_append.1 he with he | he
    · have := h q e he; omega
    · rw [List.mem_singleton] at he; subst he; exact Nat.lt_succ_self _
  · have := h q e he; omega
/-- What was laid behind p: new edges leave p or new states, and lead to new states. -/
structure Grow (a b : AM) (p : Nat) : Prop where
  len : a.out.length ≤ b.out.length
  sub : ∀ q, ∀ e ∈ ERow a q, e ∈ ERow b q
  new : ∀ q, ∀ e ∈ ERow b q, e ∈ ERow a q ∨ ((q = p ∨ a.out.length ≤ q) ∧ a.out.length ≤ e.to)
theorem Grow.refl (a : AM) (p : Nat) : Grow a a p := ⟨Nat.le_refl _, fun _ _ h => h, fun _ _ h => .inl h⟩
theorem Grow.comp {a b c : AM} {p q : Nat} (h1 : Grow a b p) (h2 : Grow b c q) (hq : q = p ∨ a.out.length ≤ q) : Grow a c p := by
  have := h1.len
  refine ⟨Nat.le_trans h1.len h2.len, fun r e h => h2.sub r e (h1.sub r e h), fun r e h => ?_⟩
  rcases h2.new r e h with h | ⟨hr, ht⟩
  · exact h1.new r e h
  · right
    refine ⟨?_, by omega⟩
    rcases hr with rfl | hr
    · exact hq
    · right; omega
theorem Grow.old {s : List UInt8} {a b : AM} {p x0 i y j : Nat} (h : Grow a b p) (hw : Wf a) (hx : x0 < a.out.length) (hy : y < a.out.length) : FW s b (x0, i) (y, j) ↔ FW s a (x0, i) (y, j) := by
  refine ⟨fun hr => ?_, fun hr => hr.mono h.sub⟩
  have key : ∀ z, FW s b (x0, i) z → z.1 < a.out.length → FW s a (x0, i) z := by
    intro z hz
    induction hz with
    | here => exact fun _ => .here
    | step h1 he hp ih =>
      intro hlt
      rcases h.new _ _ he with he | ⟨_, h3⟩
      · exact .step (ih (row_lt he)) he hp
      · have hlt : _ < a.out.length := hlt
        dsimp only at hlt
        omega
  exact key _ hr hy
theorem grow_step {a : AM} {p k : Nat} {S : BS} (hp : p < a.out.length) : Grow a (a.step p k S) p := by
  refine ⟨by rw [step_len]; omega, fun q e h => ?_, fun q e h => ?_⟩
  · rw [row_step hp]; split
    · exact List.mem_append.2 (.inl h)
    · exact h
  · rw [row_step hp] at h
    split at h
    · rename_i e1
      rcases List.mem_append.1 h with h | h
      · exact .inl h
      · rw [List.mem_singleton] at h; subst h; exact .inr ⟨.inl e1, Nat.le_refl _⟩
    · exact .inl h
theorem step_hit {s : List UInt8} {a : AM} {p k x0 i j : Nat} {S : BS} (hw : Wf a) (hp : p < a.out.length) (hx : x0 < a.out.length) : FW s (a.step p k S) (x0, i) (a.out.length, j) ↔ ∃ m, FW s a (x0, i) (p, m) ∧ placeM s true ⟨k, S, a.out.length⟩ m = some j := by
  have hg := grow_step (k := k) (S := S) hp
  constructor
  · intro h
    rcases h.inv with h | ⟨q, m, e, h1, he, ht, hpl⟩
    · injection h with h1 h2; omega
    · have he' : e ∈ ERow (a.step p k S) q := he
      rw [row_step hp] at he'
      split at he'
      · rename_i e1
        rcases List.mem_append.1 he' with he' | he'
        · have := hw q e he'; omega
        · rw [List.mem_singleton] at he'; subst he' e1
          exact ⟨m, (hg.old hw hx hp).1 h1, hpl⟩
      · have := hw q e he'; omega
  · rintro ⟨m, h1, h2⟩
    refine Rch.step (e := ⟨k, S, a.out.length⟩) (h1.mono hg.sub) ?_ h2
    show _ ∈ ERow (a.step p k S) p
    rw [row_step hp, if_pos rfl]
    simp
/-- Laying by f matches what R says. -/
structure LayH (s : List UInt8) (f : AM → Nat → AM × Nat) (R : Nat → Nat → Prop) : Prop where
  wf : ∀ a p, Wf a → p < a.out.length → Wf (f a p).1
  grow : ∀ a p, Wf a → p < a.out.length → Grow a (f a p).1 p
  out : ∀ a p, Wf a → p < a.out.length → ((f a p).2 = p ∨ a.out.length ≤ (f a p).2) ∧ (f a p).2 < (f a p).1.out.length
  hit : ∀ a p x0 i j, Wf a → p < a.out.length → x0 < a.out.length → (FW s (f a p).1 (x0, i) ((f a p).2, j) ↔ ∃ m, FW s a (x0, i) (p, m) ∧ R m j)
theorem LayH.iff {s : List UInt8} {f : AM → Nat → AM × Nat} {R R' : Nat → Nat → Prop} (h : LayH s f R) (e : ∀ i j, R i j ↔ R' i j) : LayH s f R' :=
  ⟨h.wf, h.grow, h.out, fun a p x0 i j h1 h2 h3 => (h.hit a p x0 i j h1 h2 h3).trans ⟨fun ⟨m, a, b⟩ => ⟨m, a, (e _ _).1 b⟩, fun ⟨m, a, b⟩ => ⟨m, a, (e _ _).2 b⟩⟩⟩
theorem LayH.id (s : List UInt8) : LayH s (fun a p => (a, p)) (fun i j => i = j) :=
  ⟨fun _ _ h _ => h, fun a p _ _ => Grow.refl a p, fun _ _ _ h => ⟨.inl rfl, h⟩, fun a p x0 i j _ _ _ => ⟨fun h => ⟨j, h, rfl⟩, fun ⟨m, h, e⟩ => e ▸ h⟩⟩
theorem LayH.seq {s : List UInt8} {f g : AM → Nat → AM × Nat} {R R' : Nat → Nat → Prop} (h1 : LayH s f R) (h2 : LayH s g R') : LayH s (fun a p => g (f a p).1 (f a p).2) (fun i j => ∃ m, R i m ∧ R' m j) := by
  refine ⟨fun a p hw hp => h2.wf _ _ (h1.wf a p hw hp) (h1.out a p hw hp).2, fun a p hw hp => (h1.grow a p hw hp).comp (h2.grow _ _ (h1.wf a p hw hp) (h1.out a p hw hp).2) (h1.out a p hw hp).1, fun a p hw hp => ?_, fun a p x0 i j hw hp hx => ?_⟩
  · have e1 := h1.out a p hw hp
    have e2 := h2.out _ _ (h1.wf a p hw hp) e1.2
    have e3 := (h1.grow a p hw hp).len
    refine ⟨?_, e2.2⟩
    rcases e2.1 with e | e
    · rw [e]; exact e1.1
    · right; omega
  · have e1 := h1.out a p hw hp
    have e3 := (h1.grow a p hw hp).len
    rw [h2.hit _ _ x0 i j (h1.wf a p hw hp) e1.2 (by omega)]
    constructor
    · rintro ⟨m, hm, hr⟩
      obtain ⟨m0, h3, h4⟩ := (h1.hit a p x0 i m hw hp hx).1 hm
      exact ⟨m0, h3, m, h4, hr⟩
    · rintro ⟨m0, h3, m, h4, hr⟩
      exact ⟨m, (h1.hit a p x0 i m hw hp hx).2 ⟨m0, h3, h4⟩, hr⟩
theorem LayH.times {s : List UInt8} {f : AM → Nat → AM × Nat} {R : Nat → Nat → Prop} (h : LayH s f R) : ∀ n, LayH s (timesA f n) (Iter R n)
  | 0 => LayH.id s
  | n + 1 => (LayH.seq h (LayH.times h n))
theorem LayH.edge (s : List UInt8) (k : Nat) (S : BS) (R : Nat → Nat → Prop) (hR : ∀ t i j, placeM s true ⟨k, S, t⟩ i = some j ↔ R i j) : LayH s (fun a p => (a.step p k S, a.out.length)) R :=
  ⟨fun a p hw hp => wf_step hw hp, fun a p _ hp => grow_step hp, fun a p _ hp => ⟨.inr (Nat.le_refl _), by rw [step_len]; exact Nat.lt_succ_self _⟩, fun a p x0 i j hw hp hx => (step_hit hw hp hx).trans ⟨fun ⟨m, h1, h2⟩ => ⟨m, h1, (hR _ _ _).1 h2⟩, fun ⟨m, h1, h2⟩ => ⟨m, h1, (hR _ _ _).2 h2⟩⟩⟩

/-! a loop -/
def starA (f : AM → Nat → AM × Nat) (a : AM) (p : Nat) : AM × Nat :=
  ((f (a.step p 0 zeroS) a.out.length).1.link (f (a.step p 0 zeroS) a.out.length).2 a.out.length 0 zeroS, a.out.length)
theorem LayH.star {s : List UInt8} {f : AM → Nat → AM × Nat} {R : Nat → Nat → Prop} (h : LayH s f R) : LayH s (starA f) (fun i j => ∃ c, Iter R c i j) := by
  have all : ∀ a p, Wf a → p < a.out.length → Wf (starA f a p).1 ∧ Grow a (starA f a p).1 p ∧ a.out.length < (starA f a p).1.out.length ∧ ∀ x0 i j, x0 < a.out.length → (FW s (starA f a p).1 (x0, i) (a.out.length, j) ↔ ∃ m, FW s a (x0, i) (p, m) ∧ ∃ c, Iter R c m j) := by
    intro a p hw hp
    have hw2 := wf_step (k := 0) (S := zeroS) hw hp
    have hl2 : (a.step p 0 zeroS).out.length = a.out.length + 1 := step_len _ _ _ _
    have hh : a.out.length < (a.step p 0 zeroS).out.length := by omega
    have hg2 := grow_step (k := 0) (S := zeroS) hp
    have hw3 := h.wf _ _ hw2 hh
    have hg3 := h.grow _ _ hw2 hh
    obtain ⟨ho, hlt⟩ := h.out _ _ hw2 hh
    have hhit := fun x0 i j => h.hit _ a.out.length x0 i j hw2 hh
    have hrow2 := fun q => row_step (k := 0) (S := zeroS) hp q
    unfold starA
    dsimp only
    generalize f (a.step p 0 zeroS) a.out.length = y at hw3 hg3 ho hlt hhit
    obtain ⟨a3, q3⟩ := y
    dsimp only at hw3 hg3 ho hlt hhit ⊢
    have hl3 := hg3.len
    have hrow4 := fun q => row_link (k := 0) (S := zeroS) (t := a.out.length) hlt q
    have hsub4 : ∀ q, ∀ e ∈ ERow a3 q, e ∈ ERow (a3.link q3 a.out.length 0 zeroS) q := fun q e he => by
      rw [hrow4]; split
      · exact List.mem_append.2 (.inl he)
      · exact he
    have hl4 : (a3.link q3 a.out.length 0 zeroS).out.length = a3.out.length := (link_len _ _ _ _ _).1
    have hdead : ERow (a.step p 0 zeroS) a.out.length = [] := by
      rw [hrow2, if_neg (by omega)]
      exact getD_nil (Nat.le_refl _)
    refine ⟨wf_link hw3 hlt (by omega), ⟨by rw [hl4]; omega, fun q e he => hsub4 q e (hg3.sub q e (hg2.sub q e he)), fun q e he => ?_⟩, by rw [hl4]; omega, fun x0 i j hx => ⟨fun hr => ?_, ?_⟩⟩
    · have h23 := hg2.comp hg3 (.inr (Nat.le_refl _))
      rw [hrow4] at he
      split at he
      · rename_i e1
        rcases List.mem_append.1 he with he | he
        · exact h23.new q e he
        · rw [List.mem_singleton] at he; subst he e1
          refine .inr ⟨.inr (by omega), Nat.le_refl _⟩
      · exact h23.new q e he
    · have key : ∀ z, FW s (a3.link q3 a.out.length 0 zeroS) (x0, i) z → (z.1 < a.out.length ∧ FW s a (x0, i) z) ∨ ∃ m c m', FW s a (x0, i) (p, m) ∧ Iter R c m m' ∧ FW s a3 (a.out.length, m') z := by
        intro z hz
        induction hz with
        | here => exact .inl ⟨hx, .here⟩
        | @step q u b e h1 he hpl ih =>
          have he' : e ∈ ERow (a3.link q3 a.out.length 0 zeroS) q := he
          rw [hrow4] at he'
          have hcase : e ∈ ERow a3 q ∨ (q = q3 ∧ e = ⟨0, zeroS, a.out.length⟩) := by
            split at he'
            · rename_i e1
              rcases List.mem_append.1 he' with he' | he'
              · exact .inl he'
              · exact .inr ⟨e1, List.mem_singleton.1 he'⟩
            · exact .inl he'
          rcases hcase with he3 | ⟨rfl, rfl⟩
          · rcases ih with ⟨hq, hold⟩ | ⟨m, c, m', k1, k2, k3⟩
            · have hq : q < a.out.length := hq
              rcases hg3.new q e he3 with he2 | ⟨hbad, _⟩
              · rw [hrow2] at he2
                split at he2
                · rename_i e1
                  rcases List.mem_append.1 he2 with he2 | he2
                  · exact .inl ⟨hw q e he2, .step hold he2 hpl⟩
                  · rw [List.mem_singleton] at he2; subst he2 e1
                    rw [eps_place] at hpl
                    cases hpl
                    exact .inr ⟨u, 0, u, hold, rfl, .here⟩
                · exact .inl ⟨hw q e he2, .step hold he2 hpl⟩
              · omega
            · exact .inr ⟨m, c, m', k1, k2, .step k3 he3 hpl⟩
          · rw [eps_place] at hpl
            cases hpl
            rcases ih with ⟨hq, hold⟩ | ⟨m, c, m', k1, k2, k3⟩
            · have hq : q < a.out.length := hq
              omega
            · obtain ⟨m2, k4, k5⟩ := (hhit _ _ _ hh).1 k3
              have := Rch.dead hdead k4
              injection this with _ e2
              subst e2
              exact .inr ⟨m, c + 1, u, k1, k2.snoc k5, .here⟩
      rcases key _ hr with ⟨hbad, _⟩ | ⟨m, c, m', k1, k2, k3⟩
      · exact absurd hbad (by dsimp only; omega)
      · have k4 := (hg3.old hw2 hh hh).1 k3
        have := Rch.dead hdead k4
        injection this with _ e2
        subst e2
        exact ⟨m, k1, c, k2⟩
    · rintro ⟨m, h1, c, hc⟩
      have hbase : FW s (a3.link q3 a.out.length 0 zeroS) (x0, i) (a.out.length, m) := by
        have h2 := (step_hit (k := 0) (S := zeroS) hw hp hx (j := m) (s := s) (i := i)).2 ⟨m, h1, rfl⟩
        exact (h2.mono hg3.sub).mono hsub4
      clear h1
      induction c generalizing m with
      | zero =>
        cases (show m = j from hc)
        exact hbase
      | succ c ih =>
        obtain ⟨m1, k1, k2⟩ := hc
        refine ih m1 k2 ?_
        have h3 : FW s a3 (a.out.length, m) (q3, m1) := (hhit _ _ _ hh).2 ⟨m, .here, k1⟩
        refine Rch.step (e := ⟨0, zeroS, a.out.length⟩) (hbase.trans (h3.mono hsub4)) ?_ (eps_place _ _ _ _ _)
        show _ ∈ ERow _ q3
        rw [hrow4, if_pos rfl]
        simp
  exact ⟨fun a p hw hp => (all a p hw hp).1, fun a p hw hp => (all a p hw hp).2.1, fun a p hw hp => ⟨.inr (Nat.le_refl _), (all a p hw hp).2.2.1⟩, fun a p x0 i j hw hp hx => (all a p hw hp).2.2.2 x0 i j hx⟩
end Go.Proofs.Ytblpgpgbnlhjlaa
namespace Go.Proofs.Ytblpgpgbnlhjlaa
open Go Go.RowKit Sl
set_option maxRecDepth 100000
set_option maxHeartbeats 8000000
set_option linter.unusedVariables false
set_option linter.unusedSimpArgs false
attribute [local irreducible] ES EL PX wps

theorem opt_all {s : List UInt8} {f : AM → Nat → AM × Nat} {R : Nat → Nat → Prop} (h : LayH s f R) (o : Nat) : ∀ (n : Nat) (a : AM) (p : Nat), Wf a → p < a.out.length → o < a.out.length → o ≠ p → ERow a o = [] →
    Wf (optA f o n a p) ∧ a.out.length ≤ (optA f o n a p).out.length ∧ (∀ q, ∀ e ∈ ERow a q, e ∈ ERow (optA f o n a p) q) ∧ (∀ q, ∀ e ∈ ERow (optA f o n a p) q, e ∈ ERow a q ∨ ((q = p ∨ a.out.length ≤ q) ∧ (e.to = o ∨ a.out.length ≤ e.to))) ∧
    ∀ x0 i j, x0 < a.out.length → (FW s (optA f o n a p) (x0, i) (o, j) ↔ FW s a (x0, i) (o, j) ∨ ∃ m c, FW s a (x0, i) (p, m) ∧ 1 ≤ c ∧ c ≤ n ∧ Iter R c m j)
  | 0, a, p, hw, hp, ho, hne, hd => ⟨hw, Nat.le_refl _, fun _ _ h => h, fun _ _ h => .inl h, fun x0 i j hx => ⟨.inl, fun h => by
    rcases h with h | ⟨m, c, _, h1, h2, _⟩
    · exact h
    · omega⟩⟩
  | n + 1, a, p, hw, hp, ho, hne, hd => by
    have hw1 := h.wf a p hw hp
    have hg := h.grow a p hw hp
    obtain ⟨hout, hlt⟩ := h.out a p hw hp
    have hhit := fun x0 i j => h.hit a p x0 i j hw hp
    rw [show optA f o (n + 1) a p = optA f o n ((f a p).1.link (f a p).2 o 0 zeroS) (f a p).2 from rfl]
    generalize f a p = y at hw1 hg hout hlt hhit
    obtain ⟨a1, p1⟩ := y
    dsimp only at hw1 hg hout hlt hhit ⊢
    have hl1 := hg.len
    have hne1 : o ≠ p1 := by
      rcases hout with e | e
      · rw [e]; exact hne
      · omega
    have hd1 : ERow a1 o = [] := by
      apply List.eq_nil_iff_forall_not_mem.2
      intro e he
      rcases hg.new o e he with h | ⟨h, _⟩
      · rw [hd] at h; cases h
      · omega
    have hrow2 := fun q => row_link (k := 0) (S := zeroS) (t := o) hlt q
    have hl2 : (a1.link p1 o 0 zeroS).out.length = a1.out.length := (link_len _ _ _ _ _).1
    have hw2 : Wf (a1.link p1 o 0 zeroS) := wf_link hw1 hlt (by omega)
    have hd2 : ERow (a1.link p1 o 0 zeroS) o = [] := by rw [hrow2, if_neg hne1]; exact hd1
    obtain ⟨k1, k2, k3, k4, k5⟩ := opt_all h o n _ p1 hw2 (by omega) (by omega) hne1 hd2
    have hsub2 : ∀ q, ∀ e ∈ ERow a1 q, e ∈ ERow (a1.link p1 o 0 zeroS) q := fun q e he => by
      rw [hrow2]; split
      · exact List.mem_append.2 (.inl he)
      · exact he
    have hrow3 : ∀ q, ∀ e ∈ ERow (a1.link p1 o 0 zeroS) q, e ∈ ERow a1 q ∨ (q = p1 ∧ e = ⟨0, zeroS, o⟩) := fun q e he => by
      rw [hrow2] at he
      split at he
      · rename_i e1
        rcases List.mem_append.1 he with he | he
        · exact .inl he
        · exact .inr ⟨e1, List.mem_singleton.1 he⟩
      · exact .inl he
    have hother : ∀ x z, FW s (a1.link p1 o 0 zeroS) x z → z.1 ≠ o → FW s a1 x z := by
      intro x z hz
      induction hz with
      | here => exact fun _ => .here
      | @step q u b e h1 he hpl ih =>
        intro hzo
        rcases hrow3 q e he with he1 | ⟨rfl, rfl⟩
        · exact .step (ih (fun e1 => by
            have e1 : q = o := e1
            rw [e1, hd1] at he1; cases he1)) he1 hpl
        · exact absurd rfl hzo
    have hexit : ∀ x0 i j, FW s (a1.link p1 o 0 zeroS) (x0, i) (o, j) ↔ FW s a1 (x0, i) (o, j) ∨ FW s a1 (x0, i) (p1, j) := by
      intro x0 i j
      constructor
      · intro hr
        rcases hr.inv with e | ⟨q, u, e, h1, he, ht, hpl⟩
        · rw [e]; exact .inl .here
        · rcases hrow3 q e he with he1 | ⟨rfl, rfl⟩
          · left
            have hq : q ≠ o := fun e1 => by rw [e1, hd1] at he1; cases he1
            have := Rch.step (hother _ _ h1 hq) he1 hpl
            rw [ht] at this; exact this
          · rw [eps_place] at hpl
            cases hpl
            exact .inr (hother _ _ h1 (fun e => hne1 e.symm))
      · rintro (h1 | h1)
        · exact h1.mono hsub2
        · refine Rch.step (e := ⟨0, zeroS, o⟩) (h1.mono hsub2) ?_ (eps_place _ _ _ _ _)
          show _ ∈ ERow _ p1
          rw [hrow2, if_pos rfl]; simp
    refine ⟨k1, by omega, fun q e he => k3 q e (hsub2 q e (hg.sub q e he)), fun q e he => ?_, fun x0 i j hx => ?_⟩
    · rcases k4 q e he with he2 | ⟨hq, ht⟩
      · rcases hrow3 q e he2 with he1 | ⟨rfl, rfl⟩
        · rcases hg.new q e he1 with h1 | ⟨h1, h2⟩
          · exact .inl h1
          · exact .inr ⟨h1, .inr h2⟩
        · exact .inr ⟨hout, .inl rfl⟩
      · rw [hl2] at hq ht
        right
        constructor
        · rcases hq with rfl | hq
          · exact hout
          · right; omega
        · rcases ht with ht | ht
          · exact .inl ht
          · right; omega
    · rw [k5 x0 i j (by omega), hexit]
      constructor
      · rintro ((h1 | h1) | ⟨m, c, h1, c1, c2, hc⟩)
        · exact .inl ((hg.old hw hx ho).1 h1)
        · obtain ⟨m, h2, h3⟩ := (hhit x0 i j hx).1 h1
          exact .inr ⟨m, 1, h2, by omega, by omega, j, h3, rfl⟩
        · have h2 := hother _ _ h1 (fun e => hne1 e.symm)
          obtain ⟨m0, h3, h4⟩ := (hhit x0 i m hx).1 h2
          exact .inr ⟨m0, c + 1, h3, by omega, by omega, m, h4, hc⟩
      · rintro (h1 | ⟨m, c, h1, c1, c2, hc⟩)
        · exact .inl (.inl ((hg.old hw hx ho).2 h1))
        · cases c with
          | zero => omega
          | succ c =>
            obtain ⟨m1, h2, h3⟩ := hc
            have h4 : FW s a1 (x0, i) (p1, m1) := (hhit x0 i m1 hx).2 ⟨m, h1, h2⟩
            cases c with
            | zero =>
              cases (show m1 = j from h3)
              exact .inl (.inr h4)
            | succ c => exact .inr ⟨m1, c + 1, h4.mono hsub2, by omega, by omega, h3⟩
def questA (f : AM → Nat → AM × Nat) (n : Nat) (a : AM) (p : Nat) : AM × Nat := (optA f a.out.length n (a.step p 0 zeroS) p, a.out.length)
theorem LayH.quest {s : List UInt8} {f : AM → Nat → AM × Nat} {R : Nat → Nat → Prop} (h : LayH s f R) (n : Nat) : LayH s (questA f n) (fun i j => ∃ c, c ≤ n ∧ Iter R c i j) := by
  have all : ∀ a p, Wf a → p < a.out.length → Wf (questA f n a p).1 ∧ Grow a (questA f n a p).1 p ∧ a.out.length < (questA f n a p).1.out.length ∧ ∀ x0 i j, x0 < a.out.length → (FW s (questA f n a p).1 (x0, i) (a.out.length, j) ↔ ∃ m, FW s a (x0, i) (p, m) ∧ ∃ c, c ≤ n ∧ Iter R c m j) := by
    intro a p hw hp
    have hw2 := wf_step (k := 0) (S := zeroS) hw hp
    have hl2 : (a.step p 0 zeroS).out.length = a.out.length + 1 := step_len _ _ _ _
    have hg2 := grow_step (k := 0) (S := zeroS) hp
    have hdead : ERow (a.step p 0 zeroS) a.out.length = [] := by
      rw [row_step hp, if_neg (by omega)]
      exact getD_nil (Nat.le_refl _)
    obtain ⟨k1, k2, k3, k4, k5⟩ := opt_all h a.out.length n (a.step p 0 zeroS) p hw2 (by omega) (by omega) (by omega) hdead
    unfold questA
    dsimp only
    refine ⟨k1, ⟨by omega, fun q e he => k3 q e (hg2.sub q e he), fun q e he => ?_⟩, by omega, fun x0 i j hx => ?_⟩
    · rcases k4 q e he with he | ⟨hq, ht⟩
      · exact hg2.new q e he
      · exact .inr ⟨by omega, by omega⟩
    · rw [k5 x0 i j (by omega)]
      constructor
      · rintro (h1 | ⟨m, c, h1, c1, c2, hc⟩)
        · obtain ⟨m, h2, h3⟩ := (step_hit hw hp hx).1 h1
          rw [eps_place] at h3
          cases h3
          exact ⟨_, h2, 0, Nat.zero_le _, rfl⟩
        · exact ⟨m, (hg2.old hw hx hp).1 h1, c, c2, hc⟩
      · rintro ⟨m, h1, c, c2, hc⟩
        cases c with
        | zero =>
          cases (show m = j from hc)
          exact .inl ((step_hit hw hp hx).2 ⟨_, h1, rfl⟩)
        | succ c => exact .inr ⟨m, c + 1, (hg2.old hw hx hp).2 h1, by omega, c2, hc⟩
  exact ⟨fun a p hw hp => (all a p hw hp).1, fun a p hw hp => (all a p hw hp).2.1, fun a p hw hp => ⟨.inr (Nat.le_refl _), (all a p hw hp).2.2.1⟩, fun a p x0 i j hw hp hx => (all a p hw hp).2.2.2 x0 i j hx⟩
theorem LayH.rep {s : List UInt8} {f : AM → Nat → AM × Nat} {R : Nat → Nat → Prop} (h : LayH s f R) (lo : Nat) (hi : Int) (k : RE) : LayH s (repA lo hi k f) (fun i j => ∃ c, RepN lo hi k c ∧ Iter R c i j) := by
  by_cases hc : hi = (lo : Int) ∨ k.thin = true
  · have e : repA lo hi k f = timesA f (leastM lo k) := by
      funext a p
      unfold repA
      dsimp only
      rw [if_pos hc]
    rw [e]
    refine (h.times _).iff fun i j => ⟨fun hh => ⟨_, ⟨Nat.le_refl _, by rw [if_pos hc]⟩, hh⟩, fun ⟨c, ⟨_, h2⟩, hh⟩ => ?_⟩
    rw [if_pos hc] at h2
    rw [h2] at hh
    exact hh
  by_cases hn : hi < 0
  · have e : repA lo hi k f = fun a p => starA f (timesA f (leastM lo k) a p).1 (timesA f (leastM lo k) a p).2 := by
      funext a p
      unfold repA starA
      dsimp only
      rw [if_neg hc, if_pos hn]
    rw [e]
    refine ((h.times _).seq h.star).iff fun i j => ⟨fun ⟨m, h1, c, h2⟩ => ⟨leastM lo k + c, ⟨Nat.le_add_right _ _, by rw [if_neg hc]; exact .inl hn⟩, Iter.add.2 ⟨m, h1, h2⟩⟩, fun ⟨c, ⟨h1, _⟩, hh⟩ => ?_⟩
    obtain ⟨d, rfl⟩ := Nat.exists_eq_add_of_le h1
    obtain ⟨m, h3, h4⟩ := Iter.add.1 hh
    exact ⟨m, h3, d, h4⟩
  · have e : repA lo hi k f = fun a p => questA f (hi.toNat - lo) (timesA f (leastM lo k) a p).1 (timesA f (leastM lo k) a p).2 := by
      funext a p
      unfold repA questA
      dsimp only
      rw [if_neg hc, if_neg hn]
    rw [e]
    refine ((h.times _).seq (h.quest _)).iff fun i j => ⟨fun ⟨m, h1, c, hcn, h2⟩ => ⟨leastM lo k + c, ⟨Nat.le_add_right _ _, by rw [if_neg hc]; exact .inr (by omega)⟩, Iter.add.2 ⟨m, h1, h2⟩⟩, fun ⟨c, ⟨h1, h5⟩, hh⟩ => ?_⟩
    rw [if_neg hc] at h5
    obtain ⟨d, rfl⟩ := Nat.exists_eq_add_of_le h1
    obtain ⟨m, h3, h4⟩ := Iter.add.1 hh
    exact ⟨m, h3, d, by omega, h4⟩

/-! any bytes -/
theorem all_has : ∀ b : UInt8, hasS (notS zeroS) b.toNat = true := by
  have h : ∀ b : Fin 256, hasS (notS zeroS) b.val = true := by decide +kernel
  exact fun b => h ⟨b.toNat, b.toNat_lt⟩
theorem LayH.any (s : List UInt8) : LayH s (fun a p => ((a.step p 0 zeroS).link a.out.length a.out.length 1 (notS zeroS), a.out.length)) (fun i j => j = i ∨ (i < j ∧ j ≤ s.length)) := by
  have all : ∀ a p, Wf a → p < a.out.length → Wf ((a.step p 0 zeroS).link a.out.length a.out.length 1 (notS zeroS)) ∧ Grow a ((a.step p 0 zeroS).link a.out.length a.out.length 1 (notS zeroS)) p ∧ a.out.length < ((a.step p 0 zeroS).link a.out.length a.out.length 1 (notS zeroS)).out.length ∧
      ∀ x0 i j, x0 < a.out.length → (FW s ((a.step p 0 zeroS).link a.out.length a.out.length 1 (notS zeroS)) (x0, i) (a.out.length, j) ↔ ∃ m, FW s a (x0, i) (p, m) ∧ (j = m ∨ (m < j ∧ j ≤ s.length))) := by
    intro a p hw hp
    have hw2 := wf_step (k := 0) (S := zeroS) hw hp
    have hl2 : (a.step p 0 zeroS).out.length = a.out.length + 1 := step_len _ _ _ _
    have hg2 := grow_step (k := 0) (S := zeroS) hp
    have hh : a.out.length < (a.step p 0 zeroS).out.length := by omega
    have hdead : ERow (a.step p 0 zeroS) a.out.length = [] := by
      rw [row_step hp, if_neg (by omega)]
      exact getD_nil (Nat.le_refl _)
    have hrow3 := fun q => row_link (k := 1) (S := notS zeroS) (t := a.out.length) hh q
    have hl3 : ((a.step p 0 zeroS).link a.out.length a.out.length 1 (notS zeroS)).out.length = (a.step p 0 zeroS).out.length := (link_len _ _ _ _ _).1
    have hsub3 : ∀ q, ∀ e ∈ ERow (a.step p 0 zeroS) q, e ∈ ERow ((a.step p 0 zeroS).link a.out.length a.out.length 1 (notS zeroS)) q := fun q e he => by
      rw [hrow3]; split
      · exact List.mem_append.2 (.inl he)
      · exact he
    have hcase : ∀ q, ∀ e ∈ ERow ((a.step p 0 zeroS).link a.out.length a.out.length 1 (notS zeroS)) q, e ∈ ERow (a.step p 0 zeroS) q ∨ (q = a.out.length ∧ e = ⟨1, notS zeroS, a.out.length⟩) := fun q e he => by
      rw [hrow3] at he
      split at he
      · rename_i e1
        rcases List.mem_append.1 he with he | he
        · exact .inl he
        · exact .inr ⟨e1, List.mem_singleton.1 he⟩
      · exact .inl he
    refine ⟨wf_link hw2 hh hh, ⟨by omega, fun q e he => hsub3 q e (hg2.sub q e he), fun q e he => ?_⟩, by omega, fun x0 i j hx => ⟨fun hr => ?_, ?_⟩⟩
    · rcases hcase q e he with he | ⟨rfl, rfl⟩
      · exact hg2.new q e he
      · exact .inr ⟨.inr (Nat.le_refl _), Nat.le_refl _⟩
    · have key : ∀ z, FW s ((a.step p 0 zeroS).link a.out.length a.out.length 1 (notS zeroS)) (x0, i) z → (z.1 < a.out.length ∧ FW s a (x0, i) z) ∨ ∃ m, FW s a (x0, i) (p, m) ∧ z.1 = a.out.length ∧ (z.2 = m ∨ (m < z.2 ∧ z.2 ≤ s.length)) := by
        intro z hz
        induction hz with
        | here => exact .inl ⟨hx, .here⟩
        | @step q u b e h1 he hpl ih =>
          rcases hcase q e he with he2 | ⟨rfl, rfl⟩
          · rcases ih with ⟨hq, hold⟩ | ⟨m, k1, k2, k3⟩
            · have hq : q < a.out.length := hq
              rw [row_step hp] at he2
              split at he2
              · rename_i e1
                rcases List.mem_append.1 he2 with he2 | he2
                · exact .inl ⟨hw q e he2, .step hold he2 hpl⟩
                · rw [List.mem_singleton] at he2; subst he2 e1
                  rw [eps_place] at hpl
                  cases hpl
                  exact .inr ⟨u, hold, rfl, .inl rfl⟩
              · exact .inl ⟨hw q e he2, .step hold he2 hpl⟩
            · have k2 : q = a.out.length := k2
              rw [k2, hdead] at he2
              cases he2
          · rcases ih with ⟨hq, hold⟩ | ⟨m, k1, k2, k3⟩
            · have hq : a.out.length < a.out.length := hq
              omega
            · dsimp only at k3 ⊢
              unfold placeM inB at hpl
              simp at hpl
              exact .inr ⟨m, k1, rfl, .inr (by omega)⟩
      rcases key _ hr with ⟨hbad, _⟩ | ⟨m, k1, _, k3⟩
      · exact absurd hbad (by dsimp only; omega)
      · exact ⟨m, k1, k3⟩
    · rintro ⟨m, h1, hj⟩
      have hbase : FW s ((a.step p 0 zeroS).link a.out.length a.out.length 1 (notS zeroS)) (x0, i) (a.out.length, m) :=
        ((step_hit (k := 0) (S := zeroS) hw hp hx (j := m) (s := s) (i := i)).2 ⟨m, h1, rfl⟩).mono hsub3
      have hgo : ∀ d, m + d ≤ s.length → FW s ((a.step p 0 zeroS).link a.out.length a.out.length 1 (notS zeroS)) (x0, i) (a.out.length, m + d) := by
        intro d
        induction d with
        | zero => exact fun _ => hbase
        | succ d ih =>
          intro hd
          refine Rch.step (e := ⟨1, notS zeroS, a.out.length⟩) (ih (by omega)) ?_ (b := m + (d + 1)) ?_
          · show _ ∈ ERow _ a.out.length
            rw [hrow3, if_pos rfl]; simp
          · have := all_has (s.getD (m + d) 0)
            unfold placeM inB bAt
            simp only [if_true, this, and_true, decide_eq_true_eq]
            rw [if_pos (by omega)]
            rfl
      rcases hj with rfl | ⟨h2, h3⟩
      · exact hbase
      · have := hgo (j - m) (by omega)
        rw [show m + (j - m) = j by omega] at this
        exact this
  exact ⟨fun a p hw hp => (all a p hw hp).1, fun a p hw hp => (all a p hw hp).2.1, fun a p hw hp => ⟨.inr (Nat.le_refl _), (all a p hw hp).2.2.1⟩, fun a p x0 i j hw hp hx => (all a p hw hp).2.2.2 x0 i j hx⟩

mutual
theorem lay_hit (s : List UInt8) : ∀ r : RE, LayH s (layM r) (Hit s r)
  | .byte S => by
    rw [show layM (.byte S) = fun a p => (a.step p 1 S, a.out.length) from by funext a p; rw [layM]]
    refine LayH.edge s 1 S _ fun t i j => ?_
    rw [Hit]
    unfold placeM inB bAt
    simp only [if_true, decide_eq_true_eq]
    constructor
    · intro h
      split at h
      · rename_i h1; cases h; exact ⟨h1, rfl⟩
      · cases h
    · rintro ⟨h1, rfl⟩
      rw [if_pos h1]
  | .bol => by
    rw [show layM .bol = fun a p => (a.step p 2 zeroS, a.out.length) from by funext a p; rw [layM]]
    refine LayH.edge s 2 zeroS _ fun t i j => ?_
    rw [Hit]
    unfold placeM
    simp only [show ¬ ((2 : Nat) = 1) by omega, if_false, if_true]
    constructor
    · intro h
      split at h
      · rename_i h1; cases h; exact ⟨h1, rfl⟩
      · cases h
    · rintro ⟨h1, rfl⟩
      rw [if_pos h1]
  | .eol => by
    rw [show layM .eol = fun a p => (a.step p 3 zeroS, a.out.length) from by funext a p; rw [layM]]
    refine LayH.edge s 3 zeroS _ fun t i j => ?_
    rw [Hit]
    unfold placeM
    simp only [show ¬ ((3 : Nat) = 1) by omega, show ¬ ((3 : Nat) = 2) by omega, if_false, if_true]
    constructor
    · intro h
      split at h
      · rename_i h1; cases h; exact ⟨h1, rfl⟩
      · cases h
    · rintro ⟨h1, rfl⟩
      rw [if_pos h1]
  | .back n => by
    rw [show layM (.back n) = fun a p => ((a.step p 0 zeroS).link a.out.length a.out.length 1 (notS zeroS), a.out.length) from by funext a p; rw [layM]]
    exact (LayH.any s).iff fun i j => by rw [Hit]
  | .rep lo hi k => by
    rw [show layM (.rep lo hi k) = repA lo hi k (layM k) from by funext a p; rw [layM]]
    exact (LayH.rep (lay_hit s k) lo hi k).iff fun i j => by rw [Hit]
  | .cat ks => by
    rw [show layM (.cat ks) = layL ks from by funext a p; rw [layM]]
    exact (layL_hit s ks).iff fun i j => by rw [Hit]
  | .group n k => by
    rw [show layM (.group n k) = layM k from by funext a p; rw [layM]]
    exact (lay_hit s k).iff fun i j => by rw [Hit]
theorem layL_hit (s : List UInt8) : ∀ ks : List RE, LayH s (layL ks) (HitL s ks)
  | [] => by
    rw [show layL [] = fun a p => (a, p) from by funext a p; rw [layL]]
    exact (LayH.id s).iff fun i j => by rw [HitL]
  | k :: ks => by
    rw [show layL (k :: ks) = fun a p => layL ks (layM k a p).1 (layM k a p).2 from by funext a p; rw [layL]]
    exact ((lay_hit s k).seq (layL_hit s ks)).iff fun i j => by rw [HitL]
end
theorem make_hit (s : List UInt8) (ks : List RE) (i j : Nat) : FW s (makeM ks).1 (0, i) ((makeM ks).2, j) ↔ HitL s ks i j := by
  have hw : Wf (AM.add ⟨[], []⟩) := fun q e he => by
    rw [show ERow (AM.add ⟨[], []⟩) q = ERow ⟨[], []⟩ q from getD_new _ _] at he
    cases he
  refine ((layL_hit s ks).hit (AM.add ⟨[], []⟩) 0 0 i j hw (by decide) (by decide)).trans ⟨fun ⟨m, h1, h2⟩ => ?_, fun h => ⟨i, .here, h⟩⟩
  have := Rch.dead rfl h1
  injection this with _ e
  subst e
  exact h2
theorem ends_iff {ks : List RE} (hc : costL ks + 1 ≤ 131072) (s : List UInt8) {i j : Nat} (st : Nat) (hi : i ≤ s.length) (hj : j ≤ s.length) : (endsM (makeM ks) s i st).marks.getD j false = true ↔ HitL s ks i j := by
  obtain ⟨hr, hlt⟩ := make_room ks hc
  obtain ⟨done, hd⟩ := flood_spec hr.eo s (x0 := (0, i)) (by omega) hi (makeM ks).2 true st
  exact (hd.marks j hj).trans (make_hit s ks i j)

/-! backward -/
theorem place_rev (s : List UInt8) (k t q : Nat) (S : BS) (a b : Nat) : placeM s true ⟨k, S, t⟩ a = some b ↔ placeM s false ⟨k, S, q⟩ b = some a := by
  unfold placeM inB bAt
  dsimp only
  by_cases h1 : k = 1
  · simp only [h1, if_true, Bool.false_eq_true, if_false, decide_eq_true_eq]
    constructor
    · intro h
      split at h
      · rename_i h2; cases h
        rw [show a + 1 - 1 = a by omega, if_pos ⟨⟨by omega, h2.1⟩, h2.2⟩]
      · cases h
    · intro h
      split at h
      · rename_i h2; cases h
        rw [if_pos ⟨h2.1.2, h2.2⟩, show b - 1 + 1 = b by omega]
      · cases h
  · simp only [h1, if_false]
    by_cases h2 : k = 2
    · simp only [h2, if_true]
      constructor <;> intro h <;> split at h <;> first | (rename_i h3; cases h; rw [if_pos h3]) | cases h
    · simp only [h2, if_false]
      by_cases h3 : k = 3
      · simp only [h3, if_true]
        constructor <;> intro h <;> split at h <;> first | (rename_i h4; cases h; rw [if_pos h4]) | cases h
      · simp only [h3, if_false, Option.some.injEq]
        exact eq_comm
def Rev (a : AM) : Prop := a.back.length = a.out.length ∧ ∀ q t k S, (⟨k, S, t⟩ : Ed) ∈ a.out.getD q [] ↔ (⟨k, S, q⟩ : Ed) ∈ a.back.getD t []
theorem rev_add {a : AM} (h : Rev a) : Rev a.add := ⟨by simp [AM.add, h.1], fun q t k S => by
  rw [show a.add.out.getD q [] = a.out.getD q [] from getD_new _ _, show a.add.back.getD t [] = a.back.getD t [] from getD_new _ _]
  exact h.2 q t k S⟩
theorem rev_link {a : AM} {f t k : Nat} {S : BS} (h : Rev a) (hf : f < a.out.length) (ht : t < a.out.length) : Rev (a.link f t k S) := by
  refine ⟨by rw [(link_len _ _ _ _ _).1, (link_len _ _ _ _ _).2]; exact h.1, fun q t' k' S' => ?_⟩
  rw [show (a.link f t k S).out.getD q [] = _ from getD_addTo _ _ _ _ hf, show (a.link f t k S).back.getD t' [] = _ from getD_addTo _ _ _ _ (by rw [h.1]; exact ht)]
  have h2 := h.2 q t' k' S'
  have e1 : (⟨k', S', t'⟩ : Ed) ∈ (if q = f then a.out.getD q [] ++ [⟨k, S, t⟩] else a.out.getD q []) ↔ (⟨k', S', t'⟩ : Ed) ∈ a.out.getD q [] ∨ (q = f ∧ k' = k ∧ S' = S ∧ t' = t) := by
    split <;> simp_all
  have e2 : (⟨k', S', q⟩ : Ed) ∈ (if t' = t then a.back.getD t' [] ++ [⟨k, S, f⟩] else a.back.getD t' []) ↔ (⟨k', S', q⟩ : Ed) ∈ a.back.getD t' [] ∨ (t' = t ∧ k' = k ∧ S' = S ∧ q = f) := by
    split <;> simp_all
  rw [e1, e2, h2]
  constructor
  · rintro (h | ⟨h1, h2, h3, h4⟩)
    · exact .inl h
    · exact .inr ⟨h4, h2, h3, h1⟩
  · rintro (h | ⟨h1, h2, h3, h4⟩)
    · exact .inl h
    · exact .inr ⟨h4, h2, h3, h1⟩
theorem rev_step {a : AM} {f k : Nat} {S : BS} (h : Rev a) (hf : f < a.out.length) : Rev (a.step f k S) := rev_link (rev_add h) (by rw [add_len]; omega) (by rw [add_len]; omega)
theorem Rch.rev {es es' : List (List Ed)} {s : List UInt8} (hrev : ∀ q t k S, (⟨k, S, t⟩ : Ed) ∈ es.getD q [] ↔ (⟨k, S, q⟩ : Ed) ∈ es'.getD t []) {x y : Nat × Nat} : Rch es s true x y ↔ Rch es' s false y x := by
  constructor
  · intro h
    induction h with
    | here => exact .here
    | @step q a b e h1 he hp ih =>
      obtain ⟨k, S, t⟩ := e
      exact Rch.trans (Rch.step (e := ⟨k, S, q⟩) .here ((hrev q t k S).1 he) ((place_rev s k t q S a b).1 hp)) ih
  · intro h
    induction h with
    | here => exact .here
    | @step q a b e h1 he hp ih =>
      obtain ⟨k, S, t⟩ := e
      exact Rch.trans (Rch.step (e := ⟨k, S, q⟩) .here ((hrev t q k S).2 he) ((place_rev s k q t S b a).2 hp)) ih
end Go.Proofs.Ytblpgpgbnlhjlaa
namespace Go.Proofs.Ytblpgpgbnlhjlaa
open Go Go.RowKit Sl
set_option maxRecDepth 100000
set_option maxHeartbeats 8000000
set_option linter.unusedVariables false
set_option linter.unusedSimpArgs false
attribute [local irreducible] ES EL PX wps

structure Inv (P : AM → Prop) : Prop where
  add : ∀ a, P a → P a.add
  link : ∀ a f t k S, P a → f < a.out.length → t < a.out.length → P (a.link f t k S)
def Pres (P : AM → Prop) (f : AM → Nat → AM × Nat) : Prop := ∀ a p, P a → p < a.out.length → P (f a p).1 ∧ (f a p).2 < (f a p).1.out.length ∧ a.out.length ≤ (f a p).1.out.length
theorem Inv.step {P : AM → Prop} (hP : Inv P) {a : AM} {f k : Nat} {S : BS} (h : P a) (hf : f < a.out.length) : P (a.step f k S) :=
  hP.link _ _ _ _ _ (hP.add _ h) (by rw [add_len]; omega) (by rw [add_len]; omega)
theorem times_pres {P : AM → Prop} {f : AM → Nat → AM × Nat} (hf : Pres P f) : ∀ n, Pres P (timesA f n)
  | 0, a, p, h, hp => ⟨h, hp, Nat.le_refl _⟩
  | n + 1, a, p, h, hp => by
    have h1 := hf a p h hp
    have h2 := times_pres hf n _ _ h1.1 h1.2.1
    exact ⟨h2.1, h2.2.1, Nat.le_trans h1.2.2 h2.2.2⟩
theorem opt_pres {P : AM → Prop} (hP : Inv P) {f : AM → Nat → AM × Nat} (hf : Pres P f) (o : Nat) : ∀ n a p, P a → p < a.out.length → o < a.out.length → P (optA f o n a p) ∧ a.out.length ≤ (optA f o n a p).out.length
  | 0, a, p, h, _, _ => ⟨h, Nat.le_refl _⟩
  | n + 1, a, p, h, hp, ho => by
    have h1 := hf a p h hp
    have hl : ((f a p).1.link (f a p).2 o 0 zeroS).out.length = (f a p).1.out.length := (link_len _ _ _ _ _).1
    have h2 := opt_pres hP hf o n _ (f a p).2 (hP.link _ _ _ 0 zeroS h1.1 h1.2.1 (show o < _ by omega)) (by omega) (by omega)
    exact ⟨h2.1, by have := h2.2; rw [optA]; omega⟩
theorem rep_pres {P : AM → Prop} (hP : Inv P) {f : AM → Nat → AM × Nat} (hf : Pres P f) (lo : Nat) (hi : Int) (k : RE) : Pres P (repA lo hi k f) := fun a p h hp => by
  have h1 := times_pres hf (leastM lo k) a p h hp
  unfold repA
  dsimp only
  generalize timesA f (leastM lo k) a p = x at h1
  obtain ⟨a1, p1⟩ := x
  dsimp only at h1 ⊢
  split
  · exact h1
  · have h2 : P (a1.step p1 0 zeroS) := hP.step h1.1 h1.2.1
    have hl2 : (a1.step p1 0 zeroS).out.length = a1.out.length + 1 := step_len _ _ _ _
    split
    · have h3 := hf (a1.step p1 0 zeroS) a1.out.length h2 (by omega)
      dsimp only
      refine ⟨hP.link _ _ _ _ _ h3.1 h3.2.1 (by omega), ?_, ?_⟩ <;> rw [(link_len _ _ _ _ _).1] <;> omega
    · have h3 := opt_pres hP hf a1.out.length (hi.toNat - lo) (a1.step p1 0 zeroS) p1 h2 (by omega) (by omega)
      exact ⟨h3.1, by dsimp only; omega, by dsimp only; omega⟩
mutual
theorem lay_pres {P : AM → Prop} (hP : Inv P) : ∀ r : RE, Pres P (layM r)
  | .byte S, a, p, h, hp => by
    rw [layM]
    exact ⟨hP.step h hp, by dsimp only; rw [step_len]; omega, by dsimp only; rw [step_len]; omega⟩
  | .bol, a, p, h, hp => by
    rw [layM]
    exact ⟨hP.step h hp, by dsimp only; rw [step_len]; omega, by dsimp only; rw [step_len]; omega⟩
  | .eol, a, p, h, hp => by
    rw [layM]
    exact ⟨hP.step h hp, by dsimp only; rw [step_len]; omega, by dsimp only; rw [step_len]; omega⟩
  | .back n, a, p, h, hp => by
    rw [layM]
    refine ⟨hP.link _ _ _ _ _ (hP.step h hp) (by rw [step_len]; omega) (by rw [step_len]; omega), ?_, ?_⟩ <;> dsimp only <;> rw [(link_len _ _ _ _ _).1, step_len] <;> omega
  | .rep lo hi k, a, p, h, hp => by
    rw [layM]
    exact rep_pres hP (lay_pres hP k) lo hi k a p h hp
  | .cat ks, a, p, h, hp => by
    rw [layM]
    exact layL_pres hP ks a p h hp
  | .group n k, a, p, h, hp => by
    rw [layM]
    exact lay_pres hP k a p h hp
theorem layL_pres {P : AM → Prop} (hP : Inv P) : ∀ ks : List RE, Pres P (layL ks)
  | [], a, p, h, hp => by
    rw [layL]
    exact ⟨h, hp, Nat.le_refl _⟩
  | k :: ks, a, p, h, hp => by
    rw [layL]
    have h1 := lay_pres hP k a p h hp
    have h2 := layL_pres hP ks _ _ h1.1 h1.2.1
    exact ⟨h2.1, h2.2.1, Nat.le_trans h1.2.2 h2.2.2⟩
end
theorem make_rev (ks : List RE) : Rev (makeM ks).1 := by
  have h0 : Rev ⟨[], []⟩ := ⟨rfl, fun q t k S => by simp⟩
  exact (layL_pres (P := Rev) ⟨fun _ h => rev_add h, fun _ _ _ _ _ h h1 h2 => rev_link h h1 h2⟩ ks (AM.add ⟨[], []⟩) 0 (rev_add h0) (by decide)).1
theorem starts_iff {ks : List RE} (hc : costL ks + 1 ≤ 131072) (s : List UInt8) {i j : Nat} (st : Nat) (hi : i ≤ s.length) (hj : j ≤ s.length) : (startsM (makeM ks) s j st).marks.getD i false = true ↔ HitL s ks i j := by
  obtain ⟨hr, hlt⟩ := make_room ks hc
  obtain ⟨done, hd⟩ := flood_spec hr.eb s (x0 := ((makeM ks).2, j)) (by rw [hr.same]; exact hlt) hj 0 false st
  refine (hd.marks i hi).trans (Iff.trans ?_ (make_hit s ks i j))
  exact (Rch.rev (make_rev ks).2).symm
theorem startsM_steps {A : AM × Nat} (hr : A.1.Room 0) {s : List UInt8} (hs : s.length ≤ 1024) (j st : Nat) : (startsM A s j st).steps ≤ st + 17609365913600 :=
  floodM_steps (by have := hr.out; have := hr.same; omega) (fun l hl => by have := hr.rb l hl; omega) s hs (A.2, j) 0 false st
end Go.Proofs.Ytblpgpgbnlhjlaa
