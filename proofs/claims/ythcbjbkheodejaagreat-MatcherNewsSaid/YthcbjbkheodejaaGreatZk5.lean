/- Texts of this claim, bundled. -/
import Derived.Test.YthcbjbkheodejaaGreatZk4
set_option linter.unusedVariables false
set_option linter.unusedSimpArgs false
namespace Go.Proofs.YthcbjbkheodejaaGreat
open Go Go.RowKit Sl
set_option maxRecDepth 100000
set_option maxHeartbeats 8000000
attribute [local irreducible] ES EL PX wps
def Iter (R : Nat → Nat → Prop) : Nat → Nat → Nat → Prop
  | 0, i, j => i = j
  | c + 1, i, j => ∃ m, R i m ∧ Iter R c m j
theorem Iter.snoc {R : Nat → Nat → Prop} : ∀ {c i m j}, Iter R c i m → R m j → Iter R (c + 1) i j
  | 0, i, m, j, h, hr => by
    have h : i = m := h
    subst h
    exact ⟨j, hr, rfl⟩
  | c + 1, i, m, j, ⟨u, h1, h2⟩, hr => ⟨u, h1, Iter.snoc h2 hr⟩
theorem Iter.add {R : Nat → Nat → Prop} : ∀ {c d i j}, Iter R (c + d) i j ↔ ∃ m, Iter R c i m ∧ Iter R d m j
  | 0, d, i, j => by
    rw [Nat.zero_add]
    exact ⟨fun h => ⟨i, rfl, h⟩, fun ⟨m, h1, h2⟩ => by cases (show i = m from h1); exact h2⟩
  | c + 1, d, i, j => by
    rw [Nat.succ_add]
    constructor
    · rintro ⟨u, h1, h2⟩
      obtain ⟨m, h3, h4⟩ := Iter.add.1 h2
      exact ⟨m, ⟨u, h1, h3⟩, h4⟩
    · rintro ⟨m, ⟨u, h1, h3⟩, h4⟩
      exact ⟨u, h1, Iter.add.2 ⟨m, h3, h4⟩⟩
def RepN (lo : Nat) (hi : Int) (k : RE) (c : Nat) : Prop := leastM lo k ≤ c ∧ (if hi = (lo : Int) ∨ k.thin = true then c = leastM lo k else hi < 0 ∨ c ≤ leastM lo k + (hi.toNat - lo))
mutual
def Hit (s : List UInt8) : RE → Nat → Nat → Prop
  | .byte S, i, j => (i < s.length ∧ hasS S (s.getD i 0).toNat = true) ∧ j = i + 1
  | .bol, i, j => i = 0 ∧ j = i
  | .eol, i, j => i = s.length ∧ j = i
  | .back _, i, j => j = i ∨ (i < j ∧ j ≤ s.length)
  | .group _ k, i, j => Hit s k i j
  | .cat ks, i, j => HitL s ks i j
  | .rep lo hi k, i, j => ∃ c, RepN lo hi k c ∧ Iter (Hit s k) c i j
def HitL (s : List UInt8) : List RE → Nat → Nat → Prop
  | [], i, j => i = j
  | k :: ks, i, j => ∃ m, Hit s k i m ∧ HitL s ks m j
end
abbrev ERow (a : AM) (q : Nat) : List Ed := a.out.getD q []
abbrev FW (s : List UInt8) (a : AM) (x y : Nat × Nat) : Prop := Rch a.out s true x y
theorem getD_nil {l : List (List Ed)} {q : Nat} (h : l.length ≤ q) : l.getD q [] = [] := by
  rw [List.getD_eq_getElem?_getD, List.getElem?_eq_none h]; rfl
theorem row_lt {a : AM} {q : Nat} {e : Ed} (h : e ∈ ERow a q) : q < a.out.length := by
  apply Decidable.byContradiction
  intro hn
  rw [show ERow a q = [] from getD_nil (by omega)] at h
  cases h
theorem getD_addTo (l : List (List Ed)) (f q : Nat) (e : Ed) (hf : f < l.length) : (addTo l f e).getD q [] = if q = f then l.getD q [] ++ [e] else l.getD q [] := by
  unfold addTo
  by_cases h : q = f
  · subst h
    rw [if_pos rfl]
    simp [List.getD_eq_getElem?_getD, hf]
  · rw [if_neg h, List.getD_eq_getElem?_getD, List.getElem?_set, if_neg (fun e => h e.symm), ← List.getD_eq_getElem?_getD]
theorem getD_new (l : List (List Ed)) (q : Nat) : (l ++ [[]]).getD q [] = l.getD q [] := by
  rw [List.getD_eq_getElem?_getD, List.getD_eq_getElem?_getD]
  by_cases h : q < l.length
  · rw [List.getElem?_append_left h]
  · rw [List.getElem?_append_right (by omega), List.getElem?_eq_none (show l.length ≤ q by omega)]
    cases q - l.length with
    | zero => rfl
    | succ n => rfl
theorem row_link {a : AM} {f t k : Nat} {S : BS} (hf : f < a.out.length) (q : Nat) : ERow (a.link f t k S) q = if q = f then ERow a q ++ [⟨k, S, t⟩] else ERow a q := getD_addTo _ _ _ _ hf
theorem row_step {a : AM} {f k : Nat} {S : BS} (hf : f < a.out.length) (q : Nat) : ERow (a.step f k S) q = if q = f then ERow a q ++ [⟨k, S, a.out.length⟩] else ERow a q := by
  unfold AM.step
  rw [row_link (by rw [add_len]; omega), show ERow a.add q = ERow a q from getD_new _ _]
theorem Rch.mono {es es' : List (List Ed)} {s : List UInt8} {fwd : Bool} {x y : Nat × Nat} (h : ∀ q e, e ∈ es.getD q [] → e ∈ es'.getD q []) (hr : Rch es s fwd x y) : Rch es' s fwd x y := by
  induction hr with
  | here => exact .here
  | step _ he hp ih => exact .step ih (h _ _ he) hp
theorem Rch.trans {es : List (List Ed)} {s : List UInt8} {fwd : Bool} {x y z : Nat × Nat} (h1 : Rch es s fwd x y) (h2 : Rch es s fwd y z) : Rch es s fwd x z := by
  induction h2 with
  | here => exact h1
  | step _ he hp ih => exact .step ih he hp
theorem Rch.dead {es : List (List Ed)} {s : List UInt8} {fwd : Bool} {q i : Nat} {y : Nat × Nat} (hd : es.getD q [] = []) (h : Rch es s fwd (q, i) y) : y = (q, i) := by
  induction h with
  | here => rfl
  | step _ he _ ih =>
    injection ih with h1 h2
    subst h1
    rw [hd] at he
    cases he
theorem Rch.inv {es : List (List Ed)} {s : List UInt8} {fwd : Bool} {x : Nat × Nat} {t b : Nat} (h : Rch es s fwd x (t, b)) : x = (t, b) ∨ ∃ q a e, Rch es s fwd x (q, a) ∧ e ∈ es.getD q [] ∧ e.to = t ∧ placeM s fwd e a = some b := by
  cases h with
  | here => exact .inl rfl
  | step h he hp => exact .inr ⟨_, _, _, h, he, rfl, hp⟩
theorem eps_place (s : List UInt8) (fwd : Bool) (S : BS) (t a : Nat) : placeM s fwd ⟨0, S, t⟩ a = some a := rfl
def Wf (a : AM) : Prop := ∀ q, ∀ e ∈ ERow a q, e.to < a.out.length
theorem wf_link {a : AM} {f t k : Nat} {S : BS} (h : Wf a) (hf : f < a.out.length) (ht : t < a.out.length) : Wf (a.link f t k S) := fun q e he => by
  rw [(link_len _ _ _ _ _).1]
  rw [row_link hf] at he
  split at he
  · rcases List.mem_append.1 he with he | he
    · exact h q e he
    · rw [List.mem_singleton] at he; subst he; exact ht
  · exact h q e he
theorem wf_step {a : AM} {f k : Nat} {S : BS} (h : Wf a) (hf : f < a.out.length) : Wf (a.step f k S) := fun q e he => by
  rw [step_len]
  rw [row_step hf] at he
  split at he
  · rcases List.mem_append.1 he with he | he
    · have := h q e he; omega
    · rw [List.mem_singleton] at he; subst he; exact Nat.lt_succ_self _
  · have := h q e he; omega
structure Grow (a b : AM) (p : Nat) : Prop where
  len : a.out.length ≤ b.out.length
  sub : ∀ q, ∀ e ∈ ERow a q, e ∈ ERow b q
  new : ∀ q, ∀ e ∈ ERow b q, e ∈ ERow a q ∨ ((q = p ∨ a.out.length ≤ q) ∧ a.out.length ≤ e.to)
theorem Grow.refl (a : AM) (p : Nat) : Grow a a p := ⟨Nat.le_refl _, fun _ _ h => h, fun _ _ h => .inl h⟩
theorem Grow.comp {a b c : AM} {p q : Nat} (h1 : Grow a b p) (h2 : Grow b c q) (hq : q = p ∨ a.out.length ≤ q) : Grow a c p := by
  have := h1.len
  refine ⟨Nat.le_trans h1.len h2.len, fun r e h => h2.sub r e (h1.sub r e h), fun r e h => ?_⟩
  rcases h2.new r e h with h | ⟨hr, ht⟩
  · exact h1.new r e h
  · right
    refine ⟨?_, by omega⟩
    rcases hr with rfl | hr
    · exact hq
    · right; omega
theorem Grow.old {s : List UInt8} {a b : AM} {p x0 i y j : Nat} (h : Grow a b p) (hw : Wf a) (hx : x0 < a.out.length) (hy : y < a.out.length) : FW s b (x0, i) (y, j) ↔ FW s a (x0, i) (y, j) := by
  refine ⟨fun hr => ?_, fun hr => hr.mono h.sub⟩
  have key : ∀ z, FW s b (x0, i) z → z.1 < a.out.length → FW s a (x0, i) z := by
    intro z hz
    induction hz with
    | here => exact fun _ => .here
    | step h1 he hp ih =>
      intro hlt
      rcases h.new _ _ he with he | ⟨_, h3⟩
      · exact .step (ih (row_lt he)) he hp
      · have hlt : _ < a.out.length := hlt
        dsimp only at hlt
        omega
  exact key _ hr hy
theorem grow_step {a : AM} {p k : Nat} {S : BS} (hp : p < a.out.length) : Grow a (a.step p k S) p := by
  refine ⟨by rw [step_len]; omega, fun q e h => ?_, fun q e h => ?_⟩
  · rw [row_step hp]; split
    · exact List.mem_append.2 (.inl h)
    · exact h
  · rw [row_step hp] at h
    split at h
    · rename_i e1
      rcases List.mem_append.1 h with h | h
      · exact .inl h
      · rw [List.mem_singleton] at h; subst h; exact .inr ⟨.inl e1, Nat.le_refl _⟩
    · exact .inl h
theorem step_hit {s : List UInt8} {a : AM} {p k x0 i j : Nat} {S : BS} (hw : Wf a) (hp : p < a.out.length) (hx : x0 < a.out.length) : FW s (a.step p k S) (x0, i) (a.out.length, j) ↔ ∃ m, FW s a (x0, i) (p, m) ∧ placeM s true ⟨k, S, a.out.length⟩ m = some j := by
  have hg := grow_step (k := k) (S := S) hp
  constructor
  · intro h
    rcases h.inv with h | ⟨q, m, e, h1, he, ht, hpl⟩
    · injection h with h1 h2; omega
    · have he' : e ∈ ERow (a.step p k S) q := he
      rw [row_step hp] at he'
      split at he'
      · rename_i e1
        rcases List.mem_append.1 he' with he' | he'
        · have := hw q e he'; omega
        · rw [List.mem_singleton] at he'; subst he' e1
          exact ⟨m, (hg.old hw hx hp).1 h1, hpl⟩
      · have := hw q e he'; omega
  · rintro ⟨m, h1, h2⟩
    refine Rch.step (e := ⟨k, S, a.out.length⟩) (h1.mono hg.sub) ?_ h2
    show _ ∈ ERow (a.step p k S) p
    rw [row_step hp, if_pos rfl]
    simp
structure LayH (s : List UInt8) (f : AM → Nat → AM × Nat) (R : Nat → Nat → Prop) : Prop where
  wf : ∀ a p, Wf a → p < a.out.length → Wf (f a p).1
  grow : ∀ a p, Wf a → p < a.out.length → Grow a (f a p).1 p
  out : ∀ a p, Wf a → p < a.out.length → ((f a p).2 = p ∨ a.out.length ≤ (f a p).2) ∧ (f a p).2 < (f a p).1.out.length
  hit : ∀ a p x0 i j, Wf a → p < a.out.length → x0 < a.out.length → (FW s (f a p).1 (x0, i) ((f a p).2, j) ↔ ∃ m, FW s a (x0, i) (p, m) ∧ R m j)
theorem LayH.iff {s : List UInt8} {f : AM → Nat → AM × Nat} {R R' : Nat → Nat → Prop} (h : LayH s f R) (e : ∀ i j, R i j ↔ R' i j) : LayH s f R' :=
  ⟨h.wf, h.grow, h.out, fun a p x0 i j h1 h2 h3 => (h.hit a p x0 i j h1 h2 h3).trans ⟨fun ⟨m, a, b⟩ => ⟨m, a, (e _ _).1 b⟩, fun ⟨m, a, b⟩ => ⟨m, a, (e _ _).2 b⟩⟩⟩
theorem LayH.id (s : List UInt8) : LayH s (fun a p => (a, p)) (fun i j => i = j) :=
  ⟨fun _ _ h _ => h, fun a p _ _ => Grow.refl a p, fun _ _ _ h => ⟨.inl rfl, h⟩, fun a p x0 i j _ _ _ => ⟨fun h => ⟨j, h, rfl⟩, fun ⟨m, h, e⟩ => e ▸ h⟩⟩
theorem LayH.seq {s : List UInt8} {f g : AM → Nat → AM × Nat} {R R' : Nat → Nat → Prop} (h1 : LayH s f R) (h2 : LayH s g R') : LayH s (fun a p => g (f a p).1 (f a p).2) (fun i j => ∃ m, R i m ∧ R' m j) := by
  refine ⟨fun a p hw hp => h2.wf _ _ (h1.wf a p hw hp) (h1.out a p hw hp).2, fun a p hw hp => (h1.grow a p hw hp).comp (h2.grow _ _ (h1.wf a p hw hp) (h1.out a p hw hp).2) (h1.out a p hw hp).1, fun a p hw hp => ?_, fun a p x0 i j hw hp hx => ?_⟩
  · have e1 := h1.out a p hw hp
    have e2 := h2.out _ _ (h1.wf a p hw hp) e1.2
    have e3 := (h1.grow a p hw hp).len
    refine ⟨?_, e2.2⟩
    rcases e2.1 with e | e
    · rw [e]; exact e1.1
    · right; omega
  · have e1 := h1.out a p hw hp
    have e3 := (h1.grow a p hw hp).len
    rw [h2.hit _ _ x0 i j (h1.wf a p hw hp) e1.2 (by omega)]
    constructor
    · rintro ⟨m, hm, hr⟩
      obtain ⟨m0, h3, h4⟩ := (h1.hit a p x0 i m hw hp hx).1 hm
      exact ⟨m0, h3, m, h4, hr⟩
    · rintro ⟨m0, h3, m, h4, hr⟩
      exact ⟨m, (h1.hit a p x0 i m hw hp hx).2 ⟨m0, h3, h4⟩, hr⟩
theorem LayH.times {s : List UInt8} {f : AM → Nat → AM × Nat} {R : Nat → Nat → Prop} (h : LayH s f R) : ∀ n, LayH s (timesA f n) (Iter R n)
  | 0 => LayH.id s
  | n + 1 => (LayH.seq h (LayH.times h n))
theorem LayH.edge (s : List UInt8) (k : Nat) (S : BS) (R : Nat → Nat → Prop) (hR : ∀ t i j, placeM s true ⟨k, S, t⟩ i = some j ↔ R i j) : LayH s (fun a p => (a.step p k S, a.out.length)) R :=
  ⟨fun a p hw hp => wf_step hw hp, fun a p _ hp => grow_step hp, fun a p _ hp => ⟨.inr (Nat.le_refl _), by rw [step_len]; exact Nat.lt_succ_self _⟩, fun a p x0 i j hw hp hx => (step_hit hw hp hx).trans ⟨fun ⟨m, h1, h2⟩ => ⟨m, h1, (hR _ _ _).1 h2⟩, fun ⟨m, h1, h2⟩ => ⟨m, h1, (hR _ _ _).2 h2⟩⟩⟩
def starA (f : AM → Nat → AM × Nat) (a : AM) (p : Nat) : AM × Nat :=
  ((f (a.step p 0 zeroS) a.out.length).1.link (f (a.step p 0 zeroS) a.out.length).2 a.out.length 0 zeroS, a.out.length)
theorem LayH.star {s : List UInt8} {f : AM → Nat → AM × Nat} {R : Nat → Nat → Prop} (h : LayH s f R) : LayH s (starA f) (fun i j => ∃ c, Iter R c i j) := by
  have all : ∀ a p, Wf a → p < a.out.length → Wf (starA f a p).1 ∧ Grow a (starA f a p).1 p ∧ a.out.length < (starA f a p).1.out.length ∧ ∀ x0 i j, x0 < a.out.length → (FW s (starA f a p).1 (x0, i) (a.out.length, j) ↔ ∃ m, FW s a (x0, i) (p, m) ∧ ∃ c, Iter R c m j) := by
    intro a p hw hp
    have hw2 := wf_step (k := 0) (S := zeroS) hw hp
    have hl2 : (a.step p 0 zeroS).out.length = a.out.length + 1 := step_len _ _ _ _
    have hh : a.out.length < (a.step p 0 zeroS).out.length := by omega
    have hg2 := grow_step (k := 0) (S := zeroS) hp
    have hw3 := h.wf _ _ hw2 hh
    have hg3 := h.grow _ _ hw2 hh
    obtain ⟨ho, hlt⟩ := h.out _ _ hw2 hh
    have hhit := fun x0 i j => h.hit _ a.out.length x0 i j hw2 hh
    have hrow2 := fun q => row_step (k := 0) (S := zeroS) hp q
    unfold starA
    dsimp only
    generalize f (a.step p 0 zeroS) a.out.length = y at hw3 hg3 ho hlt hhit
    obtain ⟨a3, q3⟩ := y
    dsimp only at hw3 hg3 ho hlt hhit ⊢
    have hl3 := hg3.len
    have hrow4 := fun q => row_link (k := 0) (S := zeroS) (t := a.out.length) hlt q
    have hsub4 : ∀ q, ∀ e ∈ ERow a3 q, e ∈ ERow (a3.link q3 a.out.length 0 zeroS) q := fun q e he => by
      rw [hrow4]; split
      · exact List.mem_append.2 (.inl he)
      · exact he
    have hl4 : (a3.link q3 a.out.length 0 zeroS).out.length = a3.out.length := (link_len _ _ _ _ _).1
    have hdead : ERow (a.step p 0 zeroS) a.out.length = [] := by
      rw [hrow2, if_neg (by omega)]
      exact getD_nil (Nat.le_refl _)
    refine ⟨wf_link hw3 hlt (by omega), ⟨by rw [hl4]; omega, fun q e he => hsub4 q e (hg3.sub q e (hg2.sub q e he)), fun q e he => ?_⟩, by rw [hl4]; omega, fun x0 i j hx => ⟨fun hr => ?_, ?_⟩⟩
    · have h23 := hg2.comp hg3 (.inr (Nat.le_refl _))
      rw [hrow4] at he
      split at he
      · rename_i e1
        rcases List.mem_append.1 he with he | he
        · exact h23.new q e he
        · rw [List.mem_singleton] at he; subst he e1
          refine .inr ⟨.inr (by omega), Nat.le_refl _⟩
      · exact h23.new q e he
    · have key : ∀ z, FW s (a3.link q3 a.out.length 0 zeroS) (x0, i) z → (z.1 < a.out.length ∧ FW s a (x0, i) z) ∨ ∃ m c m', FW s a (x0, i) (p, m) ∧ Iter R c m m' ∧ FW s a3 (a.out.length, m') z := by
        intro z hz
        induction hz with
        | here => exact .inl ⟨hx, .here⟩
        | @step q u b e h1 he hpl ih =>
          have he' : e ∈ ERow (a3.link q3 a.out.length 0 zeroS) q := he
          rw [hrow4] at he'
          have hcase : e ∈ ERow a3 q ∨ (q = q3 ∧ e = ⟨0, zeroS, a.out.length⟩) := by
            split at he'
            · rename_i e1
              rcases List.mem_append.1 he' with he' | he'
              · exact .inl he'
              · exact .inr ⟨e1, List.mem_singleton.1 he'⟩
            · exact .inl he'
          rcases hcase with he3 | ⟨rfl, rfl⟩
          · rcases ih with ⟨hq, hold⟩ | ⟨m, c, m', k1, k2, k3⟩
            · have hq : q < a.out.length := hq
              rcases hg3.new q e he3 with he2 | ⟨hbad, _⟩
              · rw [hrow2] at he2
                split at he2
                · rename_i e1
                  rcases List.mem_append.1 he2 with he2 | he2
                  · exact .inl ⟨hw q e he2, .step hold he2 hpl⟩
                  · rw [List.mem_singleton] at he2; subst he2 e1
                    rw [eps_place] at hpl
                    cases hpl
                    exact .inr ⟨u, 0, u, hold, rfl, .here⟩
                · exact .inl ⟨hw q e he2, .step hold he2 hpl⟩
              · omega
            · exact .inr ⟨m, c, m', k1, k2, .step k3 he3 hpl⟩
          · rw [eps_place] at hpl
            cases hpl
            rcases ih with ⟨hq, hold⟩ | ⟨m, c, m', k1, k2, k3⟩
            · have hq : q < a.out.length := hq
              omega
            · obtain ⟨m2, k4, k5⟩ := (hhit _ _ _ hh).1 k3
              have := Rch.dead hdead k4
              injection this with _ e2
              subst e2
              exact .inr ⟨m, c + 1, u, k1, k2.snoc k5, .here⟩
      rcases key _ hr with ⟨hbad, _⟩ | ⟨m, c, m', k1, k2, k3⟩
      · exact absurd hbad (by dsimp only; omega)
      · have k4 := (hg3.old hw2 hh hh).1 k3
        have := Rch.dead hdead k4
        injection this with _ e2
        subst e2
        exact ⟨m, k1, c, k2⟩
    · rintro ⟨m, h1, c, hc⟩
      have hbase : FW s (a3.link q3 a.out.length 0 zeroS) (x0, i) (a.out.length, m) := by
        have h2 := (step_hit (k := 0) (S := zeroS) hw hp hx (j := m) (s := s) (i := i)).2 ⟨m, h1, rfl⟩
        exact (h2.mono hg3.sub).mono hsub4
      clear h1
      induction c generalizing m with
      | zero =>
        cases (show m = j from hc)
        exact hbase
      | succ c ih =>
        obtain ⟨m1, k1, k2⟩ := hc
        refine ih m1 k2 ?_
        have h3 : FW s a3 (a.out.length, m) (q3, m1) := (hhit _ _ _ hh).2 ⟨m, .here, k1⟩
        refine Rch.step (e := ⟨0, zeroS, a.out.length⟩) (hbase.trans (h3.mono hsub4)) ?_ (eps_place _ _ _ _ _)
        show _ ∈ ERow _ q3
        rw [hrow4, if_pos rfl]
        simp
  exact ⟨fun a p hw hp => (all a p hw hp).1, fun a p hw hp => (all a p hw hp).2.1, fun a p hw hp => ⟨.inr (Nat.le_refl _), (all a p hw hp).2.2.1⟩, fun a p x0 i j hw hp hx => (all a p hw hp).2.2.2 x0 i j hx⟩
end Go.Proofs.YthcbjbkheodejaaGreat
namespace Go.Proofs.YthcbjbkheodejaaGreat
open Go Go.RowKit Sl
set_option maxRecDepth 100000
set_option maxHeartbeats 8000000
attribute [local irreducible] ES EL PX wps
theorem opt_all {s : List UInt8} {f : AM → Nat → AM × Nat} {R : Nat → Nat → Prop} (h : LayH s f R) (o : Nat) : ∀ (n : Nat) (a : AM) (p : Nat), Wf a → p < a.out.length → o < a.out.length → o ≠ p → ERow a o = [] →
    Wf (optA f o n a p) ∧ a.out.length ≤ (optA f o n a p).out.length ∧ (∀ q, ∀ e ∈ ERow a q, e ∈ ERow (optA f o n a p) q) ∧ (∀ q, ∀ e ∈ ERow (optA f o n a p) q, e ∈ ERow a q ∨ ((q = p ∨ a.out.length ≤ q) ∧ (e.to = o ∨ a.out.length ≤ e.to))) ∧
    ∀ x0 i j, x0 < a.out.length → (FW s (optA f o n a p) (x0, i) (o, j) ↔ FW s a (x0, i) (o, j) ∨ ∃ m c, FW s a (x0, i) (p, m) ∧ 1 ≤ c ∧ c ≤ n ∧ Iter R c m j)
  | 0, a, p, hw, hp, ho, hne, hd => ⟨hw, Nat.le_refl _, fun _ _ h => h, fun _ _ h => .inl h, fun x0 i j hx => ⟨.inl, fun h => by
    rcases h with h | ⟨m, c, _, h1, h2, _⟩
    · exact h
    · omega⟩⟩
  | n + 1, a, p, hw, hp, ho, hne, hd => by
    have hw1 := h.wf a p hw hp
    have hg := h.grow a p hw hp
    obtain ⟨hout, hlt⟩ := h.out a p hw hp
    have hhit := fun x0 i j => h.hit a p x0 i j hw hp
    rw [show optA f o (n + 1) a p = optA f o n ((f a p).1.link (f a p).2 o 0 zeroS) (f a p).2 from rfl]
    generalize f a p = y at hw1 hg hout hlt hhit
    obtain ⟨a1, p1⟩ := y
    dsimp only at hw1 hg hout hlt hhit ⊢
    have hl1 := hg.len
    have hne1 : o ≠ p1 := by
      rcases hout with e | e
      · rw [e]; exact hne
      · omega
    have hd1 : ERow a1 o = [] := by
      apply List.eq_nil_iff_forall_not_mem.2
      intro e he
      rcases hg.new o e he with h | ⟨h, _⟩
      · rw [hd] at h; cases h
      · omega
    have hrow2 := fun q => row_link (k := 0) (S := zeroS) (t := o) hlt q
    have hl2 : (a1.link p1 o 0 zeroS).out.length = a1.out.length := (link_len _ _ _ _ _).1
    have hw2 : Wf (a1.link p1 o 0 zeroS) := wf_link hw1 hlt (by omega)
    have hd2 : ERow (a1.link p1 o 0 zeroS) o = [] := by rw [hrow2, if_neg hne1]; exact hd1
    obtain ⟨k1, k2, k3, k4, k5⟩ := opt_all h o n _ p1 hw2 (by omega) (by omega) hne1 hd2
    have hsub2 : ∀ q, ∀ e ∈ ERow a1 q, e ∈ ERow (a1.link p1 o 0 zeroS) q := fun q e he => by
      rw [hrow2]; split
      · exact List.mem_append.2 (.inl he)
      · exact he
    have hrow3 : ∀ q, ∀ e ∈ ERow (a1.link p1 o 0 zeroS) q, e ∈ ERow a1 q ∨ (q = p1 ∧ e = ⟨0, zeroS, o⟩) := fun q e he => by
      rw [hrow2] at he
      split at he
      · rename_i e1
        rcases List.mem_append.1 he with he | he
        · exact .inl he
        · exact .inr ⟨e1, List.mem_singleton.1 he⟩
      · exact .inl he
    have hother : ∀ x z, FW s (a1.link p1 o 0 zeroS) x z → z.1 ≠ o → FW s a1 x z := by
      intro x z hz
      induction hz with
      | here => exact fun _ => .here
      | @step q u b e h1 he hpl ih =>
        intro hzo
        rcases hrow3 q e he with he1 | ⟨rfl, rfl⟩
        · exact .step (ih (fun e1 => by
            have e1 : q = o := e1
            rw [e1, hd1] at he1; cases he1)) he1 hpl
        · exact absurd rfl hzo
    have hexit : ∀ x0 i j, FW s (a1.link p1 o 0 zeroS) (x0, i) (o, j) ↔ FW s a1 (x0, i) (o, j) ∨ FW s a1 (x0, i) (p1, j) := by
      intro x0 i j
      constructor
      · intro hr
        rcases hr.inv with e | ⟨q, u, e, h1, he, ht, hpl⟩
        · rw [e]; exact .inl .here
        · rcases hrow3 q e he with he1 | ⟨rfl, rfl⟩
          · left
            have hq : q ≠ o := fun e1 => by rw [e1, hd1] at he1; cases he1
            have := Rch.step (hother _ _ h1 hq) he1 hpl
            rw [ht] at this; exact this
          · rw [eps_place] at hpl
            cases hpl
            exact .inr (hother _ _ h1 (fun e => hne1 e.symm))
      · rintro (h1 | h1)
        · exact h1.mono hsub2
        · refine Rch.step (e := ⟨0, zeroS, o⟩) (h1.mono hsub2) ?_ (eps_place _ _ _ _ _)
          show _ ∈ ERow _ p1
          rw [hrow2, if_pos rfl]; simp
    refine ⟨k1, by omega, fun q e he => k3 q e (hsub2 q e (hg.sub q e he)), fun q e he => ?_, fun x0 i j hx => ?_⟩
    · rcases k4 q e he with he2 | ⟨hq, ht⟩
      · rcases hrow3 q e he2 with he1 | ⟨rfl, rfl⟩
        · rcases hg.new q e he1 with h1 | ⟨h1, h2⟩
          · exact .inl h1
          · exact .inr ⟨h1, .inr h2⟩
        · exact .inr ⟨hout, .inl rfl⟩
      · rw [hl2] at hq ht
        right
        constructor
        · rcases hq with rfl | hq
          · exact hout
          · right; omega
        · rcases ht with ht | ht
          · exact .inl ht
          · right; omega
    · rw [k5 x0 i j (by omega), hexit]
      constructor
      · rintro ((h1 | h1) | ⟨m, c, h1, c1, c2, hc⟩)
        · exact .inl ((hg.old hw hx ho).1 h1)
        · obtain ⟨m, h2, h3⟩ := (hhit x0 i j hx).1 h1
          exact .inr ⟨m, 1, h2, by omega, by omega, j, h3, rfl⟩
        · have h2 := hother _ _ h1 (fun e => hne1 e.symm)
          obtain ⟨m0, h3, h4⟩ := (hhit x0 i m hx).1 h2
          exact .inr ⟨m0, c + 1, h3, by omega, by omega, m, h4, hc⟩
      · rintro (h1 | ⟨m, c, h1, c1, c2, hc⟩)
        · exact .inl (.inl ((hg.old hw hx ho).2 h1))
        · cases c with
          | zero => omega
          | succ c =>
            obtain ⟨m1, h2, h3⟩ := hc
            have h4 : FW s a1 (x0, i) (p1, m1) := (hhit x0 i m1 hx).2 ⟨m, h1, h2⟩
            cases c with
            | zero =>
              cases (show m1 = j from h3)
              exact .inl (.inr h4)
            | succ c => exact .inr ⟨m1, c + 1, h4.mono hsub2, by omega, by omega, h3⟩
def questA (f : AM → Nat → AM × Nat) (n : Nat) (a : AM) (p : Nat) : AM × Nat := (optA f a.out.length n (a.step p 0 zeroS) p, a.out.length)
theorem LayH.quest {s : List UInt8} {f : AM → Nat → AM × Nat} {R : Nat → Nat → Prop} (h : LayH s f R) (n : Nat) : LayH s (questA f n) (fun i j => ∃ c, c ≤ n ∧ Iter R c i j) := by
  have all : ∀ a p, Wf a → p < a.out.length → Wf (questA f n a p).1 ∧ Grow a (questA f n a p).1 p ∧ a.out.length < (questA f n a p).1.out.length ∧ ∀ x0 i j, x0 < a.out.length → (FW s (questA f n a p).1 (x0, i) (a.out.length, j) ↔ ∃ m, FW s a (x0, i) (p, m) ∧ ∃ c, c ≤ n ∧ Iter R c m j) := by
    intro a p hw hp
    have hw2 := wf_step (k := 0) (S := zeroS) hw hp
    have hl2 : (a.step p 0 zeroS).out.length = a.out.length + 1 := step_len _ _ _ _
    have hg2 := grow_step (k := 0) (S := zeroS) hp
    have hdead : ERow (a.step p 0 zeroS) a.out.length = [] := by
      rw [row_step hp, if_neg (by omega)]
      exact getD_nil (Nat.le_refl _)
    obtain ⟨k1, k2, k3, k4, k5⟩ := opt_all h a.out.length n (a.step p 0 zeroS) p hw2 (by omega) (by omega) (by omega) hdead
    unfold questA
    dsimp only
    refine ⟨k1, ⟨by omega, fun q e he => k3 q e (hg2.sub q e he), fun q e he => ?_⟩, by omega, fun x0 i j hx => ?_⟩
    · rcases k4 q e he with he | ⟨hq, ht⟩
      · exact hg2.new q e he
      · exact .inr ⟨by omega, by omega⟩
    · rw [k5 x0 i j (by omega)]
      constructor
      · rintro (h1 | ⟨m, c, h1, c1, c2, hc⟩)
        · obtain ⟨m, h2, h3⟩ := (step_hit hw hp hx).1 h1
          rw [eps_place] at h3
          cases h3
          exact ⟨_, h2, 0, Nat.zero_le _, rfl⟩
        · exact ⟨m, (hg2.old hw hx hp).1 h1, c, c2, hc⟩
      · rintro ⟨m, h1, c, c2, hc⟩
        cases c with
        | zero =>
          cases (show m = j from hc)
          exact .inl ((step_hit hw hp hx).2 ⟨_, h1, rfl⟩)
        | succ c => exact .inr ⟨m, c + 1, (hg2.old hw hx hp).2 h1, by omega, c2, hc⟩
  exact ⟨fun a p hw hp => (all a p hw hp).1, fun a p hw hp => (all a p hw hp).2.1, fun a p hw hp => ⟨.inr (Nat.le_refl _), (all a p hw hp).2.2.1⟩, fun a p x0 i j hw hp hx => (all a p hw hp).2.2.2 x0 i j hx⟩
theorem LayH.rep {s : List UInt8} {f : AM → Nat → AM × Nat} {R : Nat → Nat → Prop} (h : LayH s f R) (lo : Nat) (hi : Int) (k : RE) : LayH s (repA lo hi k f) (fun i j => ∃ c, RepN lo hi k c ∧ Iter R c i j) := by
  by_cases hc : hi = (lo : Int) ∨ k.thin = true
  · have e : repA lo hi k f = timesA f (leastM lo k) := by
      funext a p
      unfold repA
      dsimp only
      rw [if_pos hc]
    rw [e]
    refine (h.times _).iff fun i j => ⟨fun hh => ⟨_, ⟨Nat.le_refl _, by rw [if_pos hc]⟩, hh⟩, fun ⟨c, ⟨_, h2⟩, hh⟩ => ?_⟩
    rw [if_pos hc] at h2
    rw [h2] at hh
    exact hh
  by_cases hn : hi < 0
  · have e : repA lo hi k f = fun a p => starA f (timesA f (leastM lo k) a p).1 (timesA f (leastM lo k) a p).2 := by
      funext a p
      unfold repA starA
      dsimp only
      rw [if_neg hc, if_pos hn]
    rw [e]
    refine ((h.times _).seq h.star).iff fun i j => ⟨fun ⟨m, h1, c, h2⟩ => ⟨leastM lo k + c, ⟨Nat.le_add_right _ _, by rw [if_neg hc]; exact .inl hn⟩, Iter.add.2 ⟨m, h1, h2⟩⟩, fun ⟨c, ⟨h1, _⟩, hh⟩ => ?_⟩
    obtain ⟨d, rfl⟩ := Nat.exists_eq_add_of_le h1
    obtain ⟨m, h3, h4⟩ := Iter.add.1 hh
    exact ⟨m, h3, d, h4⟩
  · have e : repA lo hi k f = fun a p => questA f (hi.toNat - lo) (timesA f (leastM lo k) a p).1 (timesA f (leastM lo k) a p).2 := by
      funext a p
      unfold repA questA
      dsimp only
      rw [if_neg hc, if_neg hn]
    rw [e]
    refine ((h.times _).seq (h.quest _)).iff fun i j => ⟨fun ⟨m, h1, c, hcn, h2⟩ => ⟨leastM lo k + c, ⟨Nat.le_add_right _ _, by rw [if_neg hc]; exact .inr (by omega)⟩, Iter.add.2 ⟨m, h1, h2⟩⟩, fun ⟨c, ⟨h1, h5⟩, hh⟩ => ?_⟩
    rw [if_neg hc] at h5
    obtain ⟨d, rfl⟩ := Nat.exists_eq_add_of_le h1
    obtain ⟨m, h3, h4⟩ := Iter.add.1 hh
    exact ⟨m, h3, d, by omega, h4⟩
theorem all_has : ∀ b : UInt8, hasS (notS zeroS) b.toNat = true := by
  have h : ∀ b : Fin 256, hasS (notS zeroS) b.val = true := by decide +kernel
  exact fun b => h ⟨b.toNat, b.toNat_lt⟩
theorem LayH.any (s : List UInt8) : LayH s (fun a p => ((a.step p 0 zeroS).link a.out.length a.out.length 1 (notS zeroS), a.out.length)) (fun i j => j = i ∨ (i < j ∧ j ≤ s.length)) := by
  have all : ∀ a p, Wf a → p < a.out.length → Wf ((a.step p 0 zeroS).link a.out.length a.out.length 1 (notS zeroS)) ∧ Grow a ((a.step p 0 zeroS).link a.out.length a.out.length 1 (notS zeroS)) p ∧ a.out.length < ((a.step p 0 zeroS).link a.out.length a.out.length 1 (notS zeroS)).out.length ∧
      ∀ x0 i j, x0 < a.out.length → (FW s ((a.step p 0 zeroS).link a.out.length a.out.length 1 (notS zeroS)) (x0, i) (a.out.length, j) ↔ ∃ m, FW s a (x0, i) (p, m) ∧ (j = m ∨ (m < j ∧ j ≤ s.length))) := by
    intro a p hw hp
    have hw2 := wf_step (k := 0) (S := zeroS) hw hp
    have hl2 : (a.step p 0 zeroS).out.length = a.out.length + 1 := step_len _ _ _ _
    have hg2 := grow_step (k := 0) (S := zeroS) hp
    have hh : a.out.length < (a.step p 0 zeroS).out.length := by omega
    have hdead : ERow (a.step p 0 zeroS) a.out.length = [] := by
      rw [row_step hp, if_neg (by omega)]
      exact getD_nil (Nat.le_refl _)
    have hrow3 := fun q => row_link (k := 1) (S := notS zeroS) (t := a.out.length) hh q
    have hl3 : ((a.step p 0 zeroS).link a.out.length a.out.length 1 (notS zeroS)).out.length = (a.step p 0 zeroS).out.length := (link_len _ _ _ _ _).1
    have hsub3 : ∀ q, ∀ e ∈ ERow (a.step p 0 zeroS) q, e ∈ ERow ((a.step p 0 zeroS).link a.out.length a.out.length 1 (notS zeroS)) q := fun q e he => by
      rw [hrow3]; split
      · exact List.mem_append.2 (.inl he)
      · exact he
    have hcase : ∀ q, ∀ e ∈ ERow ((a.step p 0 zeroS).link a.out.length a.out.length 1 (notS zeroS)) q, e ∈ ERow (a.step p 0 zeroS) q ∨ (q = a.out.length ∧ e = ⟨1, notS zeroS, a.out.length⟩) := fun q e he => by
      rw [hrow3] at he
      split at he
      · rename_i e1
        rcases List.mem_append.1 he with he | he
        · exact .inl he
        · exact .inr ⟨e1, List.mem_singleton.1 he⟩
      · exact .inl he
    refine ⟨wf_link hw2 hh hh, ⟨by omega, fun q e he => hsub3 q e (hg2.sub q e he), fun q e he => ?_⟩, by omega, fun x0 i j hx => ⟨fun hr => ?_, ?_⟩⟩
    · rcases hcase q e he with he | ⟨rfl, rfl⟩
      · exact hg2.new q e he
      · exact .inr ⟨.inr (Nat.le_refl _), Nat.le_refl _⟩
    · have key : ∀ z, FW s ((a.step p 0 zeroS).link a.out.length a.out.length 1 (notS zeroS)) (x0, i) z → (z.1 < a.out.length ∧ FW s a (x0, i) z) ∨ ∃ m, FW s a (x0, i) (p, m) ∧ z.1 = a.out.length ∧ (z.2 = m ∨ (m < z.2 ∧ z.2 ≤ s.length)) := by
        intro z hz
        induction hz with
        | here => exact .inl ⟨hx, .here⟩
        | @step q u b e h1 he hpl ih =>
          rcases hcase q e he with he2 | ⟨rfl, rfl⟩
          · rcases ih with ⟨hq, hold⟩ | ⟨m, k1, k2, k3⟩
            · have hq : q < a.out.length := hq
              rw [row_step hp] at he2
              split at he2
              · rename_i e1
                rcases List.mem_append.1 he2 with he2 | he2
                · exact .inl ⟨hw q e he2, .step hold he2 hpl⟩
                · rw [List.mem_singleton] at he2; subst he2 e1
                  rw [eps_place] at hpl
                  cases hpl
                  exact .inr ⟨u, hold, rfl, .inl rfl⟩
              · exact .inl ⟨hw q e he2, .step hold he2 hpl⟩
            · have k2 : q = a.out.length := k2
              rw [k2, hdead] at he2
              cases he2
          · rcases ih with ⟨hq, hold⟩ | ⟨m, k1, k2, k3⟩
            · have hq : a.out.length < a.out.length := hq
              omega
            · dsimp only at k3 ⊢
              unfold placeM inB at hpl
              simp at hpl
              exact .inr ⟨m, k1, rfl, .inr (by omega)⟩
      rcases key _ hr with ⟨hbad, _⟩ | ⟨m, k1, _, k3⟩
      · exact absurd hbad (by dsimp only; omega)
      · exact ⟨m, k1, k3⟩
    · rintro ⟨m, h1, hj⟩
      have hbase : FW s ((a.step p 0 zeroS).link a.out.length a.out.length 1 (notS zeroS)) (x0, i) (a.out.length, m) :=
        ((step_hit (k := 0) (S := zeroS) hw hp hx (j := m) (s := s) (i := i)).2 ⟨m, h1, rfl⟩).mono hsub3
      have hgo : ∀ d, m + d ≤ s.length → FW s ((a.step p 0 zeroS).link a.out.length a.out.length 1 (notS zeroS)) (x0, i) (a.out.length, m + d) := by
        intro d
        induction d with
        | zero => exact fun _ => hbase
        | succ d ih =>
          intro hd
          refine Rch.step (e := ⟨1, notS zeroS, a.out.length⟩) (ih (by omega)) ?_ (b := m + (d + 1)) ?_
          · show _ ∈ ERow _ a.out.length
            rw [hrow3, if_pos rfl]; simp
          · have := all_has (s.getD (m + d) 0)
            unfold placeM inB bAt
            simp only [if_true, this, and_true, decide_eq_true_eq]
            rw [if_pos (by omega)]
            rfl
      rcases hj with rfl | ⟨h2, h3⟩
      · exact hbase
      · have := hgo (j - m) (by omega)
        rw [show m + (j - m) = j by omega] at this
        exact this
  exact ⟨fun a p hw hp => (all a p hw hp).1, fun a p hw hp => (all a p hw hp).2.1, fun a p hw hp => ⟨.inr (Nat.le_refl _), (all a p hw hp).2.2.1⟩, fun a p x0 i j hw hp hx => (all a p hw hp).2.2.2 x0 i j hx⟩
mutual
theorem lay_hit (s : List UInt8) : ∀ r : RE, LayH s (layM r) (Hit s r)
  | .byte S => by
    rw [show layM (.byte S) = fun a p => (a.step p 1 S, a.out.length) from by funext a p; rw [layM]]
    refine LayH.edge s 1 S _ fun t i j => ?_
    rw [Hit]
    unfold placeM inB bAt
    simp only [if_true, decide_eq_true_eq]
    constructor
    · intro h
      split at h
      · rename_i h1; cases h; exact ⟨h1, rfl⟩
      · cases h
    · rintro ⟨h1, rfl⟩
      rw [if_pos h1]
  | .bol => by
    rw [show layM .bol = fun a p => (a.step p 2 zeroS, a.out.length) from by funext a p; rw [layM]]
    refine LayH.edge s 2 zeroS _ fun t i j => ?_
    rw [Hit]
    unfold placeM
    simp only [show ¬ ((2 : Nat) = 1) by omega, if_false, if_true]
    constructor
    · intro h
      split at h
      · rename_i h1; cases h; exact ⟨h1, rfl⟩
      · cases h
    · rintro ⟨h1, rfl⟩
      rw [if_pos h1]
  | .eol => by
    rw [show layM .eol = fun a p => (a.step p 3 zeroS, a.out.length) from by funext a p; rw [layM]]
    refine LayH.edge s 3 zeroS _ fun t i j => ?_
    rw [Hit]
    unfold placeM
    simp only [show ¬ ((3 : Nat) = 1) by omega, show ¬ ((3 : Nat) = 2) by omega, if_false, if_true]
    constructor
    · intro h
      split at h
      · rename_i h1; cases h; exact ⟨h1, rfl⟩
      · cases h
    · rintro ⟨h1, rfl⟩
      rw [if_pos h1]
  | .back n => by
    rw [show layM (.back n) = fun a p => ((a.step p 0 zeroS).link a.out.length a.out.length 1 (notS zeroS), a.out.length) from by funext a p; rw [layM]]
    exact (LayH.any s).iff fun i j => by rw [Hit]
  | .rep lo hi k => by
    rw [show layM (.rep lo hi k) = repA lo hi k (layM k) from by funext a p; rw [layM]]
    exact (LayH.rep (lay_hit s k) lo hi k).iff fun i j => by rw [Hit]
  | .cat ks => by
    rw [show layM (.cat ks) = layL ks from by funext a p; rw [layM]]
    exact (layL_hit s ks).iff fun i j => by rw [Hit]
  | .group n k => by
    rw [show layM (.group n k) = layM k from by funext a p; rw [layM]]
    exact (lay_hit s k).iff fun i j => by rw [Hit]
theorem layL_hit (s : List UInt8) : ∀ ks : List RE, LayH s (layL ks) (HitL s ks)
  | [] => by
    rw [show layL [] = fun a p => (a, p) from by funext a p; rw [layL]]
    exact (LayH.id s).iff fun i j => by rw [HitL]
  | k :: ks => by
    rw [show layL (k :: ks) = fun a p => layL ks (layM k a p).1 (layM k a p).2 from by funext a p; rw [layL]]
    exact ((lay_hit s k).seq (layL_hit s ks)).iff fun i j => by rw [HitL]
end
theorem make_hit (s : List UInt8) (ks : List RE) (i j : Nat) : FW s (makeM ks).1 (0, i) ((makeM ks).2, j) ↔ HitL s ks i j := by
  have hw : Wf (AM.add ⟨[], []⟩) := fun q e he => by
    rw [show ERow (AM.add ⟨[], []⟩) q = ERow ⟨[], []⟩ q from getD_new _ _] at he
    cases he
  refine ((layL_hit s ks).hit (AM.add ⟨[], []⟩) 0 0 i j hw (by decide) (by decide)).trans ⟨fun ⟨m, h1, h2⟩ => ?_, fun h => ⟨i, .here, h⟩⟩
  have := Rch.dead rfl h1
  injection this with _ e
  subst e
  exact h2
theorem ends_iff {ks : List RE} (hc : costL ks + 1 ≤ 131072) (s : List UInt8) {i j : Nat} (st : Nat) (hi : i ≤ s.length) (hj : j ≤ s.length) : (endsM (makeM ks) s i st).marks.getD j false = true ↔ HitL s ks i j := by
  obtain ⟨hr, hlt⟩ := make_room ks hc
  obtain ⟨done, hd⟩ := flood_spec hr.eo s (x0 := (0, i)) (by omega) hi (makeM ks).2 true st
  exact (hd.marks j hj).trans (make_hit s ks i j)
theorem place_rev (s : List UInt8) (k t q : Nat) (S : BS) (a b : Nat) : placeM s true ⟨k, S, t⟩ a = some b ↔ placeM s false ⟨k, S, q⟩ b = some a := by
  unfold placeM inB bAt
  dsimp only
  by_cases h1 : k = 1
  · simp only [h1, if_true, Bool.false_eq_true, if_false, decide_eq_true_eq]
    constructor
    · intro h
      split at h
      · rename_i h2; cases h
        rw [show a + 1 - 1 = a by omega, if_pos ⟨⟨by omega, h2.1⟩, h2.2⟩]
      · cases h
    · intro h
      split at h
      · rename_i h2; cases h
        rw [if_pos ⟨h2.1.2, h2.2⟩, show b - 1 + 1 = b by omega]
      · cases h
  · simp only [h1, if_false]
    by_cases h2 : k = 2
    · simp only [h2, if_true]
      constructor <;> intro h <;> split at h <;> first | (rename_i h3; cases h; rw [if_pos h3]) | cases h
    · simp only [h2, if_false]
      by_cases h3 : k = 3
      · simp only [h3, if_true]
        constructor <;> intro h <;> split at h <;> first | (rename_i h4; cases h; rw [if_pos h4]) | cases h
      · simp only [h3, if_false, Option.some.injEq]
        exact eq_comm
def Rev (a : AM) : Prop := a.back.length = a.out.length ∧ ∀ q t k S, (⟨k, S, t⟩ : Ed) ∈ a.out.getD q [] ↔ (⟨k, S, q⟩ : Ed) ∈ a.back.getD t []
theorem rev_add {a : AM} (h : Rev a) : Rev a.add := ⟨by simp [AM.add, h.1], fun q t k S => by
  rw [show a.add.out.getD q [] = a.out.getD q [] from getD_new _ _, show a.add.back.getD t [] = a.back.getD t [] from getD_new _ _]
  exact h.2 q t k S⟩
theorem rev_link {a : AM} {f t k : Nat} {S : BS} (h : Rev a) (hf : f < a.out.length) (ht : t < a.out.length) : Rev (a.link f t k S) := by
  refine ⟨by rw [(link_len _ _ _ _ _).1, (link_len _ _ _ _ _).2]; exact h.1, fun q t' k' S' => ?_⟩
  rw [show (a.link f t k S).out.getD q [] = _ from getD_addTo _ _ _ _ hf, show (a.link f t k S).back.getD t' [] = _ from getD_addTo _ _ _ _ (by rw [h.1]; exact ht)]
  have h2 := h.2 q t' k' S'
  have e1 : (⟨k', S', t'⟩ : Ed) ∈ (if q = f then a.out.getD q [] ++ [⟨k, S, t⟩] else a.out.getD q []) ↔ (⟨k', S', t'⟩ : Ed) ∈ a.out.getD q [] ∨ (q = f ∧ k' = k ∧ S' = S ∧ t' = t) := by
    split <;> simp_all
  have e2 : (⟨k', S', q⟩ : Ed) ∈ (if t' = t then a.back.getD t' [] ++ [⟨k, S, f⟩] else a.back.getD t' []) ↔ (⟨k', S', q⟩ : Ed) ∈ a.back.getD t' [] ∨ (t' = t ∧ k' = k ∧ S' = S ∧ q = f) := by
    split <;> simp_all
  rw [e1, e2, h2]
  constructor
  · rintro (h | ⟨h1, h2, h3, h4⟩)
    · exact .inl h
    · exact .inr ⟨h4, h2, h3, h1⟩
  · rintro (h | ⟨h1, h2, h3, h4⟩)
    · exact .inl h
    · exact .inr ⟨h4, h2, h3, h1⟩
theorem Rch.rev {es es' : List (List Ed)} {s : List UInt8} (hrev : ∀ q t k S, (⟨k, S, t⟩ : Ed) ∈ es.getD q [] ↔ (⟨k, S, q⟩ : Ed) ∈ es'.getD t []) {x y : Nat × Nat} : Rch es s true x y ↔ Rch es' s false y x := by
  constructor
  · intro h
    induction h with
    | here => exact .here
    | @step q a b e h1 he hp ih =>
      obtain ⟨k, S, t⟩ := e
      exact Rch.trans (Rch.step (e := ⟨k, S, q⟩) .here ((hrev q t k S).1 he) ((place_rev s k t q S a b).1 hp)) ih
  · intro h
    induction h with
    | here => exact .here
    | @step q a b e h1 he hp ih =>
      obtain ⟨k, S, t⟩ := e
      exact Rch.trans (Rch.step (e := ⟨k, S, q⟩) .here ((hrev t q k S).2 he) ((place_rev s k q t S b a).2 hp)) ih
end Go.Proofs.YthcbjbkheodejaaGreat
namespace Go.Proofs.YthcbjbkheodejaaGreat
open Go Go.RowKit Sl
set_option maxRecDepth 100000
set_option maxHeartbeats 8000000
attribute [local irreducible] ES EL PX wps
structure Inv (P : AM → Prop) : Prop where
  add : ∀ a, P a → P a.add
  link : ∀ a f t k S, P a → f < a.out.length → t < a.out.length → P (a.link f t k S)
def Pres (P : AM → Prop) (f : AM → Nat → AM × Nat) : Prop := ∀ a p, P a → p < a.out.length → P (f a p).1 ∧ (f a p).2 < (f a p).1.out.length ∧ a.out.length ≤ (f a p).1.out.length
theorem Inv.step {P : AM → Prop} (hP : Inv P) {a : AM} {f k : Nat} {S : BS} (h : P a) (hf : f < a.out.length) : P (a.step f k S) :=
  hP.link _ _ _ _ _ (hP.add _ h) (by rw [add_len]; omega) (by rw [add_len]; omega)
theorem times_pres {P : AM → Prop} {f : AM → Nat → AM × Nat} (hf : Pres P f) : ∀ n, Pres P (timesA f n)
  | 0, a, p, h, hp => ⟨h, hp, Nat.le_refl _⟩
  | n + 1, a, p, h, hp => by
    have h1 := hf a p h hp
    have h2 := times_pres hf n _ _ h1.1 h1.2.1
    exact ⟨h2.1, h2.2.1, Nat.le_trans h1.2.2 h2.2.2⟩
theorem opt_pres {P : AM → Prop} (hP : Inv P) {f : AM → Nat → AM × Nat} (hf : Pres P f) (o : Nat) : ∀ n a p, P a → p < a.out.length → o < a.out.length → P (optA f o n a p) ∧ a.out.length ≤ (optA f o n a p).out.length
  | 0, a, p, h, _, _ => ⟨h, Nat.le_refl _⟩
  | n + 1, a, p, h, hp, ho => by
    have h1 := hf a p h hp
    have hl : ((f a p).1.link (f a p).2 o 0 zeroS).out.length = (f a p).1.out.length := (link_len _ _ _ _ _).1
    have h2 := opt_pres hP hf o n _ (f a p).2 (hP.link _ _ _ 0 zeroS h1.1 h1.2.1 (show o < _ by omega)) (by omega) (by omega)
    exact ⟨h2.1, by have := h2.2; rw [optA]; omega⟩
theorem rep_pres {P : AM → Prop} (hP : Inv P) {f : AM → Nat → AM × Nat} (hf : Pres P f) (lo : Nat) (hi : Int) (k : RE) : Pres P (repA lo hi k f) := fun a p h hp => by
  have h1 := times_pres hf (leastM lo k) a p h hp
  unfold repA
  dsimp only
  generalize timesA f (leastM lo k) a p = x at h1
  obtain ⟨a1, p1⟩ := x
  dsimp only at h1 ⊢
  split
  · exact h1
  · have h2 : P (a1.step p1 0 zeroS) := hP.step h1.1 h1.2.1
    have hl2 : (a1.step p1 0 zeroS).out.length = a1.out.length + 1 := step_len _ _ _ _
    split
    · have h3 := hf (a1.step p1 0 zeroS) a1.out.length h2 (by omega)
      dsimp only
      refine ⟨hP.link _ _ _ _ _ h3.1 h3.2.1 (by omega), ?_, ?_⟩ <;> rw [(link_len _ _ _ _ _).1] <;> omega
    · have h3 := opt_pres hP hf a1.out.length (hi.toNat - lo) (a1.step p1 0 zeroS) p1 h2 (by omega) (by omega)
      exact ⟨h3.1, by dsimp only; omega, by dsimp only; omega⟩
mutual
theorem lay_pres {P : AM → Prop} (hP : Inv P) : ∀ r : RE, Pres P (layM r)
  | .byte S, a, p, h, hp => by
    rw [layM]
    exact ⟨hP.step h hp, by dsimp only; rw [step_len]; omega, by dsimp only; rw [step_len]; omega⟩
  | .bol, a, p, h, hp => by
    rw [layM]
    exact ⟨hP.step h hp, by dsimp only; rw [step_len]; omega, by dsimp only; rw [step_len]; omega⟩
  | .eol, a, p, h, hp => by
    rw [layM]
    exact ⟨hP.step h hp, by dsimp only; rw [step_len]; omega, by dsimp only; rw [step_len]; omega⟩
  | .back n, a, p, h, hp => by
    rw [layM]
    refine ⟨hP.link _ _ _ _ _ (hP.step h hp) (by rw [step_len]; omega) (by rw [step_len]; omega), ?_, ?_⟩ <;> dsimp only <;> rw [(link_len _ _ _ _ _).1, step_len] <;> omega
  | .rep lo hi k, a, p, h, hp => by
    rw [layM]
    exact rep_pres hP (lay_pres hP k) lo hi k a p h hp
  | .cat ks, a, p, h, hp => by
    rw [layM]
    exact layL_pres hP ks a p h hp
  | .group n k, a, p, h, hp => by
    rw [layM]
    exact lay_pres hP k a p h hp
theorem layL_pres {P : AM → Prop} (hP : Inv P) : ∀ ks : List RE, Pres P (layL ks)
  | [], a, p, h, hp => by
    rw [layL]
    exact ⟨h, hp, Nat.le_refl _⟩
  | k :: ks, a, p, h, hp => by
    rw [layL]
    have h1 := lay_pres hP k a p h hp
    have h2 := layL_pres hP ks _ _ h1.1 h1.2.1
    exact ⟨h2.1, h2.2.1, Nat.le_trans h1.2.2 h2.2.2⟩
end
theorem make_rev (ks : List RE) : Rev (makeM ks).1 := by
  have h0 : Rev ⟨[], []⟩ := ⟨rfl, fun q t k S => by simp⟩
  exact (layL_pres (P := Rev) ⟨fun _ h => rev_add h, fun _ _ _ _ _ h h1 h2 => rev_link h h1 h2⟩ ks (AM.add ⟨[], []⟩) 0 (rev_add h0) (by decide)).1
theorem starts_iff {ks : List RE} (hc : costL ks + 1 ≤ 131072) (s : List UInt8) {i j : Nat} (st : Nat) (hi : i ≤ s.length) (hj : j ≤ s.length) : (startsM (makeM ks) s j st).marks.getD i false = true ↔ HitL s ks i j := by
  obtain ⟨hr, hlt⟩ := make_room ks hc
  obtain ⟨done, hd⟩ := flood_spec hr.eb s (x0 := ((makeM ks).2, j)) (by rw [hr.same]; exact hlt) hj 0 false st
  refine (hd.marks i hi).trans (Iff.trans ?_ (make_hit s ks i j))
  exact (Rch.rev (make_rev ks).2).symm
theorem startsM_steps {A : AM × Nat} (hr : A.1.Room 0) {s : List UInt8} (hs : s.length ≤ 1024) (j st : Nat) : (startsM A s j st).steps ≤ st + 17609365913600 :=
  floodM_steps (by have := hr.out; have := hr.same; omega) (fun l hl => by have := hr.rb l hl; omega) s hs (A.2, j) 0 false st
end Go.Proofs.YthcbjbkheodejaaGreat
namespace Go.Proofs.YthcbjbkheodejaaGreat
open Go Go.RowKit Sl
set_option maxRecDepth 100000
set_option maxHeartbeats 8000000
attribute [local irreducible] ES EL PX wps
theorem endsM_le {A : AM × Nat} (hr : A.1.Room 0) {s : List UInt8} (hs : s.length ≤ 1024) (i st : Nat) : (endsM A s i st).steps ≤ st + 17609365913600 :=
  floodM_steps (by have := hr.out; omega) (fun l hl => by have := hr.ro l hl; omega) s hs (0, i) A.2 true st
theorem flood_up {es : List (List Ed)} (hes : EdsOk es) (s : List UInt8) {x0 : Nat × Nat} (h1 : x0.1 < es.length) (h2 : x0.2 ≤ s.length) (goal : Nat) (fwd : Bool) (st : Nat) : st ≤ (floodM es s x0 goal fwd st).steps := by
  obtain ⟨done, hd⟩ := flood_spec hes s h1 h2 goal fwd st
  rw [hd.steps]; omega
theorem dn_head (i : Nat) (f : Nat → Bool) {p : Nat} (hf : f p = true) : ∀ n, i ≤ p → p < i + n → (∀ q, p < q → q < i + n → f q = false) → ((dnL i n).filter f).head? = some p ∧ (dnL i n).find? f = some p
  | 0, h1, h2, _ => by omega
  | n + 1, h1, h2, h3 => by
    rw [dnL, List.filter_cons, List.find?_cons]
    by_cases h : p = i + n
    · subst h
      rw [hf]
      exact ⟨rfl, rfl⟩
    · rw [h3 (i + n) (by omega) (by omega)]
      exact dn_head i f hf n h1 (by omega) (fun q hq1 hq2 => h3 q hq1 (by omega))
structure First (s : List UInt8) (hd tl : List RE) (i e j : Nat) : Prop where
  ch : costL hd + 1 ≤ 131072
  ct : costL tl + 1 ≤ 131072
  ie : i ≤ e
  ej : e ≤ j
  hh : HitL s hd i e
  ht : HitL s tl e j
  no : ∀ p, e < p → p ≤ j → ¬ (HitL s hd i p ∧ HitL s tl p j)
abbrev floodC : Nat := 17609365913600
theorem cut_first {s : List UInt8} (hs : s.length ≤ 1024) {hd tl : List RE} {i e j st : Nat} (h : First s hd tl i e j) (hj : j ≤ s.length) (hst : st ≤ 576460752303423488) : ∃ st', cutS s hd tl i j st = some (e, st') ∧ st ≤ st' ∧ st' ≤ st + 2 * floodC := by
  have hie := h.ie
  have hej := h.ej
  obtain ⟨hr1, hl1⟩ := make_room hd h.ch
  obtain ⟨hr2, hl2⟩ := make_room tl h.ct
  have hE := fun p (hp : p ≤ s.length) => ends_iff h.ch s (i := i) (j := p) st (by omega) hp
  have hS := fun p (hp : p ≤ s.length) => starts_iff h.ct s (i := p) (j := j) (splE s hd i st).steps hp hj
  have hhead := (dn_head i (fun p => (splE s hd i st).marks.getD p false && (splS s hd tl i j st).marks.getD p false) (p := e) (by
      rw [Bool.and_eq_true]
      exact ⟨(hE e (by omega)).2 h.hh, (hS e (by omega)).2 h.ht⟩) (j + 1 - i) hie (by omega) (fun q h1 h2 => by
      rw [Bool.eq_false_iff]
      intro hq
      rw [Bool.and_eq_true] at hq
      exact h.no q h1 (by omega) ⟨(hE q (by omega)).1 hq.1, (hS q (by omega)).1 hq.2⟩)).1
  have hup1 := flood_up hr1.eo s (x0 := (0, i)) (by omega) (show i ≤ s.length by omega) (makeM hd).2 true st
  have hup2 := flood_up hr2.eb s (x0 := ((makeM tl).2, j)) (by rw [hr2.same]; exact hl2) hj 0 false (splE s hd i st).steps
  have hup1' : st ≤ (splE s hd i st).steps := hup1
  have hup2' : (splE s hd i st).steps ≤ (splS s hd tl i j st).steps := hup2
  have hb1 : (splE s hd i st).steps ≤ st + 17609365913600 := endsM_le hr1 hs i st
  have hb2 : (splS s hd tl i j st).steps ≤ (splE s hd i st).steps + 17609365913600 := startsM_steps hr2 hs j _
  refine ⟨(splS s hd tl i j st).steps, ?_, by omega, by unfold floodC; omega⟩
  unfold cutS
  rw [if_pos ⟨hst, h.ch, h.ct, by omega, hj⟩]
  have hspl : (splL s hd tl i j st).head? = some e := hhead
  cases hx : splL s hd tl i j st with
  | nil => rw [hx] at hspl; cases hspl
  | cons p l => rw [hx] at hspl; cases hspl; rfl
inductive Wk (s : List UInt8) : WT → Nat → Nat → List Spn → List Spn → Nat → Nat → Prop
  | group {n k i j z z' f c} (hn : n < z.length) (h : Wk s (.one k) i j (z.set n ((i : Int), (j : Int))) z' f c) : Wk s (.one (.group n k)) i j z z' (f + 1) c
  | cat {ks i j z z' f c} (h : Wk s (.cat ks) i j z z' f c) : Wk s (.one (.cat ks)) i j z z' (f + 1) c
  | rep {lo hi k i j z z' f c} (h : Wk s (.rep lo hi k 0) i j z z' f c) : Wk s (.one (.rep lo hi k)) i j z z' (f + 1) c
  | byte {S i j z} : Wk s (.one (.byte S)) i j z z 1 0
  | bol {i j z} : Wk s (.one .bol) i j z z 1 0
  | eol {i j z} : Wk s (.one .eol) i j z z 1 0
  | nil {i j z} : Wk s (.cat []) i j z z 1 0
  | last {k i j z z' f c} (h : Wk s (.one k) i j z z' f c) : Wk s (.cat [k]) i j z z' (f + 1) c
  | cons {k k' ks i e j z z1 z2 f c c2} (hf : First s [k] (k' :: ks) i e j) (h1 : Wk s (.one k) i e z z1 f c) (h2 : Wk s (.cat (k' :: ks)) e j z1 z2 f c2) : Wk s (.cat (k :: k' :: ks)) i j z z2 (f + 1) (c + c2 + 1)
  | end0 {lo hi k t j z z' f c} (ht : t < leastM lo k) (h : Wk s (.one k) j j z z' f c) : Wk s (.rep lo hi k t) j j z z' (f + 1) c
  | end1 {lo hi k t j z} (ht : ¬ t < leastM lo k) : Wk s (.rep lo hi k t) j j z z 1 0
  | turn {lo hi k t i e j z z1 z2 f c c2} (hij : i ≠ j) (ht : t ≤ 1000000) (hf : First s [k] [leftM lo hi k (t + 1)] i e j) (h1 : Wk s (.one k) i e z z1 f c) (h2 : Wk s (.rep lo hi k (t + 1)) e j z1 z2 f c2) : Wk s (.rep lo hi k t) i j z z2 (f + 1) (c + c2 + 1)
  | more {wt i j z z' f c} (h : Wk s wt i j z z' f c) : Wk s wt i j z z' (f + 1) c
theorem Wk.fuel {s : List UInt8} {wt : WT} {i j f c : Nat} {z z' : List Spn} (h : Wk s wt i j z z' f c) {f' : Nat} (hf : f ≤ f') : Wk s wt i j z z' f' c := by
  obtain ⟨d, rfl⟩ := Nat.exists_eq_add_of_le hf
  clear hf
  induction d with
  | zero => exact h
  | succ d ih => exact .more ih
theorem Wk.run {s : List UInt8} (hs : s.length ≤ 1024) {wt : WT} {i j f c : Nat} {z z' : List Spn} (h : Wk s wt i j z z' f c) : i ≤ j → j ≤ s.length → ∀ F st, f ≤ F → st + c * (2 * floodC) ≤ 576460752303423488 → ∃ st', walkM s F wt i j ⟨z, st⟩ = some ⟨z', st'⟩ ∧ st ≤ st' ∧ st' ≤ st + c * (2 * floodC) := by
  induction h with
  | group hn h ih =>
    intro h1 h2 F st hF hst
    obtain ⟨F, rfl⟩ : ∃ F', F = F' + 1 := ⟨F - 1, by omega⟩
    rw [walkM, if_pos hn]
    exact ih h1 h2 F st (by omega) hst
  | cat h ih =>
    intro h1 h2 F st hF hst
    obtain ⟨F, rfl⟩ : ∃ F', F = F' + 1 := ⟨F - 1, by omega⟩
    rw [walkM]
    exact ih h1 h2 F st (by omega) hst
  | rep h ih =>
    intro h1 h2 F st hF hst
    obtain ⟨F, rfl⟩ : ∃ F', F = F' + 1 := ⟨F - 1, by omega⟩
    rw [walkM]
    exact ih h1 h2 F st (by omega) hst
  | byte =>
    intro h1 h2 F st hF hst
    obtain ⟨F, rfl⟩ : ∃ F', F = F' + 1 := ⟨F - 1, by omega⟩
    exact ⟨st, by simp [walkM], Nat.le_refl _, by omega⟩
  | bol =>
    intro h1 h2 F st hF hst
    obtain ⟨F, rfl⟩ : ∃ F', F = F' + 1 := ⟨F - 1, by omega⟩
    exact ⟨st, by simp [walkM], Nat.le_refl _, by omega⟩
  | eol =>
    intro h1 h2 F st hF hst
    obtain ⟨F, rfl⟩ : ∃ F', F = F' + 1 := ⟨F - 1, by omega⟩
    exact ⟨st, by simp [walkM], Nat.le_refl _, by omega⟩
  | nil =>
    intro h1 h2 F st hF hst
    obtain ⟨F, rfl⟩ : ∃ F', F = F' + 1 := ⟨F - 1, by omega⟩
    exact ⟨st, by simp [walkM], Nat.le_refl _, by omega⟩
  | last h ih =>
    intro h1 h2 F st hF hst
    obtain ⟨F, rfl⟩ : ∃ F', F = F' + 1 := ⟨F - 1, by omega⟩
    rw [walkM]
    exact ih h1 h2 F st (by omega) hst
  | @cons k k' ks i e j z z1 z2 f c c2 hf _ _ ih1 ih2 =>
    intro h1 h2 F st hF hst
    obtain ⟨F, rfl⟩ : ∃ F', F = F' + 1 := ⟨F - 1, by omega⟩
    have hmul : (c + c2 + 1) * (2 * floodC) = c * (2 * floodC) + c2 * (2 * floodC) + 2 * floodC := by rw [Nat.add_mul, Nat.add_mul, Nat.one_mul]
    rw [hmul] at hst
    have hie := hf.ie
    have hej := hf.ej
    obtain ⟨st1, e1, e2, e3⟩ := cut_first hs hf h2 (st := st) (by omega)
    obtain ⟨st2, e4, e5, e6⟩ := ih1 hie (by omega) F st1 (by omega) (by omega)
    obtain ⟨st3, e7, e8, e9⟩ := ih2 hej h2 F st2 (by omega) (by omega)
    refine ⟨st3, ?_, by omega, by rw [hmul]; omega⟩
    rw [walkM]
    simp only [e1, e4, e7]
  | @end0 lo hi k t j z z' f c ht h ih =>
    intro h1 h2 F st hF hst
    obtain ⟨F, rfl⟩ : ∃ F', F = F' + 1 := ⟨F - 1, by omega⟩
    rw [walkM, if_pos rfl, if_pos ht]
    exact ih h1 h2 F st (by omega) hst
  | @end1 lo hi k t j z ht =>
    intro h1 h2 F st hF hst
    obtain ⟨F, rfl⟩ : ∃ F', F = F' + 1 := ⟨F - 1, by omega⟩
    exact ⟨st, by rw [walkM, if_pos rfl, if_neg ht], Nat.le_refl _, by omega⟩
  | @turn lo hi k t i e j z z1 z2 f c c2 hij ht hf _ _ ih1 ih2 =>
    intro h1 h2 F st hF hst
    obtain ⟨F, rfl⟩ : ∃ F', F = F' + 1 := ⟨F - 1, by omega⟩
    have hmul : (c + c2 + 1) * (2 * floodC) = c * (2 * floodC) + c2 * (2 * floodC) + 2 * floodC := by rw [Nat.add_mul, Nat.add_mul, Nat.one_mul]
    rw [hmul] at hst
    have hie := hf.ie
    have hej := hf.ej
    obtain ⟨st1, e1, e2, e3⟩ := cut_first hs hf h2 (st := st) (by omega)
    obtain ⟨st2, e4, e5, e6⟩ := ih1 hie (by omega) F st1 (by omega) (by omega)
    obtain ⟨st3, e7, e8, e9⟩ := ih2 hej h2 F st2 (by omega) (by omega)
    refine ⟨st3, ?_, by omega, by rw [hmul]; omega⟩
    rw [walkM, if_neg hij, if_neg (by omega)]
    simp only [e1, e4, e7]
  | more h ih =>
    intro h1 h2 F st hF hst
    exact ih h1 h2 F st (by omega) hst
end Go.Proofs.YthcbjbkheodejaaGreat
namespace Go.Proofs.YthcbjbkheodejaaGreat
open Go Go.RowKit Sl
set_option maxRecDepth 100000
set_option maxHeartbeats 8000000
attribute [local irreducible] ES EL PX wps
abbrev At (s : List UInt8) (S : BS) (k : Nat) : Prop := k < s.length ∧ hasS S (s.getD k 0).toNat = true
end Go.Proofs.YthcbjbkheodejaaGreat
namespace Go.Proofs.YthcbjbkheodejaaGreat
open Go Go.RowKit Sl
set_option maxRecDepth 100000
set_option maxHeartbeats 8000000
attribute [local irreducible] ES EL PX wps
theorem row_le (s : List UInt8) (r : RE) (a q : Nat) : rowW s r a q ≤ 4097 := by
  unfold rowW
  rw [row_cap]
  exact cap_le _
theorem thr_le (f : Nat → Row) (v : Row) (more : Bool) (q : Nat) : ∀ m, thrGo capW f v more q m ≤ 4097
  | 0 => by simp [thrGo]
  | m + 1 => by
    rw [thrGo]
    split
    · exact thr_le f v more q m
    · exact cap_le _
theorem thr_zero {cap : Nat → Nat} (hc : cap 0 = 0) (f : Nat → Row) (v : Row) (more : Bool) (q : Nat) (h : ∀ p, v p = 0 ∨ f p q = 0 ∨ (more = true ∧ q = p)) : ∀ m, thrGo cap f v more q m = 0
  | 0 => rfl
  | m + 1 => by
    rw [thrGo, thr_zero hc f v more q h m]
    split
    · rfl
    · rename_i hn
      rcases h m with h1 | h1 | h1
      · exact absurd (.inl h1) hn
      · rw [h1]; simpa using hc
      · exact absurd (.inr h1) hn
def zeroTo (v : Row) (b : Nat) : Prop := ∀ q, q < b → v q = 0
section zero
variable {cap : Nat → Nat} (hc : cap 0 = 0) {f : Nat → Row} (hf : ∀ p q, q < p → f p q = 0)
include hc hf
theorem thrR_zero {n : Nat} {v : Row} {more : Bool} {b : Nat} (h : zeroTo v b) : zeroTo (thrR cap n f v more) b := fun q hq =>
  thr_zero hc f v more q (fun p => by
    rcases Nat.lt_or_ge p b with h1 | h1
    · exact .inl (h p h1)
    · exact .inr (.inl (hf p q (by omega)))) _
theorem thrR_step {n : Nat} {v : Row} {b : Nat} (h : zeroTo v b) : zeroTo (thrR cap n f v true) (b + 1) := fun q hq =>
  thr_zero hc f v true q (fun p => by
    rcases Nat.lt_or_ge p b with h1 | h1
    · exact .inl (h p h1)
    · rcases Nat.lt_or_ge q p with h2 | h2
      · exact .inr (.inl (hf p q h2))
      · exact .inr (.inr ⟨rfl, by omega⟩)) _
theorem times_zero {n : Nat} {b : Nat} : ∀ (k : Nat) (v : Row), zeroTo v b → zeroTo (timesR cap n f k v) b
  | 0, v, h => h
  | k + 1, v, h => by rw [timesR]; exact times_zero k _ (thrR_zero hc hf h)
theorem more_zero {n : Nat} {b : Nat} : ∀ (k : Nat) (v all : Row), zeroTo v b → zeroTo all b → zeroTo (moreR cap n f k v all) b
  | 0, v, all, _, h => h
  | k + 1, v, all, hv, ha => by
    rw [moreR]
    have h1 : zeroTo (thrR cap n f v true) b := thrR_zero hc hf hv
    split
    · exact ha
    · refine more_zero k _ _ h1 (fun q hq => ?_)
      rw [ha q hq, h1 q hq]; exact hc
theorem rep_zero {n lo : Nat} {hi : Int} {thin : Bool} {v : Row} {b : Nat} (h : zeroTo v b) : zeroTo (repR cap n lo hi thin f v) b := by
  unfold repR
  dsimp only
  have h1 := times_zero hc hf (n := n) (b := b) (if thin = true then min lo 1 else lo) v h
  generalize timesR cap n f (if thin = true then min lo 1 else lo) v = v1 at h1 ⊢
  split
  · exact h1
  · exact more_zero hc hf _ _ _ h1 h1
end zero
theorem unit_zero (a : Nat) : zeroTo (unitR a) a := fun q hq => if_neg (by omega)
mutual
theorem row_zero {cap : Nat → Nat} (hc : cap 0 = 0) (s : List UInt8) : ∀ (r : RE) (a q : Nat), q < a → rowR cap s r a q = 0
  | .byte b, a, q, h => by rw [rowR]; exact if_neg (by omega)
  | .bol, a, q, h => by rw [rowR]; exact if_neg (by omega)
  | .eol, a, q, h => by rw [rowR]; exact if_neg (by omega)
  | .back _, a, q, h => by rw [rowR]; exact if_neg (by omega)
  | .rep lo hi k, a, q, h => by rw [rowR]; exact rep_zero hc (row_zero hc s k) (unit_zero a) q h
  | .cat ks, a, q, h => by rw [rowR]; exact cat_zero hc s ks _ a (unit_zero a) q h
  | .group _ k, a, q, h => by rw [rowR]; exact thrR_zero hc (row_zero hc s k) (unit_zero a) q h
theorem cat_zero {cap : Nat → Nat} (hc : cap 0 = 0) (s : List UInt8) : ∀ (ks : List RE) (v : Row) (b : Nat), zeroTo v b → zeroTo (catR cap s ks v) b
  | [], v, b, h => by rw [catR]; exact h
  | k :: ks, v, b, h => by rw [catR]; exact cat_zero hc s ks _ b (thrR_zero hc (row_zero hc s k) h)
end
theorem rowW_zero (s : List UInt8) (r : RE) (p q : Nat) (h : q < p) : rowW s r p q = 0 := row_zero rfl s r p q h
theorem noneR_iff (n : Nat) (v : Row) : noneR n v = true ↔ ∀ q, q ≤ n → v q = 0 := by
  unfold noneR
  rw [List.all_eq_true]
  simp only [List.mem_range, decide_eq_true_eq]
  exact ⟨fun h q hq => h q (by omega), fun h q hq => h q (by omega)⟩
def rowC (v : Row) (n : Nat) : List Value := (List.range (n + 1)).map fun q => Iv (v q : Nat)
theorem rowC_len (v : Row) (n : Nat) : (rowC v n).length = n + 1 := by simp [rowC]
theorem rowC_get (v : Row) {n q : Nat} (h : q ≤ n) : (rowC v n)[q]? = some (Iv (v q : Nat)) := by
  unfold rowC
  rw [List.getElem?_map, List.getElem?_range (by omega)]
  rfl
theorem rowC_ext {u v : Row} {n : Nat} (h : ∀ q, q ≤ n → u q = v q) : rowC u n = rowC v n := by
  unfold rowC
  refine List.map_congr_left (fun q hq => ?_)
  rw [h q (by have := List.mem_range.1 hq; omega)]
def updR (v : Row) (j x : Nat) : Row := fun q => if q = j then x else v q
theorem rowC_set (v : Row) {n j : Nat} (x : Nat) (h : j ≤ n) : (rowC v n).set j (Iv (x : Nat)) = rowC (updR v j x) n := by
  apply List.ext_getElem?
  intro q
  rw [List.getElem?_set]
  rcases Nat.lt_or_ge n q with hq | hq
  · rw [if_neg (by omega), List.getElem?_eq_none (by rw [rowC_len]; omega), List.getElem?_eq_none (by rw [rowC_len]; omega)]
  · rw [rowC_get _ hq]
    by_cases e : j = q
    · subst e
      rw [if_pos rfl, if_pos (by rw [rowC_len]; omega), rowC_get _ hq]
      show some (Iv (x : Nat)) = some (Iv ((if j = j then x else v j : Nat) : Nat))
      rw [if_pos rfl]
    · rw [if_neg e, rowC_get _ hq]
      show some (Iv (v q : Nat)) = some (Iv ((if q = j then x else v q : Nat) : Nat))
      rw [if_neg (Ne.symm e)]
theorem rowC_zero (n : Nat) : List.replicate (n + 1) (Iv 0) = rowC (fun _ => 0) n := by
  apply List.ext_getElem?
  intro q
  rcases Nat.lt_or_ge n q with hq | hq
  · rw [List.getElem?_eq_none (by simp; omega), List.getElem?_eq_none (by rw [rowC_len]; omega)]
  · rw [rowC_get _ hq, List.getElem?_replicate, if_pos (by omega)]; rfl
end Go.Proofs.YthcbjbkheodejaaGreat
namespace Go.Proofs.YthcbjbkheodejaaGreat.Sl
open Go Go.RowKit
theorem Rd.take {w : World} {B : Nat} {ad : Option Addr} {cs : List Value} (h : Rd w B ad cs) (k : Nat) : Rd w B ad (cs.take k) := by
  intro hne
  obtain ⟨g, off, h1, h2, h3⟩ := h (by intro e; subst e; simp at hne)
  refine ⟨g, off, h1, h2, fun j v hj => h3 j v ?_⟩
  rw [List.getElem?_take] at hj
  split at hj
  · exact hj
  · cases hj
section cutabove
variable {C : Cx} {all : Array Oper} {ops : List Oper} {Q : Qt} {E : Env} {H : List HA} {d ty t : Nat} {pos : String} {af : Array Edge} {gd : Option (Nat × Bool)} {x y : Operand}
end cutabove
end Go.Proofs.YthcbjbkheodejaaGreat.Sl
namespace Go.Proofs.YthcbjbkheodejaaGreat.Sl
open Go Go.RowKit
variable {C : Cx} {Q : Qt} {E : Env} {H : List HA}
theorem run_append_none {P : Program} (w : World) (t ty e : TypeId) (i : TypeInfo) (ht : P.underlying t = some (.slice e)) (hi : P.info? e = some i) (base : Option Addr) (sLen sCap : Nat) (hle : sLen ≤ sCap) (ad2 : Option Addr) (c : Nat) :
    (Builtin.append_ #[t, t] ty #[.slice base sLen sCap, .slice ad2 0 c]).run P w = .ok (.slice base sLen sCap) w := by
  cases base <;> cases ad2 <;> simp [Builtin.append_, run_underlying ht, sizeOf, typeInfo, hi, hle, Builtin.lenOf, Builtin.firstCells, loadCells, loadCellsFrom, storeCells, Result.andThen]
section appendrd
variable {all : Array Oper} {ops : List Oper} {d ty t : Nat} {pos : String} {af : Array Edge} {gd : Option (Nat × Bool)} {x y : Operand}
end appendrd
end Go.Proofs.YthcbjbkheodejaaGreat.Sl
namespace Go.Proofs.YthcbjbkheodejaaGreat.Sl
open Go Go.RowKit Go.Lib
section buffers
variable {C : Cx} {all : Array Oper} {ops : List Oper} {Q : Qt} {E : Env} {H R : List HA} {d ty t : Nat} {pos : String} {af : Array Edge} {gd : Option (Nat × Bool)} {x y : Operand}
end buffers
end Go.Proofs.YthcbjbkheodejaaGreat.Sl
namespace Go.Proofs.YthcbjbkheodejaaGreat.Sl
open Go Go.RowKit
section appendrow
variable {C : Cx} {all : Array Oper} {ops : List Oper} {Q : Qt} {E : Env} {H R : List HA} {d ty t : Nat} {pos : String} {af : Array Edge} {gd : Option (Nat × Bool)} {x y : Operand}
theorem EL.appendW {ti te : TI} {el : TypeId} {ad ad2 : Option Addr} {n cap m c : Nat} {cs news : List Value} (hg : guardOk all E gd = some true) (hx : E.ev x = some (.slice ad n cap)) (hy : E.ev y = some (.slice ad2 m c)) (ht : C.T.f t = some ti) (hu : ti.u = .slice el) (hte : C.T.f el = some te)
    (hz1 : te.zero.cells.size = te.size) (hpos : Nat.blt 0 te.size = true) (hd : Nat.blt d C.n = true) (p : Pick H (HA.row (.slice ad n cap) el te.size n cs) R) (hrd : ∀ w, Sat C.w0 C.B H w → Rd w w.heap.size ad2 news) (hl : news.length = m * te.size) (h1 : ∀ u ∈ news, u.oneCell' = true)
    (h63 : n + m ≤ maxLen) (hbytes : (n + m) * te.bytes ≤ 140737488355328)
    (k : ∀ ad' cap', EL C all ops Q ((d, .slice ad' (n + m) cap') :: E) (HA.row (.slice ad' (n + m) cap') el te.size (n + m) (cs ++ news) :: R)) :
    EL C all (⟨some d, .call { callee := .builtin .append, args := #[x, y], argTypes := #[t, t] }, ty, pos, af, gd⟩ :: ops) Q E H := by
  rcases Nat.eq_zero_or_pos m with rfl | hm
  · obtain rfl : news = [] := List.eq_nil_of_length_eq_zero (by simpa using hl)
    refine EL.val (.slice ad n cap) hg rfl hd (by simp) (fun a w ha => ?_) ?_
    · have hT := (C.T.ok t ti ht).u
      rw [hu] at hT
      obtain ⟨i, hi, hz, hs, hb⟩ := (C.T.ok el te hte).info
      have hf := row_form (ha.2.perm p.perm).head
      have hr := run_append_none (P := C.P) w t ty el i hT hi ad n cap hf.2.1 ad2 c
      simp [execOp, ha.1.ev hx, ha.1.ev hy, resolve, invoke, builtin, hr, Result.andThen]
    · intro a w ha
      have h2 := k ad cap a w
      simp only [Nat.add_zero, List.append_nil] at h2
      exact h2 ⟨ha.1, ha.2.perm p.perm⟩
  · have hpz : 0 < te.size := by simpa using hpos
    have hne : news ≠ [] := by
      intro e; subst e
      have := Nat.mul_pos hm hpz
      simp at hl; omega
    intro a w ha
    obtain ⟨g, off, rfl, hgB, _⟩ := hrd w ha.2 hne
    exact (EL.append hg hx hy ht hu hte hz1 hpos hd p hl hm (fun w hs j u hj => by
      obtain ⟨g', off', h1', h2', h3'⟩ := hrd w hs hne
      cases h1'
      rw [add_n]; exact h3' j u hj) h1 h63 hbytes (fun g' cap' => k _ cap')) a w ha
end appendrow
end Go.Proofs.YthcbjbkheodejaaGreat.Sl
namespace Go.Proofs.YthcbjbkheodejaaGreat
open Go Go.RowKit Sl
set_option maxRecDepth 100000
set_option maxHeartbeats 8000000
attribute [local irreducible] ES EL PX wps
abbrev CB (gc gm : Nat) (s : List UInt8) : HA := HA.blk gc (.cells #[Sv s, .map (some gm)] 188)
abbrev MH (gm : Nat) (es : List ME) : HA := HA.memo gm 3 es
abbrev VR (g cap n : Nat) (v : Row) : HA := HA.row (.slice (some ⟨g, 0, none⟩) (n + 1) cap) 3 1 (n + 1) (rowC v n)
theorem keyW : KeyTy Tryz.prog TB 208 1 := ⟨_, _, _, _, _, _, rfl, rfl, sth208, rfl, rfl, rfl, by decide, rfl, rfl, ⟨⟨_, rfl, rfl⟩, rfl, rfl, trivial⟩, rfl⟩
structure EntOk (w0 : World) (B : Nat) (s : List UInt8) (m : ME) (r : RE) (at_ : Nat) : Prop where
  node : NodeRd w0 B m.key.g m.key.off r
  is : m.key.is = [(at_ : Int)]
  le : at_ ≤ s.length
  val : ∃ gb cap, m.val = .slice (some ⟨gb, 0, none⟩) (s.length + 1) cap
  cells : m.cells = rowC (rowW s r at_) s.length
def MemoOk (w0 : World) (B : Nat) (s : List UInt8) (es : List ME) : Prop := ∀ m ∈ es, ∃ r a, EntOk w0 B s m r a
structure GrowV (w0 : World) (B : Nat) (s : List UInt8) (es : List ME) (b : Nat) where
  es' : List ME
  new : List ME
  eq : es' = es ++ new
  ok : MemoOk w0 B s es'
  small : ∀ m ∈ new, ∃ r a, EntOk w0 B s m r a ∧ r.sz ≤ b
def GrowV.zero {w0 : World} {B : Nat} {s : List UInt8} {es : List ME} {b : Nat} (h : MemoOk w0 B s es) : GrowV w0 B s es b := ⟨es, [], by simp, h, by simp⟩
def GrowV.trans {w0 : World} {B : Nat} {s : List UInt8} {es : List ME} {b c : Nat} (x : GrowV w0 B s es b) (y : GrowV w0 B s x.es' c) (h : c ≤ b) : GrowV w0 B s es b :=
  ⟨y.es', x.new ++ y.new, y.eq.trans ((congrArg (· ++ y.new) x.eq).trans (List.append_assoc _ _ _)), y.ok, fun m hm => by
    rcases List.mem_append.1 hm with hm | hm
    · exact x.small m hm
    · obtain ⟨r, a, h1, h2⟩ := y.small m hm
      exact ⟨r, a, h1, by omega⟩⟩
def GrowV.wide {w0 : World} {B : Nat} {s : List UInt8} {es : List ME} {b c : Nat} (x : GrowV w0 B s es b) (h : b ≤ c) : GrowV w0 B s es c :=
  ⟨x.es', x.new, x.eq, x.ok, fun m hm => by
    obtain ⟨r, a, h1, h2⟩ := x.small m hm
    exact ⟨r, a, h1, by omega⟩⟩
structure RowX (w0 : World) (B : Nat) (s : List UInt8) (es : List ME) (r : RE) (a : Nat) where
  G : GrowV w0 B s es r.sz
  m : ME
  mem : m ∈ G.es'
  ent : EntOk w0 B s m r a
def RowCt (s : List UInt8) (gc gm : Nat) (w0 : World) (B : Nat) (r : RE) (g off : Nat) : Prop :=
  ∀ (a : Nat) (es : List ME), a ≤ s.length → MemoOk w0 B s es → MutAt Tryz.prog 89 #[Pv gc 0, Pv g off, Iv (a : Nat)] [CB gc gm s, MH gm es] (fun x : RowX w0 B s es r a => x.m.val) (fun x => [CB gc gm s, MH gm x.G.es']) w0 B
structure ThrX (w0 : World) (B : Nat) (s : List UInt8) (es : List ME) (r : RE) where
  G : GrowV w0 B s es r.sz
  g : Nat
  cap : Nat
theorem none_c (v : Row) (n : Nat) (hn : n ≤ 1073741824) (ad : Option Addr) (cap : Nat) (w : World) (hrd : Rd w w.heap.size ad (rowC v n)) : Pure Tryz.prog 120 #[.slice ad (n + 1) cap] (fun _ : Unit => .bool (noneR n v)) (fun _ => []) w := by
  obtain ⟨g, off, rfl, _⟩ := hrd (fun e => by have := rowC_len v n; rw [e] at this; simp at this)
  have hiff := noneR_iff n v
  refine calls_of_ES TB Tryz.func120 rfl _ Tryz.ntmps120 rfl (Sat.start w) ?_; refine .go ?_; (repeat constructor); refine .as_ ?_; refine .go ?_; (repeat constructor); refine .mv ?_; refine .lL ?_; refine .mv ?_; refine .go ?_; (repeat constructor); refine ES.loop (σ := Nat) (fun i => i ≤ n + 1 ∧ ∀ q, q < i → v q = 0) (fun i => [(5, .slice (some ⟨g, off, none⟩) (n + 1) cap), (6, Iv ((n + 1 : Nat) : Int)), (7, Iv (i : Nat))]) (fun _ => []) (fun i => n + 1 - i) 0 ⟨Nat.zero_le _, fun q h => by omega⟩ ⟨rfl, rfl, rfl, trivial⟩ (.i (by repeat constructor)) ?_
  rintro i ⟨hi, hz⟩
  dsimp only at hi hz ⊢
  refine .go ?_; (repeat constructor); refine .ls ?_; refine .go ?_; repeat constructor
  refine ES.condD rfl (fun hlt => ?_) (fun hge => ?_)
  · refine .go ?_; (repeat constructor); refine EL.indexAddrLo rfl rfl rfl rfl rfl rfl rfl rfl (by omega) ?_; refine EL.loadOld rfl rfl rfl rfl rfl hrd (rowC_get v (by omega)) ?_; refine .as_ ?_; refine .go ?_; (repeat constructor); refine .mv ?_; refine .ni ?_; refine .go ?_; repeat constructor
    refine ES.condN rfl (fun hne => ?_) (fun he => ?_)
    · have hf : noneR n v = false := by
        rw [Bool.eq_false_iff, ne_eq, hiff]
        intro h
        exact hne (by rw [h i (by omega)]; rfl)
      rw [hf]
      refine .go ?_; (repeat constructor); refine .as_ ?_; refine .go ?_; repeat constructor
      exact PX.ret rfl Tryz.results120 (.cons (.tmp rfl) .nil) (fun w hs => ⟨(), rfl, hs.ent (.i (by repeat constructor))⟩)
    · refine .go ?_; (repeat constructor); refine .a1 ?_; refine .mv ?_; refine .go ?_; repeat constructor
      refine .ly (i + 1) ⟨by omega, fun q hq => ?_⟩ (by omega)
      rcases Nat.lt_or_ge q i with h | h
      · exact hz q h
      · obtain rfl : q = i := by omega
        omega
  · have ht : noneR n v = true := hiff.2 (fun q hq => hz q (by omega))
    rw [ht]
    refine .go ?_; (repeat constructor); refine .as_ ?_; refine .go ?_; repeat constructor
    exact PX.ret rfl Tryz.results120 (.cons (.tmp rfl) .nil) (fun w hs => ⟨(), rfl, hs.ent (.i (by repeat constructor))⟩)
theorem VR_eq {g cap n : Nat} {u v : Row} (h : rowC u n = rowC v n) : VR g cap n u = VR g cap n v := congrArg (HA.row (.slice (some ⟨g, 0, none⟩) (n + 1) cap) 3 1 (n + 1)) h
theorem if_row (n : Nat) (u v : Row) (j x : Nat) (hx : x = u j) : rowC (updR (fun q => if q < j then u q else v q) j x) n = rowC (fun q => if q < j + 1 then u q else v q) n := rowC_ext (fun q _ => by
  show (if q = j then x else if q < j then u q else v q) = if q < j + 1 then u q else v q
  subst hx
  rcases Nat.lt_trichotomy q j with h | h | h
  · rw [if_neg (by omega), if_pos h, if_pos (by omega)]
  · subst h; rw [if_pos rfl, if_pos (by omega)]
  · rw [if_neg (by omega), if_neg (by omega), if_neg (by omega)])
theorem if_row_keep (n : Nat) (u v : Row) (j : Nat) (hx : u j = v j) : rowC (fun q => if q < j then u q else v q) n = rowC (fun q => if q < j + 1 then u q else v q) n := rowC_ext (fun q _ => by
  show (if q < j then u q else v q) = if q < j + 1 then u q else v q
  rcases Nat.lt_trichotomy q j with h | h | h
  · rw [if_pos h, if_pos (by omega)]
  · subst h; rw [if_neg (by omega), if_pos (by omega), hx]
  · rw [if_neg (by omega), if_neg (by omega)])
theorem through_c (s : List UInt8) (hs : s.length ≤ 1024) (gc gm : Nat) (w0 : World) (B : Nat) (r : RE) (g off : Nat) (hrow : RowCt s gc gm w0 B r g off) (vg vcap : Nat) (vr : Row) (more : Bool) (es : List ME) (hv : ∀ q, vr q ≤ 4097) (hok : MemoOk w0 B s es) :
    MutAt Tryz.prog 104 #[Pv gc 0, .slice (some ⟨vg, 0, none⟩) (s.length + 1) vcap, Pv g off, .bool more] [CB gc gm s, MH gm es, VR vg vcap s.length vr] (fun x : ThrX w0 B s es r => .slice (some ⟨x.g, 0, none⟩) (s.length + 1) x.cap)
      (fun x => [CB gc gm s, MH gm x.G.es', VR x.g x.cap s.length (thrR capW s.length (rowW s r) vr more)]) w0 B := by
  intro R w h
  replace h : Sat w0 B (CB gc gm s :: MH gm es :: VR vg vcap s.length vr :: R) w := h
  obtain ⟨n, hn⟩ : ∃ n, n = s.length := ⟨_, rfl⟩
  have hf : ∀ p q, rowW s r p q ≤ 4097 := fun p q => row_le s r p q
  refine calls_of_ES TB Tryz.func104 rfl _ Tryz.ntmps104 rfl h ?_; refine .go ?_; (repeat constructor); refine .as_ ?_; refine .go ?_; (repeat constructor); refine .mv ?_; refine .lL ?_
  refine EL.makeSlice (n := s.length + 1) rfl rfl rfl rfl rfl rfl (by first | omega | (show 1 * _ ≤ _; omega) | (show 8 * _ ≤ _; omega) | (show 16 * _ ≤ _; omega) | (show 24 * _ ≤ _; omega) | (show _ * 1 ≤ _; omega) | (show _ * 8 ≤ _; omega) | (show _ * 16 ≤ _; omega) | (show _ * 24 ≤ _; omega) | exact Nat.le_trans (Nat.mul_le_mul_right _ (show _ ≤ 1073741824 by omega)) (by decide)) (by unfold maxLen; omega) ?_
  intro g16
  refine .as_ ?_; refine .go ?_; (repeat constructor); refine .mv ?_; refine .lL ?_; refine .mv ?_; refine .go ?_; (repeat constructor); refine ES.rowEq (by repeat constructor) (cs' := rowC (fun q => thrGo capW (rowW s r) vr more q 0) s.length) ((made1 _ _).trans (rowC_zero _)) ?_
  refine ES.loop (σ := Nat × GrowV w0 B s es r.sz) (fun (p, G) => p ≤ s.length + 1) (fun (p, G) => [(0, Pv gc 0), (2, Pv g off), (3, .bool more), (9, .slice (some ⟨g16, 0, none⟩) (s.length + 1) (s.length + 1)), (17, .slice (some ⟨vg, 0, none⟩) (s.length + 1) vcap), (18, Iv ((s.length + 1 : Nat) : Int)), (19, Iv (p : Nat))])
    (fun (p, G) => CB gc gm s :: MH gm G.es' :: VR vg vcap s.length vr :: VR g16 (s.length + 1) s.length (fun q => thrGo capW (rowW s r) vr more q p) :: R) (fun (p, G) => s.length + 1 - p) (0, GrowV.zero hok) (Nat.zero_le _) ⟨rfl, rfl, rfl, rfl, rfl, rfl, rfl, trivial⟩ (.i (by repeat constructor)) ?_
  rintro ⟨p, G⟩ hp
  dsimp only at hp ⊢
  refine .go ?_; (repeat constructor); refine .ls ?_; refine .go ?_; repeat constructor
  refine ES.condD rfl (fun hlt => ?_) (fun hge => ?_)
  · have hpn : p ≤ s.length := by omega
    refine .go ?_; (repeat constructor); refine .mv ?_; refine .i1 ?_; refine EL.loadR rfl rfl rfl rfl rfl (by repeat constructor) (rowC_get vr hpn) ?_; refine .as_ ?_; refine .as_ ?_; refine .go ?_; (repeat constructor); refine .mv ?_; refine .ei ?_; refine .go ?_; repeat constructor
    refine ES.condD rfl (fun h0 => ?_) (fun hne => ?_)
    · have h0' : vr p = 0 := by omega
      refine .go ?_; (repeat constructor); refine .a1 ?_; refine .mv ?_; refine .go ?_; repeat constructor
      refine PX.loop (p + 1, G) (by simp only; omega) (by simp only; omega) ⟨rfl, rfl, rfl, rfl, rfl, rfl, rfl, trivial⟩ ?_
      have e : rowC (fun q => thrGo capW (rowW s r) vr more q p) s.length = rowC (fun q => thrGo capW (rowW s r) vr more q (p + 1)) s.length := rowC_ext (fun q _ => by show _ = thrGo capW (rowW s r) vr more q (p + 1); rw [thrGo, if_pos (.inl h0')])
      dsimp only
      rw [← VR_eq (g := g16) (cap := s.length + 1) e]
      exact (.i (by repeat constructor))
    · have hvp := hv p
      refine .go ?_; (repeat constructor); refine .mv ?_; refine .mv ?_; refine .mv ?_; (refine EL.callMw rfl rfl rfl ent89 rfl (hrow p G.es' hpn G.ok) (by repeat constructor) ?_; intro x)
      obtain ⟨gb, rcap, hxv⟩ := x.ent.val
      refine EL.rew (d := 29) (v' := .slice (some ⟨gb, 0, none⟩) (s.length + 1) rcap) rfl hxv ?_; refine .lL ?_; refine .mv ?_; refine .go ?_; repeat constructor
      refine ES.loop (σ := Nat) (fun j => j ≤ s.length + 1) (fun j => [(0, Pv gc 0), (2, Pv g off), (3, .bool more), (9, .slice (some ⟨g16, 0, none⟩) (s.length + 1) (s.length + 1)), (17, .slice (some ⟨vg, 0, none⟩) (s.length + 1) vcap), (18, Iv ((s.length + 1 : Nat) : Int)), (19, Iv (p : Nat)), (10, Iv (p : Nat)), (11, Iv (vr p : Nat)), (29, .slice (some ⟨gb, 0, none⟩) (s.length + 1) rcap), (30, Iv ((s.length + 1 : Nat) : Int)), (31, Iv (j : Nat))])
        (fun j => CB gc gm s :: MH gm x.G.es' :: VR vg vcap s.length vr :: VR g16 (s.length + 1) s.length (fun q => if q < j then thrGo capW (rowW s r) vr more q (p + 1) else thrGo capW (rowW s r) vr more q p) :: R) (fun j => s.length + 1 - j) 0 (Nat.zero_le _) ⟨rfl, rfl, rfl, rfl, rfl, rfl, rfl, rfl, rfl, rfl, rfl, rfl, trivial⟩ (.i (by repeat constructor)) ?_
      intro j hj
      refine .go ?_; (repeat constructor); refine .ls ?_; refine .go ?_; repeat constructor
      refine ES.condD rfl (fun hlt2 => ?_) (fun hge2 => ?_)
      · have hjn : j ≤ s.length := by omega
        have hfj := hf p j
        refine .go ?_; (repeat constructor); refine .mv ?_; refine .i1 ?_
        refine EL.ofRV (RV.loadMemo rfl rfl rfl (by repeat constructor) x.mem hxv (by rw [x.ent.cells]; exact rowC_get _ hjn)) rfl rfl rfl (by intro c h; cases h) ?_
        refine .as_ ?_; refine .as_ ?_; refine .go ?_; repeat constructor
        refine EL.cutX (X := Unit) (fun _ => [(0, Pv gc 0), (2, Pv g off), (3, .bool more), (9, .slice (some ⟨g16, 0, none⟩) (s.length + 1) (s.length + 1)), (17, .slice (some ⟨vg, 0, none⟩) (s.length + 1) vcap), (18, Iv ((s.length + 1 : Nat) : Int)), (19, Iv (p : Nat)), (10, Iv (p : Nat)), (11, Iv (vr p : Nat)), (29, .slice (some ⟨gb, 0, none⟩) (s.length + 1) rcap), (30, Iv ((s.length + 1 : Nat) : Int)), (31, Iv (j : Nat)), (12, Iv (j : Nat)), (13, Iv (rowW s r p j : Nat)), (41, .bool (decide (more = true ∧ j = p)))])
          (fun _ => CB gc gm s :: MH gm x.G.es' :: VR vg vcap s.length vr :: VR g16 (s.length + 1) s.length (fun q => if q < j then thrGo capW (rowW s r) vr more q (p + 1) else thrGo capW (rowW s r) vr more q p) :: R) ?_ (fun _ => ?_)
        · refine .go ?_; (repeat constructor); refine .mv ?_; refine .mv ?_
          first | refine EL.splitD (d := 37) rfl (fun hp37 => ?_) (fun hp37 => ?_) | refine EL.splitN (d := 37) rfl (fun hp37 => ?_) (fun hp37 => ?_) | refine EL.splitB (d := 37) rfl (fun hp37 => ?_) (fun hp37 => ?_)
          · refine .mv ?_; refine .mv ?_; refine .ei ?_; refine .pt ?_
            exact .dx () ⟨rfl, rfl, rfl, rfl, rfl, rfl, rfl, rfl, rfl, rfl, rfl, rfl, rfl, rfl, getA rfl (congrArg Value.bool (by simp_all <;> omega)), trivial⟩
          · refine .ps ?_; refine .ps ?_; refine .ps ?_; refine .pf ?_
            exact .dx () ⟨rfl, rfl, rfl, rfl, rfl, rfl, rfl, rfl, rfl, rfl, rfl, rfl, rfl, rfl, getA rfl (congrArg Value.bool (by simp_all <;> omega)), trivial⟩
        have hstep : thrGo capW (rowW s r) vr more j (p + 1) = if vr p = 0 ∨ (more = true ∧ j = p) then thrGo capW (rowW s r) vr more j p else capW (thrGo capW (rowW s r) vr more j p + vr p * rowW s r p j) := by rw [thrGo]
        refine ES.condD rfl (fun hskip => ?_) (fun hgo => ?_)
        · rw [if_pos (.inr hskip)] at hstep
          refine .go ?_; (repeat constructor); refine .a1 ?_; refine .mv ?_; refine .go ?_; (repeat constructor); refine PX.loop (j + 1) (by omega) (by omega) ⟨rfl, rfl, rfl, rfl, rfl, rfl, rfl, rfl, rfl, rfl, rfl, rfl, trivial⟩ ?_
          rw [← VR_eq (g := g16) (cap := s.length + 1) (if_row_keep _ _ _ j hstep)]
          exact (.i (by repeat constructor))
        · rw [if_neg (by rintro (h | h); exact hne (by rw [h]; rfl); exact hgo h)] at hstep
          have hmul : vr p * rowW s r p j ≤ 4097 * 4097 := Nat.mul_le_mul hvp hfj
          have hold := thr_le (rowW s r) vr more j p
          have hget : (rowC (fun q => if q < j then thrGo capW (rowW s r) vr more q (p + 1) else thrGo capW (rowW s r) vr more q p) s.length)[j]? = some (Iv (thrGo capW (rowW s r) vr more j p : Nat)) := by
            rw [rowC_get _ hjn]
            simp
          have hval : (Iv (min (((thrGo capW (rowW s r) vr more j p : Nat) : Int) + ((vr p * rowW s r p j : Nat) : Int)) 4097)) = Iv ((capW (thrGo capW (rowW s r) vr more j p + vr p * rowW s r p j) : Nat) : Int) := congrArg Iv (by unfold capW; omega)
          refine .go ?_; (repeat constructor); refine .mv ?_; refine .mv ?_; refine .mv ?_; refine .mv ?_; refine .i1 ?_; refine EL.loadR rfl rfl rfl rfl rfl (by repeat constructor) hget ?_; refine .mv ?_; refine .mv ?_; refine EL.mulN rfl rfl rfl rfl rfl (by omega) ?_; refine EL.addN rfl rfl rfl rfl rfl (by omega) ?_
          refine EL.ofRV (RV.minI rfl rfl) rfl rfl rfl (by intro c h; cases h) ?_
          refine .i1 ?_
          (refine EL.storeR rfl rfl rfl rfl rfl rfl (by repeat constructor) (by rw [rowC_len]; omega) ?_; refine EL.rowEq (v := .slice (some ⟨g16, 0, none⟩) (s.length + 1) (s.length + 1)) (by repeat constructor) ((congrArg (fun u => (rowC _ _).set j u) hval).trans ((rowC_set _ _ hjn).trans (if_row _ _ _ _ _ hstep.symm))) ?_)
          refine .go ?_; (repeat constructor); refine .a1 ?_; refine .mv ?_; refine .go ?_; repeat constructor
          exact .ly (j + 1) (by omega) (by omega)
      · obtain rfl : j = s.length + 1 := by omega
        refine .go ?_; (repeat constructor); refine .a1 ?_; refine .mv ?_; refine .go ?_; repeat constructor
        refine PX.loop (p + 1, G.trans x.G (Nat.le_refl _)) (by simp only; omega) (by simp only; omega) ⟨rfl, rfl, rfl, rfl, rfl, rfl, rfl, trivial⟩ ?_
        have e : rowC (fun q => if q < s.length + 1 then thrGo capW (rowW s r) vr more q (p + 1) else thrGo capW (rowW s r) vr more q p) s.length = rowC (fun q => thrGo capW (rowW s r) vr more q (p + 1)) s.length := rowC_ext (fun q hq => if_pos (by omega))
        dsimp only
        rw [← VR_eq (g := g16) (cap := s.length + 1) e]
        exact (.i (by repeat constructor))
  · obtain rfl : p = s.length + 1 := by omega
    refine .go ?_; (repeat constructor); refine .mv ?_; refine .as_ ?_; refine .go ?_; repeat constructor
    exact PX.ret rfl Tryz.results104 (.cons (.tmp rfl) .nil) (fun w hs => ⟨⟨G, g16, s.length + 1⟩, rfl, hs.ent (.i (by repeat constructor))⟩)
structure RSt (w0 : World) (B : Nat) (s : List UInt8) (es : List ME) (b : Nat) where
  i : Nat
  g : Nat
  cap : Nat
  v : Row
  G : GrowV w0 B s es b
structure MSt (w0 : World) (B : Nat) (s : List UInt8) (es : List ME) (b : Nat) where
  c : Nat
  g : Nat
  cap : Nat
  v : Row
  all : Row
  G : GrowV w0 B s es b
theorem repeat_c (s : List UInt8) (hs : s.length ≤ 1024) (gc gm : Nat) (w0 : World) (B : Nat) (lo : Nat) (hi : Int) (k : RE) (g off : Nat) (hfine : (RE.rep lo hi k).fine) (hn : NodeRd w0 B g off (.rep lo hi k))
    (hrow : ∀ g off, NodeRd w0 B g off k → RowCt s gc gm w0 B k g off) (vg vcap : Nat) (vr : Row) (es : List ME) (hv : ∀ q, vr q ≤ 4097) (hok : MemoOk w0 B s es) :
    MutAt Tryz.prog 103 #[Pv gc 0, .slice (some ⟨vg, 0, none⟩) (s.length + 1) vcap, Pv g off] [CB gc gm s, MH gm es, VR vg vcap s.length vr] (fun x : ThrX w0 B s es k => .slice (some ⟨x.g, 0, none⟩) (s.length + 1) x.cap)
      (fun x => [CB gc gm s, MH gm x.G.es', VR x.g x.cap s.length (repR capW s.length lo hi k.thin (rowW s k) vr)]) w0 B := by
  intro R w h
  replace h : Sat w0 B (CB gc gm s :: MH gm es :: VR vg vcap s.length vr :: R) w := h
  obtain ⟨ad, cap, hrd, hkids⟩ := hn.kids
  have hrd := hrd.rd
  obtain ⟨kg, ko, rfl, hk⟩ := hkids (by simp [RE.kids])
  have hkn : NodeRd w0 B kg ko k := by have := hk 0 k rfl; rwa [Nat.zero_mul, Nat.add_zero] at this
  have hrk := hrow kg ko hkn
  have hkf := hfine.2.2.2.2
  have hle : leastM lo k = if k.thin = true then min lo 1 else lo := rfl
  obtain ⟨hlo, hh0, hh1, hlh, _⟩ := hfine
  have hrep : repR capW s.length lo hi k.thin (rowW s k) vr = (let v1 := timesR capW s.length (rowW s k) (leastM lo k) vr; if k.thin = true then v1 else moreR capW s.length (rowW s k) (if hi < 0 then s.length + 2 else hi.toNat - lo) v1 v1) := rfl
  have hlel : leastM lo k ≤ 255 := by rw [hle]; split <;> omega
  obtain ⟨v1, hv1⟩ : ∃ v1, v1 = timesR capW s.length (rowW s k) (leastM lo k) vr := ⟨_, rfl⟩
  dsimp only at hrep
  rw [← hv1] at hrep
  rw [hrep]
  refine calls_of_ES TB Tryz.func103 rfl _ Tryz.ntmps103 rfl h ?_; refine .go ?_; (repeat constructor); refine .as_ ?_; refine .go ?_; (repeat constructor); refine .mv ?_; refine .nc ?_; refine .fa ?_; refine EL.loadOld rfl rfl rfl rfl rfl hrd rfl ?_; refine EL.indexAddrL (i := 0) rfl rfl rfl rfl rfl rfl rfl (by simp [RE.kids]) ?_; refine .as_ ?_; refine .go ?_; (repeat constructor); refine .mv ?_; refine EL.callPw rfl rfl rfl ent68 rfl (fun w hs => least_c lo hi k ⟨hlo, hh0, hh1, hlh, hkf⟩ g off w (NodeRd.sat hn hs)) ?_; refine .mv ?_; refine .go ?_; repeat constructor
  refine ES.loop (σ := RSt w0 B s es k.sz) (fun x => x.i ≤ leastM lo k ∧ (∀ q, x.v q ≤ 4097) ∧ timesR capW s.length (rowW s k) (leastM lo k - x.i) x.v = v1) (fun x => [(0, Pv gc 0), (1, .slice (some ⟨x.g, 0, none⟩) (s.length + 1) x.cap), (2, Pv g off), (7, Pv kg ko), (18, Iv (leastM lo k : Nat)), (19, Iv (x.i : Nat))])
    (fun x => CB gc gm s :: MH gm x.G.es' :: VR x.g x.cap s.length x.v :: R) (fun x => leastM lo k - x.i) ⟨0, vg, vcap, vr, GrowV.zero hok⟩ ⟨Nat.zero_le _, hv, hv1.symm⟩ ⟨rfl, rfl, rfl, rfl, rfl, rfl, trivial⟩ (.i (by repeat constructor)) ?_
  rintro ⟨i, ig, icap, iv, G⟩ ⟨hi1, hi2, hi3⟩
  dsimp only at hi1 hi2 hi3 ⊢
  refine .go ?_; (repeat constructor); refine .ls ?_; refine .go ?_; repeat constructor
  refine ES.condD rfl (fun hlt => ?_) (fun hge => ?_)
  · refine .go ?_; (repeat constructor); refine .mv ?_; refine .mv ?_; refine .mv ?_; (refine EL.callMw rfl rfl rfl ent104 rfl (through_c s hs gc gm w0 B k kg ko hrk ig icap iv false G.es' hi2 G.ok) (by repeat constructor) ?_; intro x); refine .as_ ?_; refine .go ?_; (repeat constructor); refine .a1 ?_; refine .mv ?_; refine .go ?_; repeat constructor
    refine .ly ⟨i + 1, x.g, x.cap, thrR capW s.length (rowW s k) iv false, G.trans x.G (Nat.le_refl _)⟩ ⟨by simp only; omega, fun q => thr_le _ _ _ _ _, ?_⟩ (by simp only; omega)
    dsimp only
    obtain ⟨m, hm⟩ : ∃ m, leastM lo k - i = m + 1 := ⟨leastM lo k - i - 1, by omega⟩
    rw [hm, timesR] at hi3
    rw [show leastM lo k - (i + 1) = m by omega]
    exact hi3
  obtain rfl : i = leastM lo k := by omega
  rw [Nat.sub_self, timesR] at hi3
  subst hi3
  refine ES.nilRow 3 1 ?_; refine .go ?_; (repeat constructor); refine .mv ?_
  refine EL.appendW (cs := []) (news := rowC iv s.length) rfl rfl rfl rfl rfl rfl rfl rfl rfl (by repeat constructor) (fun w hs => Rd.row hs (by repeat constructor) (by decide)) (by rw [rowC_len]; exact (Nat.mul_one _).symm) (fun u hu => by obtain ⟨q, _, rfl⟩ := List.mem_map.1 hu; rfl) (by unfold maxLen; omega) (by first | omega | (show 1 * _ ≤ _; omega) | (show 8 * _ ≤ _; omega) | (show 16 * _ ≤ _; omega) | (show 24 * _ ≤ _; omega) | (show _ * 1 ≤ _; omega) | (show _ * 8 ≤ _; omega) | (show _ * 16 ≤ _; omega) | (show _ * 24 ≤ _; omega) | exact Nat.le_trans (Nat.mul_le_mul_right _ (show _ ≤ 1073741824 by omega)) (by decide)) ?_
  intro ad27 cap27
  refine EL.rowForm (e := 3) (sz := 1) (cs := [] ++ rowC iv s.length) (ad := ad27) (cap := cap27) (len := 0 + (s.length + 1)) (n := 0 + (s.length + 1)) (by repeat constructor) (fun hf => ?_)
  obtain ⟨ag, rfl⟩ := hf.2.2.2.2 (by omega)
  rw [Nat.zero_add]
  refine .as_ ?_; refine .go ?_; (repeat constructor); refine .mv ?_; refine EL.callPw rfl rfl rfl ent87 rfl (fun w hs => thin_c k hkf kg ko w (NodeRd.sat hkn hs)) ?_; refine .go ?_; repeat constructor
  refine ES.cond rfl (fun ht => ?_) (fun hf => ?_)
  · rw [if_pos ht]
    refine .go ?_; (repeat constructor); refine .mv ?_; refine .as_ ?_; refine .go ?_; repeat constructor
    exact PX.ret rfl Tryz.results103 (.cons (.tmp rfl) .nil) (fun w hs => ⟨⟨G, ag, cap27⟩, rfl, hs.ent (.i (by repeat constructor))⟩)
  rw [if_neg (by rw [hf]; decide)]
  obtain ⟨F, hF⟩ : ∃ F, F = if hi < 0 then s.length + 2 else hi.toNat - lo := ⟨_, rfl⟩
  rw [← hF]
  obtain ⟨fin, hfin⟩ : ∃ fin, fin = moreR capW s.length (rowW s k) F iv iv := ⟨_, rfl⟩
  rw [← hfin]
  have hF2 : F ≤ 2000 := by rw [hF]; split <;> omega
  have hzero : ∀ p q, q < p → rowW s k p q = 0 := rowW_zero s k
  refine .go ?_; (repeat constructor); refine .mv ?_; refine .nc ?_; refine .fa ?_; refine EL.loadOld rfl rfl rfl rfl rfl hrd rfl ?_; refine .as_ ?_; refine .go ?_; repeat constructor
  refine ES.loop (σ := MSt w0 B s es k.sz) (fun x => x.c ≤ F ∧ (∀ q, x.v q ≤ 4097) ∧ (∀ q, x.all q ≤ 4097) ∧ zeroTo x.v x.c ∧ (hi < 0 → x.c ≤ s.length) ∧ moreR capW s.length (rowW s k) (F - x.c) x.v x.all = fin)
    (fun x => [(0, Pv gc 0), (1, .slice (some ⟨x.g, 0, none⟩) (s.length + 1) x.cap), (2, Pv g off), (7, Pv kg ko), (8, .slice (some ⟨ag, 0, none⟩) (s.length + 1) cap27), (9, Iv ((lo + x.c : Nat) : Int))])
    (fun x => CB gc gm s :: MH gm x.G.es' :: VR x.g x.cap s.length x.v :: VR ag cap27 s.length x.all :: R) (fun x => F - x.c) ⟨0, ig, icap, iv, iv, G⟩ ⟨Nat.zero_le _, hi2, hi2, fun q hq => absurd hq (Nat.not_lt_zero q), fun _ => Nat.zero_le _, hfin.symm⟩ ⟨rfl, rfl, rfl, rfl, rfl, rfl, trivial⟩ (.i (by repeat constructor)) ?_
  rintro ⟨c, cg, ccap, cv, call, G⟩ ⟨hc1, hc2, hc3, hc4, hc5, hc6⟩
  dsimp only at hc1 hc2 hc3 hc4 hc5 hc6 ⊢
  refine .go ?_; repeat constructor
  refine EL.cutX (X := Unit) (fun _ => [(0, Pv gc 0), (1, .slice (some ⟨cg, 0, none⟩) (s.length + 1) ccap), (2, Pv g off), (7, Pv kg ko), (8, .slice (some ⟨ag, 0, none⟩) (s.length + 1) cap27), (9, Iv ((lo + c : Nat) : Int)), (47, .bool (decide (hi < 0 ∨ ((lo + c : Nat) : Int) < hi)))])
    (fun _ => CB gc gm s :: MH gm G.es' :: VR cg ccap s.length cv :: VR ag cap27 s.length call :: R) ?_ (fun _ => ?_)
  · refine .go ?_; (repeat constructor); refine .mv ?_; refine .nc ?_; refine .fa ?_; refine EL.loadOld rfl rfl rfl rfl rfl hrd rfl ?_; refine .ls ?_; refine .mv ?_
    first | refine EL.splitD (d := 40) rfl (fun hp40 => ?_) (fun hp40 => ?_) | refine EL.splitN (d := 40) rfl (fun hp40 => ?_) (fun hp40 => ?_) | refine EL.splitB (d := 40) rfl (fun hp40 => ?_) (fun hp40 => ?_)
    · refine .ps ?_; refine .ps ?_; refine .ps ?_; refine .ps ?_; refine .ps ?_; refine .ps ?_; refine .pt ?_
      exact .dx () ⟨rfl, rfl, rfl, rfl, rfl, rfl, getA rfl (congrArg Value.bool (by rw [Bool.eq_iff_iff]; simp only [decide_eq_true_eq, true_iff]; have hh : (RE.rep lo hi k).hi = hi := rfl; omega)), trivial⟩
    · refine .mv ?_; refine .mv ?_; refine .nc ?_; refine .fa ?_; refine EL.loadOld rfl rfl rfl rfl rfl hrd rfl ?_; refine .ls ?_; refine .pf ?_
      exact .dx () ⟨rfl, rfl, rfl, rfl, rfl, rfl, getA rfl (congrArg Value.bool (by rw [Bool.eq_iff_iff]; simp only [decide_eq_true_eq, true_iff]; have hh : (RE.rep lo hi k).hi = hi := rfl; omega)), trivial⟩
  refine ES.condD rfl (fun hgo => ?_) (fun hend => ?_)
  · obtain ⟨m, hm⟩ : ∃ m, F - c = m + 1 := ⟨F - c - 1, by
      rw [hF] at hc1 ⊢
      split at hc1 <;> rename_i hneg
      · have := hc5 hneg; rw [if_pos hneg]; omega
      · rw [if_neg hneg]; omega⟩
    rw [hm, moreR] at hc6
    refine .go ?_; (repeat constructor); refine .mv ?_; refine .mv ?_; refine .mv ?_; (refine EL.callMw rfl rfl rfl ent104 rfl (through_c s hs gc gm w0 B k kg ko hrk cg ccap cv true G.es' hc2 G.ok) (by repeat constructor) ?_; intro x); refine .as_ ?_; refine .go ?_; repeat constructor
    obtain ⟨nv, hnv⟩ : ∃ nv, nv = thrR capW s.length (rowW s k) cv true := ⟨_, rfl⟩
    rw [← hnv] at hc6 ⊢
    have hnz : zeroTo nv (c + 1) := by rw [hnv]; exact thrR_step rfl hzero hc4
    have hnl : ∀ q, nv q ≤ 4097 := fun q => by rw [hnv]; exact thr_le _ _ _ _ _
    refine .go ?_; (repeat constructor); refine .mv ?_; refine EL.callPw rfl rfl rfl ent120 rfl (fun w hs => none_c nv s.length (by omega) _ _ w (Rd.row hs (show Mem _ (VR x.g x.cap s.length nv) from (by repeat constructor)) (by decide))) ?_; refine .go ?_; repeat constructor
    refine ES.cond rfl (fun hno => ?_) (fun hsome => ?_)
    · rw [if_pos hno] at hc6
      subst hc6
      refine .go ?_; (repeat constructor); refine .mv ?_; refine .as_ ?_; refine .go ?_; repeat constructor
      exact PX.ret rfl Tryz.results103 (.cons (.tmp rfl) .nil) (fun w hs => ⟨⟨G.trans x.G (Nat.le_refl _), ag, cap27⟩, rfl, hs.ent (.i (by repeat constructor))⟩)
    · rw [if_neg (by rw [hsome]; decide)] at hc6
      have hcn : c + 1 ≤ s.length := by
        rcases Nat.lt_or_ge s.length (c + 1) with hlt | hge
        · have : noneR s.length nv = true := (noneR_iff _ _).2 (fun q hq => hnz q (by omega))
          rw [this] at hsome; cases hsome
        · exact hge
      refine .go ?_; (repeat constructor); refine .mv ?_; refine .lL ?_; refine .mv ?_; refine .go ?_; repeat constructor
      have e0 : rowC call s.length = rowC (fun q => if q < 0 then capW (call q + nv q) else call q) s.length := rowC_ext (fun q _ => (if_neg (by omega)).symm)
      refine ES.loop (σ := Nat) (fun j => j ≤ s.length + 1) (fun j => [(0, Pv gc 0), (1, .slice (some ⟨x.g, 0, none⟩) (s.length + 1) x.cap), (2, Pv g off), (7, Pv kg ko), (8, .slice (some ⟨ag, 0, none⟩) (s.length + 1) cap27), (9, Iv ((lo + c : Nat) : Int)), (56, .slice (some ⟨x.g, 0, none⟩) (s.length + 1) x.cap), (57, Iv ((s.length + 1 : Nat) : Int)), (58, Iv (j : Nat))])
        (fun j => CB gc gm s :: MH gm x.G.es' :: VR x.g x.cap s.length nv :: VR ag cap27 s.length (fun q => if q < j then capW (call q + nv q) else call q) :: R) (fun j => s.length + 1 - j) 0 (Nat.zero_le _) ⟨rfl, rfl, rfl, rfl, rfl, rfl, rfl, rfl, rfl, trivial⟩ (by rw [← VR_eq (g := ag) (cap := cap27) e0]; exact (.i (by repeat constructor))) ?_
      intro j hj
      refine .go ?_; (repeat constructor); refine .ls ?_; refine .go ?_; repeat constructor
      refine ES.condD rfl (fun hlt => ?_) (fun hge => ?_)
      · have hjn : j ≤ s.length := by omega
        have hcj := hc3 j
        have hnj := hnl j
        have hget : (rowC (fun q => if q < j then capW (call q + nv q) else call q) s.length)[j]? = some (Iv (call j : Nat)) := by
          rw [rowC_get _ hjn]
          simp
        have hval : (Iv (min (((call j : Nat) : Int) + ((nv j : Nat) : Int)) 4097)) = Iv ((capW (call j + nv j) : Nat) : Int) := congrArg Iv (by unfold capW; omega)
        refine .go ?_; (repeat constructor); refine .mv ?_; refine .i1 ?_; refine EL.loadR rfl rfl rfl rfl rfl (by repeat constructor) (rowC_get nv hjn) ?_; refine .as_ ?_; refine .as_ ?_; refine .go ?_; (repeat constructor); refine .mv ?_; refine .mv ?_; refine .mv ?_; refine .mv ?_; refine .i1 ?_; refine EL.loadR rfl rfl rfl rfl rfl (by repeat constructor) hget ?_; refine .mv ?_; refine EL.addN rfl rfl rfl rfl rfl (by omega) ?_
        refine EL.ofRV (RV.minI rfl rfl) rfl rfl rfl (by intro c h; cases h) ?_
        refine .i1 ?_
        (refine EL.storeR rfl rfl rfl rfl rfl rfl (by repeat constructor) (by rw [rowC_len]; omega) ?_; refine EL.rowEq (v := .slice (some ⟨ag, 0, none⟩) (s.length + 1) cap27) (by repeat constructor) ((congrArg (fun u => (rowC _ _).set j u) hval).trans ((rowC_set _ _ hjn).trans (if_row _ (fun q => capW (call q + nv q)) _ _ _ rfl))) ?_)
        refine .go ?_; (repeat constructor); refine .a1 ?_; refine .mv ?_; refine .go ?_; repeat constructor
        exact .ly (j + 1) (by omega) (by omega)
      · obtain rfl : j = s.length + 1 := by omega
        have e1 : rowC (fun q => if q < s.length + 1 then capW (call q + nv q) else call q) s.length = rowC (fun q => capW (call q + nv q)) s.length := rowC_ext (fun q hq => if_pos (by omega))
        refine .go ?_; (repeat constructor); refine .mv ?_; refine .a1 ?_; refine .as_ ?_; refine .go ?_; repeat constructor
        refine PX.loop ⟨c + 1, x.g, x.cap, nv, fun q => capW (call q + nv q), G.trans x.G (Nat.le_refl _)⟩ ⟨by simp only; omega, hnl, fun q => cap_le _, hnz, fun _ => hcn, by simp only; rw [show F - (c + 1) = m by omega]; exact hc6⟩ (by simp only; omega) ⟨rfl, rfl, rfl, rfl, rfl, rfl, trivial⟩ ?_
        dsimp only
        rw [← VR_eq (g := ag) (cap := cap27) e1]
        exact (.i (by repeat constructor))
  · have h0 : F - c = 0 := by
      rw [hF]
      split <;> omega
    rw [h0, moreR] at hc6
    subst hc6
    refine .go ?_; (repeat constructor); refine .mv ?_; refine .as_ ?_; refine .go ?_; repeat constructor
    exact PX.ret rfl Tryz.results103 (.cons (.tmp rfl) .nil) (fun w hs => ⟨⟨G, ag, cap27⟩, rfl, hs.ent (.i (by repeat constructor))⟩)
theorem PlainAt.of_node {w0 w : World} {B g off : Nat} {H : List HA} {r : RE} (h : NodeRd w0 B g off r) (hs : Sat w0 B H w) : PlainAt w g := by
  obtain ⟨ad, cap, hrd, _⟩ := h.kids
  obtain ⟨g', off', h1, h2, ca, ta, h3, _⟩ := hrd (by simp [reCells])
  simp only [Option.some.injEq, Addr.mk.injEq] at h1
  obtain ⟨rfl, _, _⟩ := h1
  exact ⟨ca, ta, by rw [hs.below.block g h2]; exact h3⟩
theorem memo_plain {w0 w : World} {B : Nat} {H : List HA} {s : List UInt8} {es : List ME} (hok : MemoOk w0 B s es) (hs : Sat w0 B H w) : ∀ m ∈ es, PlainAt w m.key.g := fun m hm => by
  obtain ⟨r, a, h⟩ := hok m hm
  exact PlainAt.of_node h.node hs
theorem memo_len {w0 : World} {B : Nat} {s : List UInt8} {es : List ME} (hok : MemoOk w0 B s es) : ∀ m ∈ es, m.key.is.length = 1 := fun m hm => by
  obtain ⟨r, a, h⟩ := hok m hm
  rw [h.is]; rfl
theorem memo_hit {w0 : World} {B : Nat} {s : List UInt8} {es : List ME} (hok : MemoOk w0 B s es) {g off a : Nat} {r : RE} (hn : NodeRd w0 B g off r) {m : ME} (h : memoGet ⟨g, off, [(a : Int)]⟩ es = some m) : m ∈ es ∧ EntOk w0 B s m r a := by
  have h1 := List.mem_of_find?_eq_some h
  have h2 := List.find?_some h
  have h3 : (⟨g, off, [(a : Int)]⟩ : MK) = m.key := of_decide_eq_true h2
  obtain ⟨r', a', he⟩ := hok m h1
  have hi := he.is
  rw [← h3] at hi
  simp only [List.cons.injEq, and_true] at hi
  obtain rfl : a = a' := by omega
  have hnd := he.node
  rw [← h3] at hnd
  obtain rfl := hn.inj hnd
  exact ⟨h1, he⟩
theorem memoGet_app (k : MK) (es new : List ME) : memoGet k (es ++ new) = match memoGet k es with | some m => some m | none => memoGet k new := by
  unfold memoGet
  rw [List.find?_append]
  cases es.find? (fun m => decide (k = m.key)) <;> rfl
theorem memo_new {w0 : World} {B : Nat} {s : List UInt8} {es : List ME} {g off a b : Nat} {r : RE} (hn : NodeRd w0 B g off r) (G : GrowV w0 B s es b) (hb : b < r.sz) (h : memoGet ⟨g, off, [(a : Int)]⟩ es = none) : memoGet ⟨g, off, [(a : Int)]⟩ G.es' = none := by
  rw [G.eq, memoGet_app, h]
  cases hm : memoGet ⟨g, off, [(a : Int)]⟩ G.new with
  | none => rfl
  | some m =>
    have h1 := List.mem_of_find?_eq_some hm
    have h2 := List.find?_some hm
    have h3 : (⟨g, off, [(a : Int)]⟩ : MK) = m.key := of_decide_eq_true h2
    obtain ⟨r', a', he, hsz⟩ := G.small m h1
    have hnd := he.node
    rw [← h3] at hnd
    obtain rfl := hn.inj hnd
    omega
theorem rowW_cat (s : List UInt8) (r : RE) (a : Nat) (h : r.kind = 0 ∨ r.kind = 4) : rowW s r a = catR capW s r.kids (unitR a) := by
  cases r <;> simp [RE.kind] at h
  · show rowR capW s _ a = _; rw [rowR]; rfl
  · show rowR capW s _ a = _; rw [rowR]; simp only [RE.kids]; rw [catR, catR]
theorem unit_at (a : Nat) : unitR a a = 1 := if_pos rfl
theorem unit_le (a q : Nat) : unitR a q ≤ 4097 := by unfold unitR; split <;> omega
structure WSt (w0 : World) (B : Nat) (s : List UInt8) (es : List ME) (b : Nat) where
  g : Nat
  cap : Nat
  G : GrowV w0 B s es b
structure KSt (w0 : World) (B : Nat) (s : List UInt8) (es : List ME) (b : Nat) where
  i : Nat
  g : Nat
  cap : Nat
  v : Row
  G : GrowV w0 B s es b
theorem row_n (n : Nat) : ∀ (r : RE), r.sz ≤ n → r.fine → ∀ (s : List UInt8), s.length ≤ 1024 → ∀ (gc gm : Nat) (w0 : World) (B g off : Nat), NodeRd w0 B g off r → RowCt s gc gm w0 B r g off := by
  induction n with
  | zero => intro r hr; exact absurd (sz_pos r) (by omega)
  | succ n ih =>
    intro r hr hfine s hs gc gm w0 B g off hn a es ha hok R w h
    replace h : Sat w0 B (CB gc gm s :: MH gm es :: R) w := h
    have hn0 := hn
    obtain ⟨ad, cap, hrd, hkids⟩ := hn.kids
    have hrd := hrd.rd
    have hfl := fine_len hfine
    refine calls_of_ES TB Tryz.func89 rfl _ Tryz.ntmps89 rfl h ?_; refine .go ?_; (repeat constructor); refine .as_ ?_; refine .go ?_; (repeat constructor); refine .mv ?_; refine .mv ?_
    (apply EL.build2; exact rfl; exact rfl; exact rfl; exact rfl; exact rfl; exact rfl; exact rfl; exact rfl; exact rfl; exact rfl)
    (refine .al ?_; intro g7); refine .sa ?_; refine .go ?_; repeat constructor
    cases hmg : memoGet ⟨g, off, [(a : Int)]⟩ es with
    | some m =>
      obtain ⟨hmem, hent⟩ := memo_hit hok hn hmg
      refine ES.draw (X := Unit) (fun _ => [(8, m.val), (9, .bool true)]) (fun _ => CB gc gm s :: MH gm es :: R) (CB gc gm s :: MH gm es :: HA.blk g7 (.cells #[Pv g off, Iv (a : Nat)] 208) :: R) mixed (.i (by repeat constructor)) ?_ (fun _ => ?_)
      · refine .tk 0 rfl (RV.move rfl) ?_; refine .tk 1 rfl (RV.nilCheck rfl) ?_; refine .tk 2 rfl (RV.fieldAddr rfl rfl rfl rfl rfl rfl) ?_; refine .tk 3 rfl (RV.loadB rfl rfl rfl (by repeat constructor) rfl) ?_; refine .tk 4 rfl (RV.loadAggB rfl rfl rfl (by repeat constructor) rfl) ?_; refine .tk 5 rfl (RV.lookupHit (k := ⟨g, off, [(a : Int)]⟩) (n := 1) rfl rfl rfl rfl rfl rfl keyW (by repeat constructor) rfl (memo_len hok) (fun w hs => ⟨PlainAt.of_node hn hs, memo_plain hok hs⟩) hmg) ?_; refine .tk 6 rfl (RV.move rfl) ?_; refine .tk 7 rfl (RV.extract rfl rfl) ?_; refine .tk 8 rfl (RV.extract rfl rfl) ?_; refine .tk 9 rfl (RV.assign rfl) ?_; refine .tk 10 rfl (RV.assign rfl) ?_; refine .dn ?_
        exact .cy ()
      refine .go ?_; (repeat constructor); refine .mv ?_; refine .go ?_; (repeat constructor); refine ES.condT rfl ?_; refine .go ?_; (repeat constructor); refine .mv ?_; refine .as_ ?_; refine .go ?_; repeat constructor
      exact PX.ret rfl Tryz.results89 (.cons (.tmp rfl) .nil) (fun w hs => ⟨⟨GrowV.zero hok, m, hmem, hent⟩, rfl, hs.ent (.i (by repeat constructor))⟩)
    | none =>
      refine ES.draw (X := Unit) (fun _ => [(0, Pv gc 0), (1, Pv g off), (2, Iv (a : Nat)), (7, Pv g7 0), (9, .bool false)]) (fun _ => CB gc gm s :: MH gm es :: HA.blk g7 (.cells #[Pv g off, Iv (a : Nat)] 208) :: R) (CB gc gm s :: MH gm es :: HA.blk g7 (.cells #[Pv g off, Iv (a : Nat)] 208) :: R) mixed (.i (by repeat constructor)) ?_ (fun _ => ?_)
      · refine .tk 0 rfl (RV.move rfl) ?_; refine .tk 1 rfl (RV.nilCheck rfl) ?_; refine .tk 2 rfl (RV.fieldAddr rfl rfl rfl rfl rfl rfl) ?_; refine .tk 3 rfl (RV.loadB rfl rfl rfl (by repeat constructor) rfl) ?_; refine .tk 4 rfl (RV.loadAggB rfl rfl rfl (by repeat constructor) rfl) ?_; refine .tk 5 rfl (RV.lookupMiss (k := ⟨g, off, [(a : Int)]⟩) (n := 1) rfl rfl rfl rfl rfl rfl keyW (by repeat constructor) rfl (memo_len hok) (fun w hs => ⟨PlainAt.of_node hn hs, memo_plain hok hs⟩) hmg) ?_; refine .tk 6 rfl (RV.move rfl) ?_; refine .tk 7 rfl (RV.extract rfl rfl) ?_; refine .tk 8 rfl (RV.extract rfl rfl) ?_; refine .tk 9 rfl (RV.assign rfl) ?_; refine .tk 10 rfl (RV.assign rfl) ?_; refine .dn ?_
        exact .cy ()
      refine .go ?_; (repeat constructor); refine .mv ?_; refine .go ?_; (repeat constructor); refine ES.condF rfl ?_; refine .go ?_; (repeat constructor); refine .mv ?_; refine .nc ?_; refine .fa ?_; refine .lb ?_; refine .lS ?_; refine .as_ ?_; refine .go ?_; (repeat constructor); refine .mv ?_; refine .a1 ?_
      refine EL.makeSlice (n := s.length + 1) rfl rfl rfl rfl rfl rfl (by first | omega | (show 1 * _ ≤ _; omega) | (show 8 * _ ≤ _; omega) | (show 16 * _ ≤ _; omega) | (show 24 * _ ≤ _; omega) | (show _ * 1 ≤ _; omega) | (show _ * 8 ≤ _; omega) | (show _ * 16 ≤ _; omega) | (show _ * 24 ≤ _; omega) | exact Nat.le_trans (Nat.mul_le_mul_right _ (show _ ≤ 1073741824 by omega)) (by decide)) (by unfold maxLen; omega) ?_
      intro g35
      refine EL.rowEq (v := .slice (some ⟨g35, 0, none⟩) (s.length + 1) (s.length + 1)) (by repeat constructor) ((made1 _ _).trans (rowC_zero s.length)) ?_
      have hu1 : (rowC (fun _ => 0) s.length).set a (Iv 1) = rowC (unitR a) s.length := (rowC_set _ 1 ha).trans (rowC_ext (fun q _ => by show (if q = a then 1 else 0) = unitR a q; rfl))
      refine .as_ ?_; refine .go ?_; (repeat constructor); refine .mv ?_; refine .mv ?_; refine .i1 ?_
      (refine EL.storeR rfl rfl rfl rfl rfl rfl (by repeat constructor) (by rw [rowC_len]; omega) ?_; refine EL.rowEq (v := .slice (some ⟨g35, 0, none⟩) (s.length + 1) (s.length + 1)) (by repeat constructor) hu1 ?_)
      refine .go ?_; (repeat constructor); refine .mv ?_; refine .nc ?_; refine .fa ?_; refine EL.loadOld rfl rfl rfl rfl rfl hrd rfl ?_
      repeat (first | apply EL.nil | apply ES.seq | apply ES.skip)
      obtain ⟨b, hb⟩ : ∃ b, r.sz = b + 1 := ⟨r.sz - 1, by have := sz_pos r; omega⟩
      refine ES.cutC (X := WSt w0 B s es b) (fun x => [(0, Pv gc 0), (7, Pv g7 0), (11, .slice (some ⟨x.g, 0, none⟩) (s.length + 1) x.cap)]) (fun x => CB gc gm s :: MH gm x.G.es' :: HA.blk g7 (.cells #[Pv g off, Iv (a : Nat)] 208) :: VR x.g x.cap s.length (rowW s r a) :: R) ?_ (fun x => ?_)
      · refine .go ?_; (repeat constructor); refine .ei ?_; refine .as_ ?_; refine .go ?_; repeat constructor
        refine ES.condD rfl (fun h1 => ?_) (fun h1 => ?_)
        · obtain ⟨bs, rfl⟩ := kind_1 (show r.kind = 1 by omega)
          have hz : (rowC (unitR a) s.length).set a (Iv 0) = rowC (fun _ => 0) s.length := (rowC_set _ 0 ha).trans (rowC_ext (fun q _ => by
            show (if q = a then 0 else unitR a q) = 0
            split
            · rfl
            · rename_i hne; exact if_neg hne))
          refine .go ?_; (repeat constructor); refine .mv ?_; refine .mv ?_; refine .i1 ?_
          (refine EL.storeR rfl rfl rfl rfl rfl rfl (by repeat constructor) (by rw [rowC_len]; omega) ?_; refine EL.rowEq (v := .slice (some ⟨g35, 0, none⟩) (s.length + 1) (s.length + 1)) (by repeat constructor) hz ?_)
          refine .go ?_; repeat constructor
          refine ES.draw (X := Unit) (fun _ => [(0, Pv gc 0), (2, Iv (a : Nat)), (7, Pv g7 0), (11, .slice (some ⟨g35, 0, none⟩) (s.length + 1) (s.length + 1)), (81, .bool (decide (a < s.length ∧ hasS bs (s.getD a 0).toNat = true)))]) (fun _ => CB gc gm s :: MH gm es :: HA.blk g7 (.cells #[Pv g off, Iv (a : Nat)] 208) :: VR g35 (s.length + 1) s.length (fun _ => 0) :: R)
            (CB gc gm s :: MH gm es :: HA.blk g7 (.cells #[Pv g off, Iv (a : Nat)] 208) :: VR g35 (s.length + 1) s.length (fun _ => 0) :: R) mixed (.i (by repeat constructor)) ?_ (fun _ => ?_)
          · refine .tk 0 rfl (RV.move rfl) ?_; refine .tk 1 rfl (RV.move rfl) ?_; refine .tk 2 rfl (RV.lss rfl rfl) ?_; refine .tk 3 rfl (RV.move rfl) ?_
            first | refine ED.part (d := 69) rfl (fun hp69 => ?_) (fun hp69 => ?_) | refine ED.partN (d := 69) rfl (fun hp69 => ?_) (fun hp69 => ?_) | refine ED.partB (d := 69) rfl (fun hp69 => ?_) (fun hp69 => ?_)
            · refine .tk 4 rfl (RV.move rfl) ?_; refine .tk 5 rfl (RV.nilCheck rfl) ?_; refine .tk 6 rfl (RV.fieldAddr rfl rfl rfl rfl rfl rfl) ?_; refine .tk 7 rfl (RV.loadOldA (vs := [Wv bs.a, Wv bs.b, Wv bs.c, Wv bs.d]) rfl rfl rfl rfl (by simp) hrd (set_cells (.byte bs) _)) ?_; refine .tk 8 rfl (RV.move rfl) ?_; refine .tk 9 rfl (RV.nilCheck rfl) ?_; refine .tk 10 rfl (RV.fieldAddr rfl rfl rfl rfl rfl rfl) ?_; refine .tk 11 rfl (RV.loadB rfl rfl rfl (by repeat constructor) rfl) ?_; refine .tk 12 rfl (RV.move rfl) ?_; refine .tk 13 rfl (RV.indexSN rfl rfl rfl rfl (by omega)) ?_; refine .ld 14 ?_; refine EL.callP rfl rfl rfl ent84 rfl (has_c bs (s.getD a 0)) ?_; refine .nx ?_; refine .tk 15 rfl (RV.pickT rfl rfl) ?_; refine .dn ?_
              exact .cx () ⟨rfl, rfl, rfl, rfl, getA rfl (congrArg Value.bool (by rw [Bool.eq_iff_iff]; simp only [decide_eq_true_eq, Bool.false_eq_true, false_iff]; first | exact ⟨fun h => ⟨by omega, h⟩, fun h => h.2⟩ | (intro h; omega))), trivial⟩
            · refine .pa 4 rfl ?_; refine .pa 5 rfl ?_; refine .pa 6 rfl ?_; refine .pa 7 rfl ?_; refine .pa 8 rfl ?_; refine .pa 9 rfl ?_; refine .pa 10 rfl ?_; refine .pa 11 rfl ?_; refine .pa 12 rfl ?_; refine .pa 13 rfl ?_; refine .pa 14 rfl ?_; refine .tk 15 rfl (RV.pickF rfl rfl) ?_; refine .dn ?_
              exact .cx () ⟨rfl, rfl, rfl, rfl, getA rfl (congrArg Value.bool (by rw [Bool.eq_iff_iff]; simp only [decide_eq_true_eq, Bool.false_eq_true, false_iff]; first | exact ⟨fun h => ⟨by omega, h⟩, fun h => h.2⟩ | (intro h; omega))), trivial⟩
          refine ES.condD rfl (fun hy => ?_) (fun hno => ?_)
          · have e1 : (rowC (fun _ => 0) s.length).set (a + 1) (Iv 1) = rowC (rowW s (.byte bs) a) s.length := (rowC_set _ 1 (by omega)).trans (rowC_ext (fun q _ => by
              show (if q = a + 1 then 1 else 0) = if a < s.length ∧ hasS bs (s.getD a 0).toNat = true ∧ q = a + 1 then 1 else 0
              by_cases e : q = a + 1
              · rw [if_pos e, if_pos ⟨hy.1, hy.2, e⟩]
              · rw [if_neg e, if_neg (fun h => e h.2.2)]))
            refine .go ?_; (repeat constructor); refine .mv ?_; refine .mv ?_; refine .a1 ?_; refine .i1 ?_
            (refine EL.storeR rfl rfl rfl rfl rfl rfl (by repeat constructor) (by rw [rowC_len]; omega) ?_; refine EL.rowEq (v := .slice (some ⟨g35, 0, none⟩) (s.length + 1) (s.length + 1)) (by repeat constructor) e1 ?_)
            refine .go ?_; repeat constructor
            exact .cy ⟨g35, s.length + 1, GrowV.zero hok⟩
          · have e1 : rowC (fun _ => 0) s.length = rowC (rowW s (.byte bs) a) s.length := rowC_ext (fun q _ => by
              show 0 = if a < s.length ∧ hasS bs (s.getD a 0).toNat = true ∧ q = a + 1 then 1 else 0
              rw [if_neg (fun h => hno ⟨h.1, h.2.1⟩)])
            refine .go ?_; repeat constructor
            exact PX.cutX ⟨g35, s.length + 1, GrowV.zero hok⟩ ⟨rfl, rfl, rfl, trivial⟩ (by rw [← VR_eq (g := g35) (cap := s.length + 1) e1]; exact (.i (by repeat constructor)))
        refine .go ?_; (repeat constructor); refine .ei ?_; refine .as_ ?_; refine .go ?_; repeat constructor
        refine ES.condD rfl (fun h2 => ?_) (fun h2 => ?_)
        · obtain rfl := kind_2 (show r.kind = 2 by omega)
          have hval : Iv (min ((unitR a a : Nat) : Int) (1 - min (a : Int) 1)) = Iv ((if a = 0 then 1 else 0 : Nat) : Int) := congrArg Iv (by rw [unit_at]; split <;> omega)
          have e1 : (rowC (unitR a) s.length).set a (Iv ((if a = 0 then 1 else 0 : Nat) : Int)) = rowC (rowW s .bol a) s.length := (rowC_set _ _ ha).trans (rowC_ext (fun q _ => by
            show (if q = a then (if a = 0 then 1 else 0) else unitR a q) = if a = 0 ∧ q = a then 1 else 0
            unfold unitR
            split <;> split <;> simp_all))
          refine .go ?_; (repeat constructor); refine .mv ?_; refine .mv ?_; refine .mv ?_; refine .mv ?_; refine .i1 ?_; refine EL.loadR rfl rfl rfl rfl rfl (by repeat constructor) (rowC_get _ ha) ?_; refine .mv ?_
          refine EL.ofRV (RV.minI rfl rfl) rfl rfl rfl (by intro c h; cases h) ?_
          refine EL.sub_ (1 - min (a : Int) 1) rfl rfl rfl rfl (wrap_i64 _ (by omega) (by omega)) ?_
          refine EL.ofRV (RV.minI rfl rfl) rfl rfl rfl (by intro c h; cases h) ?_
          refine .i1 ?_
          (refine EL.storeR rfl rfl rfl rfl rfl rfl (by repeat constructor) (by rw [rowC_len]; omega) ?_; refine EL.rowEq (v := .slice (some ⟨g35, 0, none⟩) (s.length + 1) (s.length + 1)) (by repeat constructor) ((congrArg (fun u => (rowC _ _).set a u) hval).trans e1) ?_)
          refine .go ?_; repeat constructor
          exact .cy ⟨g35, s.length + 1, GrowV.zero hok⟩
        refine .go ?_; (repeat constructor); refine .ei ?_; refine .as_ ?_; refine .go ?_; repeat constructor
        refine ES.condD rfl (fun h3 => ?_) (fun h3 => ?_)
        · obtain rfl := kind_3 (show r.kind = 3 by omega)
          have hval : Iv (min ((unitR a a : Nat) : Int) (1 - min ((s.length : Int) - (a : Int)) 1)) = Iv ((if a = s.length then 1 else 0 : Nat) : Int) := congrArg Iv (by rw [unit_at]; split <;> omega)
          have e1 : (rowC (unitR a) s.length).set a (Iv ((if a = s.length then 1 else 0 : Nat) : Int)) = rowC (rowW s .eol a) s.length := (rowC_set _ _ ha).trans (rowC_ext (fun q _ => by
            show (if q = a then (if a = s.length then 1 else 0) else unitR a q) = if a = s.length ∧ q = a then 1 else 0
            unfold unitR
            split <;> split <;> simp_all))
          refine .go ?_; (repeat constructor); refine .mv ?_; refine .mv ?_; refine .mv ?_; refine .mv ?_; refine .i1 ?_; refine EL.loadR rfl rfl rfl rfl rfl (by repeat constructor) (rowC_get _ ha) ?_; refine .mv ?_; refine .mv ?_; refine EL.sub_ ((s.length : Int) - (a : Int)) rfl rfl rfl rfl (wrap_i64 _ (by omega) (by omega)) ?_
          refine EL.ofRV (RV.minI rfl rfl) rfl rfl rfl (by intro c h; cases h) ?_
          refine EL.sub_ (1 - min ((s.length : Int) - (a : Int)) 1) rfl rfl rfl rfl (wrap_i64 _ (by omega) (by omega)) ?_
          refine EL.ofRV (RV.minI rfl rfl) rfl rfl rfl (by intro c h; cases h) ?_
          refine .i1 ?_
          (refine EL.storeR rfl rfl rfl rfl rfl rfl (by repeat constructor) (by rw [rowC_len]; omega) ?_; refine EL.rowEq (v := .slice (some ⟨g35, 0, none⟩) (s.length + 1) (s.length + 1)) (by repeat constructor) ((congrArg (fun u => (rowC _ _).set a u) hval).trans e1) ?_)
          refine .go ?_; repeat constructor
          exact .cy ⟨g35, s.length + 1, GrowV.zero hok⟩
        refine .go ?_; (repeat constructor); refine .ei ?_; refine .as_ ?_; refine .go ?_; repeat constructor
        refine ES.condD rfl (fun h6 => ?_) (fun h6 => ?_)
        · obtain ⟨bn, rfl⟩ := kind_6 (show r.kind = 6 by omega)
          refine .go ?_; (repeat constructor); refine .mv ?_; refine .as_ ?_; refine .go ?_; repeat constructor
          have e0 : rowC (unitR a) s.length = rowC (fun q => if a ≤ q ∧ q < a then 1 else unitR a q) s.length := rowC_ext (fun q _ => (if_neg (by omega)).symm)
          refine ES.loop (σ := Nat) (fun j => a ≤ j ∧ j ≤ s.length + 1) (fun j => [(0, Pv gc 0), (7, Pv g7 0), (10, Iv (s.length : Nat)), (11, .slice (some ⟨g35, 0, none⟩) (s.length + 1) (s.length + 1)), (12, Iv (j : Nat))])
            (fun j => CB gc gm s :: MH gm es :: HA.blk g7 (.cells #[Pv g off, Iv (a : Nat)] 208) :: VR g35 (s.length + 1) s.length (fun q => if a ≤ q ∧ q < j then 1 else unitR a q) :: R) (fun j => s.length + 1 - j) a ⟨Nat.le_refl _, by omega⟩ ⟨rfl, rfl, rfl, rfl, rfl, trivial⟩ (by rw [← VR_eq (g := g35) (cap := s.length + 1) e0]; exact (.i (by repeat constructor))) ?_
          rintro j ⟨hj1, hj2⟩
          refine .go ?_; (repeat constructor); refine .mv ?_; refine .mv ?_; refine .lq ?_; refine .go ?_; repeat constructor
          refine ES.condD rfl (fun hlt => ?_) (fun hge => ?_)
          · have hjn : j ≤ s.length := by omega
            have e2 : (rowC (fun q => if a ≤ q ∧ q < j then 1 else unitR a q) s.length).set j (Iv 1) = rowC (fun q => if a ≤ q ∧ q < j + 1 then 1 else unitR a q) s.length := (rowC_set _ 1 hjn).trans (rowC_ext (fun q _ => by
              show (if q = j then 1 else if a ≤ q ∧ q < j then 1 else unitR a q) = if a ≤ q ∧ q < j + 1 then 1 else unitR a q
              by_cases e : q = j
              · rw [if_pos e, if_pos (by omega)]
              · rw [if_neg e]
                by_cases e2 : a ≤ q ∧ q < j
                · rw [if_pos e2, if_pos (by omega)]
                · rw [if_neg e2, if_neg (by omega)]))
            refine .go ?_; (repeat constructor); refine .mv ?_; refine .mv ?_; refine .i1 ?_
            (refine EL.storeR rfl rfl rfl rfl rfl rfl (by repeat constructor) (by rw [rowC_len]; omega) ?_; refine EL.rowEq (v := .slice (some ⟨g35, 0, none⟩) (s.length + 1) (s.length + 1)) (by repeat constructor) e2 ?_)
            refine .go ?_; (repeat constructor); refine .mv ?_; refine .a1 ?_; refine .as_ ?_; refine .go ?_; repeat constructor
            exact .ly (j + 1) ⟨by omega, by omega⟩ (by omega)
          · have e3 : rowC (fun q => if a ≤ q ∧ q < j then 1 else unitR a q) s.length = rowC (rowW s (.back bn) a) s.length := rowC_ext (fun q hq => by
              show (if a ≤ q ∧ q < j then 1 else unitR a q) = if a ≤ q then 1 else 0
              unfold unitR
              by_cases e : a ≤ q
              · rw [if_pos ⟨e, by omega⟩, if_pos e]
              · rw [if_neg (by omega), if_neg (by omega), if_neg e])
            refine .go ?_; repeat constructor
            exact PX.cutX ⟨g35, s.length + 1, GrowV.zero hok⟩ ⟨rfl, rfl, rfl, trivial⟩ (by rw [← VR_eq (g := g35) (cap := s.length + 1) e3]; exact (.i (by repeat constructor)))
        refine .go ?_; (repeat constructor); refine .ei ?_; refine .as_ ?_; refine .go ?_; repeat constructor
        refine ES.condD rfl (fun h5 => ?_) (fun h5 => ?_)
        · obtain ⟨lo, hi, k, rfl⟩ := kind_5 (show r.kind = 5 by omega)
          have hkf := hfine.2.2.2.2
          have hks : k.sz + 1 = (RE.rep lo hi k).sz := by simp [RE.sz]
          have hrep := repeat_c s hs gc gm w0 B lo hi k g off hfine hn (fun g' off' hk => ih k (by omega) hkf s hs gc gm w0 B g' off' hk) g35 (s.length + 1) (unitR a) es (unit_le a) hok
          refine .go ?_; (repeat constructor); refine .mv ?_; refine .mv ?_; refine .mv ?_; (refine EL.callMw rfl rfl rfl ent103 rfl hrep (by repeat constructor) ?_; intro x); refine .as_ ?_; refine .go ?_; repeat constructor
          have e1 : rowC (repR capW s.length lo hi k.thin (rowW s k) (unitR a)) s.length = rowC (rowW s (.rep lo hi k) a) s.length := rowC_ext (fun q _ => by show _ = rowR capW s (.rep lo hi k) a q; rw [rowR])
          exact PX.cutX ⟨x.g, x.cap, x.G.wide (by omega)⟩ ⟨rfl, rfl, rfl, trivial⟩ (by rw [← VR_eq (g := x.g) (cap := x.cap) e1]; exact (.i (by repeat constructor)))
        have hk04 : r.kind = 0 ∨ r.kind = 4 := by have := kind_le r; omega
        have hcat := rowW_cat s r a hk04
        refine .go ?_; (repeat constructor); refine .mv ?_; refine .nc ?_; refine .fa ?_; refine EL.loadOld rfl rfl rfl rfl rfl hrd rfl ?_; refine .lL ?_; refine .mv ?_; refine .go ?_; repeat constructor
        refine ES.loop (σ := KSt w0 B s es b) (fun x => x.i ≤ r.kids.length ∧ (∀ q, x.v q ≤ 4097) ∧ catR capW s (r.kids.drop x.i) x.v = rowW s r a) (fun x => [(0, Pv gc 0), (1, Pv g off), (7, Pv g7 0), (11, .slice (some ⟨x.g, 0, none⟩) (s.length + 1) x.cap), (47, Iv (r.kids.length : Nat)), (48, Iv (x.i : Nat))])
          (fun x => CB gc gm s :: MH gm x.G.es' :: HA.blk g7 (.cells #[Pv g off, Iv (a : Nat)] 208) :: VR x.g x.cap s.length x.v :: R) (fun x => r.kids.length - x.i) ⟨0, g35, s.length + 1, unitR a, GrowV.zero hok⟩ ⟨Nat.zero_le _, unit_le a, by rw [List.drop_zero]; exact hcat.symm⟩ ⟨rfl, rfl, rfl, rfl, rfl, rfl, trivial⟩ (.i (by repeat constructor)) ?_
        rintro ⟨i, ig, icap, iv, G⟩ ⟨hi1, hi2, hi3⟩
        dsimp only at hi1 hi2 hi3 ⊢
        refine .go ?_; (repeat constructor); refine .ls ?_; refine .go ?_; repeat constructor
        refine ES.condD rfl (fun hlt => ?_) (fun hge => ?_)
        · have hlt' : i < r.kids.length := by omega
          obtain ⟨kg, ko, rfl, hk⟩ := hkids (by intro e; rw [e] at hlt'; simp at hlt')
          obtain ⟨k, hki⟩ : ∃ k, r.kids[i]? = some k := ⟨_, List.getElem?_eq_getElem hlt'⟩
          have hkn := hk i k hki
          have hmem := List.mem_of_getElem? hki
          have hks := kids_lt hmem
          have hthr := through_c s hs gc gm w0 B k kg (ko + i * 9) (ih k (by omega) (fine_kid hfine hmem) s hs gc gm w0 B kg (ko + i * 9) hkn) ig icap iv false G.es' hi2 G.ok
          refine .go ?_; (repeat constructor); refine .mv ?_; refine .as_ ?_; refine .go ?_; (repeat constructor); refine .mv ?_; refine .mv ?_; refine .mv ?_; refine .nc ?_; refine .fa ?_; refine EL.loadOld rfl rfl rfl rfl rfl hrd rfl ?_; refine .mv ?_; refine EL.indexAddrL rfl rfl rfl rfl rfl rfl rfl (by omega) ?_; (refine EL.callMw rfl rfl rfl ent104 rfl hthr (by repeat constructor) ?_; intro x); refine .as_ ?_; refine .go ?_; (repeat constructor); refine .a1 ?_; refine .mv ?_; refine .go ?_; repeat constructor
          refine .ly ⟨i + 1, x.g, x.cap, thrR capW s.length (rowW s k) iv false, G.trans x.G (by omega)⟩ ⟨hlt', fun q => thr_le _ _ _ _ _, ?_⟩ (by simp only; omega)
          dsimp only
          rw [List.drop_eq_getElem_cons hlt', catR] at hi3
          rw [show r.kids[i] = k from (List.getElem?_eq_some_iff.1 hki).2] at hi3
          exact hi3
        · obtain rfl : i = r.kids.length := by omega
          rw [List.drop_length, catR] at hi3
          subst hi3
          refine .go ?_; repeat constructor
          exact .cy ⟨ig, icap, G⟩
      · have hnew := memo_new hn x.G (by omega) hmg
        have hent : EntOk w0 B s ⟨⟨g, off, [(a : Int)]⟩, .slice (some ⟨x.g, 0, none⟩) (s.length + 1) x.cap, rowC (rowW s r a) s.length⟩ r a := ⟨hn, rfl, ha, ⟨_, _, rfl⟩, rfl⟩
        have hok2 : MemoOk w0 B s (x.G.es' ++ [⟨⟨g, off, [(a : Int)]⟩, .slice (some ⟨x.g, 0, none⟩) (s.length + 1) x.cap, rowC (rowW s r a) s.length⟩]) := fun m hm => by
          rcases List.mem_append.1 hm with hm | hm
          · exact x.G.ok m hm
          · rw [List.mem_singleton] at hm; subst hm; exact ⟨r, a, hent⟩
        let G2 : GrowV w0 B s es r.sz := ⟨x.G.es' ++ [⟨⟨g, off, [(a : Int)]⟩, .slice (some ⟨x.g, 0, none⟩) (s.length + 1) x.cap, rowC (rowW s r a) s.length⟩], x.G.new ++ [⟨⟨g, off, [(a : Int)]⟩, .slice (some ⟨x.g, 0, none⟩) (s.length + 1) x.cap, rowC (rowW s r a) s.length⟩], by rw [x.G.eq, List.append_assoc], hok2, fun m hm => by
          rcases List.mem_append.1 hm with hm | hm
          · obtain ⟨r', a', h1, h2⟩ := x.G.small m hm
            exact ⟨r', a', h1, by omega⟩
          · rw [List.mem_singleton] at hm; subst hm; exact ⟨r, a, hent, Nat.le_refl _⟩⟩
        refine .g0 ?_; repeat constructor
        refine ES.drawG (X := Unit) (fun _ => [(11, .slice (some ⟨x.g, 0, none⟩) (s.length + 1) x.cap)]) (fun _ => CB gc gm s :: MH gm G2.es' :: R) 6 (CB gc gm s :: HA.blk g7 (.cells #[Pv g off, Iv (a : Nat)] 208) :: R) mixed (by decide +kernel) (.i (by repeat constructor)) ?_ (fun _ => ?_)
        · refine .tk 0 rfl (RV.move rfl) ?_; refine .tk 1 rfl (RV.nilCheck rfl) ?_; refine .tk 2 rfl (RV.fieldAddr rfl rfl rfl rfl rfl rfl) ?_; refine .tk 3 rfl (RV.loadB rfl rfl rfl (by repeat constructor) rfl) ?_; refine .tk 4 rfl (RV.loadAggB rfl rfl rfl (by repeat constructor) rfl) ?_; refine .tk 5 rfl (RV.move rfl) ?_; refine EG.loud 6 rfl (by decide +kernel) ?_; refine EL.mapSet (k := ⟨g, off, [(a : Int)]⟩) (n := 1) rfl rfl rfl rfl rfl rfl keyW rfl (memo_len x.G.ok) (fun w hs => ⟨PlainAt.of_node hn hs, memo_plain x.G.ok hs⟩) hnew (by repeat constructor) (rowC_len _ _).symm ?_; refine EG.nextL (by decide +kernel) rfl (by decide +kernel) ?_; refine .dn ?_
          exact .cy ()
        refine .go ?_; (repeat constructor); refine .mv ?_; refine .as_ ?_; refine .go ?_; repeat constructor
        exact PX.ret rfl Tryz.results89 (.cons (.tmp rfl) .nil) (fun w hs => ⟨⟨G2, _, List.mem_append_right _ List.mem_cons_self, hent⟩, rfl, hs.ent (.i (by repeat constructor))⟩)
theorem row_c (r : RE) (hf : r.fine) (s : List UInt8) (hs : s.length ≤ 1024) (gc gm : Nat) (w0 : World) (B g off : Nat) (hn : NodeRd w0 B g off r) : RowCt s gc gm w0 B r g off := row_n r.sz r (Nat.le_refl _) hf s hs gc gm w0 B g off hn
theorem waysCount_c (t s : List UInt8) (ht : t.length ≤ 4611686018427387904) (hs : s.length ≤ 4611686018427387904) (a : Int) (w : World) (hG : GR w w.heap.size) :
    Pure Tryz.prog 73 #[Sv t, Sv s, Iv a] (fun _ : Unit => .tuple #[Iv ((waysM t s a).1 : Nat), Iv (waysM t s a).2]) (fun _ => []) w := by
  have hw : waysM t s a = if (parseM t).e ≠ 0 then (0, (parseM t).e) else if 1024 < s.length then (0, 15) else if a < 0 ∨ (s.length : Int) < a then (0, 1) else (countM s (parseM t).tree a.toNat, 0) := rfl
  have hpf := parse_fine t
  have hpc := fun w hG => parse_c t ht w hG
  generalize parseM t = p at hw hpf hpc
  obtain ⟨tree, pe, pat⟩ := p
  dsimp only at hw hpf hpc
  refine calls_of_ES TB Tryz.func73 rfl _ Tryz.ntmps73 rfl (Sat.start w) ?_; refine .go ?_; (repeat constructor); refine .as_ ?_; refine .as_ ?_; refine .go ?_; (repeat constructor); refine .mv ?_; (refine EL.callXw rfl rfl rfl ent20 rfl (fun w hs => hpc w (GR.sat hG hs)) ?_; intro px); refine .mv ?_; refine .ex ?_; refine .ex ?_; (refine .al ?_; intro g8); (refine .al ?_; intro g9); refine .sa ?_; refine .sa ?_; refine .go ?_; (repeat constructor); refine .go ?_; (repeat constructor); refine .fa ?_; refine .lb ?_; refine .ni ?_; refine .as_ ?_; refine .go ?_; repeat constructor
  refine ES.condN rfl (fun hne => ?_) (fun he => ?_)
  · rw [if_pos hne] at hw
    rw [hw]
    refine .g0 ?_; repeat constructor
    refine ES.draw (X := Unit) (fun _ => [(6, Iv 0), (7, Iv pe)]) (fun _ => []) (HA.blk g9 (.cells #[Iv pe, Iv (pat : Nat)] 33) :: []) mixed (.i (by repeat constructor)) ?_ (fun _ => ?_)
    · refine .tk 0 rfl (RV.fieldAddr rfl rfl rfl rfl rfl rfl) ?_; refine .tk 1 rfl (RV.loadB rfl rfl rfl (by repeat constructor) rfl) ?_; refine .tk 2 rfl (RV.assign rfl) ?_; refine .tk 3 rfl (RV.assign rfl) ?_; refine .dn ?_
      exact .cy ()
    refine .go ?_; repeat constructor
    exact PX.ret rfl Tryz.results73 (.cons (.tmp rfl) (.cons (.tmp rfl) .nil)) (fun w hs => ⟨(), rfl, hs.ent (.i (by repeat constructor))⟩)
  rw [if_neg (fun h => h he)] at hw
  refine .go ?_; (repeat constructor); refine .mv ?_; refine .lS ?_; refine .gt_ ?_; refine .as_ ?_; refine .go ?_; repeat constructor
  refine ES.condD rfl (fun hl => ?_) (fun hl => ?_)
  · rw [if_pos (by omega)] at hw
    rw [hw]
    refine .go ?_; (repeat constructor); refine .as_ ?_; refine .as_ ?_; refine .go ?_; repeat constructor
    exact PX.ret rfl Tryz.results73 (.cons (.tmp rfl) (.cons (.tmp rfl) .nil)) (fun w hs => ⟨(), rfl, hs.ent (.i (by repeat constructor))⟩)
  rw [if_neg (by omega)] at hw
  have hs2 : s.length ≤ 1024 := by omega
  refine .go ?_; repeat constructor
  refine EL.cutX (X := Unit) (fun _ => [(0, Sv t), (1, Sv s), (2, Iv a), (8, Pv g8 0), (29, .bool (decide (a < 0 ∨ (s.length : Int) < a)))]) (fun _ => [HA.blk g8 (.cells (reCells tree (.slice px.ad tree.kids.length px.cap)).toArray 46), HA.forest px.fp [tree] (reCells tree (.slice px.ad tree.kids.length px.cap))]) ?_ (fun _ => ?_)
  · refine .go ?_; (repeat constructor); refine .mv ?_; refine .ls ?_; refine .mv ?_
    first | refine EL.splitD (d := 32) rfl (fun hp32 => ?_) (fun hp32 => ?_) | refine EL.splitN (d := 32) rfl (fun hp32 => ?_) (fun hp32 => ?_) | refine EL.splitB (d := 32) rfl (fun hp32 => ?_) (fun hp32 => ?_)
    · refine .ps ?_; refine .ps ?_; refine .ps ?_; refine .ps ?_; refine .pt ?_; refine .as_ ?_
      exact .dx () ⟨rfl, rfl, rfl, rfl, getA rfl (congrArg Value.bool (by rw [Bool.eq_iff_iff]; simp only [decide_eq_true_eq, true_iff]; omega)), trivial⟩
    · refine .mv ?_; refine .mv ?_; refine .lS ?_; refine .gt_ ?_; refine .pf ?_; refine .as_ ?_
      exact .dx () ⟨rfl, rfl, rfl, rfl, getA rfl (congrArg Value.bool (by rw [Bool.eq_iff_iff]; simp only [decide_eq_true_eq, true_iff]; omega)), trivial⟩
  refine ES.condD rfl (fun hr => ?_) (fun hr => ?_)
  · rw [if_pos hr] at hw
    rw [hw]
    refine .go ?_; (repeat constructor); refine .as_ ?_; refine .as_ ?_; refine .go ?_; repeat constructor
    exact PX.ret rfl Tryz.results73 (.cons (.tmp rfl) (.cons (.tmp rfl) .nil)) (fun w hs => ⟨(), rfl, hs.ent (.i (by repeat constructor))⟩)
  rw [if_neg hr] at hw
  rw [hw]
  obtain ⟨i, rfl⟩ : ∃ i : Nat, a = (i : Int) := ⟨a.toNat, by omega⟩
  have hi : i ≤ s.length := by omega
  rw [Int.toNat_natCast]
  refine .g0 ?_; repeat constructor
  refine ES.rebase (fun w1 hw1 => ?_)
  have hn := node_of hw1 (by repeat constructor) (by repeat constructor)
  refine .go ?_; (repeat constructor); refine .mv ?_; (refine EL.makeMap 3 rfl rfl ?_; intro gm)
  (apply EL.build2; exact rfl; exact rfl; exact rfl; exact rfl; exact rfl; exact rfl; exact rfl; exact rfl; exact rfl; exact rfl)
  (refine .bx ?_; intro g41); refine .as_ ?_; refine .go ?_; (repeat constructor); refine .as_ ?_; refine .go ?_; (repeat constructor); refine .mv ?_; refine .mv ?_
  have hrow := row_c tree hpf s hs2 g41 gm w1 w1.heap.size g8 0 hn i [] hi (fun m hm => by simp at hm)
  (refine EL.callMw rfl rfl rfl ent89 rfl hrow (by repeat constructor) ?_; intro x)
  obtain ⟨gb, rcap, hxv⟩ := x.ent.val
  refine EL.rew (d := 44) (v' := .slice (some ⟨gb, 0, none⟩) (s.length + 1) rcap) rfl hxv ?_; refine .lL ?_; refine .mv ?_; refine .go ?_; repeat constructor
  have hle : ∀ q, rowW s tree i q ≤ 4097 := row_le s tree i
  have hsl : ∀ j, sumGo capW (rowW s tree i) j ≤ 4097 := fun j => by
    cases j with
    | zero => simp [sumGo]
    | succ j => rw [sumGo]; exact cap_le _
  refine ES.loop (σ := Nat) (fun j => j ≤ s.length + 1) (fun j => [(11, Iv (sumGo capW (rowW s tree i) j : Nat)), (44, .slice (some ⟨gb, 0, none⟩) (s.length + 1) rcap), (45, Iv ((s.length + 1 : Nat) : Int)), (46, Iv (j : Nat))]) (fun j => MH gm x.G.es' :: []) (fun j => s.length + 1 - j) 0 (Nat.zero_le _) ⟨rfl, rfl, rfl, rfl, trivial⟩ (.i (by repeat constructor)) ?_
  intro j hj
  refine .go ?_; (repeat constructor); refine .ls ?_; refine .go ?_; repeat constructor
  refine ES.condD rfl (fun hlt => ?_) (fun hge => ?_)
  · have hjn : j ≤ s.length := by omega
    have h1 := hle j
    have h2 := hsl j
    refine .go ?_; (repeat constructor); refine .i1 ?_
    refine EL.ofRV (RV.loadMemo rfl rfl rfl (by repeat constructor) x.mem hxv (by rw [x.ent.cells]; exact rowC_get _ hjn)) rfl rfl rfl (by intro c h; cases h) ?_
    refine .as_ ?_; refine .go ?_; (repeat constructor); refine .mv ?_; refine .mv ?_; refine EL.addN rfl rfl rfl rfl rfl (by omega) ?_
    refine EL.ofRV (RV.minI rfl rfl) rfl rfl rfl (by intro c h; cases h) ?_
    refine .as_ ?_; refine .go ?_; (repeat constructor); refine .a1 ?_; refine .mv ?_; refine .go ?_; repeat constructor
    exact .lx (j + 1) (by omega) (by omega) ⟨getA rfl (congrArg Iv (by rw [sumGo]; unfold capW; omega)), rfl, rfl, rfl, trivial⟩
  · obtain rfl : j = s.length + 1 := by omega
    refine .go ?_; (repeat constructor); refine .mv ?_; refine .as_ ?_; refine .as_ ?_; refine .go ?_; repeat constructor
    exact PX.ret rfl Tryz.results73 (.cons (.tmp rfl) (.cons (.tmp rfl) .nil)) (fun w hs => ⟨(), rfl, (hw1.join hs).ent (.nil _)⟩)
structure Tk where
  r : RE
  k : Nat
  i : Nat
  j : Nat
structure Br where
  ts : List Tk
  ends : List Nat
  spans : List Spn
def listB (s : List UInt8) : RE → Nat → Nat → Nat → List Nat
  | .cat ks, k, i, j => splL s ((ks.drop k).take 1) (ks.drop (k + 1)) i j 0
  | .rep lo hi x, k, i, j => splL s [x] [leftM lo hi x (k + 1)] i j 0
  | _, _, _, _ => []
def costB : RE → Nat → Bool
  | .cat ks, k => decide (costL ((ks.drop k).take 1) + 1 ≤ 131072) && decide (costL (ks.drop (k + 1)) + 1 ≤ 131072)
  | .rep lo hi x, k => decide (costL [x] + 1 ≤ 131072) && decide (costL [leftM lo hi x (k + 1)] + 1 ≤ 131072)
  | _, _ => true
def turnB (lo : Nat) (hi : Int) (x : RE) (k : Nat) : Nat := if hi < 0 then min k (leastM lo x) else k
def cutEB (l : List Nat) (i : Nat) (b : Bool) : List Nat := if b = true ∧ l.getLast? = some i then l.dropLast else l
def endsB (s : List UInt8) (t : Tk) (z : List Spn) : Option (List Nat × Bool) :=
  if t.i ≤ t.j ∧ t.j ≤ s.length then
    match t.r with
    | .back n =>
      match z[n]? with
      | none => none
      | some (a, b) => if a < 0 then some ([], false) else if a ≤ b ∧ b ≤ (s.length : Int) then some ([], decide ((s.take b.toNat).drop a.toNat = (s.take t.j).drop t.i)) else none
    | .group _ _ => some ([t.j], true)
    | .cat ks =>
      if t.k = ks.length then some ([], true)
      else if t.k + 1 = ks.length then some ([t.j], true)
      else if t.k < ks.length ∧ costB t.r t.k = true then some (listB s t.r t.k t.i t.j, true)
      else none
    | .rep lo hi x =>
      if t.i = t.j ∧ leastM lo x ≤ t.k then some ([], true)
      else if t.k ≤ 1000000 ∧ costB t.r (turnB lo hi x t.k) = true then some (cutEB (listB s t.r (turnB lo hi x t.k) t.i t.j) t.i (decide (leastM lo x ≤ t.k)), true)
      else none
    | _ => some ([], true)
  else none
def needsB (t : Tk) : Bool :=
  match t.r with
  | .cat ks => decide (t.k < ks.length)
  | .rep lo _ x => decide (t.i < t.j) || decide (t.k < leastM lo x)
  | .group _ _ => true
  | _ => false
def followB : List Tk → Nat → List Spn → Option (List Tk × List Spn)
  | [], _, _ => none
  | t :: rest, e, z =>
    match t.r with
    | .group n x => if n < z.length then some (⟨x, 0, t.i, t.j⟩ :: rest, z.set n ((t.i : Int), (t.j : Int))) else none
    | .cat ks => match ks[t.k]? with
      | some x => some (⟨x, 0, t.i, e⟩ :: ⟨t.r, t.k + 1, e, t.j⟩ :: rest, z)
      | none => none
    | .rep _ _ x => some (⟨x, 0, t.i, e⟩ :: ⟨t.r, t.k + 1, e, t.j⟩ :: rest, z)
    | _ => none
def popB : List Br → Option (Br × List Br)
  | [] => none
  | b :: st => if b.ends = [] then popB st else some (b, st)
def runB (s : List UInt8) : Nat → List Tk → List Br → List Spn → Option (Option (List Spn))
  | 0, _, _, _ => none
  | _ + 1, [], _, z => some (some z)
  | f + 1, t :: rest, st, z =>
    match endsB s t z with
    | none => none
    | some (es, ok) =>
      if ok = true ∧ es = [] ∧ needsB t = false then runB s f rest st z
      else if ok = true ∧ es ≠ [] then
        match followB (t :: rest) (es.headD 0) z with
        | none => none
        | some (now, z') => runB s f now (⟨t :: rest, es.tail, z⟩ :: st) z'
      else
        match popB st with
        | none => some none
        | some (b, st') =>
          match followB b.ts (b.ends.headD 0) b.spans with
          | none => none
          | some (now, z') => runB s f now (⟨b.ts, b.ends.tail, b.spans⟩ :: st') z'
def fromB (s : List UInt8) (F : Nat) (r : RE) (g i : Nat) (ends : List Bool) : Nat → Nat → Option (Option (List Spn) × Nat)
  | 0, q => some (none, q)
  | m + 1, q =>
    if ends.getD (i + m) false = true then
      if q < F then none
      else
        match runB s F [⟨r, 0, i, i + m⟩] [] (List.replicate (g + 1) (-1, -1)) with
        | none => none
        | some none => fromB s F r g i ends m (q - F)
        | some (some z) => if 0 < z.length then some (some (z.set 0 ((i : Int), ((i + m : Nat) : Int))), q - F) else none
    else fromB s F r g i ends m q
structure MB10 where
  spans : List Spn
  ok : Bool
  e : Int
def matchB (s : List UInt8) (F : Nat) (r : RE) (g : Nat) : Nat → Nat → Nat → Option MB10
  | 0, _, _ => some ⟨[], false, 0⟩
  | n + 1, i, q =>
    if 4096 < countM s r i then some ⟨[], false, 14⟩
    else if 0 < countM s r i then
      if q = 0 then none
      else
        match fromB s F r g i (endsM (makeM [r]) s i 0).marks (s.length + 1 - i) (q - 1) with
        | none => none
        | some (some z, _) => some ⟨z, true, 0⟩
        | some (none, q') => matchB s F r g n (i + 1) q'
    else matchB s F r g n (i + 1) q
def spendB : Nat := 16000
def backM (F : Nat) (t s : List UInt8) (a : Int) : Option MB10 :=
  if (parseM t).e ≠ 0 then some ⟨[], false, (parseM t).e⟩
  else if 1024 < s.length then some ⟨[], false, 15⟩
  else if a < 0 ∨ (s.length : Int) < a then some ⟨[], false, 1⟩
  else if (measM (parseM t).tree).grp < 0 ∨ 9 < (measM (parseM t).tree).grp ∨ 131072 < costL [(parseM t).tree] + 1 then none
  else matchB s F (parseM t).tree (measM (parseM t).tree).grp.toNat (s.length + 1 - a.toNat) a.toNat spendB
theorem back_awake2 : (backM 60 [92, 40, 46, 92, 41, 92, 49] [97, 98, 99, 99, 100] 0).map (fun m => (m.spans, m.ok, m.e)) = some ([(2, 4), (2, 3)], true, 0) := by decide +kernel
def FS.same (x y : FS) : Prop := x.marks = y.marks ∧ x.seen = y.seen ∧ x.todo = y.todo
theorem push_same {n : Nat} {x y : FS} (h : x.same y) (q a : Nat) : (pushM n x q a).same (pushM n y q a) := by
  obtain ⟨h1, h2, h3⟩ := h
  unfold pushM
  rw [h2]
  split
  · exact ⟨h1, h2, h3⟩
  · exact ⟨h1, rfl, by simp [h3]⟩
theorem edge_same {s : List UInt8} {fwd : Bool} {a : Nat} {x y : FS} (h : x.same y) (e : Ed) : (edgeM s fwd a x e).same (edgeM s fwd a y e) := by
  unfold edgeM
  cases placeM s fwd e a with
  | none => exact h
  | some b =>
    dsimp only
    exact push_same (n := s.length) (x := { x with steps := x.steps + cntM s.length fwd e a }) (y := { y with steps := y.steps + cntM s.length fwd e a }) h e.to b
theorem fold_same {s : List UInt8} {fwd : Bool} {a : Nat} : ∀ (l : List Ed) {x y : FS}, x.same y → (l.foldl (edgeM s fwd a) x).same (l.foldl (edgeM s fwd a) y)
  | [], _, _, h => h
  | e :: l, _, _, h => fold_same l (edge_same h e)
theorem flood_same (es : List (List Ed)) (s : List UInt8) (goal : Nat) (fwd : Bool) : ∀ (f : Nat) {x y : FS}, x.same y → (floodGo es s goal fwd f x).same (floodGo es s goal fwd f y)
  | 0, _, _, h => h
  | f + 1, x, y, h => by
    rw [floodGo, floodGo, ← h.2.2]
    cases x.todo.getLast? with
    | none => exact h
    | some p =>
      refine flood_same es s goal fwd f (fold_same _ ?_)
      obtain ⟨h1, h2, h3⟩ := h
      exact ⟨by simp [popM, h1], h2, by simp [popM, h3]⟩
theorem endsM_st (A : AM × Nat) (s : List UInt8) (i st : Nat) : (endsM A s i st).marks = (endsM A s i 0).marks := (flood_same _ _ _ _ _ (x := fs0 _ _ _ st) (y := fs0 _ _ _ 0) ⟨rfl, rfl, rfl⟩).1
theorem startsM_st (A : AM × Nat) (s : List UInt8) (j st : Nat) : (startsM A s j st).marks = (startsM A s j 0).marks := (flood_same _ _ _ _ _ (x := fs0 _ _ _ st) (y := fs0 _ _ _ 0) ⟨rfl, rfl, rfl⟩).1
theorem splL_st (s : List UInt8) (hd tl : List RE) (i j st : Nat) : splL s hd tl i j st = splL s hd tl i j 0 := by
  have h1 : (splE s hd i st).marks = (splE s hd i 0).marks := endsM_st _ _ _ _
  have h2 : (splS s hd tl i j st).marks = (splS s hd tl i j 0).marks := (startsM_st _ _ _ _).trans (startsM_st _ _ _ _).symm
  unfold splL
  rw [h1, h2]
end Go.Proofs.YthcbjbkheodejaaGreat
namespace Go.Proofs.YthcbjbkheodejaaGreat.Sl
open Go Go.RowKit
section pools
variable {C : Cx} {all : Array Oper} {ops : List Oper} {cds : List Code} {Q : Qt} {E : Env} {H R : List HA} {d ty t g off e : Nat} {pos : String} {af : Array Edge} {gd : Option (Nat × Bool)} {x : Operand} {v : Value} {pool : List HA}
theorem pool_get {w0 w : World} {B : Nat} {A : HA} (hs : Sat w0 B H w) (hm : Mem H (HA.pack pool)) (hp : A ∈ pool) : A.holds w := hs.all _ hm.mem A hp
theorem RV.loadPool {ti : TI} {cs : Array Value} {fr : Nat × Nat} (hx : E.ev x = some (Pv g off)) (ht : C.T.f t = some ti) (hu : ti.agg = false) (hm : Mem H (HA.pack pool)) (hp : HA.blk g (.cells cs e fr) ∈ pool) (hc : cs[off]? = some v) : RunV C E H ⟨some d, .load t x, ty, pos, af, gd⟩ v :=
  RV.load hx ht hu (fun w hs => by
    have hb : w.heap[g]? = some (.cells cs e fr) := pool_get hs hm hp
    rw [blk_cell hb]; exact hc)
theorem EL.loadPool {ti : TI} {cs : Array Value} {fr : Nat × Nat} (hg : guardOk all E gd = some true) (hx : E.ev x = some (Pv g off)) (ht : C.T.f t = some ti) (hu : ti.agg = false) (hd : Nat.blt d C.n = true) (hm : Mem H (HA.pack pool)) (hp : HA.blk g (.cells cs e fr) ∈ pool) (hc : cs[off]? = some v)
    (k : EL C all ops Q ((d, v) :: E) H) : EL C all (⟨some d, .load t x, ty, pos, af, gd⟩ :: ops) Q E H := EL.ofRV (RV.loadPool hx ht hu hm hp hc) hg rfl hd (by intro c h; cases h) k
theorem Sat.poolIn {w0 w : World} {B : Nat} {A : HA} (h : Sat w0 B (A :: HA.pack pool :: R) w) : Sat w0 B (HA.pack (A :: pool) :: R) w := by
  have h1 : Sat w0 B (HA.pack pool :: A :: R) w := h.perm (.swap ..)
  exact Sat.pack (Hs := A :: pool) (h1.unpack.perm List.perm_middle)
theorem ES.poolIn {A : HA} (tk : Takes H [A, HA.pack pool] R) (k : ES C cds Q E (HA.pack (A :: pool) :: R)) : ES C cds Q E H := fun a w h => k a w ⟨h.1, Sat.poolIn (h.2.perm tk.perm)⟩
theorem EL.poolIn {A : HA} (tk : Takes H [A, HA.pack pool] R) (k : EL C all ops Q E (HA.pack (A :: pool) :: R)) : EL C all ops Q E H := fun a w h => k a w ⟨h.1, Sat.poolIn (h.2.perm tk.perm)⟩
theorem pool_rd {w0 w : World} {B n cap sz : Nat} {ad : Option Addr} {cs : List Value} (hs : Sat w0 B H w) (hm : Mem H (HA.pack pool)) (hp : HA.row (.slice ad n cap) e sz n cs ∈ pool) : Rd w w.heap.size ad cs := by
  intro hne
  have hA : w.ownsRow 0 e sz (.slice ad n cap) n cs := pool_get hs hm hp
  have hf := row_form hA
  have hpos : 0 < n := by
    rcases Nat.eq_zero_or_pos n with h0 | h0
    · have h1 := hf.2.2.2.1
      rw [h0, Nat.zero_mul] at h1
      exact absurd (List.eq_nil_of_length_eq_zero h1) hne
    · exact h0
  obtain ⟨g, rfl⟩ := hf.2.2.2.2 hpos
  have hlt := (hs.lo g (List.mem_flatMap.2 ⟨_, hm.mem, List.mem_flatMap.2 ⟨_, hp, by simp [HA.row, Value.ownBlock]⟩⟩)).2
  exact ⟨g, 0, rfl, hlt, fun j v hj => by rw [Nat.zero_add]; exact row_cell hA j v hj⟩
theorem pool_rdB {w0 w : World} {B : Nat} {cs : List Value} (hs : Sat w0 B H w) (hm : Mem H (HA.pack pool)) (hp : HA.blk g (.cells cs.toArray e) ∈ pool) : Rd w w.heap.size (some ⟨g, 0, none⟩) cs := fun _ => by
  have hb : w.heap[g]? = some (.cells cs.toArray e (0, 0)) := pool_get hs hm hp
  exact ⟨g, 0, rfl, (Array.getElem?_eq_some_iff.1 hb).1, fun j v hj => by rw [blk_cell hb, Nat.zero_add]; simpa using hj⟩
theorem RV.sliceLoG' {ti te : TI} {el lo n cap : Nat} {ad ad' : Option Addr} {kd : IntKind} {y : Operand} (he : (if cap = lo then ad else ad.map (·.add (lo * te.size))) = ad') (hx : E.ev x = some (.slice ad n cap)) (hy : E.ev y = some (.int kd (lo : Nat))) (ht : C.T.f t = some ti) (hu : ti.u = .slice el) (hte : C.T.f el = some te) (hlo : lo ≤ n) (hn : n ≤ cap) :
    RunV C E H ⟨some d, .slice t x (some y) none none, ty, pos, af, gd⟩ (.slice ad' (n - lo) (cap - lo)) := he ▸ RV.sliceLoG hx hy ht hu hte hlo hn
theorem Sat.pack0 {w0 w : World} {B : Nat} (h : Sat w0 B R w) : Sat w0 B (HA.pack [] :: R) w := Sat.pack (Hs := []) h
theorem ES.pack0 (k : ES C cds Q E (HA.pack [] :: H)) : ES C cds Q E H := fun a w h => k a w ⟨h.1, h.2.pack0⟩
theorem EL.copyNil {ti te : TI} {el : TypeId} {ad2 : Option Addr} {m c : Nat} {news : List Value} {x y : Operand} (hg : guardOk all E gd = some true) (hx : E.ev x = some (.slice none 0 0)) (hy : E.ev y = some (.slice ad2 m c)) (ht : C.T.f t = some ti) (hu : ti.u = .slice el) (hte : C.T.f el = some te)
    (hz1 : te.zero.cells.size = te.size) (hpos : Nat.blt 0 te.size = true) (hd : Nat.blt d C.n = true) (hrd : ∀ w, Sat C.w0 C.B H w → Rd w w.heap.size ad2 news) (hl : news.length = m * te.size) (h1 : ∀ u ∈ news, u.oneCell' = true)
    (h63 : m ≤ maxLen) (hbytes : m * te.bytes ≤ 140737488355328)
    (k : ∀ ad' cap', EL C all ops Q ((d, .slice ad' m cap') :: E) (HA.row (.slice ad' m cap') el te.size m news :: H)) :
    EL C all (⟨some d, .call { callee := .builtin .append, args := #[x, y], argTypes := #[t, t] }, ty, pos, af, gd⟩ :: ops) Q E H :=
  EL.nilRow el te.size (EL.appendW hg hx hy ht hu hte hz1 hpos hd (Pick.here _ _) (fun w hs => hrd w hs.tail) hl h1 (by rw [Nat.zero_add]; exact h63) (by rw [Nat.zero_add]; exact hbytes) (fun a c => by
    rw [Nat.zero_add, List.nil_append]; exact k a c))
end pools
end Go.Proofs.YthcbjbkheodejaaGreat.Sl
namespace Go.Proofs.YthcbjbkheodejaaGreat
open Go Go.RowKit Sl
set_option maxRecDepth 100000
set_option maxHeartbeats 8000000
attribute [local irreducible] ES EL PX wps
abbrev tkC (gr off k i j : Nat) (nx : Option Addr) : List Value := [Pv gr off, Iv (k : Nat), Iv (i : Nat), Iv (j : Nat), .pointer nx]
abbrev TkB (g gr off k i j : Nat) (nx : Option Addr) : HA := HA.blk g (.cells (tkC gr off k i j nx).toArray 215)
def ChainAt (w0 : World) (B : Nat) (pool : List HA) : Option Addr → List Tk → Prop
  | p, [] => p = none
  | p, t :: ts => ∃ g gr off nx, p = some ⟨g, 0, none⟩ ∧ TkB g gr off t.k t.i t.j nx ∈ pool ∧ NodeRd w0 B gr off t.r ∧ t.r.fine ∧ ChainAt w0 B pool nx ts
theorem ChainAt.mono {w0 : World} {B : Nat} {pool pool' : List HA} (h : ∀ A ∈ pool, A ∈ pool') : ∀ {ts : List Tk} {p : Option Addr}, ChainAt w0 B pool p ts → ChainAt w0 B pool' p ts
  | [], _, hc => hc
  | _ :: _, _, ⟨g, gr, off, nx, h1, h2, h3, h4, h5⟩ => ⟨g, gr, off, nx, h1, h _ h2, h3, h4, h5.mono h⟩
def EndsAt (es : List ME) (pool : List HA) (ad : Option Addr) (l : List Nat) : Prop :=
  l ≠ [] → ∃ g off, ad = some ⟨g, off, none⟩ ∧ ∀ w : World, (∀ m ∈ es, w.ownsRow 0 3 1 m.val m.cells.length m.cells) → (∀ A ∈ pool, A.holds w) → ∀ q e, l[q]? = some e → w.cell? ⟨g, off + q, none⟩ = some (Iv (e : Nat))
theorem EndsAt.mono {es es' : List ME} {pool pool' : List HA} {ad : Option Addr} {l : List Nat} (h : EndsAt es pool ad l) (he : ∀ m ∈ es, m ∈ es') (hp : ∀ A ∈ pool, A ∈ pool') : EndsAt es' pool' ad l := fun hne => by
  obtain ⟨g, off, h1, h2⟩ := h hne
  exact ⟨g, off, h1, fun w a b => h2 w (fun m hm => a m (he m hm)) (fun A hA => b A (hp A hA))⟩
theorem EndsAt.nil (es : List ME) (pool : List HA) (ad : Option Addr) : EndsAt es pool ad [] := fun h => absurd rfl h
theorem EndsAt.tail {es : List ME} {pool : List HA} {g off e : Nat} {l : List Nat} (h : EndsAt es pool (some ⟨g, off, none⟩) (e :: l)) : EndsAt es pool (some ⟨g, off + 1, none⟩) l := fun hne => by
  obtain ⟨g', off', h1, h2⟩ := h (by simp)
  simp only [Option.some.injEq, Addr.mk.injEq, and_true] at h1
  obtain ⟨rfl, rfl⟩ := h1
  refine ⟨g, off + 1, rfl, fun w a b q x hx => ?_⟩
  have := h2 w a b (q + 1) x (by simpa using hx)
  rw [show off + 1 + q = off + (q + 1) by omega]
  exact this
theorem EndsAt.pre {es : List ME} {pool : List HA} {ad : Option Addr} {l l' : List Nat} (h : EndsAt es pool ad l) (hp : ∀ q e : Nat, l'[q]? = some e → l[q]? = some e) : EndsAt es pool ad l' := fun hne => by
  obtain ⟨e, hl⟩ : ∃ e, l'[0]? = some e := by
    cases l' with
    | nil => exact absurd rfl hne
    | cons x l' => exact ⟨x, rfl⟩
  obtain ⟨g, off, h1, h2⟩ := h (fun e0 => by have := hp 0 e hl; rw [e0] at this; cases this)
  exact ⟨g, off, h1, fun w a b q x hx => h2 w a b q x (hp q x hx)⟩
structure EntB (w0 : World) (B : Nat) (s : List UInt8) (m : ME) (r : RE) (k i j : Nat) : Prop where
  node : NodeRd w0 B m.key.g m.key.off r
  is : m.key.is = [(k : Int), (i : Int), (j : Int)]
  cells : m.cells = (listB s r k i j).map fun z : Nat => Iv (z : Nat)
  val : ∃ ad cap, m.val = .slice ad (listB s r k i j).length cap
def MemB (w0 : World) (B : Nat) (s : List UInt8) (es : List ME) : Prop := ∀ m ∈ es, ∃ r k i j, EntB w0 B s m r k i j
theorem keyB : KeyTy Tryz.prog TB 238 3 := ⟨_, _, _, _, _, _, rfl, rfl, sth238, rfl, rfl, rfl, by decide, rfl, rfl, ⟨⟨_, rfl, rfl⟩, rfl, rfl, ⟨_, rfl, rfl⟩, rfl, rfl, ⟨_, rfl, rfl⟩, rfl, rfl, trivial⟩, rfl⟩
theorem memB_plain {w0 w : World} {B : Nat} {H : List HA} {s : List UInt8} {es : List ME} (hok : MemB w0 B s es) (hs : Sat w0 B H w) : ∀ m ∈ es, PlainAt w m.key.g := fun m hm => by
  obtain ⟨r, k, i, j, h⟩ := hok m hm
  exact PlainAt.of_node h.node hs
theorem memB_len {w0 : World} {B : Nat} {s : List UInt8} {es : List ME} (hok : MemB w0 B s es) : ∀ m ∈ es, m.key.is.length = 3 := fun m hm => by
  obtain ⟨r, k, i, j, h⟩ := hok m hm
  rw [h.is]; rfl
theorem memB_hit {w0 : World} {B : Nat} {s : List UInt8} {es : List ME} (hok : MemB w0 B s es) {g off k i j : Nat} {r : RE} (hn : NodeRd w0 B g off r) {m : ME} (h : memoGet ⟨g, off, [(k : Int), (i : Int), (j : Int)]⟩ es = some m) : m ∈ es ∧ EntB w0 B s m r k i j := by
  have h1 := List.mem_of_find?_eq_some h
  have h2 := List.find?_some h
  have h3 : (⟨g, off, [(k : Int), (i : Int), (j : Int)]⟩ : MK) = m.key := of_decide_eq_true h2
  obtain ⟨r', k', i', j', he⟩ := hok m h1
  have hi := he.is
  rw [← h3] at hi
  simp only [List.cons.injEq, and_true] at hi
  obtain ⟨e1, e2, e3⟩ := hi
  obtain rfl : k = k' := by omega
  obtain rfl : i = i' := by omega
  obtain rfl : j = j' := by omega
  have hnd := he.node
  rw [← h3] at hnd
  obtain rfl := hn.inj hnd
  exact ⟨h1, he⟩
theorem ent_ends {w0 w : World} {B gm : Nat} {H : List HA} {s : List UInt8} {es : List ME} {m : ME} {r : RE} {k i j : Nat} {ad : Option Addr} {cap : Nat} (hs : Sat w0 B H w) (hm : HA.memo gm 3 es ∈ H) (hme : m ∈ es) (he : EntB w0 B s m r k i j) (hv : m.val = .slice ad (listB s r k i j).length cap) (pool : List HA) :
    EndsAt es pool ad (listB s r k i j) ∧ (listB s r k i j).length ≤ cap := by
  have h1 : mapAt w gm (pairsOf es) ∧ ∀ m ∈ es, w.ownsRow 0 3 1 m.val m.cells.length m.cells := hs.all _ hm
  have h2 := h1.2 m hme
  have hlen : m.cells.length = (listB s r k i j).length := by rw [he.cells, List.length_map]
  rw [hv] at h2
  have hf := row_form h2
  refine ⟨fun hne => ?_, by omega⟩
  obtain ⟨g, rfl⟩ := hf.2.2.2.2 (by rw [hlen]; exact List.length_pos_iff.2 hne)
  refine ⟨g, 0, rfl, fun w' a _ q e hq => ?_⟩
  have h3 := a m hme
  rw [hv] at h3
  rw [Nat.zero_add]
  exact row_cell h3 q _ (by rw [he.cells, List.getElem?_map, hq]; rfl)
theorem needs_c (r : RE) (k i j : Nat) (hf : r.fine) (gt gr off : Nat) (nx : Option Addr) (w : World) (hrd : Rd w w.heap.size (some ⟨gt, 0, none⟩) (tkC gr off k i j nx)) (hn : NodeRd w w.heap.size gr off r) : Pure Tryz.prog 106 #[Pv gt 0] (fun _ : Unit => .bool (needsB ⟨r, k, i, j⟩)) (fun _ => []) w := by
  obtain ⟨ad, kcap, hnd, hkids, hkc⟩ := hn.kids2
  have hnd := hnd.rd
  refine calls_of_ES TB Tryz.func106 rfl _ Tryz.ntmps106 rfl (Sat.start w) ?_; refine .go ?_; (repeat constructor); refine .as_ ?_; refine .go ?_; (repeat constructor); refine .mv ?_; refine .nc ?_; refine .fa ?_; refine EL.loadOld rfl rfl rfl rfl rfl hrd rfl ?_; refine .nc ?_; refine .fa ?_; refine EL.loadOld rfl rfl rfl rfl rfl hnd rfl ?_; refine .go ?_; (repeat constructor); refine .go ?_; (repeat constructor); refine .ei ?_; refine .as_ ?_; refine .go ?_; repeat constructor
  refine ES.condD rfl (fun h0 => ?_) (fun h0 => ?_)
  · obtain ⟨ks, rfl⟩ := kind_0 (show r.kind = 0 by omega)
    refine .g0 ?_; repeat constructor
    refine ES.draw (X := Unit) (fun _ => [(2, .bool (decide (k < ks.length)))]) (fun _ => []) [] mixed (.i (by repeat constructor)) ?_ (fun _ => ?_)
    · refine .tk 0 rfl (RV.move rfl) ?_; refine .tk 1 rfl (RV.nilCheck rfl) ?_; refine .tk 2 rfl (RV.fieldAddr rfl rfl rfl rfl rfl rfl) ?_; refine .tk 3 rfl (RV.loadOld rfl rfl rfl hrd rfl) ?_; refine .tk 4 rfl (RV.move rfl) ?_; refine .tk 5 rfl (RV.nilCheck rfl) ?_; refine .tk 6 rfl (RV.fieldAddr rfl rfl rfl rfl rfl rfl) ?_; refine .tk 7 rfl (RV.loadOld rfl rfl rfl hrd rfl) ?_; refine .tk 8 rfl (RV.nilCheck rfl) ?_; refine .tk 9 rfl (RV.fieldAddr rfl rfl rfl rfl rfl rfl) ?_; refine .tk 10 rfl (RV.loadOld rfl rfl rfl hnd rfl) ?_; refine .tk 11 rfl (RV.lenL rfl rfl rfl) ?_; refine .tk 12 rfl (RV.lss rfl rfl) ?_; refine .tk 13 rfl (RV.assign rfl) ?_; refine .dn ?_
      exact .cx () ⟨getA rfl (congrArg Value.bool (decide_eq_decide.2 (show ((k : Nat) : Int) < ((ks.length : Nat) : Int) ↔ k < ks.length by omega))), trivial⟩
    refine .go ?_; repeat constructor
    exact PX.ret rfl Tryz.results106 (.cons (.tmp rfl) .nil) (fun w hs => ⟨(), rfl, hs.ent (.i (by repeat constructor))⟩)
  refine .go ?_; (repeat constructor); refine .ei ?_; refine .as_ ?_; refine .go ?_; repeat constructor
  refine ES.condD rfl (fun h5 => ?_) (fun h5 => ?_)
  · obtain ⟨lo, hi, x, rfl⟩ := kind_5 (show r.kind = 5 by omega)
    have hle := least_le lo x
    refine .g0 ?_; repeat constructor
    refine ES.draw (X := Unit) (fun _ => [(2, .bool (decide (i < j) || decide (k < leastM lo x)))]) (fun _ => []) [] mixed (.i (by repeat constructor)) ?_ (fun _ => ?_)
    · refine .tk 0 rfl (RV.move rfl) ?_; refine .tk 1 rfl (RV.nilCheck rfl) ?_; refine .tk 2 rfl (RV.fieldAddr rfl rfl rfl rfl rfl rfl) ?_; refine .tk 3 rfl (RV.loadOld rfl rfl rfl hrd rfl) ?_; refine .tk 4 rfl (RV.move rfl) ?_; refine .tk 5 rfl (RV.nilCheck rfl) ?_; refine .tk 6 rfl (RV.fieldAddr rfl rfl rfl rfl rfl rfl) ?_; refine .tk 7 rfl (RV.loadOld rfl rfl rfl hrd rfl) ?_; refine .tk 8 rfl (RV.lss rfl rfl) ?_; refine .tk 9 rfl (RV.move rfl) ?_
      first | refine ED.part (d := 36) rfl (fun hp36 => ?_) (fun hp36 => ?_) | refine ED.partN (d := 36) rfl (fun hp36 => ?_) (fun hp36 => ?_) | refine ED.partB (d := 36) rfl (fun hp36 => ?_) (fun hp36 => ?_)
      · refine .pa 10 rfl ?_; refine .pa 11 rfl ?_; refine .pa 12 rfl ?_; refine .pa 13 rfl ?_; refine .pa 14 rfl ?_; refine .pa 15 rfl ?_; refine .pa 16 rfl ?_; refine .pa 17 rfl ?_; refine .pa 18 rfl ?_; refine .pa 19 rfl ?_; refine .tk 20 rfl (RV.pickT rfl rfl) ?_; refine .tk 21 rfl (RV.assign rfl) ?_; refine .dn ?_
        exact .cx () ⟨getA rfl (congrArg Value.bool (by rw [Bool.eq_iff_iff]; simp only [Bool.or_eq_true, decide_eq_true_eq, true_iff, Bool.false_eq_true, false_iff]; omega)), trivial⟩
      · refine .tk 10 rfl (RV.move rfl) ?_; refine .tk 11 rfl (RV.nilCheck rfl) ?_; refine .tk 12 rfl (RV.fieldAddr rfl rfl rfl rfl rfl rfl) ?_; refine .tk 13 rfl (RV.loadOld rfl rfl rfl hrd rfl) ?_; refine .tk 14 rfl (RV.move rfl) ?_; refine .tk 15 rfl (RV.nilCheck rfl) ?_; refine .tk 16 rfl (RV.fieldAddr rfl rfl rfl rfl rfl rfl) ?_; refine .tk 17 rfl (RV.loadOld rfl rfl rfl hrd rfl) ?_; refine .ld 18 ?_; refine EL.callPw rfl rfl rfl ent68 rfl (fun w hs => least_c lo hi x hf gr off w (NodeRd.sat hn hs)) ?_; refine .nx ?_; refine .tk 19 rfl (RV.lss rfl rfl) ?_; refine .tk 20 rfl (RV.pickF rfl rfl) ?_; refine .tk 21 rfl (RV.assign rfl) ?_; refine .dn ?_
        exact .cx () ⟨getA rfl (congrArg Value.bool (by rw [Bool.eq_iff_iff]; simp only [Bool.or_eq_true, decide_eq_true_eq, true_iff, Bool.false_eq_true, false_iff]; omega)), trivial⟩
    refine .go ?_; repeat constructor
    exact PX.ret rfl Tryz.results106 (.cons (.tmp rfl) .nil) (fun w hs => ⟨(), rfl, hs.ent (.i (by repeat constructor))⟩)
  refine .go ?_; (repeat constructor); refine .ei ?_; refine .as_ ?_; refine .go ?_; repeat constructor
  refine ES.condD rfl (fun h4 => ?_) (fun h4 => ?_)
  · obtain ⟨n, x, rfl⟩ := kind_4 (show r.kind = 4 by omega)
    refine .go ?_; (repeat constructor); refine .as_ ?_; refine .go ?_; repeat constructor
    exact PX.ret rfl Tryz.results106 (.cons (.tmp rfl) .nil) (fun w hs => ⟨(), rfl, hs.ent (.i (by repeat constructor))⟩)
  · have hno : needsB ⟨r, k, i, j⟩ = false := by
      cases r <;> first | rfl | (simp [RE.kind] at h0 h5 h4; done)
    rw [hno]
    refine .go ?_; (repeat constructor); refine .as_ ?_; refine .go ?_; repeat constructor
    exact PX.ret rfl Tryz.results106 (.cons (.tmp rfl) .nil) (fun w hs => ⟨(), rfl, hs.ent (.i (by repeat constructor))⟩)
structure SplX (w0 : World) (B : Nat) (s : List UInt8) (es : List ME) (r : RE) (k i j st : Nat) where
  es' : List ME
  st' : Nat
  ad : Option Addr
  cap : Nat
  m : ME
  sub : ∀ m ∈ es, m ∈ es'
  ok : MemB w0 B s es'
  le : st' ≤ st + 2 * floodC
  mem : m ∈ es'
  ent : EntB w0 B s m r k i j
  val : m.val = .slice ad (listB s r k i j).length cap
abbrev SB10 (gs : Nat) (s : List UInt8) (st : Nat) (sp : Option Addr) (n cap gm : Nat) : HA := WB gs s st [.slice sp n cap, .map (some gm)] 164
theorem splitsB_c (gs gm : Nat) (s : List UInt8) (hs : s.length ≤ 1024) (st : Nat) (hst : st ≤ 576460752303423488) (sp : Option Addr) (n cap : Nat) (es : List ME) (r : RE) (k i j : Nat) (hij : i ≤ j) (hj : j ≤ s.length) (w0 : World) (B g off : Nat) (hn : NodeRd w0 B g off r) (hok : MemB w0 B s es)
    (hd tl : List RE) (hl : splL s hd tl i j 0 = listB s r k i j) (hdf : ∀ k ∈ hd, k.fine) (tlf : ∀ k ∈ tl, k.fine) (hdl : hd.length ≤ 1024) (tll : tl.length ≤ 1024) (hdc : costL hd + 1 ≤ 131072) (tlc : costL tl + 1 ≤ 131072)
    (n1 n2 : Nat) (hn1 : n1 = hd.length) (hn2 : n2 = tl.length) (had tad : Option Addr) (hcap tcap : Nat) (T : HA) (hh : RowRd w0 B T had hd) (ht : RowRd w0 B T tad tl) :
    MutAt Tryz.prog 121 #[Pv gs 0, (MK.mk g off [(k : Int), (i : Int), (j : Int)]).val, .slice had n1 hcap, .slice tad n2 tcap] [SB10 gs s st sp n cap gm, HA.memo gm 3 es, T] (fun x : SplX w0 B s es r k i j st => .slice x.ad (listB s r k i j).length x.cap)
      (fun x => [SB10 gs s x.st' sp n cap gm, HA.memo gm 3 x.es', T]) w0 B := by
  subst hn1 hn2
  intro R w h
  replace h : Sat w0 B (SB10 gs s st sp n cap gm :: HA.memo gm 3 es :: T :: R) w := h
  refine calls_of_ES TB Tryz.func121 rfl _ Tryz.ntmps121 rfl h ?_; refine .go ?_; (repeat constructor); (refine .bx ?_; intro g5); refine .as_ ?_
  repeat (first | apply EL.nil | apply ES.seq | apply ES.skip)
  cases hmg : memoGet ⟨g, off, [(k : Int), (i : Int), (j : Int)]⟩ es with
  | some m =>
    obtain ⟨hmem, hent⟩ := memB_hit hok hn hmg
    obtain ⟨mad, mcap, hv⟩ := hent.val
    refine ES.draw (X := Unit) (fun _ => [(9, m.val), (10, .bool true)]) (fun _ => SB10 gs s st sp n cap gm :: HA.memo gm 3 es :: T :: R) (SB10 gs s st sp n cap gm :: HA.memo gm 3 es :: HA.blk g5 (.cells (MK.mk g off [(k : Int), (i : Int), (j : Int)]).cells 238) :: R) mixed (.i (by repeat constructor)) ?_ (fun _ => ?_)
    · refine .tk 0 rfl (RV.move rfl) ?_; refine .tk 1 rfl (RV.nilCheck rfl) ?_; refine .tk 2 rfl (RV.fieldAddr rfl rfl rfl rfl rfl rfl) ?_; refine .tk 3 rfl (RV.loadB rfl rfl rfl (by repeat constructor) rfl) ?_; refine .tk 4 rfl (RV.loadAggB rfl rfl rfl (by repeat constructor) rfl) ?_; refine .tk 5 rfl (RV.lookupHit (k := ⟨g, off, [(k : Int), (i : Int), (j : Int)]⟩) (n := 3) rfl rfl rfl rfl rfl rfl keyB (by repeat constructor) rfl (memB_len hok) (fun w hs => ⟨PlainAt.of_node hn hs, memB_plain hok hs⟩) hmg) ?_; refine .tk 6 rfl (RV.move rfl) ?_; refine .tk 7 rfl (RV.extract rfl rfl) ?_; refine .tk 8 rfl (RV.extract rfl rfl) ?_; refine .tk 9 rfl (RV.assign rfl) ?_; refine .tk 10 rfl (RV.assign rfl) ?_; refine .dn ?_
      exact .cy ()
    refine .go ?_; (repeat constructor); refine .mv ?_; refine .go ?_; (repeat constructor); refine ES.condT rfl ?_; refine .go ?_; (repeat constructor); refine .mv ?_; refine .as_ ?_; refine .go ?_; repeat constructor
    exact PX.ret rfl Tryz.results121 (.cons (.tmp rfl) .nil) (fun w hs => ⟨⟨es, st, mad, mcap, m, fun _ h => h, hok, by omega, hmem, hent, hv⟩, congrArg Ending.returned hv, hs.ent (.i (by repeat constructor))⟩)
  | none =>
    refine ES.draw (X := Unit) (fun _ => [(0, Pv gs 0), (2, .slice had hd.length hcap), (3, .slice tad tl.length tcap), (5, Pv g5 0), (10, .bool false)]) (fun _ => SB10 gs s st sp n cap gm :: HA.memo gm 3 es :: HA.blk g5 (.cells (MK.mk g off [(k : Int), (i : Int), (j : Int)]).cells 238) :: T :: R) (SB10 gs s st sp n cap gm :: HA.memo gm 3 es :: HA.blk g5 (.cells (MK.mk g off [(k : Int), (i : Int), (j : Int)]).cells 238) :: T :: R) mixed (.i (by repeat constructor)) ?_ (fun _ => ?_)
    · refine .tk 0 rfl (RV.move rfl) ?_; refine .tk 1 rfl (RV.nilCheck rfl) ?_; refine .tk 2 rfl (RV.fieldAddr rfl rfl rfl rfl rfl rfl) ?_; refine .tk 3 rfl (RV.loadB rfl rfl rfl (by repeat constructor) rfl) ?_; refine .tk 4 rfl (RV.loadAggB rfl rfl rfl (by repeat constructor) rfl) ?_; refine .tk 5 rfl (RV.lookupMiss (k := ⟨g, off, [(k : Int), (i : Int), (j : Int)]⟩) (n := 3) rfl rfl rfl rfl rfl rfl keyB (by repeat constructor) rfl (memB_len hok) (fun w hs => ⟨PlainAt.of_node hn hs, memB_plain hok hs⟩) hmg) ?_; refine .tk 6 rfl (RV.move rfl) ?_; refine .tk 7 rfl (RV.extract rfl rfl) ?_; refine .tk 8 rfl (RV.extract rfl rfl) ?_; refine .tk 9 rfl (RV.assign rfl) ?_; refine .tk 10 rfl (RV.assign rfl) ?_; refine .dn ?_
      exact .cy ()
    refine .go ?_; (repeat constructor); refine .mv ?_; refine .go ?_; (repeat constructor); refine ES.condF rfl ?_
    have hsp := splits_c gs s hs st hst [.slice sp n cap, .map (some gm)] 164 hd tl hdf tlf hdl tll hdc tlc had tad hcap tcap i j hij hj w0 B T hh ht
    have hle : (splS s hd tl i j st).steps ≤ st + 2 * floodC := by
      have h1 : (splE s hd i st).steps ≤ st + 17609365913600 := endsM_le (make_room hd hdc).1 hs i st
      have h2 : (splS s hd tl i j st).steps ≤ (splE s hd i st).steps + 17609365913600 := startsM_steps (make_room tl tlc).1 hs j _
      unfold floodC; omega
    rw [splL_st, hl] at hsp
    generalize (splS s hd tl i j st).steps = st1 at hsp hle
    refine .g0 ?_; repeat constructor
    refine ES.draw (X := Option Addr × Nat) (fun x => [(0, Pv gs 0), (5, Pv g5 0), (11, .slice x.1 (listB s r k i j).length x.2)]) (fun x => SB10 gs s st1 sp n cap gm :: IR x.1 x.2 (listB s r k i j) :: HA.memo gm 3 es :: HA.blk g5 (.cells (MK.mk g off [(k : Int), (i : Int), (j : Int)]).cells 238) :: T :: R)
      (HA.blk g5 (.cells (MK.mk g off [(k : Int), (i : Int), (j : Int)]).cells 238) :: []) mixed (.i (by repeat constructor)) ?_ (fun x => ?_)
    · refine .tk 0 rfl (RV.move rfl) ?_; refine .tk 1 rfl (RV.nilCheck rfl) ?_; refine .tk 2 rfl (RV.fieldAddr rfl rfl rfl rfl rfl rfl) ?_; refine .tk 3 rfl (RV.move rfl) ?_; refine .tk 4 rfl (RV.move rfl) ?_; refine .tk 5 rfl (RV.fieldAddr rfl rfl rfl rfl rfl rfl) ?_; refine .tk 6 rfl (RV.loadB rfl rfl rfl (by repeat constructor) rfl) ?_; refine .tk 7 rfl (RV.fieldAddr rfl rfl rfl rfl rfl rfl) ?_; refine .tk 8 rfl (RV.loadB rfl rfl rfl (by repeat constructor) rfl) ?_; refine .ld 9 ?_
      (refine EL.callMw rfl rfl rfl ent67 rfl hsp (by repeat constructor) ?_; rintro ⟨xa, xc⟩)
      refine .nx ?_; refine .tk 10 rfl (RV.assign rfl) ?_; refine .dn ?_
      exact .cy (xa, xc)
    obtain ⟨xa, xc⟩ := x
    dsimp only
    have hent : EntB w0 B s ⟨⟨g, off, [(k : Int), (i : Int), (j : Int)]⟩, .slice xa (listB s r k i j).length xc, (listB s r k i j).map fun z : Nat => Iv (z : Nat)⟩ r k i j := ⟨hn, rfl, rfl, _, _, rfl⟩
    have hok2 : MemB w0 B s (es ++ [⟨⟨g, off, [(k : Int), (i : Int), (j : Int)]⟩, .slice xa (listB s r k i j).length xc, (listB s r k i j).map fun z : Nat => Iv (z : Nat)⟩]) := fun m hm => by
      rcases List.mem_append.1 hm with hm | hm
      · exact hok m hm
      · rw [List.mem_singleton] at hm; subst hm; exact ⟨r, k, i, j, hent⟩
    refine .g0 ?_; repeat constructor
    refine ES.drawG (X := Unit) (fun _ => [(11, .slice xa (listB s r k i j).length xc)]) (fun _ => SB10 gs s st1 sp n cap gm :: HA.memo gm 3 (es ++ [⟨⟨g, off, [(k : Int), (i : Int), (j : Int)]⟩, .slice xa (listB s r k i j).length xc, (listB s r k i j).map fun z : Nat => Iv (z : Nat)⟩]) :: T :: R) 6
      (SB10 gs s st1 sp n cap gm :: HA.blk g5 (.cells (MK.mk g off [(k : Int), (i : Int), (j : Int)]).cells 238) :: []) mixed (by decide +kernel) (.i (by repeat constructor)) ?_ (fun _ => ?_)
    · refine .tk 0 rfl (RV.move rfl) ?_; refine .tk 1 rfl (RV.nilCheck rfl) ?_; refine .tk 2 rfl (RV.fieldAddr rfl rfl rfl rfl rfl rfl) ?_; refine .tk 3 rfl (RV.loadB rfl rfl rfl (by repeat constructor) rfl) ?_; refine .tk 4 rfl (RV.loadAggB rfl rfl rfl (by repeat constructor) rfl) ?_; refine .tk 5 rfl (RV.move rfl) ?_; refine EG.loud 6 rfl (by decide +kernel) ?_; refine EL.mapSet (k := ⟨g, off, [(k : Int), (i : Int), (j : Int)]⟩) (n := 3) rfl rfl rfl rfl rfl rfl keyB rfl (memB_len hok) (fun w hs => ⟨PlainAt.of_node hn hs, memB_plain hok hs⟩) hmg (by repeat constructor) (by rw [List.length_map]) ?_; refine EG.nextL (by decide +kernel) rfl (by decide +kernel) ?_; refine .dn ?_
      exact .cy ()
    refine .go ?_; (repeat constructor); refine .mv ?_; refine .as_ ?_; refine .go ?_; repeat constructor
    exact PX.ret rfl Tryz.results121 (.cons (.tmp rfl) .nil) (fun w hs => ⟨⟨_, st1, xa, xc, _, fun m hm => List.mem_append_left _ hm, hok2, hle, List.mem_append_right _ List.mem_cons_self, hent, rfl⟩, rfl, hs.ent (.i (by repeat constructor))⟩)
end Go.Proofs.YthcbjbkheodejaaGreat
namespace Go.Proofs.YthcbjbkheodejaaGreat
open Go Go.RowKit Sl
set_option maxRecDepth 100000
set_option maxHeartbeats 8000000
attribute [local irreducible] ES EL PX wps
theorem spsC_cut : ∀ (z : List Spn) (n : Nat) (p : Spn), z[n]? = some p → ((spsC z).drop (0 + n * 2)).take (spC p).length = spC p
  | [], n, p, h => by simp at h
  | q :: z, 0, p, h => by
    simp only [List.getElem?_cons_zero, Option.some.injEq] at h
    subst h; rfl
  | q :: z, n + 1, p, h => by
    simp only [List.getElem?_cons_succ] at h
    have ih := spsC_cut z n p h
    have e : (spsC (q :: z)).drop (0 + (n + 1) * 2) = (spsC z).drop (0 + n * 2) := by
      rw [show 0 + (n + 1) * 2 = (0 + n * 2) + 2 by omega, show spsC (q :: z) = Iv q.1 :: Iv q.2 :: spsC z from rfl]
      rfl
    rw [e]; exact ih
section
variable {C : Cx} {E : Env} {H : List HA} {d ty t : Nat} {pos : String} {af : Array Edge} {gd : Option (Nat × Bool)} {x : Operand}
theorem RV.loadEnds {ti : TI} {gm g off q e : Nat} {es : List ME} {pool : List HA} {l : List Nat} (hx : E.ev x = some (Pv g (off + q * 1))) (ht : C.T.f t = some ti) (hu : ti.agg = false) (hm : Mem H (HA.memo gm 3 es)) (hp : Mem H (HA.pack pool))
    (hE : ∀ w : World, (∀ m ∈ es, w.ownsRow 0 3 1 m.val m.cells.length m.cells) → (∀ A ∈ pool, A.holds w) → ∀ q e, l[q]? = some e → w.cell? ⟨g, off + q, none⟩ = some (Iv (e : Nat))) (hq : l[q]? = some e) : RunV C E H ⟨some d, .load t x, ty, pos, af, gd⟩ (Iv (e : Nat)) :=
  RV.load hx ht hu (fun w hs => by
    have h1 : mapAt w gm (pairsOf es) ∧ ∀ m ∈ es, w.ownsRow 0 3 1 m.val m.cells.length m.cells := hs.all _ hm.mem
    have h2 : ∀ A ∈ pool, A.holds w := hs.all _ hp.mem
    rw [Nat.mul_one]
    exact hE w h1.2 h2 q e hq)
end
theorem ends_one (es : List ME) (pool : List HA) (b j : Nat) : EndsAt es (HA.row (.slice (some ⟨b, 0, none⟩) 1 1) 3 1 1 [Iv (j : Nat)] :: pool) (some ⟨b, 0, none⟩) [j] := fun _ => ⟨b, 0, rfl, fun w _ hp q e hq => by
  have h1 : w.ownsRow 0 3 1 (.slice (some ⟨b, 0, none⟩) 1 1) 1 [Iv (j : Nat)] := hp _ List.mem_cons_self
  rcases q with _ | q
  · simp only [List.getElem?_cons_zero, Option.some.injEq] at hq
    subst hq
    exact row_cell h1 0 _ rfl
  · simp at hq⟩
structure EnX (w0 : World) (B : Nat) (s : List UInt8) (es : List ME) (pool : List HA) (l : List Nat) (st : Nat) where
  es' : List ME
  st' : Nat
  pool' : List HA
  ad : Option Addr
  cap : Nat
  sub : ∀ m ∈ es, m ∈ es'
  psub : ∀ A ∈ pool, A ∈ pool'
  ok : MemB w0 B s es'
  le : st' ≤ st + 2 * floodC
  ends : EndsAt es' pool' ad l
  lcap : l.length ≤ cap
def EnX.none {w0 : World} {B : Nat} {s : List UInt8} {es : List ME} {pool : List HA} {st : Nat} (h : MemB w0 B s es) : EnX w0 B s es pool [] st := ⟨es, st, pool, Option.none, 0, fun _ h => h, fun _ h => h, h, by omega, EndsAt.nil _ _ _, Nat.le_refl _⟩
def EnX.one {w0 : World} {B : Nat} {s : List UInt8} {es : List ME} {pool : List HA} {st : Nat} (h : MemB w0 B s es) (b j : Nat) : EnX w0 B s es pool [j] st := ⟨es, st, HA.row (.slice (some ⟨b, 0, Option.none⟩) 1 1) 3 1 1 [Iv (j : Nat)] :: pool, some ⟨b, 0, Option.none⟩, 1, fun _ h => h, fun _ h => List.mem_cons_of_mem _ h, h, by omega, ends_one _ _ _ _, Nat.le_refl _⟩
theorem drop_last_get {l : List Nat} {q e : Nat} (h : l.dropLast[q]? = some e) : l[q]? = some e := by
  rw [List.dropLast_eq_take, List.getElem?_take] at h
  split at h
  · exact h
  · cases h
theorem dnL_len (i : Nat) : ∀ n, (dnL i n).length = n
  | 0 => rfl
  | n + 1 => by rw [dnL, List.length_cons, dnL_len i n]
theorem spl_len (s : List UInt8) (hd tl : List RE) (i j st : Nat) : (splL s hd tl i j st).length ≤ j + 1 - i := by
  unfold splL
  refine Nat.le_trans (List.length_filter_le _ _) ?_
  rw [dnL_len]
  omega
theorem ends10_c (gs gm : Nat) (s : List UInt8) (hs : s.length ≤ 1024) (st : Nat) (hst : st ≤ 576460752303423488) (sp : Option Addr) (cap : Nat) (z : List Spn) (es : List ME) (pool : List HA) (r : RE) (k i j : Nat) (w0 : World) (B gt gr off : Nat) (nx : Option Addr) (ht : TkB gt gr off k i j nx ∈ pool) (hn : NodeRd w0 B gr off r) (hf : r.fine) (hok : MemB w0 B s es)
    (l : List Nat) (ok : Bool) (he : endsB s ⟨r, k, i, j⟩ z = some (l, ok)) :
    MutAt Tryz.prog 105 #[Pv gs 0, Pv gt 0] [SB10 gs s st sp z.length cap gm, HA.memo gm 3 es, PRow sp cap z, HA.pack pool] (fun x : EnX w0 B s es pool l st => .tuple #[.slice x.ad l.length x.cap, .bool ok])
      (fun x => [SB10 gs s x.st' sp z.length cap gm, HA.memo gm 3 x.es', PRow sp cap z, HA.pack x.pool']) w0 B := by
  intro R w h
  replace h : Sat w0 B (SB10 gs s st sp z.length cap gm :: HA.memo gm 3 es :: PRow sp cap z :: HA.pack pool :: R) w := h
  have hr : i ≤ j ∧ j ≤ s.length := by
    by_cases hr : i ≤ j ∧ j ≤ s.length
    · exact hr
    · rw [endsB, if_neg hr] at he; cases he
  rw [endsB, if_pos hr] at he
  obtain ⟨hij, hj⟩ := hr
  have hn' := hn
  obtain ⟨ad, kcap, cs0, q1, q2, q3, q4⟩ := hn'
  have hrd := q1.rd
  have hkids : KidsRd w0 B r.kids ad := fun a b hab => by
    have hlt := (List.getElem?_eq_some_iff.1 hab).1
    obtain ⟨g', o', rfl, _⟩ := q3 (fun e => by have := q2.len; rw [e] at this; simp at this; omega)
    exact ⟨g', o', rfl, Node.of_row q2 q3 hab⟩
  have hkl := fine_len hf
  refine calls_of_ES TB Tryz.func105 rfl _ Tryz.ntmps105 rfl h ?_; refine .go ?_; (repeat constructor); refine .as_ ?_; refine .as_ ?_; refine .go ?_; (repeat constructor); refine .mv ?_; refine .nc ?_; refine .fa ?_; refine EL.loadPool rfl rfl rfl rfl rfl (by repeat constructor) ht rfl ?_; refine .nc ?_; refine .fa ?_; refine EL.loadOld rfl rfl rfl rfl rfl hrd rfl ?_; refine .go ?_; (repeat constructor); refine .ei ?_; refine .as_ ?_; refine .go ?_; repeat constructor
  refine ES.condD rfl (fun h6 => ?_) (fun h6 => ?_)
  · obtain ⟨n, rfl⟩ := kind_6 (show r.kind = 6 by omega)
    dsimp only at he
    cases hz : z[n]? with
    | none => rw [hz] at he; cases he
    | some p =>
    obtain ⟨a, b⟩ := p
    rw [hz] at he
    dsimp only at he
    have hnl : n < z.length := (List.getElem?_eq_some_iff.1 hz).1
    have hcut := spsC_cut z n (a, b) hz
    refine ES.know (P := ∃ g, sp = some ⟨g, 0, none⟩) (fun w hs => (row_form (hs.all (PRow sp cap z) (by simp))).2.2.2.2 (by omega)) ?_
    rintro ⟨spg, rfl⟩
    refine .g0 ?_; repeat constructor
    refine ES.draw (X := Nat) (fun g6 => [(0, Pv gs 0), (1, Pv gt 0), (6, Pv g6 0)]) (fun g6 => HA.blk g6 (.cells #[Iv a, Iv b] 29) :: SB10 gs s st (some ⟨spg, 0, none⟩) z.length cap gm :: HA.memo gm 3 es :: PRow (some ⟨spg, 0, none⟩) cap z :: HA.pack pool :: R)
      (SB10 gs s st (some ⟨spg, 0, none⟩) z.length cap gm :: PRow (some ⟨spg, 0, none⟩) cap z :: HA.pack pool :: []) mixed (.i (by repeat constructor)) ?_ (fun g6 => ?_)
    · refine .tk 0 rfl (RV.move rfl) ?_; refine .tk 1 rfl (RV.nilCheck rfl) ?_; refine .tk 2 rfl (RV.fieldAddr rfl rfl rfl rfl rfl rfl) ?_; refine .tk 3 rfl (RV.loadB rfl rfl rfl (by repeat constructor) rfl) ?_; refine .tk 4 rfl (RV.move rfl) ?_; refine .tk 5 rfl (RV.nilCheck rfl) ?_; refine .tk 6 rfl (RV.fieldAddr rfl rfl rfl rfl rfl rfl) ?_; refine .tk 7 rfl (RV.loadPool rfl rfl rfl (by repeat constructor) ht rfl) ?_; refine .tk 8 rfl (RV.nilCheck rfl) ?_; refine .tk 9 rfl (RV.fieldAddr rfl rfl rfl rfl rfl rfl) ?_; refine .tk 10 rfl (RV.loadOld rfl rfl rfl hrd rfl) ?_; refine .tk 11 rfl (RV.indexAddrL (i := n) rfl rfl rfl rfl rfl hnl) ?_; refine .tk 12 rfl (RV.loadRA (spC (a, b)) rfl rfl rfl rfl (by repeat constructor) hcut) ?_; refine .ld 13 ?_; (refine .al ?_; intro g6); refine .nx ?_; refine ED.last 14 rfl (by decide +kernel) (by decide +kernel) (by decide +kernel) ?_; refine .sa ?_; refine EL.endQ ?_
      exact .cy g6
    by_cases ha : a < 0
    · rw [if_pos ha] at he
      cases he
      refine .g0 ?_; repeat constructor
      refine ES.draw (X := Unit) (fun _ => [(4, .slice none 0 0), (5, .bool false)]) (fun _ => SB10 gs s st (some ⟨spg, 0, none⟩) z.length cap gm :: HA.memo gm 3 es :: PRow (some ⟨spg, 0, none⟩) cap z :: HA.pack pool :: R) (HA.blk g6 (.cells #[Iv a, Iv b] 29) :: []) mixed (.i (by repeat constructor)) ?_ (fun _ => ?_)
      · refine .tk 0 rfl (RV.fieldAddr rfl rfl rfl rfl rfl rfl) ?_; refine .tk 1 rfl (RV.loadB rfl rfl rfl (by repeat constructor) rfl) ?_; refine .tk 2 rfl (RV.geq rfl rfl) ?_; refine .tk 3 rfl (RV.move rfl) ?_; refine ED.rew (d := 34) (v' := .bool false) rfl ((by simpa using ha)) ?_; refine .pa 4 rfl ?_; refine .pa 5 rfl ?_; refine .pa 6 rfl ?_; refine .pa 7 rfl ?_; refine .pa 8 rfl ?_; refine .pa 9 rfl ?_; refine .pa 10 rfl ?_; refine .pa 11 rfl ?_; refine .pa 12 rfl ?_; refine .pa 13 rfl ?_; refine .pa 14 rfl ?_; refine .pa 15 rfl ?_; refine .pa 16 rfl ?_; refine .pa 17 rfl ?_; refine .pa 18 rfl ?_; refine .pa 19 rfl ?_; refine .pa 20 rfl ?_; refine .pa 21 rfl ?_; refine .pa 22 rfl ?_; refine .pa 23 rfl ?_; refine .pa 24 rfl ?_; refine .pa 25 rfl ?_; refine .pa 26 rfl ?_; refine .pa 27 rfl ?_; refine .pa 28 rfl ?_; refine .tk 29 rfl (RV.pickF rfl rfl) ?_; refine .tk 30 rfl (RV.assign rfl) ?_; refine .tk 31 rfl (RV.assign rfl) ?_; refine .dn ?_
        exact .cy ()
      refine .go ?_; repeat constructor
      exact PX.ret rfl Tryz.results105 (.cons (.tmp rfl) (.cons (.tmp rfl) .nil)) (fun w hs => ⟨EnX.none hok, rfl, hs.ent (.i (by repeat constructor))⟩)
    · rw [if_neg ha] at he
      split at he
      rotate_left
      · cases he
      rename_i hab
      obtain ⟨a, rfl⟩ : ∃ a' : Nat, a = (a' : Int) := ⟨a.toNat, by omega⟩
      obtain ⟨b, rfl⟩ : ∃ b' : Nat, b = (b' : Int) := ⟨b.toNat, by omega⟩
      rw [Int.toNat_natCast, Int.toNat_natCast] at he
      cases he
      have hcmp : ((s.drop a).take (b - a) = (s.drop i).take (j - i)) ↔ ((s.take b).drop a = (s.take j).drop i) := by rw [List.drop_take, List.drop_take]
      refine .g0 ?_; repeat constructor
      refine ES.draw (X := Unit) (fun _ => [(4, .slice none 0 0), (5, .bool (decide ((s.take b).drop a = (s.take j).drop i)))]) (fun _ => SB10 gs s st (some ⟨spg, 0, none⟩) z.length cap gm :: HA.memo gm 3 es :: PRow (some ⟨spg, 0, none⟩) cap z :: HA.pack pool :: R) (HA.blk g6 (.cells #[Iv (a : Nat), Iv (b : Nat)] 29) :: SB10 gs s st (some ⟨spg, 0, none⟩) z.length cap gm :: HA.pack pool :: []) mixed (.i (by repeat constructor)) ?_ (fun _ => ?_)
      · refine .tk 0 rfl (RV.fieldAddr rfl rfl rfl rfl rfl rfl) ?_; refine .tk 1 rfl (RV.loadB rfl rfl rfl (by repeat constructor) rfl) ?_; refine .tk 2 rfl (RV.geq rfl rfl) ?_; refine .tk 3 rfl (RV.move rfl) ?_; refine ED.rew (d := 34) (v' := .bool true) rfl ((by simp)) ?_; refine .tk 4 rfl (RV.move rfl) ?_; refine .tk 5 rfl (RV.nilCheck rfl) ?_; refine .tk 6 rfl (RV.fieldAddr rfl rfl rfl rfl rfl rfl) ?_; refine .tk 7 rfl (RV.fieldAddr rfl rfl rfl rfl rfl rfl) ?_; refine .tk 8 rfl (RV.loadB rfl rfl rfl (by repeat constructor) rfl) ?_; refine .tk 9 rfl (RV.fieldAddr rfl rfl rfl rfl rfl rfl) ?_; refine .tk 10 rfl (RV.loadB rfl rfl rfl (by repeat constructor) rfl) ?_; refine .tk 11 rfl (RV.fieldAddr rfl rfl rfl rfl rfl rfl) ?_; refine .tk 12 rfl (RV.loadB rfl rfl rfl (by repeat constructor) rfl) ?_; refine .tk 13 rfl (RV.sliceS (m := a) (n := b) rfl rfl rfl ⟨_, rfl⟩ ⟨_, rfl⟩ (by omega) (by omega)) ?_; refine .tk 14 rfl (RV.move rfl) ?_; refine .tk 15 rfl (RV.nilCheck rfl) ?_; refine .tk 16 rfl (RV.fieldAddr rfl rfl rfl rfl rfl rfl) ?_; refine .tk 17 rfl (RV.fieldAddr rfl rfl rfl rfl rfl rfl) ?_; refine .tk 18 rfl (RV.loadB rfl rfl rfl (by repeat constructor) rfl) ?_; refine .tk 19 rfl (RV.move rfl) ?_; refine .tk 20 rfl (RV.nilCheck rfl) ?_; refine .tk 21 rfl (RV.fieldAddr rfl rfl rfl rfl rfl rfl) ?_; refine .tk 22 rfl (RV.loadPool rfl rfl rfl (by repeat constructor) ht rfl) ?_; refine .tk 23 rfl (RV.move rfl) ?_; refine .tk 24 rfl (RV.nilCheck rfl) ?_; refine .tk 25 rfl (RV.fieldAddr rfl rfl rfl rfl rfl rfl) ?_; refine .tk 26 rfl (RV.loadPool rfl rfl rfl (by repeat constructor) ht rfl) ?_; refine .tk 27 rfl (RV.sliceS (m := i) (n := j) rfl rfl rfl ⟨_, rfl⟩ ⟨_, rfl⟩ (by omega) (by omega)) ?_; refine .tk 28 rfl (RV.eqlS rfl rfl) ?_; refine .tk 29 rfl (RV.pickT rfl rfl) ?_; refine .tk 30 rfl (RV.assign rfl) ?_; refine .tk 31 rfl (RV.assign rfl) ?_; refine .dn ?_
        exact .cx () ⟨rfl, getA rfl (congrArg Value.bool (decide_eq_decide.2 hcmp)), trivial⟩
      refine .go ?_; repeat constructor
      exact PX.ret rfl Tryz.results105 (.cons (.tmp rfl) (.cons (.tmp rfl) .nil)) (fun w hs => ⟨EnX.none hok, rfl, hs.ent (.i (by repeat constructor))⟩)
  refine .go ?_; (repeat constructor); refine .ei ?_; refine .as_ ?_; refine .go ?_; repeat constructor
  refine ES.condD rfl (fun h4 => ?_) (fun h4 => ?_)
  · obtain ⟨n, x, rfl⟩ := kind_4 (show r.kind = 4 by omega)
    cases he
    refine .go ?_; (repeat constructor); refine .mv ?_; refine .nc ?_; refine .fa ?_; refine EL.loadPool rfl rfl rfl rfl rfl (by repeat constructor) ht rfl ?_; (refine .b1 ?_; intro b67)
    (refine EL.poolIn (A := HA.row (.slice (some ⟨b67, 0, none⟩) 1 1) 3 1 1 [Iv (j : Nat)]) (by repeat constructor) ?_; refine .as_ ?_)
    refine .as_ ?_; refine .go ?_; repeat constructor
    exact PX.ret rfl Tryz.results105 (.cons (.tmp rfl) (.cons (.tmp rfl) .nil)) (fun w hs => ⟨EnX.one hok b67 j, rfl, hs.ent (.i (by repeat constructor))⟩)
  refine .go ?_; (repeat constructor); refine .ei ?_; refine .as_ ?_; refine .go ?_; repeat constructor
  refine ES.condD rfl (fun h0 => ?_) (fun h0 => ?_)
  · obtain ⟨ks, rfl⟩ := kind_0 (show r.kind = 0 by omega)
    dsimp only at he
    refine .g0 ?_; repeat constructor
    refine ES.draw (X := Unit) (fun _ => [(0, Pv gs 0), (1, Pv gt 0), (82, .bool (decide (k = ks.length)))]) (fun _ => SB10 gs s st sp z.length cap gm :: HA.memo gm 3 es :: PRow sp cap z :: HA.pack pool :: R) (HA.pack pool :: []) mixed (.i (by repeat constructor)) ?_ (fun _ => ?_)
    · refine .tk 0 rfl (RV.move rfl) ?_; refine .tk 1 rfl (RV.nilCheck rfl) ?_; refine .tk 2 rfl (RV.fieldAddr rfl rfl rfl rfl rfl rfl) ?_; refine .tk 3 rfl (RV.loadPool rfl rfl rfl (by repeat constructor) ht rfl) ?_; refine .tk 4 rfl (RV.move rfl) ?_; refine .tk 5 rfl (RV.nilCheck rfl) ?_; refine .tk 6 rfl (RV.fieldAddr rfl rfl rfl rfl rfl rfl) ?_; refine .tk 7 rfl (RV.loadPool rfl rfl rfl (by repeat constructor) ht rfl) ?_; refine .tk 8 rfl (RV.nilCheck rfl) ?_; refine .tk 9 rfl (RV.fieldAddr rfl rfl rfl rfl rfl rfl) ?_; refine .tk 10 rfl (RV.loadOld rfl rfl rfl hrd rfl) ?_; refine .tk 11 rfl (RV.lenL rfl rfl rfl) ?_; refine .tk 12 rfl (RV.eqlI rfl rfl) ?_; refine .dn ?_
      exact .cx () ⟨rfl, rfl, getA rfl (congrArg Value.bool (decide_eq_decide.2 (show ((k : Nat) : Int) = ((ks.length : Nat) : Int) ↔ k = ks.length by omega))), trivial⟩
    refine ES.condD rfl (fun hk => ?_) (fun hk => ?_)
    · rw [if_pos hk] at he
      cases he
      refine .go ?_; (repeat constructor); refine .as_ ?_; refine .as_ ?_; refine .go ?_; repeat constructor
      exact PX.ret rfl Tryz.results105 (.cons (.tmp rfl) (.cons (.tmp rfl) .nil)) (fun w hs => ⟨EnX.none hok, rfl, hs.ent (.i (by repeat constructor))⟩)
    rw [if_neg hk] at he
    refine .g0 ?_; repeat constructor
    have hkb : k ≤ 1073741824 := by
      split at he
      · have := hf.1; omega
      · split at he
        · rename_i h1; have := hf.1; omega
        · cases he
    refine ES.draw (X := Unit) (fun _ => [(0, Pv gs 0), (1, Pv gt 0), (96, .bool (decide (k + 1 = ks.length)))]) (fun _ => SB10 gs s st sp z.length cap gm :: HA.memo gm 3 es :: PRow sp cap z :: HA.pack pool :: R) (HA.pack pool :: []) mixed (.i (by repeat constructor)) ?_ (fun _ => ?_)
    · refine .tk 0 rfl (RV.move rfl) ?_; refine .tk 1 rfl (RV.nilCheck rfl) ?_; refine .tk 2 rfl (RV.fieldAddr rfl rfl rfl rfl rfl rfl) ?_; refine .tk 3 rfl (RV.loadPool rfl rfl rfl (by repeat constructor) ht rfl) ?_; refine .tk 4 rfl (RV.add1 rfl rfl (by omega)) ?_; refine .tk 5 rfl (RV.move rfl) ?_; refine .tk 6 rfl (RV.nilCheck rfl) ?_; refine .tk 7 rfl (RV.fieldAddr rfl rfl rfl rfl rfl rfl) ?_; refine .tk 8 rfl (RV.loadPool rfl rfl rfl (by repeat constructor) ht rfl) ?_; refine .tk 9 rfl (RV.nilCheck rfl) ?_; refine .tk 10 rfl (RV.fieldAddr rfl rfl rfl rfl rfl rfl) ?_; refine .tk 11 rfl (RV.loadOld rfl rfl rfl hrd rfl) ?_; refine .tk 12 rfl (RV.lenL rfl rfl rfl) ?_; refine .tk 13 rfl (RV.eqlI rfl rfl) ?_; refine .dn ?_
      exact .cx () ⟨rfl, rfl, getA rfl (congrArg Value.bool (decide_eq_decide.2 (show ((k + 1 : Nat) : Int) = ((ks.length : Nat) : Int) ↔ k + 1 = ks.length by omega))), trivial⟩
    refine ES.condD rfl (fun hk1 => ?_) (fun hk1 => ?_)
    · rw [if_pos hk1] at he
      cases he
      refine .go ?_; (repeat constructor); refine .mv ?_; refine .nc ?_; refine .fa ?_; refine EL.loadPool rfl rfl rfl rfl rfl (by repeat constructor) ht rfl ?_; (refine .b1 ?_; intro b101)
      (refine EL.poolIn (A := HA.row (.slice (some ⟨b101, 0, none⟩) 1 1) 3 1 1 [Iv (j : Nat)]) (by repeat constructor) ?_; refine .as_ ?_)
      refine .as_ ?_; refine .go ?_; repeat constructor
      exact PX.ret rfl Tryz.results105 (.cons (.tmp rfl) (.cons (.tmp rfl) .nil)) (fun w hs => ⟨EnX.one hok b101 j, rfl, hs.ent (.i (by repeat constructor))⟩)
    rw [if_neg hk1] at he
    split at he
    rotate_left
    · cases he
    rename_i hkc
    obtain ⟨hk2, hcost⟩ := hkc
    cases he
    have hcost' : costL ((ks.drop k).take 1) + 1 ≤ 131072 ∧ costL (ks.drop (k + 1)) + 1 ≤ 131072 := by simpa [costB] using hcost
    obtain ⟨kg, ko, rfl, _⟩ := hkids k ks[k] (List.getElem?_eq_getElem hk2)
    have hkl' : ks.length ≤ 1024 := hf.1
    have hkc4 : ks.length ≤ kcap := q4
    have hkk : (RE.cat ks).kids.length = ks.length := rfl
    have hfk : ∀ a ∈ ks, a.fine := (fineL_iff _).1 hf.2
    have hsp := splitsB_c gs gm s hs st hst sp z.length cap es (.cat ks) k i j hij hj w0 B gr off hn hok ((ks.drop k).take 1) (ks.drop (k + 1)) rfl (fun a ha => hfk a (List.mem_of_mem_drop (List.mem_of_mem_take ha))) (fun a ha => hfk a (List.mem_of_mem_drop ha)) (by simp; omega) (by simp; omega) hcost'.1 hcost'.2
      (k + 1 - k) (ks.length - (k + 1)) (by simp; omega) (by simp) (some ⟨kg, ko + k * 9, none⟩) (some ⟨kg, ko + (k + 1) * 9, none⟩) (kcap - k) (kcap - (k + 1)) HA.emp
      (kids_drop hkids k _ (fun a b hab => by
        rw [List.getElem?_take] at hab
        split at hab
        · rw [List.getElem?_drop] at hab; exact hab
        · cases hab) HA.emp)
      (kids_drop hkids (k + 1) _ (fun a b hab => by rw [List.getElem?_drop] at hab; exact hab) HA.emp)
    refine .g0 ?_; (repeat constructor); refine ES.imp (H' := HA.emp :: SB10 gs s st sp z.length cap gm :: HA.memo gm 3 es :: PRow sp cap z :: HA.pack pool :: R) (fun w hs => hs.emp) ?_
    refine ES.draw (X := SplX w0 B s es (.cat ks) k i j st) (fun x => [(4, .slice x.ad (listB s (.cat ks) k i j).length x.cap), (5, .bool true)]) (fun x => SB10 gs s x.st' sp z.length cap gm :: HA.memo gm 3 x.es' :: PRow sp cap z :: HA.pack pool :: R) (HA.pack pool :: []) mixed (.i (by repeat constructor)) ?_ (fun x => ?_)
    · refine .tk 0 rfl (RV.move rfl) ?_; refine .tk 1 rfl (RV.move rfl) ?_; refine .tk 2 rfl (RV.nilCheck rfl) ?_; refine .tk 3 rfl (RV.fieldAddr rfl rfl rfl rfl rfl rfl) ?_; refine .tk 4 rfl (RV.loadPool rfl rfl rfl (by repeat constructor) ht rfl) ?_; refine .tk 5 rfl (RV.move rfl) ?_; refine .tk 6 rfl (RV.nilCheck rfl) ?_; refine .tk 7 rfl (RV.fieldAddr rfl rfl rfl rfl rfl rfl) ?_; refine .tk 8 rfl (RV.loadPool rfl rfl rfl (by repeat constructor) ht rfl) ?_; refine .tk 9 rfl (RV.move rfl) ?_; refine .tk 10 rfl (RV.nilCheck rfl) ?_; refine .tk 11 rfl (RV.fieldAddr rfl rfl rfl rfl rfl rfl) ?_; refine .tk 12 rfl (RV.loadPool rfl rfl rfl (by repeat constructor) ht rfl) ?_; refine .tk 13 rfl (RV.move rfl) ?_; refine .tk 14 rfl (RV.nilCheck rfl) ?_; refine .tk 15 rfl (RV.fieldAddr rfl rfl rfl rfl rfl rfl) ?_; refine .tk 16 rfl (RV.loadPool rfl rfl rfl (by repeat constructor) ht rfl) ?_; refine .tk 17 rfl (RV.buildS #[Pv gr off, Iv (k : Nat), Iv (i : Nat), Iv (j : Nat)] rfl rfl rfl rfl (by kernel_rfl)) ?_; refine .tk 18 rfl (RV.move rfl) ?_; refine .tk 19 rfl (RV.nilCheck rfl) ?_; refine .tk 20 rfl (RV.fieldAddr rfl rfl rfl rfl rfl rfl) ?_; refine .tk 21 rfl (RV.loadPool rfl rfl rfl (by repeat constructor) ht rfl) ?_; refine .tk 22 rfl (RV.nilCheck rfl) ?_; refine .tk 23 rfl (RV.fieldAddr rfl rfl rfl rfl rfl rfl) ?_; refine .tk 24 rfl (RV.loadOld rfl rfl rfl hrd rfl) ?_; refine .tk 25 rfl (RV.move rfl) ?_; refine .tk 26 rfl (RV.nilCheck rfl) ?_; refine .tk 27 rfl (RV.fieldAddr rfl rfl rfl rfl rfl rfl) ?_; refine .tk 28 rfl (RV.loadPool rfl rfl rfl (by repeat constructor) ht rfl) ?_; refine .tk 29 rfl (RV.move rfl) ?_; refine .tk 30 rfl (RV.nilCheck rfl) ?_; refine .tk 31 rfl (RV.fieldAddr rfl rfl rfl rfl rfl rfl) ?_; refine .tk 32 rfl (RV.loadPool rfl rfl rfl (by repeat constructor) ht rfl) ?_; refine .tk 33 rfl (RV.add1 rfl rfl (by omega)) ?_; refine .tk 34 rfl (RV.sliceLHk (lo := k) (hi := k + 1) rfl rfl rfl rfl rfl rfl (by omega) (by omega) (by omega)) ?_; refine .tk 35 rfl (RV.move rfl) ?_; refine .tk 36 rfl (RV.nilCheck rfl) ?_; refine .tk 37 rfl (RV.fieldAddr rfl rfl rfl rfl rfl rfl) ?_; refine .tk 38 rfl (RV.loadPool rfl rfl rfl (by repeat constructor) ht rfl) ?_; refine .tk 39 rfl (RV.nilCheck rfl) ?_; refine .tk 40 rfl (RV.fieldAddr rfl rfl rfl rfl rfl rfl) ?_; refine .tk 41 rfl (RV.loadOld rfl rfl rfl hrd rfl) ?_; refine .tk 42 rfl (RV.move rfl) ?_; refine .tk 43 rfl (RV.nilCheck rfl) ?_; refine .tk 44 rfl (RV.fieldAddr rfl rfl rfl rfl rfl rfl) ?_; refine .tk 45 rfl (RV.loadPool rfl rfl rfl (by repeat constructor) ht rfl) ?_; refine .tk 46 rfl (RV.add1 rfl rfl (by omega)) ?_; refine .tk 47 rfl (RV.sliceLk (lo := k + 1) rfl rfl rfl rfl rfl (by omega) (by omega) (by omega)) ?_; refine .ld 48 ?_; (refine EL.callMw rfl rfl rfl ent121 rfl hsp (by repeat constructor) ?_; intro x); refine .nx ?_; refine .tk 49 rfl (RV.assign rfl) ?_; refine .tk 50 rfl (RV.assign rfl) ?_; refine .dn ?_
      exact .cy x
    refine .go ?_; repeat constructor
    exact PX.ret rfl Tryz.results105 (.cons (.tmp rfl) (.cons (.tmp rfl) .nil)) (fun w hs => ⟨⟨x.es', x.st', pool, x.ad, x.cap, x.sub, fun _ h => h, x.ok, x.le, (ent_ends hs (Mem.mem (by repeat constructor)) x.mem x.ent x.val pool).1, (ent_ends hs (Mem.mem (by repeat constructor)) x.mem x.ent x.val pool).2⟩, rfl, hs.ent (.i (by repeat constructor))⟩)
  refine .go ?_; (repeat constructor); refine .ei ?_; refine .as_ ?_; refine .go ?_; repeat constructor
  refine ES.condD rfl (fun h5 => ?_) (fun h5 => ?_)
  · obtain ⟨lo, hi, x, rfl⟩ := kind_5 (show r.kind = 5 by omega)
    have hkf := hf.2.2.2.2
    have hlo := hf.1
    have hle := least_le lo x
    have hkk : (RE.rep lo hi x).kids.length = 1 := rfl
    obtain ⟨g', o', rfl, _⟩ := hkids 0 x rfl
    dsimp only at he
    refine .go ?_; (repeat constructor); refine .mv ?_; refine .nc ?_; refine .fa ?_; refine EL.loadPool rfl rfl rfl rfl rfl (by repeat constructor) ht rfl ?_; refine EL.callPw rfl rfl rfl ent68 rfl (fun w hs => least_c lo hi x hf gr off w (NodeRd.sat hn hs)) ?_; refine .as_ ?_; refine .go ?_; repeat constructor
    refine ES.draw (X := Unit) (fun _ => [(0, Pv gs 0), (1, Pv gt 0), (7, Iv (leastM lo x : Nat)), (174, .bool (decide (i = j ∧ leastM lo x ≤ k)))]) (fun _ => SB10 gs s st sp z.length cap gm :: HA.memo gm 3 es :: PRow sp cap z :: HA.pack pool :: R) (HA.pack pool :: []) mixed (.i (by repeat constructor)) ?_ (fun _ => ?_)
    · refine .tk 0 rfl (RV.move rfl) ?_; refine .tk 1 rfl (RV.nilCheck rfl) ?_; refine .tk 2 rfl (RV.fieldAddr rfl rfl rfl rfl rfl rfl) ?_; refine .tk 3 rfl (RV.loadPool rfl rfl rfl (by repeat constructor) ht rfl) ?_; refine .tk 4 rfl (RV.move rfl) ?_; refine .tk 5 rfl (RV.nilCheck rfl) ?_; refine .tk 6 rfl (RV.fieldAddr rfl rfl rfl rfl rfl rfl) ?_; refine .tk 7 rfl (RV.loadPool rfl rfl rfl (by repeat constructor) ht rfl) ?_; refine .tk 8 rfl (RV.eqlI rfl rfl) ?_; refine .tk 9 rfl (RV.move rfl) ?_
      first | refine ED.part (d := 167) rfl (fun hp167 => ?_) (fun hp167 => ?_) | refine ED.partN (d := 167) rfl (fun hp167 => ?_) (fun hp167 => ?_) | refine ED.partB (d := 167) rfl (fun hp167 => ?_) (fun hp167 => ?_)
      · refine .tk 10 rfl (RV.move rfl) ?_; refine .tk 11 rfl (RV.nilCheck rfl) ?_; refine .tk 12 rfl (RV.fieldAddr rfl rfl rfl rfl rfl rfl) ?_; refine .tk 13 rfl (RV.loadPool rfl rfl rfl (by repeat constructor) ht rfl) ?_; refine .tk 14 rfl (RV.move rfl) ?_; refine .tk 15 rfl (RV.geq rfl rfl) ?_; refine .tk 16 rfl (RV.pickT rfl rfl) ?_; refine .dn ?_
        exact .cx () ⟨rfl, rfl, rfl, getA rfl (congrArg Value.bool (by rw [Bool.eq_iff_iff]; simp only [decide_eq_true_eq, Bool.false_eq_true, false_iff]; omega)), trivial⟩
      · refine .pa 10 rfl ?_; refine .pa 11 rfl ?_; refine .pa 12 rfl ?_; refine .pa 13 rfl ?_; refine .pa 14 rfl ?_; refine .pa 15 rfl ?_; refine .tk 16 rfl (RV.pickF rfl rfl) ?_; refine .dn ?_
        exact .cx () ⟨rfl, rfl, rfl, getA rfl (congrArg Value.bool (by rw [Bool.eq_iff_iff]; simp only [decide_eq_true_eq, Bool.false_eq_true, false_iff]; omega)), trivial⟩
    refine ES.condD rfl (fun hk => ?_) (fun hk => ?_)
    · rw [if_pos hk] at he
      cases he
      refine .go ?_; (repeat constructor); refine .as_ ?_; refine .as_ ?_; refine .go ?_; repeat constructor
      exact PX.ret rfl Tryz.results105 (.cons (.tmp rfl) (.cons (.tmp rfl) .nil)) (fun w hs => ⟨EnX.none hok, rfl, hs.ent (.i (by repeat constructor))⟩)
    rw [if_neg hk] at he
    split at he
    rotate_left
    · cases he
    rename_i hkc
    obtain ⟨hk2, hcost⟩ := hkc
    have hcost' : costL [x] + 1 ≤ 131072 ∧ costL [leftM lo hi x (turnB lo hi x k + 1)] + 1 ≤ 131072 := by simpa [costB] using hcost
    have htu : turnB lo hi x k ≤ k := by unfold turnB; split <;> omega
    refine .go ?_; (repeat constructor); refine .mv ?_; refine .nc ?_; refine .fa ?_; refine EL.loadPool rfl rfl rfl rfl rfl (by repeat constructor) ht rfl ?_; refine .as_ ?_; refine .go ?_; (repeat constructor); refine .mv ?_; refine .nc ?_; refine .fa ?_; refine EL.loadPool rfl rfl rfl rfl rfl (by repeat constructor) ht rfl ?_; refine .nc ?_; refine .fa ?_; refine EL.loadOld rfl rfl rfl rfl rfl hrd rfl ?_; refine .ls ?_; refine .go ?_; repeat constructor
    refine ES.cutC (X := Unit) (fun _ => [(0, Pv gs 0), (1, Pv gt 0), (7, Iv (leastM lo x : Nat)), (8, Iv (turnB lo hi x k : Nat))]) (fun _ => SB10 gs s st sp z.length cap gm :: HA.memo gm 3 es :: PRow sp cap z :: HA.pack pool :: R) ?_ (fun _ => ?_)
    · refine ES.condD rfl (fun hneg => ?_) (fun hneg => ?_)
      · have ht1 : min (k : Int) ((leastM lo x : Nat) : Int) = ((turnB lo hi x k : Nat) : Int) := by
          have : turnB lo hi x k = min k (leastM lo x) := if_pos hneg
          omega
        refine .go ?_; (repeat constructor); refine .mv ?_; refine .mv ?_
        refine EL.ofRV (RV.minI rfl rfl) rfl rfl rfl (by intro c h; cases h) ?_
        refine .as_ ?_; refine .go ?_; repeat constructor
        exact .cx () ⟨rfl, rfl, rfl, getA rfl (congrArg Iv ht1), trivial⟩
      · have ht1 : (k : Int) = ((turnB lo hi x k : Nat) : Int) := by
          have : turnB lo hi x k = k := if_neg hneg
          omega
        refine .go ?_; repeat constructor
        exact .cx () ⟨rfl, rfl, rfl, getA rfl (congrArg Iv ht1), trivial⟩
    obtain ⟨tb, htb⟩ : ∃ tb, tb = turnB lo hi x k := ⟨_, rfl⟩
    rw [← htb] at he hcost' htu ⊢
    obtain ⟨L, hL⟩ : ∃ L, L = listB s (.rep lo hi x) tb i j := ⟨_, rfl⟩
    have hLl : L.length ≤ j + 1 - i := by rw [hL]; exact spl_len _ _ _ _ _ _
    rw [← hL] at he
    have hsp := fun b => splitsB_c gs gm s hs st hst sp z.length cap es (.rep lo hi x) tb i j hij hj w0 B gr off hn hok [x] [leftM lo hi x (tb + 1)] rfl (fun a ha => by rw [List.mem_singleton] at ha; subst ha; exact hkf) (fun a ha => by rw [List.mem_singleton] at ha; subst ha; exact left_fine hf _) (by simp) (by simp) hcost'.1 hcost'.2
      1 1 rfl rfl (some ⟨g', o', none⟩) (some ⟨b, 0, none⟩) kcap 1 (HA.row (.slice (some ⟨b, 0, none⟩) 1 1) 46 9 1 (reCells (leftM lo hi x (tb + 1)) (.slice (some ⟨g', o', none⟩) 1 kcap)))
      (fun w' H' hs' a b hab => by
        obtain ⟨q, o, e1, e2⟩ := hkids a b hab
        exact ⟨q, o, e1, NodeRd.sat e2 hs'⟩)
      (rowRd_left q2 q3 q4)
    rw [← hL] at hsp
    refine .g0 ?_; repeat constructor
    refine ES.draw (X := SplX w0 B s es (.rep lo hi x) tb i j st) (fun y => [(1, Pv gt 0), (4, .slice y.ad L.length y.cap), (7, Iv (leastM lo x : Nat))]) (fun y => SB10 gs s y.st' sp z.length cap gm :: HA.memo gm 3 y.es' :: PRow sp cap z :: HA.pack pool :: R) (HA.pack pool :: []) mixed (.i (by repeat constructor)) ?_ (fun y => ?_)
    · refine .tk 0 rfl (RV.move rfl) ?_; refine .tk 1 rfl (RV.move rfl) ?_; refine .tk 2 rfl (RV.nilCheck rfl) ?_; refine .tk 3 rfl (RV.fieldAddr rfl rfl rfl rfl rfl rfl) ?_; refine .tk 4 rfl (RV.loadPool rfl rfl rfl (by repeat constructor) ht rfl) ?_; refine .tk 5 rfl (RV.move rfl) ?_; refine .tk 6 rfl (RV.move rfl) ?_; refine .tk 7 rfl (RV.nilCheck rfl) ?_; refine .tk 8 rfl (RV.fieldAddr rfl rfl rfl rfl rfl rfl) ?_; refine .tk 9 rfl (RV.loadPool rfl rfl rfl (by repeat constructor) ht rfl) ?_; refine .tk 10 rfl (RV.move rfl) ?_; refine .tk 11 rfl (RV.nilCheck rfl) ?_; refine .tk 12 rfl (RV.fieldAddr rfl rfl rfl rfl rfl rfl) ?_; refine .tk 13 rfl (RV.loadPool rfl rfl rfl (by repeat constructor) ht rfl) ?_; refine .tk 14 rfl (RV.buildS #[Pv gr off, Iv (tb : Nat), Iv (i : Nat), Iv (j : Nat)] rfl rfl rfl rfl (by kernel_rfl)) ?_; refine .tk 15 rfl (RV.move rfl) ?_; refine .tk 16 rfl (RV.nilCheck rfl) ?_; refine .tk 17 rfl (RV.fieldAddr rfl rfl rfl rfl rfl rfl) ?_; refine .tk 18 rfl (RV.loadPool rfl rfl rfl (by repeat constructor) ht rfl) ?_; refine .tk 19 rfl (RV.nilCheck rfl) ?_; refine .tk 20 rfl (RV.fieldAddr rfl rfl rfl rfl rfl rfl) ?_; refine .tk 21 rfl (RV.loadOld rfl rfl rfl hrd rfl) ?_; refine .tk 22 rfl (RV.move rfl) ?_; refine .tk 23 rfl (RV.nilCheck rfl) ?_; refine .tk 24 rfl (RV.fieldAddr rfl rfl rfl rfl rfl rfl) ?_; refine .tk 25 rfl (RV.loadPool rfl rfl rfl (by repeat constructor) ht rfl) ?_; refine .tk 26 rfl (RV.move rfl) ?_; refine .tk 27 rfl (RV.add1 rfl rfl (by omega)) ?_; refine .ld 28 ?_
      (refine EL.callPw rfl rfl rfl ent69 rfl (fun w hs => left_c lo hi x hf (tb + 1) (by omega) gr off (some ⟨g', o', none⟩) kcap w (NodeRd.sat hn hs) (Rd.sat hrd hs)) ?_)
      refine .nx ?_; refine .ld 29 ?_; (refine .b1 ?_; intro b219); refine .nx ?_; refine .ld 30 ?_; (refine EL.callMw rfl rfl rfl ent121 rfl (hsp b219) (by repeat constructor) ?_; intro y); refine .nx ?_; refine .tk 31 rfl (RV.assign rfl) ?_; refine .dn ?_
      exact .cy y
    obtain ⟨es', st', xad, xcap, m, x1, x2, x3, x4, x5, x6⟩ := y
    rw [← hL] at x6
    dsimp only
    refine ES.know (P := EndsAt es' pool xad L ∧ L.length ≤ xcap) (fun w hs => by
      have := ent_ends hs (Mem.mem (by repeat constructor)) x4 x5 (hL ▸ x6) pool
      rw [← hL] at this
      exact this) ?_
    rintro ⟨hE, hcap⟩
    by_cases hnil : L = []
    · subst hnil
      have hcut : cutEB ([] : List Nat) i (decide (leastM lo x ≤ k)) = [] := by unfold cutEB; split <;> rfl
      rw [hcut] at he
      cases he
      refine .g0 ?_; repeat constructor
      refine ES.draw (X := Unit) (fun _ => [(4, .slice xad 0 xcap), (244, .bool false)]) (fun _ => SB10 gs s st' sp z.length cap gm :: HA.memo gm 3 es' :: PRow sp cap z :: HA.pack pool :: R) (HA.pack pool :: []) mixed (.i (by repeat constructor)) ?_ (fun _ => ?_)
      · refine .tk 0 rfl (RV.move rfl) ?_; refine .tk 1 rfl (RV.nilCheck rfl) ?_; refine .tk 2 rfl (RV.fieldAddr rfl rfl rfl rfl rfl rfl) ?_; refine .tk 3 rfl (RV.loadPool rfl rfl rfl (by repeat constructor) ht rfl) ?_; refine .tk 4 rfl (RV.move rfl) ?_; refine .tk 5 rfl (RV.geq rfl rfl) ?_; refine .tk 6 rfl (RV.move rfl) ?_
        first | refine ED.part (d := 227) rfl (fun hp227 => ?_) (fun hp227 => ?_) | refine ED.partN (d := 227) rfl (fun hp227 => ?_) (fun hp227 => ?_) | refine ED.partB (d := 227) rfl (fun hp227 => ?_) (fun hp227 => ?_)
        · refine .tk 7 rfl (RV.move rfl) ?_; refine .tk 8 rfl (RV.lenL rfl rfl rfl) ?_; refine .tk 9 rfl (RV.gtr rfl rfl) ?_; refine .tk 10 rfl (RV.pickT rfl rfl) ?_; refine .tk 11 rfl (RV.move rfl) ?_
          refine ED.rew (d := 232) (v' := .bool false) rfl (by first | rfl | (decide) | (simp)) ?_
          refine .pa 12 rfl ?_; refine .pa 13 rfl ?_; refine .pa 14 rfl ?_; refine .pa 15 rfl ?_; refine .pa 16 rfl ?_; refine .pa 17 rfl ?_; refine .pa 18 rfl ?_; refine .pa 19 rfl ?_; refine .pa 20 rfl ?_; refine .pa 21 rfl ?_; refine .pa 22 rfl ?_; refine .tk 23 rfl (RV.pickF rfl rfl) ?_; refine .dn ?_
          exact .cy ()
        · refine .pa 7 rfl ?_; refine .pa 8 rfl ?_; refine .pa 9 rfl ?_; refine .tk 10 rfl (RV.pickF rfl rfl) ?_; refine .tk 11 rfl (RV.move rfl) ?_; refine .pa 12 rfl ?_; refine .pa 13 rfl ?_; refine .pa 14 rfl ?_; refine .pa 15 rfl ?_; refine .pa 16 rfl ?_; refine .pa 17 rfl ?_; refine .pa 18 rfl ?_; refine .pa 19 rfl ?_; refine .pa 20 rfl ?_; refine .pa 21 rfl ?_; refine .pa 22 rfl ?_; refine .tk 23 rfl (RV.pickF rfl rfl) ?_; refine .dn ?_
          exact .cy ()
      refine ES.condF rfl ?_; refine .go ?_; (repeat constructor); refine .mv ?_; refine .as_ ?_; refine .as_ ?_; refine .go ?_; repeat constructor
      exact PX.ret rfl Tryz.results105 (.cons (.tmp rfl) (.cons (.tmp rfl) .nil)) (fun w hs => ⟨⟨es', st', pool, xad, xcap, x1, fun _ h => h, x2, x3, hE, hcap⟩, rfl, hs.ent (.i (by repeat constructor))⟩)
    obtain ⟨lg, lo2, rfl, hE2⟩ := hE hnil
    have hpos : 0 < L.length := List.length_pos_iff.2 hnil
    obtain ⟨e, hlast⟩ : ∃ e, L[L.length - 1]? = some e := ⟨_, List.getElem?_eq_getElem (by omega)⟩
    have hgl : L.getLast? = some e := by rw [List.getLast?_eq_getElem?]; exact hlast
    unfold cutEB at he
    rw [hgl] at he
    refine .g0 ?_; repeat constructor
    refine ES.draw (X := Unit) (fun _ => [(4, .slice (some ⟨lg, lo2, none⟩) L.length xcap), (244, .bool (decide (leastM lo x ≤ k ∧ e = i)))]) (fun _ => SB10 gs s st' sp z.length cap gm :: HA.memo gm 3 es' :: PRow sp cap z :: HA.pack pool :: R) (HA.memo gm 3 es' :: HA.pack pool :: []) mixed (.i (by repeat constructor)) ?_ (fun _ => ?_)
    · refine .tk 0 rfl (RV.move rfl) ?_; refine .tk 1 rfl (RV.nilCheck rfl) ?_; refine .tk 2 rfl (RV.fieldAddr rfl rfl rfl rfl rfl rfl) ?_; refine .tk 3 rfl (RV.loadPool rfl rfl rfl (by repeat constructor) ht rfl) ?_; refine .tk 4 rfl (RV.move rfl) ?_; refine .tk 5 rfl (RV.geq rfl rfl) ?_; refine .tk 6 rfl (RV.move rfl) ?_
      first | refine ED.part (d := 227) rfl (fun hp227 => ?_) (fun hp227 => ?_) | refine ED.partN (d := 227) rfl (fun hp227 => ?_) (fun hp227 => ?_) | refine ED.partB (d := 227) rfl (fun hp227 => ?_) (fun hp227 => ?_)
      · refine .tk 7 rfl (RV.move rfl) ?_; refine .tk 8 rfl (RV.lenL rfl rfl rfl) ?_; refine .tk 9 rfl (RV.gtr rfl rfl) ?_; refine .tk 10 rfl (RV.pickT rfl rfl) ?_; refine .tk 11 rfl (RV.move rfl) ?_
        refine ED.rew (d := 232) (v' := .bool true) rfl ((by simp; omega)) ?_
        refine .tk 12 rfl (RV.move rfl) ?_; refine .tk 13 rfl (RV.move rfl) ?_; refine .tk 14 rfl (RV.lenL rfl rfl rfl) ?_; refine .tk 15 rfl (RV.sub1 rfl rfl (by omega) (by omega)) ?_; refine .tk 16 rfl (RV.indexAddrL (i := L.length - 1) rfl rfl rfl rfl rfl (by omega)) ?_; refine .tk 17 rfl (RV.loadEnds rfl rfl rfl (by repeat constructor) (by repeat constructor) hE2 hlast) ?_; refine .tk 18 rfl (RV.move rfl) ?_; refine .tk 19 rfl (RV.nilCheck rfl) ?_; refine .tk 20 rfl (RV.fieldAddr rfl rfl rfl rfl rfl rfl) ?_; refine .tk 21 rfl (RV.loadPool rfl rfl rfl (by repeat constructor) ht rfl) ?_; refine .tk 22 rfl (RV.eqlI rfl rfl) ?_; refine .tk 23 rfl (RV.pickT rfl rfl) ?_; refine .dn ?_
        exact .cx () ⟨rfl, getA rfl (congrArg Value.bool (by rw [Bool.eq_iff_iff]; simp only [decide_eq_true_eq, Bool.false_eq_true, false_iff]; omega)), trivial⟩
      · refine .pa 7 rfl ?_; refine .pa 8 rfl ?_; refine .pa 9 rfl ?_; refine .tk 10 rfl (RV.pickF rfl rfl) ?_; refine .tk 11 rfl (RV.move rfl) ?_; refine .pa 12 rfl ?_; refine .pa 13 rfl ?_; refine .pa 14 rfl ?_; refine .pa 15 rfl ?_; refine .pa 16 rfl ?_; refine .pa 17 rfl ?_; refine .pa 18 rfl ?_; refine .pa 19 rfl ?_; refine .pa 20 rfl ?_; refine .pa 21 rfl ?_; refine .pa 22 rfl ?_; refine .tk 23 rfl (RV.pickF rfl rfl) ?_; refine .dn ?_
        exact .cx () ⟨rfl, getA rfl (congrArg Value.bool (by rw [Bool.eq_iff_iff]; simp only [decide_eq_true_eq, Bool.false_eq_true, false_iff]; omega)), trivial⟩
    refine ES.condD rfl (fun hc => ?_) (fun hc => ?_)
    · rw [if_pos ⟨decide_eq_true hc.1, congrArg some hc.2⟩] at he
      cases he
      have hdl : L.dropLast.length = L.length - 1 := List.length_dropLast
      refine .go ?_; (repeat constructor); refine .mv ?_; refine .mv ?_; refine .lL ?_; refine EL.sub1 rfl rfl rfl rfl (by omega) (by omega) ?_
      refine EL.ofRV (RV.sliceHi (hi := L.length - 1) rfl rfl rfl rfl rfl (by omega)) rfl rfl rfl (by intro c h; cases h) ?_
      refine .as_ ?_; refine .go ?_; (repeat constructor); refine .mv ?_; refine .as_ ?_; refine .as_ ?_; refine .go ?_; repeat constructor
      exact PX.ret rfl Tryz.results105 (.cons (.tmp rfl) (.cons (.tmp rfl) .nil)) (fun w hs => ⟨⟨es', st', pool, some ⟨lg, lo2, none⟩, xcap, x1, fun _ h => h, x2, x3, hE.pre (fun q e h => drop_last_get h), by omega⟩, congrArg (fun n => Ending.returned (.tuple #[.slice (some ⟨lg, lo2, none⟩) n xcap, .bool true])) hdl.symm, hs.ent (.i (by repeat constructor))⟩)
    · rw [if_neg (fun hh => hc ⟨of_decide_eq_true hh.1, Option.some.inj hh.2⟩)] at he
      cases he
      refine .go ?_; (repeat constructor); refine .go ?_; (repeat constructor); refine .mv ?_; refine .as_ ?_; refine .as_ ?_; refine .go ?_; repeat constructor
      exact PX.ret rfl Tryz.results105 (.cons (.tmp rfl) (.cons (.tmp rfl) .nil)) (fun w hs => ⟨⟨es', st', pool, some ⟨lg, lo2, none⟩, xcap, x1, fun _ h => h, x2, x3, hE, hcap⟩, rfl, hs.ent (.i (by repeat constructor))⟩)
  have hz2 : l = [] ∧ ok = true := by
    cases r <;> first | (simp [RE.kind] at h6 h4 h0 h5; done) | (simp only [Option.some.injEq, Prod.mk.injEq] at he; exact ⟨he.1.symm, he.2.symm⟩)
  obtain ⟨rfl, rfl⟩ := hz2
  refine .go ?_; (repeat constructor); refine .as_ ?_; refine .as_ ?_; refine .go ?_; repeat constructor
  exact PX.ret rfl Tryz.results105 (.cons (.tmp rfl) (.cons (.tmp rfl) .nil)) (fun w hs => ⟨EnX.none hok, rfl, hs.ent (.i (by repeat constructor))⟩)
end Go.Proofs.YthcbjbkheodejaaGreat
namespace Go.Proofs.YthcbjbkheodejaaGreat
open Go Go.RowKit Sl
set_option maxRecDepth 100000
set_option maxHeartbeats 8000000
attribute [local irreducible] ES EL PX wps
structure FoX (w0 : World) (B : Nat) (pool : List HA) (now : List Tk) where
  pool' : List HA
  p : Option Addr
  psub : ∀ A ∈ pool, A ∈ pool'
  chain : ChainAt w0 B pool' p now
theorem follow_c (gs gm : Nat) (s : List UInt8) (st : Nat) (sp : Option Addr) (cap : Nat) (z z' : List Spn) (pool : List HA) (r : RE) (k i j e : Nat) (hk : r.kind ≠ 4 → k ≤ 1073741824) (ts now : List Tk) (w0 : World) (B gt gr off : Nat) (nx : Option Addr) (ht : TkB gt gr off k i j nx ∈ pool) (hn : NodeRd w0 B gr off r) (hf : r.fine) (hch : ChainAt w0 B pool nx ts)
    (he : followB (⟨r, k, i, j⟩ :: ts) e z = some (now, z')) :
    MutAt Tryz.prog 107 #[Pv gs 0, Pv gt 0, Iv (e : Nat)] [SB10 gs s st sp z.length cap gm, PRow sp cap z, HA.pack pool] (fun x : FoX w0 B pool now => .pointer x.p)
      (fun x => [SB10 gs s st sp z'.length cap gm, PRow sp cap z', HA.pack x.pool']) w0 B := by
  intro R w h
  replace h : Sat w0 B (SB10 gs s st sp z.length cap gm :: PRow sp cap z :: HA.pack pool :: R) w := h
  have hn' := hn
  obtain ⟨ad, kcap, cs0, q1, q2, q3, q4⟩ := hn'
  have hrd := q1.rd
  have hkids : KidsRd w0 B r.kids ad := fun a b hab => by
    have hlt := (List.getElem?_eq_some_iff.1 hab).1
    obtain ⟨g', o', rfl, _⟩ := q3 (fun e => by have := q2.len; rw [e] at this; simp at this; omega)
    exact ⟨g', o', rfl, Node.of_row q2 q3 hab⟩
  have hkl := fine_len hf
  refine calls_of_ES TB Tryz.func107 rfl _ Tryz.ntmps107 rfl h ?_; refine .go ?_; (repeat constructor); refine .as_ ?_; refine .go ?_; (repeat constructor); refine .mv ?_; refine .nc ?_; refine .fa ?_; refine EL.loadPool rfl rfl rfl rfl rfl (by repeat constructor) ht rfl ?_; refine .nc ?_; refine .fa ?_; refine EL.loadOld rfl rfl rfl rfl rfl hrd rfl ?_; refine .go ?_; (repeat constructor); refine .ei ?_; refine .as_ ?_; refine .go ?_; repeat constructor
  refine ES.condD rfl (fun h4 => ?_) (fun h4 => ?_)
  · obtain ⟨gn, x, rfl⟩ := kind_4 (show r.kind = 4 by omega)
    rw [followB] at he
    dsimp only at he
    split at he
    rotate_left
    · cases he
    rename_i hlt
    cases he
    obtain ⟨g', o', rfl, hxn⟩ := hkids 0 x rfl
    have hsl := spsC_len z
    refine ES.know (P := ∃ g, sp = some ⟨g, 0, none⟩) (fun w hs => (row_form (hs.all (PRow sp cap z) (by simp))).2.2.2.2 (by omega)) ?_
    rintro ⟨spg, rfl⟩
    refine .g0 ?_; repeat constructor
    refine ES.draw (X := Unit) (fun _ => [(1, Pv gt 0)]) (fun _ => SB10 gs s st (some ⟨spg, 0, none⟩) z.length cap gm :: HA.row (.slice (some ⟨spg, 0, none⟩) z.length cap) 29 2 z.length (spsC (z.set gn ((i : Int), (j : Int)))) :: HA.pack pool :: R)
      (SB10 gs s st (some ⟨spg, 0, none⟩) z.length cap gm :: HA.pack pool :: []) mixed (.i (by repeat constructor)) ?_ (fun _ => ?_)
    · refine .tk 0 rfl (RV.move rfl) ?_; refine .tk 1 rfl (RV.nilCheck rfl) ?_; refine .tk 2 rfl (RV.fieldAddr rfl rfl rfl rfl rfl rfl) ?_; refine .tk 3 rfl (RV.loadB rfl rfl rfl (by repeat constructor) rfl) ?_; refine .tk 4 rfl (RV.move rfl) ?_; refine .tk 5 rfl (RV.nilCheck rfl) ?_; refine .tk 6 rfl (RV.fieldAddr rfl rfl rfl rfl rfl rfl) ?_; refine .tk 7 rfl (RV.loadPool rfl rfl rfl (by repeat constructor) ht rfl) ?_; refine .tk 8 rfl (RV.nilCheck rfl) ?_; refine .tk 9 rfl (RV.fieldAddr rfl rfl rfl rfl rfl rfl) ?_; refine .tk 10 rfl (RV.loadOld rfl rfl rfl hrd rfl) ?_; refine .tk 11 rfl (RV.move rfl) ?_; refine .tk 12 rfl (RV.nilCheck rfl) ?_; refine .tk 13 rfl (RV.fieldAddr rfl rfl rfl rfl rfl rfl) ?_; refine .tk 14 rfl (RV.loadPool rfl rfl rfl (by repeat constructor) ht rfl) ?_; refine .tk 15 rfl (RV.move rfl) ?_; refine .tk 16 rfl (RV.nilCheck rfl) ?_; refine .tk 17 rfl (RV.fieldAddr rfl rfl rfl rfl rfl rfl) ?_; refine .tk 18 rfl (RV.loadPool rfl rfl rfl (by repeat constructor) ht rfl) ?_; refine .tk 19 rfl (RV.buildS #[Iv (i : Nat), Iv (j : Nat)] rfl rfl rfl rfl (by kernel_rfl)) ?_; refine .tk 20 rfl (RV.indexAddrL (i := gn) rfl rfl rfl rfl rfl hlt) ?_; refine ED.last 21 rfl (by decide +kernel) (by decide +kernel) (by decide +kernel) ?_
      (refine EL.storeRA (vs := spC ((i : Int), (j : Int))) rfl rfl rfl rfl rfl (by repeat constructor) (by rw [hsl]; show 0 + gn * 2 + 2 ≤ _; omega) (all1 rfl) ?_; refine EL.rowEq (v := .slice (some ⟨spg, 0, none⟩) z.length cap) (by repeat constructor) (spsC_set z gn hlt ((i : Int), (j : Int))) ?_)
      refine EL.endQ ?_
      exact .cy ()
    refine ES.imp (H' := SB10 gs s st (some ⟨spg, 0, none⟩) (z.set gn ((i : Int), (j : Int))).length cap gm :: PRow (some ⟨spg, 0, none⟩) cap (z.set gn ((i : Int), (j : Int))) :: HA.pack pool :: R) (fun w hs => by
      unfold PRow SB10
      rw [List.length_set]
      exact hs.ent (.i (by repeat constructor))) ?_
    refine .g0 ?_; repeat constructor
    refine ES.draw (X := Nat) (fun g => [(6, Pv g 0)]) (fun g => TkB g g' (o' + 0 * 9) 0 i j nx :: SB10 gs s st (some ⟨spg, 0, none⟩) (z.set gn ((i : Int), (j : Int))).length cap gm :: PRow (some ⟨spg, 0, none⟩) cap (z.set gn ((i : Int), (j : Int))) :: HA.pack pool :: R)
      (HA.pack pool :: []) mixed (.i (by repeat constructor)) ?_ (fun g => ?_)
    · refine .tk 0 rfl (RV.move rfl) ?_; refine .tk 1 rfl (RV.nilCheck rfl) ?_; refine .tk 2 rfl (RV.fieldAddr rfl rfl rfl rfl rfl rfl) ?_; refine .tk 3 rfl (RV.loadPool rfl rfl rfl (by repeat constructor) ht rfl) ?_; refine .tk 4 rfl (RV.nilCheck rfl) ?_; refine .tk 5 rfl (RV.fieldAddr rfl rfl rfl rfl rfl rfl) ?_; refine .tk 6 rfl (RV.loadOld rfl rfl rfl hrd rfl) ?_; refine .tk 7 rfl (RV.indexAddrL (i := 0) rfl rfl rfl rfl rfl (Nat.zero_lt_succ _)) ?_; refine .tk 8 rfl (RV.move rfl) ?_; refine .tk 9 rfl (RV.nilCheck rfl) ?_; refine .tk 10 rfl (RV.fieldAddr rfl rfl rfl rfl rfl rfl) ?_; refine .tk 11 rfl (RV.loadPool rfl rfl rfl (by repeat constructor) ht rfl) ?_; refine .tk 12 rfl (RV.move rfl) ?_; refine .tk 13 rfl (RV.nilCheck rfl) ?_; refine .tk 14 rfl (RV.fieldAddr rfl rfl rfl rfl rfl rfl) ?_; refine .tk 15 rfl (RV.loadPool rfl rfl rfl (by repeat constructor) ht rfl) ?_; refine .tk 16 rfl (RV.move rfl) ?_; refine .tk 17 rfl (RV.nilCheck rfl) ?_; refine .tk 18 rfl (RV.fieldAddr rfl rfl rfl rfl rfl rfl) ?_; refine .tk 19 rfl (RV.loadPool rfl rfl rfl (by repeat constructor) ht rfl) ?_; refine .tk 20 rfl (RV.buildS #[Pv g' (o' + 0 * 9), Iv 0, Iv (i : Nat), Iv (j : Nat), .pointer nx] rfl rfl rfl rfl (by kernel_rfl)) ?_; refine .ld 21 ?_; (refine .bx ?_; intro g60); refine .nx ?_; refine .tk 22 rfl (RV.assign rfl) ?_; refine .dn ?_
      exact .cy g60
    refine ES.poolIn (A := TkB g g' (o' + 0 * 9) 0 i j nx) (by repeat constructor) ?_; refine .go ?_; repeat constructor
    exact PX.ret rfl Tryz.results107 (.cons (.tmp rfl) .nil) (fun w hs => ⟨⟨TkB g g' (o' + 0 * 9) 0 i j nx :: pool, some ⟨g, 0, none⟩, fun _ h => List.mem_cons_of_mem _ h, ⟨g, g', o' + 0 * 9, nx, rfl, List.mem_cons_self, hxn, hf.2, hch.mono (fun _ h => List.mem_cons_of_mem _ h)⟩⟩, rfl, hs.ent (.i (by repeat constructor))⟩)
  refine .go ?_; (repeat constructor); refine .ei ?_; refine .as_ ?_; refine .go ?_; repeat constructor
  refine ES.condD rfl (fun h0 => ?_) (fun h0 => ?_)
  · obtain ⟨ks, rfl⟩ := kind_0 (show r.kind = 0 by omega)
    rw [followB] at he
    dsimp only at he
    cases hx : ks[k]? with
    | none => rw [hx] at he; cases he
    | some x =>
    rw [hx] at he
    cases he
    have hk := hk (by simp [RE.kind])
    obtain ⟨kg, ko, rfl, hxn⟩ := hkids k x hx
    have hlt : k < ks.length := (List.getElem?_eq_some_iff.1 hx).1
    have hkk : (RE.cat ks).kids.length = ks.length := rfl
    have hxf : x.fine := (fineL_iff _).1 hf.2 x (List.mem_of_getElem? hx)
    refine .g0 ?_; repeat constructor
    refine ES.draw (X := Nat) (fun g => [(1, Pv gt 0), (2, Iv (e : Nat)), (7, Pv g 0)]) (fun g => TkB g gr off (k + 1) e j nx :: SB10 gs s st sp z.length cap gm :: PRow sp cap z :: HA.pack pool :: R) (HA.pack pool :: []) mixed (.i (by repeat constructor)) ?_ (fun g => ?_)
    · refine .tk 0 rfl (RV.move rfl) ?_; refine .tk 1 rfl (RV.nilCheck rfl) ?_; refine .tk 2 rfl (RV.fieldAddr rfl rfl rfl rfl rfl rfl) ?_; refine .tk 3 rfl (RV.loadPool rfl rfl rfl (by repeat constructor) ht rfl) ?_; refine .tk 4 rfl (RV.move rfl) ?_; refine .tk 5 rfl (RV.nilCheck rfl) ?_; refine .tk 6 rfl (RV.fieldAddr rfl rfl rfl rfl rfl rfl) ?_; refine .tk 7 rfl (RV.loadPool rfl rfl rfl (by repeat constructor) ht rfl) ?_; refine .tk 8 rfl (RV.add1 rfl rfl (by omega)) ?_; refine .tk 9 rfl (RV.move rfl) ?_; refine .tk 10 rfl (RV.move rfl) ?_; refine .tk 11 rfl (RV.nilCheck rfl) ?_; refine .tk 12 rfl (RV.fieldAddr rfl rfl rfl rfl rfl rfl) ?_; refine .tk 13 rfl (RV.loadPool rfl rfl rfl (by repeat constructor) ht rfl) ?_; refine .tk 14 rfl (RV.move rfl) ?_; refine .tk 15 rfl (RV.nilCheck rfl) ?_; refine .tk 16 rfl (RV.fieldAddr rfl rfl rfl rfl rfl rfl) ?_; refine .tk 17 rfl (RV.loadPool rfl rfl rfl (by repeat constructor) ht rfl) ?_; refine .tk 18 rfl (RV.buildS #[Pv gr off, Iv ((k + 1 : Nat) : Int), Iv (e : Nat), Iv (j : Nat), .pointer nx] rfl rfl rfl rfl (by kernel_rfl)) ?_; refine .ld 19 ?_; (refine .bx ?_; intro g82); refine .nx ?_; refine .tk 20 rfl (RV.assign rfl) ?_; refine .dn ?_
      exact .cy g82
    refine ES.poolIn (A := TkB g gr off (k + 1) e j nx) (by repeat constructor) ?_
    have ht2 : TkB gt gr off k i j nx ∈ TkB g gr off (k + 1) e j nx :: pool := List.mem_cons_of_mem _ ht
    refine .g0 ?_; repeat constructor
    refine ES.draw (X := Nat) (fun g2 => [(6, Pv g2 0)]) (fun g2 => TkB g2 kg (ko + k * 9) 0 i e (some ⟨g, 0, none⟩) :: SB10 gs s st sp z.length cap gm :: PRow sp cap z :: HA.pack (TkB g gr off (k + 1) e j nx :: pool) :: R) (HA.pack (TkB g gr off (k + 1) e j nx :: pool) :: []) mixed (.i (by repeat constructor)) ?_ (fun g2 => ?_)
    · refine .tk 0 rfl (RV.move rfl) ?_; refine .tk 1 rfl (RV.nilCheck rfl) ?_; refine .tk 2 rfl (RV.fieldAddr rfl rfl rfl rfl rfl rfl) ?_; refine .tk 3 rfl (RV.loadPool rfl rfl rfl (by repeat constructor) ht2 rfl) ?_; refine .tk 4 rfl (RV.nilCheck rfl) ?_; refine .tk 5 rfl (RV.fieldAddr rfl rfl rfl rfl rfl rfl) ?_; refine .tk 6 rfl (RV.loadOld rfl rfl rfl hrd rfl) ?_; refine .tk 7 rfl (RV.move rfl) ?_; refine .tk 8 rfl (RV.nilCheck rfl) ?_; refine .tk 9 rfl (RV.fieldAddr rfl rfl rfl rfl rfl rfl) ?_; refine .tk 10 rfl (RV.loadPool rfl rfl rfl (by repeat constructor) ht2 rfl) ?_; refine .tk 11 rfl (RV.indexAddrL (i := k) rfl rfl rfl rfl rfl (by omega)) ?_; refine .tk 12 rfl (RV.move rfl) ?_; refine .tk 13 rfl (RV.nilCheck rfl) ?_; refine .tk 14 rfl (RV.fieldAddr rfl rfl rfl rfl rfl rfl) ?_; refine .tk 15 rfl (RV.loadPool rfl rfl rfl (by repeat constructor) ht2 rfl) ?_; refine .tk 16 rfl (RV.move rfl) ?_; refine .tk 17 rfl (RV.move rfl) ?_; refine .tk 18 rfl (RV.buildS #[Pv kg (ko + k * 9), Iv 0, Iv (i : Nat), Iv (e : Nat), .pointer (some ⟨g, 0, none⟩)] rfl rfl rfl rfl (by kernel_rfl)) ?_; refine .ld 19 ?_; (refine .bx ?_; intro g102); refine .nx ?_; refine .tk 20 rfl (RV.assign rfl) ?_; refine .dn ?_
      exact .cy g102
    refine ES.poolIn (A := TkB g2 kg (ko + k * 9) 0 i e (some ⟨g, 0, none⟩)) (by repeat constructor) ?_; refine .go ?_; repeat constructor
    exact PX.ret rfl Tryz.results107 (.cons (.tmp rfl) .nil) (fun w hs => ⟨⟨TkB g2 kg (ko + k * 9) 0 i e (some ⟨g, 0, none⟩) :: TkB g gr off (k + 1) e j nx :: pool, some ⟨g2, 0, none⟩, fun _ h => List.mem_cons_of_mem _ (List.mem_cons_of_mem _ h), ⟨g2, kg, ko + k * 9, some ⟨g, 0, none⟩, rfl, List.mem_cons_self, hxn, hxf,
      ⟨g, gr, off, nx, rfl, List.mem_cons_of_mem _ List.mem_cons_self, hn, hf, hch.mono (fun _ h => List.mem_cons_of_mem _ (List.mem_cons_of_mem _ h))⟩⟩⟩, rfl, hs.ent (.i (by repeat constructor))⟩)
  have h5 : r.kind = 5 := by
    rw [followB] at he
    cases r <;> first | rfl | (simp [RE.kind] at h4 h0; done) | (cases he; done)
  obtain ⟨lo, hi, x, rfl⟩ := kind_5 h5
  cases he
  have hk := hk (by simp [RE.kind])
  obtain ⟨kg, ko, rfl, hxn⟩ := hkids 0 x rfl
  have hxf : x.fine := hf.2.2.2.2
  refine .g0 ?_; repeat constructor
  refine ES.draw (X := Nat) (fun g => [(1, Pv gt 0), (2, Iv (e : Nat)), (8, Pv g 0)]) (fun g => TkB g gr off (k + 1) e j nx :: SB10 gs s st sp z.length cap gm :: PRow sp cap z :: HA.pack pool :: R) (HA.pack pool :: []) mixed (.i (by repeat constructor)) ?_ (fun g => ?_)
  · refine .tk 0 rfl (RV.move rfl) ?_; refine .tk 1 rfl (RV.nilCheck rfl) ?_; refine .tk 2 rfl (RV.fieldAddr rfl rfl rfl rfl rfl rfl) ?_; refine .tk 3 rfl (RV.loadPool rfl rfl rfl (by repeat constructor) ht rfl) ?_; refine .tk 4 rfl (RV.move rfl) ?_; refine .tk 5 rfl (RV.nilCheck rfl) ?_; refine .tk 6 rfl (RV.fieldAddr rfl rfl rfl rfl rfl rfl) ?_; refine .tk 7 rfl (RV.loadPool rfl rfl rfl (by repeat constructor) ht rfl) ?_; refine .tk 8 rfl (RV.add1 rfl rfl (by omega)) ?_; refine .tk 9 rfl (RV.move rfl) ?_; refine .tk 10 rfl (RV.move rfl) ?_; refine .tk 11 rfl (RV.nilCheck rfl) ?_; refine .tk 12 rfl (RV.fieldAddr rfl rfl rfl rfl rfl rfl) ?_; refine .tk 13 rfl (RV.loadPool rfl rfl rfl (by repeat constructor) ht rfl) ?_; refine .tk 14 rfl (RV.move rfl) ?_; refine .tk 15 rfl (RV.nilCheck rfl) ?_; refine .tk 16 rfl (RV.fieldAddr rfl rfl rfl rfl rfl rfl) ?_; refine .tk 17 rfl (RV.loadPool rfl rfl rfl (by repeat constructor) ht rfl) ?_; refine .tk 18 rfl (RV.buildS #[Pv gr off, Iv ((k + 1 : Nat) : Int), Iv (e : Nat), Iv (j : Nat), .pointer nx] rfl rfl rfl rfl (by kernel_rfl)) ?_; refine .ld 19 ?_; (refine .bx ?_; intro g122); refine .nx ?_; refine .tk 20 rfl (RV.assign rfl) ?_; refine .dn ?_
    exact .cy g122
  refine ES.poolIn (A := TkB g gr off (k + 1) e j nx) (by repeat constructor) ?_
  have ht2 : TkB gt gr off k i j nx ∈ TkB g gr off (k + 1) e j nx :: pool := List.mem_cons_of_mem _ ht
  refine .g0 ?_; repeat constructor
  refine ES.draw (X := Nat) (fun g2 => [(6, Pv g2 0)]) (fun g2 => TkB g2 kg (ko + 0 * 9) 0 i e (some ⟨g, 0, none⟩) :: SB10 gs s st sp z.length cap gm :: PRow sp cap z :: HA.pack (TkB g gr off (k + 1) e j nx :: pool) :: R) (HA.pack (TkB g gr off (k + 1) e j nx :: pool) :: []) mixed (.i (by repeat constructor)) ?_ (fun g2 => ?_)
  · refine .tk 0 rfl (RV.move rfl) ?_; refine .tk 1 rfl (RV.nilCheck rfl) ?_; refine .tk 2 rfl (RV.fieldAddr rfl rfl rfl rfl rfl rfl) ?_; refine .tk 3 rfl (RV.loadPool rfl rfl rfl (by repeat constructor) ht2 rfl) ?_; refine .tk 4 rfl (RV.nilCheck rfl) ?_; refine .tk 5 rfl (RV.fieldAddr rfl rfl rfl rfl rfl rfl) ?_; refine .tk 6 rfl (RV.loadOld rfl rfl rfl hrd rfl) ?_; refine .tk 7 rfl (RV.indexAddrL (i := 0) rfl rfl rfl rfl rfl (Nat.zero_lt_succ _)) ?_; refine .tk 8 rfl (RV.move rfl) ?_; refine .tk 9 rfl (RV.nilCheck rfl) ?_; refine .tk 10 rfl (RV.fieldAddr rfl rfl rfl rfl rfl rfl) ?_; refine .tk 11 rfl (RV.loadPool rfl rfl rfl (by repeat constructor) ht2 rfl) ?_; refine .tk 12 rfl (RV.move rfl) ?_; refine .tk 13 rfl (RV.move rfl) ?_; refine .tk 14 rfl (RV.buildS #[Pv kg (ko + 0 * 9), Iv 0, Iv (i : Nat), Iv (e : Nat), .pointer (some ⟨g, 0, none⟩)] rfl rfl rfl rfl (by kernel_rfl)) ?_; refine .ld 15 ?_; (refine .bx ?_; intro g138); refine .nx ?_; refine .tk 16 rfl (RV.assign rfl) ?_; refine .dn ?_
    exact .cy g138
  refine ES.poolIn (A := TkB g2 kg (ko + 0 * 9) 0 i e (some ⟨g, 0, none⟩)) (by repeat constructor) ?_; refine .go ?_; repeat constructor
  exact PX.ret rfl Tryz.results107 (.cons (.tmp rfl) .nil) (fun w hs => ⟨⟨TkB g2 kg (ko + 0 * 9) 0 i e (some ⟨g, 0, none⟩) :: TkB g gr off (k + 1) e j nx :: pool, some ⟨g2, 0, none⟩, fun _ h => List.mem_cons_of_mem _ (List.mem_cons_of_mem _ h), ⟨g2, kg, ko + 0 * 9, some ⟨g, 0, none⟩, rfl, List.mem_cons_self, hxn, hxf,
    ⟨g, gr, off, nx, rfl, List.mem_cons_of_mem _ List.mem_cons_self, hn, hf, hch.mono (fun _ h => List.mem_cons_of_mem _ (List.mem_cons_of_mem _ h))⟩⟩⟩, rfl, hs.ent (.i (by repeat constructor))⟩)
theorem follow_ch (gs gm : Nat) (s : List UInt8) (st : Nat) (sp : Option Addr) (cap : Nat) (z z' : List Spn) (pool : List HA) (e : Nat) (l now : List Tk) (w0 : World) (B : Nat) (p : Option Addr) (hch : ChainAt w0 B pool p l) (hk : ∀ t, l.head? = some t → t.r.kind ≠ 4 → t.k ≤ 1073741824)
    (he : followB l e z = some (now, z')) :
    MutAt Tryz.prog 107 #[Pv gs 0, .pointer p, Iv (e : Nat)] [SB10 gs s st sp z.length cap gm, PRow sp cap z, HA.pack pool] (fun x : FoX w0 B pool now => .pointer x.p)
      (fun x => [SB10 gs s st sp z'.length cap gm, PRow sp cap z', HA.pack x.pool']) w0 B := by
  cases l with
  | nil => cases he
  | cons t ts =>
    obtain ⟨g, gr, off, nx, rfl, h2, h3, h4, h5⟩ := hch
    exact follow_c gs gm s st sp cap z z' pool t.r t.k t.i t.j e (hk t rfl) ts now w0 B g gr off nx h2 h3 h4 h5 he
end Go.Proofs.YthcbjbkheodejaaGreat
