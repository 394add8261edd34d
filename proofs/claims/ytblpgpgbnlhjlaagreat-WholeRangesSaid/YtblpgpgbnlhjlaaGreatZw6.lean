/- Texts of this claim, bundled. -/
import Derived.Test.YtblpgpgbnlhjlaaGreatZw5
namespace Go.Proofs.YtblpgpgbnlhjlaaGreat
open Go Go.RowKit Sl
set_option maxRecDepth 100000
set_option maxHeartbeats 8000000
set_option linter.unusedVariables false
set_option linter.unusedSimpArgs false
attribute [local irreducible] ES EL PX wps
def Iter (R : Nat → Nat → Prop) : Nat → Nat → Nat → Prop
  | 0, i, j => i = j
  | c + 1, i, j => ∃ m, R i m ∧ Iter R c m j
theorem Iter.snoc {R : Nat → Nat → Prop} : ∀ {c i m j}, Iter R c i m → R m j → Iter R (c + 1) i j
  | 0, i, m, j, h, hr => by
    have h : i = m := h
    subst h
    exact ⟨j, hr, rfl⟩
  | c + 1, i, m, j, ⟨u, h1, h2⟩, hr => ⟨u, h1, Iter.snoc h2 hr⟩
theorem Iter.add {R : Nat → Nat → Prop} : ∀ {c d i j}, Iter R (c + d) i j ↔ ∃ m, Iter R c i m ∧ Iter R d m j
  | 0, d, i, j => by
    rw [Nat.zero_add]
    exact ⟨fun h => ⟨i, rfl, h⟩, fun ⟨m, h1, h2⟩ => by cases (show i = m from h1); exact h2⟩
  | c + 1, d, i, j => by
    rw [Nat.succ_add]
    constructor
    · rintro ⟨u, h1, h2⟩
      obtain ⟨m, h3, h4⟩ := Iter.add.1 h2
      exact ⟨m, ⟨u, h1, h3⟩, h4⟩
    · rintro ⟨m, ⟨u, h1, h3⟩, h4⟩
      exact ⟨u, h1, Iter.add.2 ⟨m, h3, h4⟩⟩
def RepN (lo : Nat) (hi : Int) (k : RE) (c : Nat) : Prop := leastM lo k ≤ c ∧ (if hi = (lo : Int) ∨ k.thin = true then c = leastM lo k else hi < 0 ∨ c ≤ leastM lo k + (hi.toNat - lo))
mutual
def Hit (s : List UInt8) : RE → Nat → Nat → Prop
  | .byte S, i, j => (i < s.length ∧ hasS S (s.getD i 0).toNat = true) ∧ j = i + 1
  | .bol, i, j => i = 0 ∧ j = i
  | .eol, i, j => i = s.length ∧ j = i
  | .back _, i, j => j = i ∨ (i < j ∧ j ≤ s.length)
  | .group _ k, i, j => Hit s k i j
  | .cat ks, i, j => HitL s ks i j
  | .rep lo hi k, i, j => ∃ c, RepN lo hi k c ∧ Iter (Hit s k) c i j
def HitL (s : List UInt8) : List RE → Nat → Nat → Prop
  | [], i, j => i = j
  | k :: ks, i, j => ∃ m, Hit s k i m ∧ HitL s ks m j
end
abbrev ERow (a : AM) (q : Nat) : List Ed := a.out.getD q []
abbrev FW (s : List UInt8) (a : AM) (x y : Nat × Nat) : Prop := Rch a.out s true x y
theorem getD_nil {l : List (List Ed)} {q : Nat} (h : l.length ≤ q) : l.getD q [] = [] := by
  rw [List.getD_eq_getElem?_getD, List.getElem?_eq_none h]; rfl
theorem row_lt {a : AM} {q : Nat} {e : Ed} (h : e ∈ ERow a q) : q < a.out.length := by
  apply Decidable.byContradiction
  intro hn
  rw [show ERow a q = [] from getD_nil (by omega)] at h
  cases h
theorem getD_addTo (l : List (List Ed)) (f q : Nat) (e : Ed) (hf : f < l.length) : (addTo l f e).getD q [] = if q = f then l.getD q [] ++ [e] else l.getD q [] := by
  unfold addTo
  by_cases h : q = f
  · subst h
    rw [if_pos rfl]
    simp [List.getD_eq_getElem?_getD, hf]
  · rw [if_neg h, List.getD_eq_getElem?_getD, List.getElem?_set, if_neg (fun e => h e.symm), ← List.getD_eq_getElem?_getD]
theorem getD_new (l : List (List Ed)) (q : Nat) : (l ++ [[]]).getD q [] = l.getD q [] := by
  rw [List.getD_eq_getElem?_getD, List.getD_eq_getElem?_getD]
  by_cases h : q < l.length
  · rw [List.getElem?_append_left h]
  · rw [List.getElem?_append_right (by omega), List.getElem?_eq_none (show l.length ≤ q by omega)]
    cases q - l.length with
    | zero => rfl
    | succ n => rfl
theorem row_link {a : AM} {f t k : Nat} {S : BS} (hf : f < a.out.length) (q : Nat) : ERow (a.link f t k S) q = if q = f then ERow a q ++ [⟨k, S, t⟩] else ERow a q := getD_addTo _ _ _ _ hf
theorem row_step {a : AM} {f k : Nat} {S : BS} (hf : f < a.out.length) (q : Nat) : ERow (a.step f k S) q = if q = f then ERow a q ++ [⟨k, S, a.out.length⟩] else ERow a q := by
  unfold AM.step
  rw [row_link (by rw [add_len]; omega), show ERow a.add q = ERow a q from getD_new _ _]
theorem Rch.mono {es es' : List (List Ed)} {s : List UInt8} {fwd : Bool} {x y : Nat × Nat} (h : ∀ q e, e ∈ es.getD q [] → e ∈ es'.getD q []) (hr : Rch es s fwd x y) : Rch es' s fwd x y := by
  induction hr with
  | here => exact .here
  | step _ he hp ih => exact .step ih (h _ _ he) hp
theorem Rch.trans {es : List (List Ed)} {s : List UInt8} {fwd : Bool} {x y z : Nat × Nat} (h1 : Rch es s fwd x y) (h2 : Rch es s fwd y z) : Rch es s fwd x z := by
  induction h2 with
  | here => exact h1
  | step _ he hp ih => exact .step ih he hp
theorem Rch.dead {es : List (List Ed)} {s : List UInt8} {fwd : Bool} {q i : Nat} {y : Nat × Nat} (hd : es.getD q [] = []) (h : Rch es s fwd (q, i) y) : y = (q, i) := by
  induction h with
  | here => rfl
  | step _ he _ ih =>
    injection ih with h1 h2
    subst h1
    rw [hd] at he
    cases he
theorem Rch.inv {es : List (List Ed)} {s : List UInt8} {fwd : Bool} {x : Nat × Nat} {t b : Nat} (h : Rch es s fwd x (t, b)) : x = (t, b) ∨ ∃ q a e, Rch es s fwd x (q, a) ∧ e ∈ es.getD q [] ∧ e.to = t ∧ placeM s fwd e a = some b := by
  cases h with
  | here => exact .inl rfl
  | step h he hp => exact .inr ⟨_, _, _, h, he, rfl, hp⟩
theorem eps_place (s : List UInt8) (fwd : Bool) (S : BS) (t a : Nat) : placeM s fwd ⟨0, S, t⟩ a = some a := rfl
def Wf (a : AM) : Prop := ∀ q, ∀ e ∈ ERow a q, e.to < a.out.length
theorem wf_link {a : AM} {f t k : Nat} {S : BS} (h : Wf a) (hf : f < a.out.length) (ht : t < a.out.length) : Wf (a.link f t k S) := fun q e he => by
  rw [(link_len _ _ _ _ _).1]
  rw [row_link hf] at he
  split at he
  · rcases List.mem_append.1 he with he | he
    · exact h q e he
    · rw [List.mem_singleton] at he; subst he; exact ht
  · exact h q e he
theorem wf_step {a : AM} {f k : Nat} {S : BS} (h : Wf a) (hf : f < a.out.length) : Wf (a.step f k S) := fun q e he => by
  rw [step_len]
  rw [row_step hf] at he
  split at he
  · rcases List.mem_append.1 he with he | he
    · have := h q e he; omega
    · rw [List.mem_singleton] at he; subst he; exact Nat.lt_succ_self _
  · have := h q e he; omega
structure Grow (a b : AM) (p : Nat) : Prop where
  len : a.out.length ≤ b.out.length
  sub : ∀ q, ∀ e ∈ ERow a q, e ∈ ERow b q
  new : ∀ q, ∀ e ∈ ERow b q, e ∈ ERow a q ∨ ((q = p ∨ a.out.length ≤ q) ∧ a.out.length ≤ e.to)
theorem Grow.refl (a : AM) (p : Nat) : Grow a a p := ⟨Nat.le_refl _, fun _ _ h => h, fun _ _ h => .inl h⟩
theorem Grow.comp {a b c : AM} {p q : Nat} (h1 : Grow a b p) (h2 : Grow b c q) (hq : q = p ∨ a.out.length ≤ q) : Grow a c p := by
  have := h1.len
  refine ⟨Nat.le_trans h1.len h2.len, fun r e h => h2.sub r e (h1.sub r e h), fun r e h => ?_⟩
  rcases h2.new r e h with h | ⟨hr, ht⟩
  · exact h1.new r e h
  · right
    refine ⟨?_, by omega⟩
    rcases hr with rfl | hr
    · exact hq
    · right; omega
theorem Grow.old {s : List UInt8} {a b : AM} {p x0 i y j : Nat} (h : Grow a b p) (hw : Wf a) (hx : x0 < a.out.length) (hy : y < a.out.length) : FW s b (x0, i) (y, j) ↔ FW s a (x0, i) (y, j) := by
  refine ⟨fun hr => ?_, fun hr => hr.mono h.sub⟩
  have key : ∀ z, FW s b (x0, i) z → z.1 < a.out.length → FW s a (x0, i) z := by
    intro z hz
    induction hz with
    | here => exact fun _ => .here
    | step h1 he hp ih =>
      intro hlt
      rcases h.new _ _ he with he | ⟨_, h3⟩
      · exact .step (ih (row_lt he)) he hp
      · have hlt : _ < a.out.length := hlt
        dsimp only at hlt
        omega
  exact key _ hr hy
theorem grow_step {a : AM} {p k : Nat} {S : BS} (hp : p < a.out.length) : Grow a (a.step p k S) p := by
  refine ⟨by rw [step_len]; omega, fun q e h => ?_, fun q e h => ?_⟩
  · rw [row_step hp]; split
    · exact List.mem_append.2 (.inl h)
    · exact h
  · rw [row_step hp] at h
    split at h
    · rename_i e1
      rcases List.mem_append.1 h with h | h
      · exact .inl h
      · rw [List.mem_singleton] at h; subst h; exact .inr ⟨.inl e1, Nat.le_refl _⟩
    · exact .inl h
theorem step_hit {s : List UInt8} {a : AM} {p k x0 i j : Nat} {S : BS} (hw : Wf a) (hp : p < a.out.length) (hx : x0 < a.out.length) : FW s (a.step p k S) (x0, i) (a.out.length, j) ↔ ∃ m, FW s a (x0, i) (p, m) ∧ placeM s true ⟨k, S, a.out.length⟩ m = some j := by
  have hg := grow_step (k := k) (S := S) hp
  constructor
  · intro h
    rcases h.inv with h | ⟨q, m, e, h1, he, ht, hpl⟩
    · injection h with h1 h2; omega
    · have he' : e ∈ ERow (a.step p k S) q := he
      rw [row_step hp] at he'
      split at he'
      · rename_i e1
        rcases List.mem_append.1 he' with he' | he'
        · have := hw q e he'; omega
        · rw [List.mem_singleton] at he'; subst he' e1
          exact ⟨m, (hg.old hw hx hp).1 h1, hpl⟩
      · have := hw q e he'; omega
  · rintro ⟨m, h1, h2⟩
    refine Rch.step (e := ⟨k, S, a.out.length⟩) (h1.mono hg.sub) ?_ h2
    show _ ∈ ERow (a.step p k S) p
    rw [row_step hp, if_pos rfl]
    simp
structure LayH (s : List UInt8) (f : AM → Nat → AM × Nat) (R : Nat → Nat → Prop) : Prop where
  wf : ∀ a p, Wf a → p < a.out.length → Wf (f a p).1
  grow : ∀ a p, Wf a → p < a.out.length → Grow a (f a p).1 p
  out : ∀ a p, Wf a → p < a.out.length → ((f a p).2 = p ∨ a.out.length ≤ (f a p).2) ∧ (f a p).2 < (f a p).1.out.length
  hit : ∀ a p x0 i j, Wf a → p < a.out.length → x0 < a.out.length → (FW s (f a p).1 (x0, i) ((f a p).2, j) ↔ ∃ m, FW s a (x0, i) (p, m) ∧ R m j)
theorem LayH.iff {s : List UInt8} {f : AM → Nat → AM × Nat} {R R' : Nat → Nat → Prop} (h : LayH s f R) (e : ∀ i j, R i j ↔ R' i j) : LayH s f R' :=
  ⟨h.wf, h.grow, h.out, fun a p x0 i j h1 h2 h3 => (h.hit a p x0 i j h1 h2 h3).trans ⟨fun ⟨m, a, b⟩ => ⟨m, a, (e _ _).1 b⟩, fun ⟨m, a, b⟩ => ⟨m, a, (e _ _).2 b⟩⟩⟩
theorem LayH.id (s : List UInt8) : LayH s (fun a p => (a, p)) (fun i j => i = j) :=
  ⟨fun _ _ h _ => h, fun a p _ _ => Grow.refl a p, fun _ _ _ h => ⟨.inl rfl, h⟩, fun a p x0 i j _ _ _ => ⟨fun h => ⟨j, h, rfl⟩, fun ⟨m, h, e⟩ => e ▸ h⟩⟩
theorem LayH.seq {s : List UInt8} {f g : AM → Nat → AM × Nat} {R R' : Nat → Nat → Prop} (h1 : LayH s f R) (h2 : LayH s g R') : LayH s (fun a p => g (f a p).1 (f a p).2) (fun i j => ∃ m, R i m ∧ R' m j) := by
  refine ⟨fun a p hw hp => h2.wf _ _ (h1.wf a p hw hp) (h1.out a p hw hp).2, fun a p hw hp => (h1.grow a p hw hp).comp (h2.grow _ _ (h1.wf a p hw hp) (h1.out a p hw hp).2) (h1.out a p hw hp).1, fun a p hw hp => ?_, fun a p x0 i j hw hp hx => ?_⟩
  · have e1 := h1.out a p hw hp
    have e2 := h2.out _ _ (h1.wf a p hw hp) e1.2
    have e3 := (h1.grow a p hw hp).len
    refine ⟨?_, e2.2⟩
    rcases e2.1 with e | e
    · rw [e]; exact e1.1
    · right; omega
  · have e1 := h1.out a p hw hp
    have e3 := (h1.grow a p hw hp).len
    rw [h2.hit _ _ x0 i j (h1.wf a p hw hp) e1.2 (by omega)]
    constructor
    · rintro ⟨m, hm, hr⟩
      obtain ⟨m0, h3, h4⟩ := (h1.hit a p x0 i m hw hp hx).1 hm
      exact ⟨m0, h3, m, h4, hr⟩
    · rintro ⟨m0, h3, m, h4, hr⟩
      exact ⟨m, (h1.hit a p x0 i m hw hp hx).2 ⟨m0, h3, h4⟩, hr⟩
theorem LayH.times {s : List UInt8} {f : AM → Nat → AM × Nat} {R : Nat → Nat → Prop} (h : LayH s f R) : ∀ n, LayH s (timesA f n) (Iter R n)
  | 0 => LayH.id s
  | n + 1 => (LayH.seq h (LayH.times h n))
theorem LayH.edge (s : List UInt8) (k : Nat) (S : BS) (R : Nat → Nat → Prop) (hR : ∀ t i j, placeM s true ⟨k, S, t⟩ i = some j ↔ R i j) : LayH s (fun a p => (a.step p k S, a.out.length)) R :=
  ⟨fun a p hw hp => wf_step hw hp, fun a p _ hp => grow_step hp, fun a p _ hp => ⟨.inr (Nat.le_refl _), by rw [step_len]; exact Nat.lt_succ_self _⟩, fun a p x0 i j hw hp hx => (step_hit hw hp hx).trans ⟨fun ⟨m, h1, h2⟩ => ⟨m, h1, (hR _ _ _).1 h2⟩, fun ⟨m, h1, h2⟩ => ⟨m, h1, (hR _ _ _).2 h2⟩⟩⟩
def starA (f : AM → Nat → AM × Nat) (a : AM) (p : Nat) : AM × Nat :=
  ((f (a.step p 0 zeroS) a.out.length).1.link (f (a.step p 0 zeroS) a.out.length).2 a.out.length 0 zeroS, a.out.length)
theorem LayH.star {s : List UInt8} {f : AM → Nat → AM × Nat} {R : Nat → Nat → Prop} (h : LayH s f R) : LayH s (starA f) (fun i j => ∃ c, Iter R c i j) := by
  have all : ∀ a p, Wf a → p < a.out.length → Wf (starA f a p).1 ∧ Grow a (starA f a p).1 p ∧ a.out.length < (starA f a p).1.out.length ∧ ∀ x0 i j, x0 < a.out.length → (FW s (starA f a p).1 (x0, i) (a.out.length, j) ↔ ∃ m, FW s a (x0, i) (p, m) ∧ ∃ c, Iter R c m j) := by
    intro a p hw hp
    have hw2 := wf_step (k := 0) (S := zeroS) hw hp
    have hl2 : (a.step p 0 zeroS).out.length = a.out.length + 1 := step_len _ _ _ _
    have hh : a.out.length < (a.step p 0 zeroS).out.length := by omega
    have hg2 := grow_step (k := 0) (S := zeroS) hp
    have hw3 := h.wf _ _ hw2 hh
    have hg3 := h.grow _ _ hw2 hh
    obtain ⟨ho, hlt⟩ := h.out _ _ hw2 hh
    have hhit := fun x0 i j => h.hit _ a.out.length x0 i j hw2 hh
    have hrow2 := fun q => row_step (k := 0) (S := zeroS) hp q
    unfold starA
    dsimp only
    generalize f (a.step p 0 zeroS) a.out.length = y at hw3 hg3 ho hlt hhit
    obtain ⟨a3, q3⟩ := y
    dsimp only at hw3 hg3 ho hlt hhit ⊢
    have hl3 := hg3.len
    have hrow4 := fun q => row_link (k := 0) (S := zeroS) (t := a.out.length) hlt q
    have hsub4 : ∀ q, ∀ e ∈ ERow a3 q, e ∈ ERow (a3.link q3 a.out.length 0 zeroS) q := fun q e he => by
      rw [hrow4]; split
      · exact List.mem_append.2 (.inl he)
      · exact he
    have hl4 : (a3.link q3 a.out.length 0 zeroS).out.length = a3.out.length := (link_len _ _ _ _ _).1
    have hdead : ERow (a.step p 0 zeroS) a.out.length = [] := by
      rw [hrow2, if_neg (by omega)]
      exact getD_nil (Nat.le_refl _)
    refine ⟨wf_link hw3 hlt (by omega), ⟨by rw [hl4]; omega, fun q e he => hsub4 q e (hg3.sub q e (hg2.sub q e he)), fun q e he => ?_⟩, by rw [hl4]; omega, fun x0 i j hx => ⟨fun hr => ?_, ?_⟩⟩
    · have h23 := hg2.comp hg3 (.inr (Nat.le_refl _))
      rw [hrow4] at he
      split at he
      · rename_i e1
        rcases List.mem_append.1 he with he | he
        · exact h23.new q e he
        · rw [List.mem_singleton] at he; subst he e1
          refine .inr ⟨.inr (by omega), Nat.le_refl _⟩
      · exact h23.new q e he
    · have key : ∀ z, FW s (a3.link q3 a.out.length 0 zeroS) (x0, i) z → (z.1 < a.out.length ∧ FW s a (x0, i) z) ∨ ∃ m c m', FW s a (x0, i) (p, m) ∧ Iter R c m m' ∧ FW s a3 (a.out.length, m') z := by
        intro z hz
        induction hz with
        | here => exact .inl ⟨hx, .here⟩
        | @step q u b e h1 he hpl ih =>
          have he' : e ∈ ERow (a3.link q3 a.out.length 0 zeroS) q := he
          rw [hrow4] at he'
          have hcase : e ∈ ERow a3 q ∨ (q = q3 ∧ e = ⟨0, zeroS, a.out.length⟩) := by
            split at he'
            · rename_i e1
              rcases List.mem_append.1 he' with he' | he'
              · exact .inl he'
              · exact .inr ⟨e1, List.mem_singleton.1 he'⟩
            · exact .inl he'
          rcases hcase with he3 | ⟨rfl, rfl⟩
          · rcases ih with ⟨hq, hold⟩ | ⟨m, c, m', k1, k2, k3⟩
            · have hq : q < a.out.length := hq
              rcases hg3.new q e he3 with he2 | ⟨hbad, _⟩
              · rw [hrow2] at he2
                split at he2
                · rename_i e1
                  rcases List.mem_append.1 he2 with he2 | he2
                  · exact .inl ⟨hw q e he2, .step hold he2 hpl⟩
                  · rw [List.mem_singleton] at he2; subst he2 e1
                    rw [eps_place] at hpl
                    cases hpl
                    exact .inr ⟨u, 0, u, hold, rfl, .here⟩
                · exact .inl ⟨hw q e he2, .step hold he2 hpl⟩
              · omega
            · exact .inr ⟨m, c, m', k1, k2, .step k3 he3 hpl⟩
          · rw [eps_place] at hpl
            cases hpl
            rcases ih with ⟨hq, hold⟩ | ⟨m, c, m', k1, k2, k3⟩
            · have hq : q < a.out.length := hq
              omega
            · obtain ⟨m2, k4, k5⟩ := (hhit _ _ _ hh).1 k3
              have := Rch.dead hdead k4
              injection this with _ e2
              subst e2
              exact .inr ⟨m, c + 1, u, k1, k2.snoc k5, .here⟩
      rcases key _ hr with ⟨hbad, _⟩ | ⟨m, c, m', k1, k2, k3⟩
      · exact absurd hbad (by dsimp only; omega)
      · have k4 := (hg3.old hw2 hh hh).1 k3
        have := Rch.dead hdead k4
        injection this with _ e2
        subst e2
        exact ⟨m, k1, c, k2⟩
    · rintro ⟨m, h1, c, hc⟩
      have hbase : FW s (a3.link q3 a.out.length 0 zeroS) (x0, i) (a.out.length, m) := by
        have h2 := (step_hit (k := 0) (S := zeroS) hw hp hx (j := m) (s := s) (i := i)).2 ⟨m, h1, rfl⟩
        exact (h2.mono hg3.sub).mono hsub4
      clear h1
      induction c generalizing m with
      | zero =>
        cases (show m = j from hc)
        exact hbase
      | succ c ih =>
        obtain ⟨m1, k1, k2⟩ := hc
        refine ih m1 k2 ?_
        have h3 : FW s a3 (a.out.length, m) (q3, m1) := (hhit _ _ _ hh).2 ⟨m, .here, k1⟩
        refine Rch.step (e := ⟨0, zeroS, a.out.length⟩) (hbase.trans (h3.mono hsub4)) ?_ (eps_place _ _ _ _ _)
        show _ ∈ ERow _ q3
        rw [hrow4, if_pos rfl]
        simp
  exact ⟨fun a p hw hp => (all a p hw hp).1, fun a p hw hp => (all a p hw hp).2.1, fun a p hw hp => ⟨.inr (Nat.le_refl _), (all a p hw hp).2.2.1⟩, fun a p x0 i j hw hp hx => (all a p hw hp).2.2.2 x0 i j hx⟩
end Go.Proofs.YtblpgpgbnlhjlaaGreat
namespace Go.Proofs.YtblpgpgbnlhjlaaGreat
open Go Go.RowKit Sl
set_option maxRecDepth 100000
set_option maxHeartbeats 8000000
set_option linter.unusedVariables false
set_option linter.unusedSimpArgs false
attribute [local irreducible] ES EL PX wps
theorem opt_all {s : List UInt8} {f : AM → Nat → AM × Nat} {R : Nat → Nat → Prop} (h : LayH s f R) (o : Nat) : ∀ (n : Nat) (a : AM) (p : Nat), Wf a → p < a.out.length → o < a.out.length → o ≠ p → ERow a o = [] →
    Wf (optA f o n a p) ∧ a.out.length ≤ (optA f o n a p).out.length ∧ (∀ q, ∀ e ∈ ERow a q, e ∈ ERow (optA f o n a p) q) ∧ (∀ q, ∀ e ∈ ERow (optA f o n a p) q, e ∈ ERow a q ∨ ((q = p ∨ a.out.length ≤ q) ∧ (e.to = o ∨ a.out.length ≤ e.to))) ∧
    ∀ x0 i j, x0 < a.out.length → (FW s (optA f o n a p) (x0, i) (o, j) ↔ FW s a (x0, i) (o, j) ∨ ∃ m c, FW s a (x0, i) (p, m) ∧ 1 ≤ c ∧ c ≤ n ∧ Iter R c m j)
  | 0, a, p, hw, hp, ho, hne, hd => ⟨hw, Nat.le_refl _, fun _ _ h => h, fun _ _ h => .inl h, fun x0 i j hx => ⟨.inl, fun h => by
    rcases h with h | ⟨m, c, _, h1, h2, _⟩
    · exact h
    · omega⟩⟩
  | n + 1, a, p, hw, hp, ho, hne, hd => by
    have hw1 := h.wf a p hw hp
    have hg := h.grow a p hw hp
    obtain ⟨hout, hlt⟩ := h.out a p hw hp
    have hhit := fun x0 i j => h.hit a p x0 i j hw hp
    rw [show optA f o (n + 1) a p = optA f o n ((f a p).1.link (f a p).2 o 0 zeroS) (f a p).2 from rfl]
    generalize f a p = y at hw1 hg hout hlt hhit
    obtain ⟨a1, p1⟩ := y
    dsimp only at hw1 hg hout hlt hhit ⊢
    have hl1 := hg.len
    have hne1 : o ≠ p1 := by
      rcases hout with e | e
      · rw [e]; exact hne
      · omega
    have hd1 : ERow a1 o = [] := by
      apply List.eq_nil_iff_forall_not_mem.2
      intro e he
      rcases hg.new o e he with h | ⟨h, _⟩
      · rw [hd] at h; cases h
      · omega
    have hrow2 := fun q => row_link (k := 0) (S := zeroS) (t := o) hlt q
    have hl2 : (a1.link p1 o 0 zeroS).out.length = a1.out.length := (link_len _ _ _ _ _).1
    have hw2 : Wf (a1.link p1 o 0 zeroS) := wf_link hw1 hlt (by omega)
    have hd2 : ERow (a1.link p1 o 0 zeroS) o = [] := by rw [hrow2, if_neg hne1]; exact hd1
    obtain ⟨k1, k2, k3, k4, k5⟩ := opt_all h o n _ p1 hw2 (by omega) (by omega) hne1 hd2
    have hsub2 : ∀ q, ∀ e ∈ ERow a1 q, e ∈ ERow (a1.link p1 o 0 zeroS) q := fun q e he => by
      rw [hrow2]; split
      · exact List.mem_append.2 (.inl he)
      · exact he
    have hrow3 : ∀ q, ∀ e ∈ ERow (a1.link p1 o 0 zeroS) q, e ∈ ERow a1 q ∨ (q = p1 ∧ e = ⟨0, zeroS, o⟩) := fun q e he => by
      rw [hrow2] at he
      split at he
      · rename_i e1
        rcases List.mem_append.1 he with he | he
        · exact .inl he
        · exact .inr ⟨e1, List.mem_singleton.1 he⟩
      · exact .inl he
    have hother : ∀ x z, FW s (a1.link p1 o 0 zeroS) x z → z.1 ≠ o → FW s a1 x z := by
      intro x z hz
      induction hz with
      | here => exact fun _ => .here
      | @step q u b e h1 he hpl ih =>
        intro hzo
        rcases hrow3 q e he with he1 | ⟨rfl, rfl⟩
        · exact .step (ih (fun e1 => by
            have e1 : q = o := e1
            rw [e1, hd1] at he1; cases he1)) he1 hpl
        · exact absurd rfl hzo
    have hexit : ∀ x0 i j, FW s (a1.link p1 o 0 zeroS) (x0, i) (o, j) ↔ FW s a1 (x0, i) (o, j) ∨ FW s a1 (x0, i) (p1, j) := by
      intro x0 i j
      constructor
      · intro hr
        rcases hr.inv with e | ⟨q, u, e, h1, he, ht, hpl⟩
        · rw [e]; exact .inl .here
        · rcases hrow3 q e he with he1 | ⟨rfl, rfl⟩
          · left
            have hq : q ≠ o := fun e1 => by rw [e1, hd1] at he1; cases he1
            have := Rch.step (hother _ _ h1 hq) he1 hpl
            rw [ht] at this; exact this
          · rw [eps_place] at hpl
            cases hpl
            exact .inr (hother _ _ h1 (fun e => hne1 e.symm))
      · rintro (h1 | h1)
        · exact h1.mono hsub2
        · refine Rch.step (e := ⟨0, zeroS, o⟩) (h1.mono hsub2) ?_ (eps_place _ _ _ _ _)
          show _ ∈ ERow _ p1
          rw [hrow2, if_pos rfl]; simp
    refine ⟨k1, by omega, fun q e he => k3 q e (hsub2 q e (hg.sub q e he)), fun q e he => ?_, fun x0 i j hx => ?_⟩
    · rcases k4 q e he with he2 | ⟨hq, ht⟩
      · rcases hrow3 q e he2 with he1 | ⟨rfl, rfl⟩
        · rcases hg.new q e he1 with h1 | ⟨h1, h2⟩
          · exact .inl h1
          · exact .inr ⟨h1, .inr h2⟩
        · exact .inr ⟨hout, .inl rfl⟩
      · rw [hl2] at hq ht
        right
        constructor
        · rcases hq with rfl | hq
          · exact hout
          · right; omega
        · rcases ht with ht | ht
          · exact .inl ht
          · right; omega
    · rw [k5 x0 i j (by omega), hexit]
      constructor
      · rintro ((h1 | h1) | ⟨m, c, h1, c1, c2, hc⟩)
        · exact .inl ((hg.old hw hx ho).1 h1)
        · obtain ⟨m, h2, h3⟩ := (hhit x0 i j hx).1 h1
          exact .inr ⟨m, 1, h2, by omega, by omega, j, h3, rfl⟩
        · have h2 := hother _ _ h1 (fun e => hne1 e.symm)
          obtain ⟨m0, h3, h4⟩ := (hhit x0 i m hx).1 h2
          exact .inr ⟨m0, c + 1, h3, by omega, by omega, m, h4, hc⟩
      · rintro (h1 | ⟨m, c, h1, c1, c2, hc⟩)
        · exact .inl (.inl ((hg.old hw hx ho).2 h1))
        · cases c with
          | zero => omega
          | succ c =>
            obtain ⟨m1, h2, h3⟩ := hc
            have h4 : FW s a1 (x0, i) (p1, m1) := (hhit x0 i m1 hx).2 ⟨m, h1, h2⟩
            cases c with
            | zero =>
              cases (show m1 = j from h3)
              exact .inl (.inr h4)
            | succ c => exact .inr ⟨m1, c + 1, h4.mono hsub2, by omega, by omega, h3⟩
def questA (f : AM → Nat → AM × Nat) (n : Nat) (a : AM) (p : Nat) : AM × Nat := (optA f a.out.length n (a.step p 0 zeroS) p, a.out.length)
theorem LayH.quest {s : List UInt8} {f : AM → Nat → AM × Nat} {R : Nat → Nat → Prop} (h : LayH s f R) (n : Nat) : LayH s (questA f n) (fun i j => ∃ c, c ≤ n ∧ Iter R c i j) := by
  have all : ∀ a p, Wf a → p < a.out.length → Wf (questA f n a p).1 ∧ Grow a (questA f n a p).1 p ∧ a.out.length < (questA f n a p).1.out.length ∧ ∀ x0 i j, x0 < a.out.length → (FW s (questA f n a p).1 (x0, i) (a.out.length, j) ↔ ∃ m, FW s a (x0, i) (p, m) ∧ ∃ c, c ≤ n ∧ Iter R c m j) := by
    intro a p hw hp
    have hw2 := wf_step (k := 0) (S := zeroS) hw hp
    have hl2 : (a.step p 0 zeroS).out.length = a.out.length + 1 := step_len _ _ _ _
    have hg2 := grow_step (k := 0) (S := zeroS) hp
    have hdead : ERow (a.step p 0 zeroS) a.out.length = [] := by
      rw [row_step hp, if_neg (by omega)]
      exact getD_nil (Nat.le_refl _)
    obtain ⟨k1, k2, k3, k4, k5⟩ := opt_all h a.out.length n (a.step p 0 zeroS) p hw2 (by omega) (by omega) (by omega) hdead
    unfold questA
    dsimp only
    refine ⟨k1, ⟨by omega, fun q e he => k3 q e (hg2.sub q e he), fun q e he => ?_⟩, by omega, fun x0 i j hx => ?_⟩
    · rcases k4 q e he with he | ⟨hq, ht⟩
      · exact hg2.new q e he
      · exact .inr ⟨by omega, by omega⟩
    · rw [k5 x0 i j (by omega)]
      constructor
      · rintro (h1 | ⟨m, c, h1, c1, c2, hc⟩)
        · obtain ⟨m, h2, h3⟩ := (step_hit hw hp hx).1 h1
          rw [eps_place] at h3
          cases h3
          exact ⟨_, h2, 0, Nat.zero_le _, rfl⟩
        · exact ⟨m, (hg2.old hw hx hp).1 h1, c, c2, hc⟩
      · rintro ⟨m, h1, c, c2, hc⟩
        cases c with
        | zero =>
          cases (show m = j from hc)
          exact .inl ((step_hit hw hp hx).2 ⟨_, h1, rfl⟩)
        | succ c => exact .inr ⟨m, c + 1, (hg2.old hw hx hp).2 h1, by omega, c2, hc⟩
  exact ⟨fun a p hw hp => (all a p hw hp).1, fun a p hw hp => (all a p hw hp).2.1, fun a p hw hp => ⟨.inr (Nat.le_refl _), (all a p hw hp).2.2.1⟩, fun a p x0 i j hw hp hx => (all a p hw hp).2.2.2 x0 i j hx⟩
theorem LayH.rep {s : List UInt8} {f : AM → Nat → AM × Nat} {R : Nat → Nat → Prop} (h : LayH s f R) (lo : Nat) (hi : Int) (k : RE) : LayH s (repA lo hi k f) (fun i j => ∃ c, RepN lo hi k c ∧ Iter R c i j) := by
  by_cases hc : hi = (lo : Int) ∨ k.thin = true
  · have e : repA lo hi k f = timesA f (leastM lo k) := by
      funext a p
      unfold repA
      dsimp only
      rw [if_pos hc]
    rw [e]
    refine (h.times _).iff fun i j => ⟨fun hh => ⟨_, ⟨Nat.le_refl _, by rw [if_pos hc]⟩, hh⟩, fun ⟨c, ⟨_, h2⟩, hh⟩ => ?_⟩
    rw [if_pos hc] at h2
    rw [h2] at hh
    exact hh
  by_cases hn : hi < 0
  · have e : repA lo hi k f = fun a p => starA f (timesA f (leastM lo k) a p).1 (timesA f (leastM lo k) a p).2 := by
      funext a p
      unfold repA starA
      dsimp only
      rw [if_neg hc, if_pos hn]
    rw [e]
    refine ((h.times _).seq h.star).iff fun i j => ⟨fun ⟨m, h1, c, h2⟩ => ⟨leastM lo k + c, ⟨Nat.le_add_right _ _, by rw [if_neg hc]; exact .inl hn⟩, Iter.add.2 ⟨m, h1, h2⟩⟩, fun ⟨c, ⟨h1, _⟩, hh⟩ => ?_⟩
    obtain ⟨d, rfl⟩ := Nat.exists_eq_add_of_le h1
    obtain ⟨m, h3, h4⟩ := Iter.add.1 hh
    exact ⟨m, h3, d, h4⟩
  · have e : repA lo hi k f = fun a p => questA f (hi.toNat - lo) (timesA f (leastM lo k) a p).1 (timesA f (leastM lo k) a p).2 := by
      funext a p
      unfold repA questA
      dsimp only
      rw [if_neg hc, if_neg hn]
    rw [e]
    refine ((h.times _).seq (h.quest _)).iff fun i j => ⟨fun ⟨m, h1, c, hcn, h2⟩ => ⟨leastM lo k + c, ⟨Nat.le_add_right _ _, by rw [if_neg hc]; exact .inr (by omega)⟩, Iter.add.2 ⟨m, h1, h2⟩⟩, fun ⟨c, ⟨h1, h5⟩, hh⟩ => ?_⟩
    rw [if_neg hc] at h5
    obtain ⟨d, rfl⟩ := Nat.exists_eq_add_of_le h1
    obtain ⟨m, h3, h4⟩ := Iter.add.1 hh
    exact ⟨m, h3, d, by omega, h4⟩
theorem all_has : ∀ b : UInt8, hasS (notS zeroS) b.toNat = true := by
  have h : ∀ b : Fin 256, hasS (notS zeroS) b.val = true := by decide +kernel
  exact fun b => h ⟨b.toNat, b.toNat_lt⟩
theorem LayH.any (s : List UInt8) : LayH s (fun a p => ((a.step p 0 zeroS).link a.out.length a.out.length 1 (notS zeroS), a.out.length)) (fun i j => j = i ∨ (i < j ∧ j ≤ s.length)) := by
  have all : ∀ a p, Wf a → p < a.out.length → Wf ((a.step p 0 zeroS).link a.out.length a.out.length 1 (notS zeroS)) ∧ Grow a ((a.step p 0 zeroS).link a.out.length a.out.length 1 (notS zeroS)) p ∧ a.out.length < ((a.step p 0 zeroS).link a.out.length a.out.length 1 (notS zeroS)).out.length ∧
      ∀ x0 i j, x0 < a.out.length → (FW s ((a.step p 0 zeroS).link a.out.length a.out.length 1 (notS zeroS)) (x0, i) (a.out.length, j) ↔ ∃ m, FW s a (x0, i) (p, m) ∧ (j = m ∨ (m < j ∧ j ≤ s.length))) := by
    intro a p hw hp
    have hw2 := wf_step (k := 0) (S := zeroS) hw hp
    have hl2 : (a.step p 0 zeroS).out.length = a.out.length + 1 := step_len _ _ _ _
    have hg2 := grow_step (k := 0) (S := zeroS) hp
    have hh : a.out.length < (a.step p 0 zeroS).out.length := by omega
    have hdead : ERow (a.step p 0 zeroS) a.out.length = [] := by
      rw [row_step hp, if_neg (by omega)]
      exact getD_nil (Nat.le_refl _)
    have hrow3 := fun q => row_link (k := 1) (S := notS zeroS) (t := a.out.length) hh q
    have hl3 : ((a.step p 0 zeroS).link a.out.length a.out.length 1 (notS zeroS)).out.length = (a.step p 0 zeroS).out.length := (link_len _ _ _ _ _).1
    have hsub3 : ∀ q, ∀ e ∈ ERow (a.step p 0 zeroS) q, e ∈ ERow ((a.step p 0 zeroS).link a.out.length a.out.length 1 (notS zeroS)) q := fun q e he => by
      rw [hrow3]; split
      · exact List.mem_append.2 (.inl he)
      · exact he
    have hcase : ∀ q, ∀ e ∈ ERow ((a.step p 0 zeroS).link a.out.length a.out.length 1 (notS zeroS)) q, e ∈ ERow (a.step p 0 zeroS) q ∨ (q = a.out.length ∧ e = ⟨1, notS zeroS, a.out.length⟩) := fun q e he => by
      rw [hrow3] at he
      split at he
      · rename_i e1
        rcases List.mem_append.1 he with he | he
        · exact .inl he
        · exact .inr ⟨e1, List.mem_singleton.1 he⟩
      · exact .inl he
    refine ⟨wf_link hw2 hh hh, ⟨by omega, fun q e he => hsub3 q e (hg2.sub q e he), fun q e he => ?_⟩, by omega, fun x0 i j hx => ⟨fun hr => ?_, ?_⟩⟩
    · rcases hcase q e he with he | ⟨rfl, rfl⟩
      · exact hg2.new q e he
      · exact .inr ⟨.inr (Nat.le_refl _), Nat.le_refl _⟩
    · have key : ∀ z, FW s ((a.step p 0 zeroS).link a.out.length a.out.length 1 (notS zeroS)) (x0, i) z → (z.1 < a.out.length ∧ FW s a (x0, i) z) ∨ ∃ m, FW s a (x0, i) (p, m) ∧ z.1 = a.out.length ∧ (z.2 = m ∨ (m < z.2 ∧ z.2 ≤ s.length)) := by
        intro z hz
        induction hz with
        | here => exact .inl ⟨hx, .here⟩
        | @step q u b e h1 he hpl ih =>
          rcases hcase q e he with he2 | ⟨rfl, rfl⟩
          · rcases ih with ⟨hq, hold⟩ | ⟨m, k1, k2, k3⟩
            · have hq : q < a.out.length := hq
              rw [row_step hp] at he2
              split at he2
              · rename_i e1
                rcases List.mem_append.1 he2 with he2 | he2
                · exact .inl ⟨hw q e he2, .step hold he2 hpl⟩
                · rw [List.mem_singleton] at he2; subst he2 e1
                  rw [eps_place] at hpl
                  cases hpl
                  exact .inr ⟨u, hold, rfl, .inl rfl⟩
              · exact .inl ⟨hw q e he2, .step hold he2 hpl⟩
            · have k2 : q = a.out.length := k2
              rw [k2, hdead] at he2
              cases he2
          · rcases ih with ⟨hq, hold⟩ | ⟨m, k1, k2, k3⟩
            · have hq : a.out.length < a.out.length := hq
              omega
            · dsimp only at k3 ⊢
              unfold placeM inB at hpl
              simp at hpl
              exact .inr ⟨m, k1, rfl, .inr (by omega)⟩
      rcases key _ hr with ⟨hbad, _⟩ | ⟨m, k1, _, k3⟩
      · exact absurd hbad (by dsimp only; omega)
      · exact ⟨m, k1, k3⟩
    · rintro ⟨m, h1, hj⟩
      have hbase : FW s ((a.step p 0 zeroS).link a.out.length a.out.length 1 (notS zeroS)) (x0, i) (a.out.length, m) :=
        ((step_hit (k := 0) (S := zeroS) hw hp hx (j := m) (s := s) (i := i)).2 ⟨m, h1, rfl⟩).mono hsub3
      have hgo : ∀ d, m + d ≤ s.length → FW s ((a.step p 0 zeroS).link a.out.length a.out.length 1 (notS zeroS)) (x0, i) (a.out.length, m + d) := by
        intro d
        induction d with
        | zero => exact fun _ => hbase
        | succ d ih =>
          intro hd
          refine Rch.step (e := ⟨1, notS zeroS, a.out.length⟩) (ih (by omega)) ?_ (b := m + (d + 1)) ?_
          · show _ ∈ ERow _ a.out.length
            rw [hrow3, if_pos rfl]; simp
          · have := all_has (s.getD (m + d) 0)
            unfold placeM inB bAt
            simp only [if_true, this, and_true, decide_eq_true_eq]
            rw [if_pos (by omega)]
            rfl
      rcases hj with rfl | ⟨h2, h3⟩
      · exact hbase
      · have := hgo (j - m) (by omega)
        rw [show m + (j - m) = j by omega] at this
        exact this
  exact ⟨fun a p hw hp => (all a p hw hp).1, fun a p hw hp => (all a p hw hp).2.1, fun a p hw hp => ⟨.inr (Nat.le_refl _), (all a p hw hp).2.2.1⟩, fun a p x0 i j hw hp hx => (all a p hw hp).2.2.2 x0 i j hx⟩
mutual
theorem lay_hit (s : List UInt8) : ∀ r : RE, LayH s (layM r) (Hit s r)
  | .byte S => by
    rw [show layM (.byte S) = fun a p => (a.step p 1 S, a.out.length) from by funext a p; rw [layM]]
    refine LayH.edge s 1 S _ fun t i j => ?_
    rw [Hit]
    unfold placeM inB bAt
    simp only [if_true, decide_eq_true_eq]
    constructor
    · intro h
      split at h
      · rename_i h1; cases h; exact ⟨h1, rfl⟩
      · cases h
    · rintro ⟨h1, rfl⟩
      rw [if_pos h1]
  | .bol => by
    rw [show layM .bol = fun a p => (a.step p 2 zeroS, a.out.length) from by funext a p; rw [layM]]
    refine LayH.edge s 2 zeroS _ fun t i j => ?_
    rw [Hit]
    unfold placeM
    simp only [show ¬ ((2 : Nat) = 1) by omega, if_false, if_true]
    constructor
    · intro h
      split at h
      · rename_i h1; cases h; exact ⟨h1, rfl⟩
      · cases h
    · rintro ⟨h1, rfl⟩
      rw [if_pos h1]
  | .eol => by
    rw [show layM .eol = fun a p => (a.step p 3 zeroS, a.out.length) from by funext a p; rw [layM]]
    refine LayH.edge s 3 zeroS _ fun t i j => ?_
    rw [Hit]
    unfold placeM
    simp only [show ¬ ((3 : Nat) = 1) by omega, show ¬ ((3 : Nat) = 2) by omega, if_false, if_true]
    constructor
    · intro h
      split at h
      · rename_i h1; cases h; exact ⟨h1, rfl⟩
      · cases h
    · rintro ⟨h1, rfl⟩
      rw [if_pos h1]
  | .back n => by
    rw [show layM (.back n) = fun a p => ((a.step p 0 zeroS).link a.out.length a.out.length 1 (notS zeroS), a.out.length) from by funext a p; rw [layM]]
    exact (LayH.any s).iff fun i j => by rw [Hit]
  | .rep lo hi k => by
    rw [show layM (.rep lo hi k) = repA lo hi k (layM k) from by funext a p; rw [layM]]
    exact (LayH.rep (lay_hit s k) lo hi k).iff fun i j => by rw [Hit]
  | .cat ks => by
    rw [show layM (.cat ks) = layL ks from by funext a p; rw [layM]]
    exact (layL_hit s ks).iff fun i j => by rw [Hit]
  | .group n k => by
    rw [show layM (.group n k) = layM k from by funext a p; rw [layM]]
    exact (lay_hit s k).iff fun i j => by rw [Hit]
theorem layL_hit (s : List UInt8) : ∀ ks : List RE, LayH s (layL ks) (HitL s ks)
  | [] => by
    rw [show layL [] = fun a p => (a, p) from by funext a p; rw [layL]]
    exact (LayH.id s).iff fun i j => by rw [HitL]
  | k :: ks => by
    rw [show layL (k :: ks) = fun a p => layL ks (layM k a p).1 (layM k a p).2 from by funext a p; rw [layL]]
    exact ((lay_hit s k).seq (layL_hit s ks)).iff fun i j => by rw [HitL]
end
theorem make_hit (s : List UInt8) (ks : List RE) (i j : Nat) : FW s (makeM ks).1 (0, i) ((makeM ks).2, j) ↔ HitL s ks i j := by
  have hw : Wf (AM.add ⟨[], []⟩) := fun q e he => by
    rw [show ERow (AM.add ⟨[], []⟩) q = ERow ⟨[], []⟩ q from getD_new _ _] at he
    cases he
  refine ((layL_hit s ks).hit (AM.add ⟨[], []⟩) 0 0 i j hw (by decide) (by decide)).trans ⟨fun ⟨m, h1, h2⟩ => ?_, fun h => ⟨i, .here, h⟩⟩
  have := Rch.dead rfl h1
  injection this with _ e
  subst e
  exact h2
theorem ends_iff {ks : List RE} (hc : costL ks + 1 ≤ 131072) (s : List UInt8) {i j : Nat} (st : Nat) (hi : i ≤ s.length) (hj : j ≤ s.length) : (endsM (makeM ks) s i st).marks.getD j false = true ↔ HitL s ks i j := by
  obtain ⟨hr, hlt⟩ := make_room ks hc
  obtain ⟨done, hd⟩ := flood_spec hr.eo s (x0 := (0, i)) (by omega) hi (makeM ks).2 true st
  exact (hd.marks j hj).trans (make_hit s ks i j)
theorem place_rev (s : List UInt8) (k t q : Nat) (S : BS) (a b : Nat) : placeM s true ⟨k, S, t⟩ a = some b ↔ placeM s false ⟨k, S, q⟩ b = some a := by
  unfold placeM inB bAt
  dsimp only
  by_cases h1 : k = 1
  · simp only [h1, if_true, Bool.false_eq_true, if_false, decide_eq_true_eq]
    constructor
    · intro h
      split at h
      · rename_i h2; cases h
        rw [show a + 1 - 1 = a by omega, if_pos ⟨⟨by omega, h2.1⟩, h2.2⟩]
      · cases h
    · intro h
      split at h
      · rename_i h2; cases h
        rw [if_pos ⟨h2.1.2, h2.2⟩, show b - 1 + 1 = b by omega]
      · cases h
  · simp only [h1, if_false]
    by_cases h2 : k = 2
    · simp only [h2, if_true]
      constructor <;> intro h <;> split at h <;> first | (rename_i h3; cases h; rw [if_pos h3]) | cases h
    · simp only [h2, if_false]
      by_cases h3 : k = 3
      · simp only [h3, if_true]
        constructor <;> intro h <;> split at h <;> first | (rename_i h4; cases h; rw [if_pos h4]) | cases h
      · simp only [h3, if_false, Option.some.injEq]
        exact eq_comm
def Rev (a : AM) : Prop := a.back.length = a.out.length ∧ ∀ q t k S, (⟨k, S, t⟩ : Ed) ∈ a.out.getD q [] ↔ (⟨k, S, q⟩ : Ed) ∈ a.back.getD t []
theorem rev_add {a : AM} (h : Rev a) : Rev a.add := ⟨by simp [AM.add, h.1], fun q t k S => by
  rw [show a.add.out.getD q [] = a.out.getD q [] from getD_new _ _, show a.add.back.getD t [] = a.back.getD t [] from getD_new _ _]
  exact h.2 q t k S⟩
theorem rev_link {a : AM} {f t k : Nat} {S : BS} (h : Rev a) (hf : f < a.out.length) (ht : t < a.out.length) : Rev (a.link f t k S) := by
  refine ⟨by rw [(link_len _ _ _ _ _).1, (link_len _ _ _ _ _).2]; exact h.1, fun q t' k' S' => ?_⟩
  rw [show (a.link f t k S).out.getD q [] = _ from getD_addTo _ _ _ _ hf, show (a.link f t k S).back.getD t' [] = _ from getD_addTo _ _ _ _ (by rw [h.1]; exact ht)]
  have h2 := h.2 q t' k' S'
  have e1 : (⟨k', S', t'⟩ : Ed) ∈ (if q = f then a.out.getD q [] ++ [⟨k, S, t⟩] else a.out.getD q []) ↔ (⟨k', S', t'⟩ : Ed) ∈ a.out.getD q [] ∨ (q = f ∧ k' = k ∧ S' = S ∧ t' = t) := by
    split <;> simp_all
  have e2 : (⟨k', S', q⟩ : Ed) ∈ (if t' = t then a.back.getD t' [] ++ [⟨k, S, f⟩] else a.back.getD t' []) ↔ (⟨k', S', q⟩ : Ed) ∈ a.back.getD t' [] ∨ (t' = t ∧ k' = k ∧ S' = S ∧ q = f) := by
    split <;> simp_all
  rw [e1, e2, h2]
  constructor
  · rintro (h | ⟨h1, h2, h3, h4⟩)
    · exact .inl h
    · exact .inr ⟨h4, h2, h3, h1⟩
  · rintro (h | ⟨h1, h2, h3, h4⟩)
    · exact .inl h
    · exact .inr ⟨h4, h2, h3, h1⟩
theorem Rch.rev {es es' : List (List Ed)} {s : List UInt8} (hrev : ∀ q t k S, (⟨k, S, t⟩ : Ed) ∈ es.getD q [] ↔ (⟨k, S, q⟩ : Ed) ∈ es'.getD t []) {x y : Nat × Nat} : Rch es s true x y ↔ Rch es' s false y x := by
  constructor
  · intro h
    induction h with
    | here => exact .here
    | @step q a b e h1 he hp ih =>
      obtain ⟨k, S, t⟩ := e
      exact Rch.trans (Rch.step (e := ⟨k, S, q⟩) .here ((hrev q t k S).1 he) ((place_rev s k t q S a b).1 hp)) ih
  · intro h
    induction h with
    | here => exact .here
    | @step q a b e h1 he hp ih =>
      obtain ⟨k, S, t⟩ := e
      exact Rch.trans (Rch.step (e := ⟨k, S, q⟩) .here ((hrev t q k S).2 he) ((place_rev s k q t S b a).2 hp)) ih
end Go.Proofs.YtblpgpgbnlhjlaaGreat
namespace Go.Proofs.YtblpgpgbnlhjlaaGreat
open Go Go.RowKit Sl
set_option maxRecDepth 100000
set_option maxHeartbeats 8000000
set_option linter.unusedVariables false
set_option linter.unusedSimpArgs false
attribute [local irreducible] ES EL PX wps
structure Inv (P : AM → Prop) : Prop where
  add : ∀ a, P a → P a.add
  link : ∀ a f t k S, P a → f < a.out.length → t < a.out.length → P (a.link f t k S)
def Pres (P : AM → Prop) (f : AM → Nat → AM × Nat) : Prop := ∀ a p, P a → p < a.out.length → P (f a p).1 ∧ (f a p).2 < (f a p).1.out.length ∧ a.out.length ≤ (f a p).1.out.length
theorem Inv.step {P : AM → Prop} (hP : Inv P) {a : AM} {f k : Nat} {S : BS} (h : P a) (hf : f < a.out.length) : P (a.step f k S) :=
  hP.link _ _ _ _ _ (hP.add _ h) (by rw [add_len]; omega) (by rw [add_len]; omega)
theorem times_pres {P : AM → Prop} {f : AM → Nat → AM × Nat} (hf : Pres P f) : ∀ n, Pres P (timesA f n)
  | 0, a, p, h, hp => ⟨h, hp, Nat.le_refl _⟩
  | n + 1, a, p, h, hp => by
    have h1 := hf a p h hp
    have h2 := times_pres hf n _ _ h1.1 h1.2.1
    exact ⟨h2.1, h2.2.1, Nat.le_trans h1.2.2 h2.2.2⟩
theorem opt_pres {P : AM → Prop} (hP : Inv P) {f : AM → Nat → AM × Nat} (hf : Pres P f) (o : Nat) : ∀ n a p, P a → p < a.out.length → o < a.out.length → P (optA f o n a p) ∧ a.out.length ≤ (optA f o n a p).out.length
  | 0, a, p, h, _, _ => ⟨h, Nat.le_refl _⟩
  | n + 1, a, p, h, hp, ho => by
    have h1 := hf a p h hp
    have hl : ((f a p).1.link (f a p).2 o 0 zeroS).out.length = (f a p).1.out.length := (link_len _ _ _ _ _).1
    have h2 := opt_pres hP hf o n _ (f a p).2 (hP.link _ _ _ 0 zeroS h1.1 h1.2.1 (show o < _ by omega)) (by omega) (by omega)
    exact ⟨h2.1, by have := h2.2; rw [optA]; omega⟩
theorem rep_pres {P : AM → Prop} (hP : Inv P) {f : AM → Nat → AM × Nat} (hf : Pres P f) (lo : Nat) (hi : Int) (k : RE) : Pres P (repA lo hi k f) := fun a p h hp => by
  have h1 := times_pres hf (leastM lo k) a p h hp
  unfold repA
  dsimp only
  generalize timesA f (leastM lo k) a p = x at h1
  obtain ⟨a1, p1⟩ := x
  dsimp only at h1 ⊢
  split
  · exact h1
  · have h2 : P (a1.step p1 0 zeroS) := hP.step h1.1 h1.2.1
    have hl2 : (a1.step p1 0 zeroS).out.length = a1.out.length + 1 := step_len _ _ _ _
    split
    · have h3 := hf (a1.step p1 0 zeroS) a1.out.length h2 (by omega)
      dsimp only
      refine ⟨hP.link _ _ _ _ _ h3.1 h3.2.1 (by omega), ?_, ?_⟩ <;> rw [(link_len _ _ _ _ _).1] <;> omega
    · have h3 := opt_pres hP hf a1.out.length (hi.toNat - lo) (a1.step p1 0 zeroS) p1 h2 (by omega) (by omega)
      exact ⟨h3.1, by dsimp only; omega, by dsimp only; omega⟩
mutual
theorem lay_pres {P : AM → Prop} (hP : Inv P) : ∀ r : RE, Pres P (layM r)
  | .byte S, a, p, h, hp => by
    rw [layM]
    exact ⟨hP.step h hp, by dsimp only; rw [step_len]; omega, by dsimp only; rw [step_len]; omega⟩
  | .bol, a, p, h, hp => by
    rw [layM]
    exact ⟨hP.step h hp, by dsimp only; rw [step_len]; omega, by dsimp only; rw [step_len]; omega⟩
  | .eol, a, p, h, hp => by
    rw [layM]
    exact ⟨hP.step h hp, by dsimp only; rw [step_len]; omega, by dsimp only; rw [step_len]; omega⟩
  | .back n, a, p, h, hp => by
    rw [layM]
    refine ⟨hP.link _ _ _ _ _ (hP.step h hp) (by rw [step_len]; omega) (by rw [step_len]; omega), ?_, ?_⟩ <;> dsimp only <;> rw [(link_len _ _ _ _ _).1, step_len] <;> omega
  | .rep lo hi k, a, p, h, hp => by
    rw [layM]
    exact rep_pres hP (lay_pres hP k) lo hi k a p h hp
  | .cat ks, a, p, h, hp => by
    rw [layM]
    exact layL_pres hP ks a p h hp
  | .group n k, a, p, h, hp => by
    rw [layM]
    exact lay_pres hP k a p h hp
theorem layL_pres {P : AM → Prop} (hP : Inv P) : ∀ ks : List RE, Pres P (layL ks)
  | [], a, p, h, hp => by
    rw [layL]
    exact ⟨h, hp, Nat.le_refl _⟩
  | k :: ks, a, p, h, hp => by
    rw [layL]
    have h1 := lay_pres hP k a p h hp
    have h2 := layL_pres hP ks _ _ h1.1 h1.2.1
    exact ⟨h2.1, h2.2.1, Nat.le_trans h1.2.2 h2.2.2⟩
end
theorem make_rev (ks : List RE) : Rev (makeM ks).1 := by
  have h0 : Rev ⟨[], []⟩ := ⟨rfl, fun q t k S => by simp⟩
  exact (layL_pres (P := Rev) ⟨fun _ h => rev_add h, fun _ _ _ _ _ h h1 h2 => rev_link h h1 h2⟩ ks (AM.add ⟨[], []⟩) 0 (rev_add h0) (by decide)).1
theorem starts_iff {ks : List RE} (hc : costL ks + 1 ≤ 131072) (s : List UInt8) {i j : Nat} (st : Nat) (hi : i ≤ s.length) (hj : j ≤ s.length) : (startsM (makeM ks) s j st).marks.getD i false = true ↔ HitL s ks i j := by
  obtain ⟨hr, hlt⟩ := make_room ks hc
  obtain ⟨done, hd⟩ := flood_spec hr.eb s (x0 := ((makeM ks).2, j)) (by rw [hr.same]; exact hlt) hj 0 false st
  refine (hd.marks i hi).trans (Iff.trans ?_ (make_hit s ks i j))
  exact (Rch.rev (make_rev ks).2).symm
theorem startsM_steps {A : AM × Nat} (hr : A.1.Room 0) {s : List UInt8} (hs : s.length ≤ 1024) (j st : Nat) : (startsM A s j st).steps ≤ st + 17609365913600 :=
  floodM_steps (by have := hr.out; have := hr.same; omega) (fun l hl => by have := hr.rb l hl; omega) s hs (A.2, j) 0 false st
end Go.Proofs.YtblpgpgbnlhjlaaGreat
namespace Go.Proofs.YtblpgpgbnlhjlaaGreat
open Go Go.RowKit Sl
set_option maxRecDepth 100000
set_option maxHeartbeats 8000000
set_option linter.unusedVariables false
set_option linter.unusedSimpArgs false
attribute [local irreducible] ES EL PX wps
theorem endsM_le {A : AM × Nat} (hr : A.1.Room 0) {s : List UInt8} (hs : s.length ≤ 1024) (i st : Nat) : (endsM A s i st).steps ≤ st + 17609365913600 :=
  floodM_steps (by have := hr.out; omega) (fun l hl => by have := hr.ro l hl; omega) s hs (0, i) A.2 true st
theorem flood_up {es : List (List Ed)} (hes : EdsOk es) (s : List UInt8) {x0 : Nat × Nat} (h1 : x0.1 < es.length) (h2 : x0.2 ≤ s.length) (goal : Nat) (fwd : Bool) (st : Nat) : st ≤ (floodM es s x0 goal fwd st).steps := by
  obtain ⟨done, hd⟩ := flood_spec hes s h1 h2 goal fwd st
  rw [hd.steps]; omega
theorem dn_head (i : Nat) (f : Nat → Bool) {p : Nat} (hf : f p = true) : ∀ n, i ≤ p → p < i + n → (∀ q, p < q → q < i + n → f q = false) → ((dnL i n).filter f).head? = some p ∧ (dnL i n).find? f = some p
  | 0, h1, h2, _ => by omega
  | n + 1, h1, h2, h3 => by
    rw [dnL, List.filter_cons, List.find?_cons]
    by_cases h : p = i + n
    · subst h
      rw [hf]
      exact ⟨rfl, rfl⟩
    · rw [h3 (i + n) (by omega) (by omega)]
      exact dn_head i f hf n h1 (by omega) (fun q hq1 hq2 => h3 q hq1 (by omega))
structure First (s : List UInt8) (hd tl : List RE) (i e j : Nat) : Prop where
  ch : costL hd + 1 ≤ 131072
  ct : costL tl + 1 ≤ 131072
  ie : i ≤ e
  ej : e ≤ j
  hh : HitL s hd i e
  ht : HitL s tl e j
  no : ∀ p, e < p → p ≤ j → ¬ (HitL s hd i p ∧ HitL s tl p j)
abbrev floodC : Nat := 17609365913600
theorem cut_first {s : List UInt8} (hs : s.length ≤ 1024) {hd tl : List RE} {i e j st : Nat} (h : First s hd tl i e j) (hj : j ≤ s.length) (hst : st ≤ 576460752303423488) : ∃ st', cutS s hd tl i j st = some (e, st') ∧ st ≤ st' ∧ st' ≤ st + 2 * floodC := by
  have hie := h.ie
  have hej := h.ej
  obtain ⟨hr1, hl1⟩ := make_room hd h.ch
  obtain ⟨hr2, hl2⟩ := make_room tl h.ct
  have hE := fun p (hp : p ≤ s.length) => ends_iff h.ch s (i := i) (j := p) st (by omega) hp
  have hS := fun p (hp : p ≤ s.length) => starts_iff h.ct s (i := p) (j := j) (splE s hd i st).steps hp hj
  have hhead := (dn_head i (fun p => (splE s hd i st).marks.getD p false && (splS s hd tl i j st).marks.getD p false) (p := e) (by
      rw [Bool.and_eq_true]
      exact ⟨(hE e (by omega)).2 h.hh, (hS e (by omega)).2 h.ht⟩) (j + 1 - i) hie (by omega) (fun q h1 h2 => by
      rw [Bool.eq_false_iff]
      intro hq
      rw [Bool.and_eq_true] at hq
      exact h.no q h1 (by omega) ⟨(hE q (by omega)).1 hq.1, (hS q (by omega)).1 hq.2⟩)).1
  have hup1 := flood_up hr1.eo s (x0 := (0, i)) (by omega) (show i ≤ s.length by omega) (makeM hd).2 true st
  have hup2 := flood_up hr2.eb s (x0 := ((makeM tl).2, j)) (by rw [hr2.same]; exact hl2) hj 0 false (splE s hd i st).steps
  have hup1' : st ≤ (splE s hd i st).steps := hup1
  have hup2' : (splE s hd i st).steps ≤ (splS s hd tl i j st).steps := hup2
  have hb1 : (splE s hd i st).steps ≤ st + 17609365913600 := endsM_le hr1 hs i st
  have hb2 : (splS s hd tl i j st).steps ≤ (splE s hd i st).steps + 17609365913600 := startsM_steps hr2 hs j _
  refine ⟨(splS s hd tl i j st).steps, ?_, by omega, by unfold floodC; omega⟩
  unfold cutS
  rw [if_pos ⟨hst, h.ch, h.ct, by omega, hj⟩]
  have hspl : (splL s hd tl i j st).head? = some e := hhead
  cases hx : splL s hd tl i j st with
  | nil => rw [hx] at hspl; cases hspl
  | cons p l => rw [hx] at hspl; cases hspl; rfl
inductive Wk (s : List UInt8) : WT → Nat → Nat → List Spn → List Spn → Nat → Nat → Prop
  | group {n k i j z z' f c} (hn : n < z.length) (h : Wk s (.one k) i j (z.set n ((i : Int), (j : Int))) z' f c) : Wk s (.one (.group n k)) i j z z' (f + 1) c
  | cat {ks i j z z' f c} (h : Wk s (.cat ks) i j z z' f c) : Wk s (.one (.cat ks)) i j z z' (f + 1) c
  | rep {lo hi k i j z z' f c} (h : Wk s (.rep lo hi k 0) i j z z' f c) : Wk s (.one (.rep lo hi k)) i j z z' (f + 1) c
  | byte {S i j z} : Wk s (.one (.byte S)) i j z z 1 0
  | bol {i j z} : Wk s (.one .bol) i j z z 1 0
  | eol {i j z} : Wk s (.one .eol) i j z z 1 0
  | nil {i j z} : Wk s (.cat []) i j z z 1 0
  | last {k i j z z' f c} (h : Wk s (.one k) i j z z' f c) : Wk s (.cat [k]) i j z z' (f + 1) c
  | cons {k k' ks i e j z z1 z2 f c c2} (hf : First s [k] (k' :: ks) i e j) (h1 : Wk s (.one k) i e z z1 f c) (h2 : Wk s (.cat (k' :: ks)) e j z1 z2 f c2) : Wk s (.cat (k :: k' :: ks)) i j z z2 (f + 1) (c + c2 + 1)
  | end0 {lo hi k t j z z' f c} (ht : t < leastM lo k) (h : Wk s (.one k) j j z z' f c) : Wk s (.rep lo hi k t) j j z z' (f + 1) c
  | end1 {lo hi k t j z} (ht : ¬ t < leastM lo k) : Wk s (.rep lo hi k t) j j z z 1 0
  | turn {lo hi k t i e j z z1 z2 f c c2} (hij : i ≠ j) (ht : t ≤ 1000000) (hf : First s [k] [leftM lo hi k (t + 1)] i e j) (h1 : Wk s (.one k) i e z z1 f c) (h2 : Wk s (.rep lo hi k (t + 1)) e j z1 z2 f c2) : Wk s (.rep lo hi k t) i j z z2 (f + 1) (c + c2 + 1)
  | more {wt i j z z' f c} (h : Wk s wt i j z z' f c) : Wk s wt i j z z' (f + 1) c
theorem Wk.fuel {s : List UInt8} {wt : WT} {i j f c : Nat} {z z' : List Spn} (h : Wk s wt i j z z' f c) {f' : Nat} (hf : f ≤ f') : Wk s wt i j z z' f' c := by
  obtain ⟨d, rfl⟩ := Nat.exists_eq_add_of_le hf
  clear hf
  induction d with
  | zero => exact h
  | succ d ih => exact .more ih
theorem Wk.run {s : List UInt8} (hs : s.length ≤ 1024) {wt : WT} {i j f c : Nat} {z z' : List Spn} (h : Wk s wt i j z z' f c) : i ≤ j → j ≤ s.length → ∀ F st, f ≤ F → st + c * (2 * floodC) ≤ 576460752303423488 → ∃ st', walkM s F wt i j ⟨z, st⟩ = some ⟨z', st'⟩ ∧ st ≤ st' ∧ st' ≤ st + c * (2 * floodC) := by
  induction h with
  | group hn h ih =>
    intro h1 h2 F st hF hst
    obtain ⟨F, rfl⟩ : ∃ F', F = F' + 1 := ⟨F - 1, by omega⟩
    rw [walkM, if_pos hn]
    exact ih h1 h2 F st (by omega) hst
  | cat h ih =>
    intro h1 h2 F st hF hst
    obtain ⟨F, rfl⟩ : ∃ F', F = F' + 1 := ⟨F - 1, by omega⟩
    rw [walkM]
    exact ih h1 h2 F st (by omega) hst
  | rep h ih =>
    intro h1 h2 F st hF hst
    obtain ⟨F, rfl⟩ : ∃ F', F = F' + 1 := ⟨F - 1, by omega⟩
    rw [walkM]
    exact ih h1 h2 F st (by omega) hst
  | byte =>
    intro h1 h2 F st hF hst
    obtain ⟨F, rfl⟩ : ∃ F', F = F' + 1 := ⟨F - 1, by omega⟩
    exact ⟨st, by simp [walkM], Nat.le_refl _, by omega⟩
  | bol =>
    intro h1 h2 F st hF hst
    obtain ⟨F, rfl⟩ : ∃ F', F = F' + 1 := ⟨F - 1, by omega⟩
    exact ⟨st, by simp [walkM], Nat.le_refl _, by omega⟩
  | eol =>
    intro h1 h2 F st hF hst
    obtain ⟨F, rfl⟩ : ∃ F', F = F' + 1 := ⟨F - 1, by omega⟩
    exact ⟨st, by simp [walkM], Nat.le_refl _, by omega⟩
  | nil =>
    intro h1 h2 F st hF hst
    obtain ⟨F, rfl⟩ : ∃ F', F = F' + 1 := ⟨F - 1, by omega⟩
    exact ⟨st, by simp [walkM], Nat.le_refl _, by omega⟩
  | last h ih =>
    intro h1 h2 F st hF hst
    obtain ⟨F, rfl⟩ : ∃ F', F = F' + 1 := ⟨F - 1, by omega⟩
    rw [walkM]
    exact ih h1 h2 F st (by omega) hst
  | @cons k k' ks i e j z z1 z2 f c c2 hf _ _ ih1 ih2 =>
    intro h1 h2 F st hF hst
    obtain ⟨F, rfl⟩ : ∃ F', F = F' + 1 := ⟨F - 1, by omega⟩
    have hmul : (c + c2 + 1) * (2 * floodC) = c * (2 * floodC) + c2 * (2 * floodC) + 2 * floodC := by rw [Nat.add_mul, Nat.add_mul, Nat.one_mul]
    rw [hmul] at hst
    have hie := hf.ie
    have hej := hf.ej
    obtain ⟨st1, e1, e2, e3⟩ := cut_first hs hf h2 (st := st) (by omega)
    obtain ⟨st2, e4, e5, e6⟩ := ih1 hie (by omega) F st1 (by omega) (by omega)
    obtain ⟨st3, e7, e8, e9⟩ := ih2 hej h2 F st2 (by omega) (by omega)
    refine ⟨st3, ?_, by omega, by rw [hmul]; omega⟩
    rw [walkM]
    simp only [e1, e4, e7]
  | @end0 lo hi k t j z z' f c ht h ih =>
    intro h1 h2 F st hF hst
    obtain ⟨F, rfl⟩ : ∃ F', F = F' + 1 := ⟨F - 1, by omega⟩
    rw [walkM, if_pos rfl, if_pos ht]
    exact ih h1 h2 F st (by omega) hst
  | @end1 lo hi k t j z ht =>
    intro h1 h2 F st hF hst
    obtain ⟨F, rfl⟩ : ∃ F', F = F' + 1 := ⟨F - 1, by omega⟩
    exact ⟨st, by rw [walkM, if_pos rfl, if_neg ht], Nat.le_refl _, by omega⟩
  | @turn lo hi k t i e j z z1 z2 f c c2 hij ht hf _ _ ih1 ih2 =>
    intro h1 h2 F st hF hst
    obtain ⟨F, rfl⟩ : ∃ F', F = F' + 1 := ⟨F - 1, by omega⟩
    have hmul : (c + c2 + 1) * (2 * floodC) = c * (2 * floodC) + c2 * (2 * floodC) + 2 * floodC := by rw [Nat.add_mul, Nat.add_mul, Nat.one_mul]
    rw [hmul] at hst
    have hie := hf.ie
    have hej := hf.ej
    obtain ⟨st1, e1, e2, e3⟩ := cut_first hs hf h2 (st := st) (by omega)
    obtain ⟨st2, e4, e5, e6⟩ := ih1 hie (by omega) F st1 (by omega) (by omega)
    obtain ⟨st3, e7, e8, e9⟩ := ih2 hej h2 F st2 (by omega) (by omega)
    refine ⟨st3, ?_, by omega, by rw [hmul]; omega⟩
    rw [walkM, if_neg hij, if_neg (by omega)]
    simp only [e1, e4, e7]
  | more h ih =>
    intro h1 h2 F st hF hst
    exact ih h1 h2 F st (by omega) hst
structure Best (s : List UInt8) (r : RE) (i a b : Nat) : Prop where
  ia : i ≤ a
  ab : a ≤ b
  bs : b ≤ s.length
  hit : HitL s [r] a b
  last : ∀ b', b < b' → b' ≤ s.length → ¬ HitL s [r] a b'
  first : ∀ a', i ≤ a' → a' < a → ∀ b', ¬ HitL s [r] a' b'
theorem last_some {s : List UInt8} {r : RE} (hc : costL [r] + 1 ≤ 131072) {i b st : Nat} (hi : i ≤ b) (hb : b ≤ s.length) (hit : HitL s [r] i b) (last : ∀ b', b < b' → b' ≤ s.length → ¬ HitL s [r] i b') : lastT (endsM (makeM [r]) s i st).marks i (s.length + 1 - i) = some b := by
  have hE := fun p (hp : p ≤ s.length) => ends_iff hc s (i := i) (j := p) st (by omega) hp
  exact (dn_head i (fun p => (endsM (makeM [r]) s i st).marks.getD p false) (p := b) ((hE b hb).2 hit) _ hi (by omega) (fun q h1 h2 => by
    rw [Bool.eq_false_iff]
    exact fun hq => last q h1 (by omega) ((hE q (by omega)).1 hq))).2
theorem last_none {s : List UInt8} {r : RE} (hc : costL [r] + 1 ≤ 131072) {i st : Nat} (hi : i ≤ s.length) (no : ∀ b', ¬ HitL s [r] i b') : lastT (endsM (makeM [r]) s i st).marks i (s.length + 1 - i) = none := by
  have hE := fun p (hp : p ≤ s.length) => ends_iff hc s (i := i) (j := p) st hi hp
  refine List.find?_eq_none.2 fun q hq hm => ?_
  have hb := (mem_dnL _).1 hq
  exact no q ((hE q (by omega)).1 hm)
theorem find_best {s : List UInt8} (hs : s.length ≤ 1024) {r : RE} (hc : costL [r] + 1 ≤ 131072) {a b : Nat} : ∀ (n i st : Nat), n + i = s.length + 1 → Best s r i a b → st + n * floodC ≤ 576460752303423488 → ∃ st', findM s (makeM [r]) n i st = some (some (a, b), st') ∧ st ≤ st' ∧ st' ≤ st + n * floodC
  | 0, i, st, hn, h, _ => by have := h.ia; have := h.ab; have := h.bs; omega
  | n + 1, i, st, hn, h, hst => by
    obtain ⟨hr, hlt⟩ := make_room [r] hc
    have hia := h.ia
    have hab := h.ab
    have hbs := h.bs
    have hb : (endsM (makeM [r]) s i st).steps ≤ st + 17609365913600 := endsM_le hr hs i st
    have hup : st ≤ (endsM (makeM [r]) s i st).steps := flood_up hr.eo s (x0 := (0, i)) (by omega) (show i ≤ s.length by omega) (makeM [r]).2 true st
    rw [Nat.succ_mul] at hst ⊢
    unfold floodC at *
    rw [findM, if_pos (by omega)]
    by_cases hi : i = a
    · subst hi
      rw [last_some hc hab hbs h.hit h.last]
      exact ⟨(endsM (makeM [r]) s i st).steps, rfl, hup, Nat.le_trans hb (Nat.add_le_add_left (Nat.le_add_left _ _) _)⟩
    · rw [last_none hc (by omega) (h.first i (Nat.le_refl _) (by omega))]
      obtain ⟨st', e1, e2, e3⟩ := find_best hs hc n (i + 1) (endsM (makeM [r]) s i st).steps (by omega) ⟨by omega, hab, hbs, h.hit, h.last, fun a' h1 h2 => h.first a' (by omega) h2⟩ (by unfold floodC; omega)
      exact ⟨st', e1, by omega, by unfold floodC at e3; omega⟩
theorem find_no {s : List UInt8} (hs : s.length ≤ 1024) {r : RE} (hc : costL [r] + 1 ≤ 131072) : ∀ (n i st : Nat), n + i = s.length + 1 → (∀ a, i ≤ a → a ≤ s.length → ∀ b, ¬ HitL s [r] a b) → st + n * floodC ≤ 576460752303423488 → ∃ st', findM s (makeM [r]) n i st = some (none, st') ∧ st ≤ st' ∧ st' ≤ st + n * floodC
  | 0, i, st, hn, h, _ => ⟨st, rfl, Nat.le_refl _, by omega⟩
  | n + 1, i, st, hn, h, hst => by
    obtain ⟨hr, hlt⟩ := make_room [r] hc
    have hb : (endsM (makeM [r]) s i st).steps ≤ st + 17609365913600 := endsM_le hr hs i st
    have hup : st ≤ (endsM (makeM [r]) s i st).steps := flood_up hr.eo s (x0 := (0, i)) (by omega) (show i ≤ s.length by omega) (makeM [r]).2 true st
    rw [Nat.succ_mul] at hst ⊢
    unfold floodC at *
    rw [findM, if_pos (by omega), last_none hc (by omega) (h i (Nat.le_refl _) (by omega))]
    obtain ⟨st', e1, e2, e3⟩ := find_no hs hc n (i + 1) (endsM (makeM [r]) s i st).steps (by omega) (fun a h1 h2 => h a (by omega) h2) (by unfold floodC; omega)
    exact ⟨st', e1, by omega, by unfold floodC at e3; omega⟩
theorem set_best {t s : List UInt8} (hs : s.length ≤ 1024) {r : RE} {g i a b f c : Nat} {z : List Spn} (he : (parseM t).e = 0) (hb : (measM (parseM t).tree).back = false) (hg : (measM (parseM t).tree).grp = (g : Nat)) (hg9 : g ≤ 9) (ht : (parseM t).tree = r) (hc : costL [r] + 1 ≤ 131072) (hbest : Best s r i a b) (hw : Wk s (.one r) a b ((List.replicate (g + 1) (-1, -1)).set 0 ((a : Int), (b : Int))) z f c) (hcc : c ≤ 4096) :
    ∃ m, setM f t s (i : Nat) = some m ∧ m.ok = true ∧ m.e = 0 ∧ m.spans = z := by
  have hia := hbest.ia
  have hab := hbest.ab
  have hbs := hbest.bs
  unfold setM
  rw [if_neg (fun h => h he), if_neg (by rw [hb]; simp), if_neg (by omega), if_neg (by omega), if_neg (by rw [hg]; omega), hg, ht]
  unfold setGo
  obtain ⟨st1, e1, e2, e3⟩ := find_best hs hc (s.length + 1 - i) i 0 (by omega) hbest (by unfold floodC; omega)
  have hw2 := hw.run hs hab hbs f st1 (Nat.le_refl _) (by unfold floodC at *; omega)
  obtain ⟨st2, e4, _, _⟩ := hw2
  rw [if_pos hc]
  simp only [Int.toNat_natCast, e1, e4]
  exact ⟨_, rfl, rfl, rfl, rfl⟩
theorem set_no {t s : List UInt8} (hs : s.length ≤ 1024) {r : RE} {g i : Nat} (hi : i ≤ s.length) (he : (parseM t).e = 0) (hb : (measM (parseM t).tree).back = false) (hg : (measM (parseM t).tree).grp = (g : Nat)) (hg9 : g ≤ 9) (ht : (parseM t).tree = r) (hc : costL [r] + 1 ≤ 131072) (hno : ∀ a, i ≤ a → a ≤ s.length → ∀ b, ¬ HitL s [r] a b) :
    ∃ m, setM 0 t s (i : Nat) = some m ∧ m.ok = false ∧ m.e = 0 ∧ m.spans = [] := by
  unfold setM
  rw [if_neg (fun h => h he), if_neg (by rw [hb]; simp), if_neg (by omega), if_neg (by omega), if_neg (by rw [hg]; omega), hg, ht]
  unfold setGo
  obtain ⟨st1, e1, e2, e3⟩ := find_no hs hc (s.length + 1 - i) i 0 (by omega) hno (by unfold floodC; omega)
  rw [if_pos hc]
  simp only [Int.toNat_natCast, e1]
  exact ⟨_, rfl, rfl, rfl, rfl⟩
end Go.Proofs.YtblpgpgbnlhjlaaGreat
namespace Go.Proofs.YtblpgpgbnlhjlaaGreat
open Go Go.RowKit Sl
set_option maxRecDepth 100000
set_option maxHeartbeats 8000000
set_option linter.unusedVariables false
set_option linter.unusedSimpArgs false
attribute [local irreducible] ES EL PX wps
abbrev At (s : List UInt8) (S : BS) (k : Nat) : Prop := k < s.length ∧ hasS S (s.getD k 0).toNat = true
theorem hit_byte {s : List UInt8} {S : BS} {i j : Nat} : Hit s (.byte S) i j ↔ At s S i ∧ j = i + 1 := by rw [Hit]
theorem hitL_one {s : List UInt8} {r : RE} {i j : Nat} : HitL s [r] i j ↔ Hit s r i j := by
  rw [HitL]
  constructor
  · rintro ⟨m, h1, h2⟩
    rw [HitL] at h2
    subst h2; exact h1
  · exact fun h => ⟨j, h, by rw [HitL]⟩
theorem hit_cat {s : List UInt8} {ks : List RE} {i j : Nat} : Hit s (.cat ks) i j ↔ HitL s ks i j := by rw [Hit]
end Go.Proofs.YtblpgpgbnlhjlaaGreat
namespace Go.Proofs.YtblpgpgbnlhjlaaGreat
open Go Go.RowKit Sl
set_option maxRecDepth 100000
set_option maxHeartbeats 8000000
set_option linter.unusedVariables false
set_option linter.unusedSimpArgs false
attribute [local irreducible] ES EL PX wps
def mfn (me : Me) : Nat := if me.back = true then 41 else 40
abbrev mbC (g : Nat) (t : List UInt8) (me : Me) (st : Int) : Array Value := #[Sv t, Iv me.pos, Iv me.grp, Iv me.least, Iv me.most, .bool me.back, .bool me.bol, .bool me.eol, Iv st, .func (.func (mfn me)) #[Pv g 0] #[]]
abbrev MB (g : Nat) (t : List UInt8) (me : Me) (st : Int) : HA := HA.blk g (.cells (mbC g t me st) 101)
abbrev meOf (t : List UInt8) : Me := measM (parseM t).tree
theorem newBad_c (t : List UInt8) (he : (parseM t).e ≠ 0) (ht : t.length ≤ 4611686018427387904) (w : World) (hG : GR w w.heap.size) :
    Pure Tryz.prog 10 #[Sv t] (fun _ : Unit => .tuple #[.pointer none, .agg #[Iv (parseM t).e, Iv ((parseM t).at_ : Nat)]]) (fun _ => []) w := by
  have hpc := fun w hG => parse_c t ht w hG
  generalize parseM t = p at he hpc
  obtain ⟨tree, pe, pat⟩ := p
  dsimp only at he hpc
  refine calls_of_ES TB Tryz.func10 rfl _ Tryz.ntmps10 rfl (Sat.start w) ?_
  refine .go ?_; repeat constructor
  refine EL.assign rfl rfl rfl ?_
  (refine EL.alloc rfl rfl rfl ?_; intro g3)
  refine .go ?_; repeat constructor
  refine EL.move rfl rfl rfl ?_
  (refine EL.callXw rfl rfl rfl ent34 rfl (fun w hs => hpc w (GR.sat hG hs)) ?_; intro px)
  refine EL.move rfl rfl rfl ?_
  refine EL.extract rfl rfl rfl rfl ?_
  refine EL.extract rfl rfl rfl rfl ?_
  (refine EL.alloc rfl rfl rfl ?_; intro g4)
  (refine EL.alloc rfl rfl rfl ?_; intro g5)
  (apply EL.storeAll; exact rfl; exact rfl; exact rfl; exact rfl; exact rfl; (case p => repeat constructor); exact rfl; (case h1 => exact (by first | rfl | exact all1 rfl | (intro u hu; simp only [List.mem_cons, List.not_mem_nil, or_false] at hu; rcases hu with rfl | rfl | rfl | rfl <;> rfl) | (intro u hu; simp at hu; rcases hu with rfl | rfl | rfl | rfl <;> rfl) | (intro u hu; simp at hu; rcases hu with rfl | rfl | rfl <;> rfl) | (intro u hu; simp at hu; rcases hu with rfl | rfl <;> rfl) | (intro u hu; simp at hu; obtain ⟨_, _, rfl⟩ := hu; rfl))))
  (apply EL.storeAll; exact rfl; exact rfl; exact rfl; exact rfl; exact rfl; (case p => repeat constructor); exact rfl; (case h1 => exact (by first | rfl | exact all1 rfl | (intro u hu; simp only [List.mem_cons, List.not_mem_nil, or_false] at hu; rcases hu with rfl | rfl | rfl | rfl <;> rfl) | (intro u hu; simp at hu; rcases hu with rfl | rfl | rfl | rfl <;> rfl) | (intro u hu; simp at hu; rcases hu with rfl | rfl | rfl <;> rfl) | (intro u hu; simp at hu; rcases hu with rfl | rfl <;> rfl) | (intro u hu; simp at hu; obtain ⟨_, _, rfl⟩ := hu; rfl))))
  refine .go ?_; repeat constructor
  refine .go ?_; repeat constructor
  refine EL.fieldAddr rfl rfl rfl rfl rfl rfl rfl rfl ?_
  (apply EL.loadB; exact rfl; exact rfl; exact rfl; exact rfl; exact rfl; (case hm => repeat constructor); exact rfl)
  refine EL.neqI rfl rfl rfl rfl ?_
  refine .go ?_; repeat constructor
  refine ES.condN rfl (fun hne => ?_) (fun h0 => ?_)
  · refine .g0 ?_; repeat constructor
    refine ES.draw (X := Unit) (fun _ => [(2, .pointer none), (3, Pv g3 0)]) (fun _ => HA.blk g3 (.cells #[Iv pe, Iv (pat : Nat)] 33) :: []) (HA.blk g5 (.cells #[Iv pe, Iv (pat : Nat)] 33) :: []) mixed (.i (by repeat constructor)) ?_ (fun _ => ?_)
    · refine ED.take 0 rfl (by decide +kernel) CutX.no_panic (by decide +kernel) rfl rfl rfl (RV.loadAggB rfl rfl rfl (by repeat constructor) rfl) ?_
      refine ED.take 1 rfl (by decide +kernel) CutX.no_panic (by decide +kernel) rfl rfl rfl (RV.assign rfl) ?_
      refine ED.last 2 rfl (by decide +kernel) (by decide +kernel) (by decide +kernel) ?_
      (apply EL.storeAll; exact rfl; exact rfl; exact rfl; exact rfl; exact rfl; (case p => repeat constructor); exact rfl; (case h1 => exact (by first | rfl | exact all1 rfl | (intro u hu; simp only [List.mem_cons, List.not_mem_nil, or_false] at hu; rcases hu with rfl | rfl | rfl | rfl <;> rfl) | (intro u hu; simp at hu; rcases hu with rfl | rfl | rfl | rfl <;> rfl) | (intro u hu; simp at hu; rcases hu with rfl | rfl | rfl <;> rfl) | (intro u hu; simp at hu; rcases hu with rfl | rfl <;> rfl) | (intro u hu; simp at hu; obtain ⟨_, _, rfl⟩ := hu; rfl))))
      refine EL.endQ ?_
      exact PX.cutX () ⟨rfl, rfl, trivial⟩ (.i (by repeat constructor))
    refine .go ?_; repeat constructor
    exact PX.ret rfl Tryz.results10 (.cons (.tmp rfl) (.cons (.blkA rfl rfl rfl (by repeat constructor) rfl) .nil)) (fun w hs => ⟨(), rfl, hs.ent (.i (by repeat constructor))⟩)
  · exact absurd h0 he
theorem newOk_c (t : List UInt8) (he : (parseM t).e = 0) (ht : t.length ≤ 4611686018427387904) (w : World) (hG : GR w w.heap.size) :
    Pure Tryz.prog 10 #[Sv t] (fun g : Nat => .tuple #[Pv g 0, .agg #[Iv 0, Iv 0]]) (fun g => [MB g t (meOf t) 0]) w := by
  have hpc := fun w hG => parse_c t ht w hG
  have hof : ofM t = (measM (parseM t).tree, 0, 0) := by unfold ofM; rw [if_neg (fun h => h he)]
  have hmc := fun w hG => measOf_c t ht w hG
  rw [hof] at hmc
  unfold meOf
  generalize parseM t = p at he hpc hmc
  obtain ⟨tree, pe, pat⟩ := p
  dsimp only at he hpc hmc ⊢
  subst he
  generalize measM tree = me at hmc
  refine calls_of_ES TB Tryz.func10 rfl _ Tryz.ntmps10 rfl (Sat.start w) ?_
  refine .go ?_; repeat constructor
  refine EL.assign rfl rfl rfl ?_
  (refine EL.alloc rfl rfl rfl ?_; intro g3)
  refine .go ?_; repeat constructor
  refine EL.move rfl rfl rfl ?_
  (refine EL.callXw rfl rfl rfl ent34 rfl (fun w hs => hpc w (GR.sat hG hs)) ?_; intro px)
  refine EL.move rfl rfl rfl ?_
  refine EL.extract rfl rfl rfl rfl ?_
  refine EL.extract rfl rfl rfl rfl ?_
  (refine EL.alloc rfl rfl rfl ?_; intro g4)
  (refine EL.alloc rfl rfl rfl ?_; intro g5)
  (apply EL.storeAll; exact rfl; exact rfl; exact rfl; exact rfl; exact rfl; (case p => repeat constructor); exact rfl; (case h1 => exact (by first | rfl | exact all1 rfl | (intro u hu; simp only [List.mem_cons, List.not_mem_nil, or_false] at hu; rcases hu with rfl | rfl | rfl | rfl <;> rfl) | (intro u hu; simp at hu; rcases hu with rfl | rfl | rfl | rfl <;> rfl) | (intro u hu; simp at hu; rcases hu with rfl | rfl | rfl <;> rfl) | (intro u hu; simp at hu; rcases hu with rfl | rfl <;> rfl) | (intro u hu; simp at hu; obtain ⟨_, _, rfl⟩ := hu; rfl))))
  (apply EL.storeAll; exact rfl; exact rfl; exact rfl; exact rfl; exact rfl; (case p => repeat constructor); exact rfl; (case h1 => exact (by first | rfl | exact all1 rfl | (intro u hu; simp only [List.mem_cons, List.not_mem_nil, or_false] at hu; rcases hu with rfl | rfl | rfl | rfl <;> rfl) | (intro u hu; simp at hu; rcases hu with rfl | rfl | rfl | rfl <;> rfl) | (intro u hu; simp at hu; rcases hu with rfl | rfl | rfl <;> rfl) | (intro u hu; simp at hu; rcases hu with rfl | rfl <;> rfl) | (intro u hu; simp at hu; obtain ⟨_, _, rfl⟩ := hu; rfl))))
  refine .go ?_; repeat constructor
  refine .go ?_; repeat constructor
  refine EL.fieldAddr rfl rfl rfl rfl rfl rfl rfl rfl ?_
  (apply EL.loadB; exact rfl; exact rfl; exact rfl; exact rfl; exact rfl; (case hm => repeat constructor); exact rfl)
  refine EL.neqI rfl rfl rfl rfl ?_
  refine .go ?_; repeat constructor
  refine ES.condF rfl ?_
  refine .go ?_; repeat constructor
  refine EL.move rfl rfl rfl ?_
  refine EL.buildS #[Sv t, Iv 0, Iv 0, Iv 0, Iv 0, .bool false, .bool false, .bool false, Iv 0, .nilFunc] rfl rfl rfl rfl rfl (by kernel_rfl) rfl ?_
  (refine EL.box rfl rfl rfl ?_; intro g18)
  refine EL.assign rfl rfl rfl ?_
  refine .go ?_; repeat constructor
  refine .go ?_; repeat constructor
  refine EL.move rfl rfl rfl ?_
  refine EL.move rfl rfl rfl ?_
  refine EL.callPw rfl rfl rfl ent35 rfl (fun w hs => hmc w (GR.sat hG hs)) ?_
  refine EL.move rfl rfl rfl ?_
  refine EL.extract rfl rfl rfl rfl ?_
  refine EL.extract rfl rfl rfl rfl ?_
  refine EL.nilCheck rfl rfl rfl ?_
  refine EL.fieldAddr rfl rfl rfl rfl rfl rfl rfl rfl ?_
  (refine EL.storeBA (vs := me.cells) rfl rfl rfl rfl rfl (by repeat constructor) (Nat.le_of_ble_eq_true rfl) (all1 rfl) ?_; refine EL.blkEq (g := g18) (o' := .cells #[Sv t, Iv me.pos, Iv me.grp, Iv me.least, Iv me.most, .bool me.back, .bool me.bol, .bool me.eol, Iv 0, .nilFunc] 101) (by repeat constructor) rfl ?_)
  refine .go ?_; repeat constructor
  refine .go ?_; repeat constructor
  refine EL.move rfl rfl rfl ?_
  refine EL.move rfl rfl rfl ?_
  refine EL.makeBound rfl rfl rfl ?_
  refine EL.nilCheck rfl rfl rfl ?_
  refine EL.fieldAddr rfl rfl rfl rfl rfl rfl rfl rfl ?_
  (apply EL.storeB; exact rfl; exact rfl; exact rfl; exact rfl; exact rfl; exact rfl; (case p => repeat constructor); exact (by first | decide | exact Nat.le_of_ble_eq_true rfl | simp))
  refine .go ?_; repeat constructor
  refine EL.move rfl rfl rfl ?_
  refine EL.nilCheck rfl rfl rfl ?_
  refine EL.fieldAddr rfl rfl rfl rfl rfl rfl rfl rfl ?_
  refine EL.fieldAddr rfl rfl rfl rfl rfl rfl rfl rfl ?_
  (apply EL.loadB; exact rfl; exact rfl; exact rfl; exact rfl; exact rfl; (case hm => repeat constructor); exact rfl)
  refine .go ?_; repeat constructor
  refine ES.cutC (X := Unit) (fun _ => [(3, Pv g3 0), (6, Pv g18 0)]) (fun _ => MB g18 t me 0 :: HA.blk g3 (.cells #[Iv 0, Iv 0] 33) :: []) ?_ (fun _ => ?_)
  · refine ES.cond rfl (fun hb => ?_) (fun hb => ?_)
    · have hb' : me.back = true := hb
      have hm : mfn me = 41 := if_pos hb'
      unfold MB mbC
      rw [hm]
      refine .go ?_; repeat constructor
      refine EL.move rfl rfl rfl ?_
      refine EL.move rfl rfl rfl ?_
      refine EL.makeBound rfl rfl rfl ?_
      refine EL.nilCheck rfl rfl rfl ?_
      refine EL.fieldAddr rfl rfl rfl rfl rfl rfl rfl rfl ?_
      (apply EL.storeB; exact rfl; exact rfl; exact rfl; exact rfl; exact rfl; exact rfl; (case p => repeat constructor); exact (by first | decide | exact Nat.le_of_ble_eq_true rfl | simp))
      refine .go ?_; repeat constructor
      exact PX.cutX () ⟨rfl, rfl, trivial⟩ (.i (by repeat constructor))
    · have hb' : me.back = false := hb
      have hm : mfn me = 40 := if_neg (by rw [hb']; simp)
      unfold MB mbC
      rw [hm]
      refine .go ?_; repeat constructor
      exact PX.cutX () ⟨rfl, rfl, trivial⟩ (.i (by repeat constructor))
  refine .go ?_; repeat constructor
  refine EL.move rfl rfl rfl ?_
  refine EL.buildZ rfl rfl rfl rfl rfl ?_
  refine EL.assign rfl rfl rfl ?_
  (apply EL.storeAll; exact rfl; exact rfl; exact rfl; exact rfl; exact rfl; (case p => repeat constructor); exact rfl; (case h1 => exact (by first | rfl | exact all1 rfl | (intro u hu; simp only [List.mem_cons, List.not_mem_nil, or_false] at hu; rcases hu with rfl | rfl | rfl | rfl <;> rfl) | (intro u hu; simp at hu; rcases hu with rfl | rfl | rfl | rfl <;> rfl) | (intro u hu; simp at hu; rcases hu with rfl | rfl | rfl <;> rfl) | (intro u hu; simp at hu; rcases hu with rfl | rfl <;> rfl) | (intro u hu; simp at hu; obtain ⟨_, _, rfl⟩ := hu; rfl))))
  refine .go ?_; repeat constructor
  exact PX.ret rfl Tryz.results10 (.cons (.tmp rfl) (.cons (.blkA rfl rfl rfl (by repeat constructor) rfl) .nil)) (fun w hs => ⟨g18, rfl, hs.ent (.i (by repeat constructor))⟩)
abbrev mrV (m : MR) (x : Option Addr × Nat) : Value := .tuple #[.slice x.1 m.spans.length x.2, .bool m.ok, Iv m.e]
abbrev McCt (f g : Nat) (t : List UInt8) (me : Me) (s : List UInt8) (a : Int) (m : MR) (w0 : World) (B : Nat) : Prop := ∀ st : Int,
  MutAt Tryz.prog f #[Pv g 0, Sv s, Iv a] [MB g t me st] (mrV m) (fun x => [PRow x.1 x.2 m.spans, MB g t me (w64 (st + (m.steps : Nat)))]) w0 B
theorem bySets_c (F g : Nat) (t : List UInt8) (ht : t.length ≤ 4611686018427387904) (me : Me) (s : List UInt8) (a : Int) (m : MR) (hm : setM F t s a = some m) (w0 : World) (B : Nat) (hG : GR w0 B) : McCt 40 g t me s a m w0 B := by
  intro st R w h
  replace h : Sat w0 B (MB g t me st :: R) w := h
  have hsc := fun w hG => setMatch_c F t s a m hm ht w hG
  refine calls_of_ES TB Tryz.func40 rfl _ Tryz.ntmps40 rfl h ?_
  refine .go ?_; repeat constructor
  refine EL.assign rfl rfl rfl ?_
  refine EL.assign rfl rfl rfl ?_
  refine EL.assign rfl rfl rfl ?_
  refine .go ?_; repeat constructor
  refine EL.move rfl rfl rfl ?_
  refine EL.nilCheck rfl rfl rfl ?_
  refine EL.fieldAddr rfl rfl rfl rfl rfl rfl rfl rfl ?_
  (apply EL.loadB; exact rfl; exact rfl; exact rfl; exact rfl; exact rfl; (case hm => repeat constructor); exact rfl)
  refine EL.move rfl rfl rfl ?_
  refine EL.move rfl rfl rfl ?_
  (refine EL.callXw rfl rfl rfl ent8 rfl (fun w hs => hsc w (GR.sat hG hs)) ?_; intro x)
  refine EL.move rfl rfl rfl ?_
  refine EL.extract rfl rfl rfl rfl ?_
  refine EL.extract rfl rfl rfl rfl ?_
  refine EL.extract rfl rfl rfl rfl ?_
  refine EL.extract rfl rfl rfl rfl ?_
  refine EL.assign rfl rfl rfl ?_
  refine EL.assign rfl rfl rfl ?_
  refine EL.assign rfl rfl rfl ?_
  refine EL.assign rfl rfl rfl ?_
  refine .go ?_; repeat constructor
  refine .go ?_; repeat constructor
  refine EL.move rfl rfl rfl ?_
  refine EL.nilCheck rfl rfl rfl ?_
  refine EL.fieldAddr rfl rfl rfl rfl rfl rfl rfl rfl ?_
  (apply EL.loadB; exact rfl; exact rfl; exact rfl; exact rfl; exact rfl; (case hm => repeat constructor); exact rfl)
  refine EL.move rfl rfl rfl ?_
  refine EL.add (w64 (st + (m.steps : Nat))) rfl rfl rfl rfl rfl ?_
  refine EL.nilCheck rfl rfl rfl ?_
  refine EL.fieldAddr rfl rfl rfl rfl rfl rfl rfl rfl ?_
  (apply EL.storeB; exact rfl; exact rfl; exact rfl; exact rfl; exact rfl; exact rfl; (case p => repeat constructor); exact (by first | decide | exact Nat.le_of_ble_eq_true rfl | simp))
  refine .go ?_; repeat constructor
  refine EL.move rfl rfl rfl ?_
  refine EL.move rfl rfl rfl ?_
  refine EL.move rfl rfl rfl ?_
  refine EL.assign rfl rfl rfl ?_
  refine EL.assign rfl rfl rfl ?_
  refine EL.assign rfl rfl rfl ?_
  refine .go ?_; repeat constructor
  exact PX.ret rfl Tryz.results40 (.cons (.tmp rfl) (.cons (.tmp rfl) (.cons (.tmp rfl) .nil))) (fun w hs => ⟨x, rfl, hs.ent (.i (by repeat constructor))⟩)
theorem match_c (g : Nat) (t : List UInt8) (me : Me) (s : List UInt8) (a : Int) (m : MR) (w0 : World) (B : Nat) (he : Enters Tryz.prog (mfn me)) (hc : McCt (mfn me) g t me s a m w0 B) : McCt 45 g t me s a m w0 B := by
  intro st R w h
  replace h : Sat w0 B (MB g t me st :: R) w := h
  refine calls_of_ES TB Tryz.func45 rfl _ Tryz.ntmps45 rfl h ?_
  refine .go ?_; repeat constructor
  refine EL.assign rfl rfl rfl ?_
  refine EL.assign rfl rfl rfl ?_
  refine EL.assign rfl rfl rfl ?_
  refine .go ?_; repeat constructor
  refine EL.move rfl rfl rfl ?_
  refine EL.eqlPn rfl rfl rfl rfl rfl rfl ?_
  refine EL.move rfl rfl rfl ?_
  refine EL.rew (d := 11) (v' := .bool false) rfl (by first | rfl | (decide) | (simp)) ?_
  refine EL.move rfl rfl rfl ?_
  refine EL.nilCheck rfl rfl rfl ?_
  refine EL.fieldAddr rfl rfl rfl rfl rfl rfl rfl rfl ?_
  (apply EL.loadB; exact rfl; exact rfl; exact rfl; exact rfl; exact rfl; (case hm => repeat constructor); exact rfl)
  refine EL.eqlFt rfl rfl rfl rfl rfl rfl ?_
  refine EL.pickF rfl rfl rfl rfl ?_
  refine .go ?_; repeat constructor
  refine ES.condF rfl ?_
  refine .go ?_; repeat constructor
  refine EL.move rfl rfl rfl ?_
  refine EL.nilCheck rfl rfl rfl ?_
  refine EL.fieldAddr rfl rfl rfl rfl rfl rfl rfl rfl ?_
  (apply EL.loadB; exact rfl; exact rfl; exact rfl; exact rfl; exact rfl; (case hm => repeat constructor); exact rfl)
  refine EL.move rfl rfl rfl ?_
  refine EL.move rfl rfl rfl ?_
  (refine EL.callB (bs := [Pv g 0]) (vs := [Sv s, Iv a]) rfl rfl rfl he rfl (hc st) (by repeat constructor) ?_; intro x)
  refine EL.extract rfl rfl rfl rfl ?_
  refine EL.extract rfl rfl rfl rfl ?_
  refine EL.extract rfl rfl rfl rfl ?_
  refine EL.assign rfl rfl rfl ?_
  refine EL.assign rfl rfl rfl ?_
  refine EL.assign rfl rfl rfl ?_
  refine .go ?_; repeat constructor
  exact PX.ret rfl Tryz.results45 (.cons (.tmp rfl) (.cons (.tmp rfl) (.cons (.tmp rfl) .nil))) (fun w hs => ⟨x, rfl, hs.ent (.i (by repeat constructor))⟩)
theorem matchSets_c (F g : Nat) (t : List UInt8) (ht : t.length ≤ 4611686018427387904) (me : Me) (hb : me.back = false) (s : List UInt8) (a : Int) (m : MR) (hm : setM F t s a = some m) (w0 : World) (B : Nat) (hG : GR w0 B) : McCt 45 g t me s a m w0 B := by
  have e : mfn me = 40 := if_neg (by rw [hb]; simp)
  exact match_c g t me s a m w0 B (by rw [e]; exact ent40) (by rw [e]; exact bySets_c F g t ht me s a m hm w0 B hG)
end Go.Proofs.YtblpgpgbnlhjlaaGreat
namespace Go.Proofs.YtblpgpgbnlhjlaaGreat
open Go Go.RowKit Sl
set_option maxRecDepth 100000
set_option maxHeartbeats 8000000
set_option linter.unusedVariables false
set_option linter.unusedSimpArgs false
attribute [local irreducible] ES EL PX wps
abbrev Mt := Nat × List UInt8
def HA.mats (ms : List Mt) : HA := ⟨ms.map Prod.fst, fun w => ∀ q ∈ ms, ∃ st, w.heap[q.1]? = some (.cells (mbC q.1 q.2 (meOf q.2) st) 101 (0, 0)), fun w w' h hw q hq => by
  obtain ⟨st, h1⟩ := hw q hq
  exact ⟨st, (h q.1 (List.mem_map_of_mem hq)).trans h1⟩⟩
theorem Sat.mats0 {w0 w : World} {B : Nat} {H : List HA} (h : Sat w0 B H w) : Sat w0 B (HA.mats [] :: H) w :=
  Sat.rules (Hs := []) (Hs' := [HA.mats []]) h (by simp [fps, HA.mats]) (fun _ Y hY => by
    rw [List.mem_singleton] at hY; subst hY
    intro q hq; cases hq)
theorem Sat.matsIn {w0 w : World} {B : Nat} {l r : List Mt} {g : Nat} {t : List UInt8} {st : Int} {R : List HA} (h : Sat w0 B (MB g t (meOf t) st :: HA.mats (l ++ r) :: R) w) : Sat w0 B (HA.mats (l ++ (g, t) :: r) :: R) w :=
  Sat.rules (Hs := [MB g t (meOf t) st, HA.mats (l ++ r)]) (Hs' := [HA.mats (l ++ (g, t) :: r)]) h (by
    simp only [fps, List.flatMap_cons, List.flatMap_nil, HA.mats, HA.blk, List.append_nil, List.map_append, List.map_cons, List.singleton_append]
    exact List.perm_middle.symm) (fun hh Y hY => by
    have h1 : (MB g t (meOf t) st).holds w := hh _ (by simp)
    have h2 : (HA.mats (l ++ r)).holds w := hh _ (by simp)
    rw [List.mem_singleton] at hY; subst hY
    intro q hq
    rcases List.mem_append.1 hq with hq | hq
    · exact h2 q (by simp [hq])
    · rcases List.mem_cons.1 hq with rfl | hq
      · exact ⟨st, h1⟩
      · exact h2 q (by simp [hq]))
theorem Sat.matsOut {w0 w : World} {B : Nat} {l r : List Mt} {g : Nat} {t : List UInt8} {R : List HA} (h : Sat w0 B (HA.mats (l ++ (g, t) :: r) :: R) w) : ∃ st, Sat w0 B (MB g t (meOf t) st :: HA.mats (l ++ r) :: R) w := by
  obtain ⟨st, hst⟩ := (h.head : (HA.mats (l ++ (g, t) :: r)).holds w) (g, t) (by simp)
  refine ⟨st, Sat.rules (Hs' := [MB g t (meOf t) st, HA.mats (l ++ r)]) (Hs := [HA.mats (l ++ (g, t) :: r)]) h (by
    simp only [fps, List.flatMap_cons, List.flatMap_nil, HA.mats, HA.blk, List.append_nil, List.map_append, List.map_cons, List.singleton_append]
    exact List.perm_middle) (fun hh Y hY => ?_)⟩
  have h2 : (HA.mats (l ++ (g, t) :: r)).holds w := hh _ (by simp)
  simp only [List.mem_cons, List.not_mem_nil, or_false] at hY
  rcases hY with rfl | rfl
  · exact hst
  · exact fun q hq => h2 q (by rcases List.mem_append.1 hq with hq | hq <;> simp [hq])
theorem matchMats_c (F : Nat) (ms : List Mt) (q : Mt) (hq : q ∈ ms) (ht : q.2.length ≤ 4611686018427387904) (hb : (meOf q.2).back = false) (s : List UInt8) (a : Int) (m : MR) (hm : setM F q.2 s a = some m) (w0 : World) (B : Nat) (hG : GR w0 B) :
    MutAt Tryz.prog 45 #[Pv q.1 0, Sv s, Iv a] [HA.mats ms] (mrV m) (fun x => [PRow x.1 x.2 m.spans, HA.mats ms]) w0 B := by
  intro R w h
  obtain ⟨g, t⟩ := q
  obtain ⟨l, r, rfl⟩ := List.append_of_mem hq
  obtain ⟨st, h1⟩ := Sat.matsOut (show Sat w0 B (HA.mats (l ++ (g, t) :: r) :: R) w from h)
  refine (matchSets_c F g t ht (meOf t) hb s a m hm w0 B hG st (HA.mats (l ++ r) :: R) w h1).mono fun e w' ⟨x, he, hs⟩ => ⟨x, he, ?_⟩
  have h2 := Sat.matsIn (hs.ent (H' := MB g t (meOf t) (w64 (st + (m.steps : Nat))) :: HA.mats (l ++ r) :: PRow x.1 x.2 m.spans :: R) (.i (by repeat constructor)))
  exact h2.ent (.i (by repeat constructor))
structure Ad where
  kind : Int
  line : Int
  re : List UInt8
structure Rw where
  A : Ad
  B : Ad
  not : Bool
def adC (a : Ad) : List Value := [Iv a.kind, Iv a.line, Sv a.re]
def rwC (r : Rw) : List Value := adC r.A ++ adC r.B ++ [.bool r.not]
def rwsC (l : List Rw) : List Value := l.flatMap rwC
def hasM (a : Ad) : Prop := a.kind = 3 ∧ a.re ≠ [] ∧ (parseM a.re).e = 0
def readE (a : Ad) : Int := if (a.kind < 0 ∨ 3 < a.kind) ∨ (a.kind = 1 ∧ a.line < 1) then 17 else if a.kind ≠ 3 ∨ a.re = [] then 0 else (parseM a.re).e
def pkE (r : Rw) : Int := if readE r.A ≠ 0 then readE r.A else if readE r.B ≠ 0 then readE r.B else if r.A.kind = 0 ∧ r.B.kind ≠ 0 then 17 else 0
def pksE : List Rw → Int
  | [] => 0
  | r :: l => if pkE r ≠ 0 then pkE r else pksE l
def ptrV (o : Option Mt) : Value := .pointer (o.map fun q => ⟨q.1, 0, none⟩)
structure MtOf (a : Ad) (o : Option Mt) : Prop where
  some : hasM a → ∃ g, o = some (g, a.re)
  none : ¬ hasM a → o = none
structure RdX (a : Ad) where
  o : Option Mt
  is : MtOf a o
def RdX.H {a : Ad} (x : RdX a) : List HA := match x.o with
  | none => []
  | some q => [MB q.1 q.2 (meOf q.2) 0]
theorem pickRead_c (a : Ad) (ha : a.re.length ≤ 4611686018427387904) (w : World) (hG : GR w w.heap.size) : Pure Tryz.prog 50 #[.agg (adC a).toArray] (fun x : RdX a => .tuple #[ptrV x.o, Iv (readE a)]) (fun x => x.H) w := by
  have hre : readE a = if (a.kind < 0 ∨ 3 < a.kind) ∨ (a.kind = 1 ∧ a.line < 1) then 17 else if a.kind ≠ 3 ∨ a.re = [] then 0 else (parseM a.re).e := rfl
  refine calls_of_ES TB Tryz.func50 rfl _ Tryz.ntmps50 rfl (Sat.start w) ?_
  refine .go ?_; repeat constructor
  (refine EL.box rfl rfl rfl ?_; intro g1)
  refine EL.assign rfl rfl rfl ?_
  refine EL.assign rfl rfl rfl ?_
  refine .go ?_; repeat constructor
  refine .go ?_; repeat constructor
  refine EL.cutX (X := Unit) (fun _ => [(1, Pv g1 0), (6, .bool (decide ((a.kind < 0 ∨ 3 < a.kind) ∨ (a.kind = 1 ∧ a.line < 1))))]) (fun _ => HA.blk g1 (.cells (adC a).toArray 52) :: []) ?_ (fun _ => ?_)
  · refine .go ?_; repeat constructor
    refine EL.fieldAddr rfl rfl rfl rfl rfl rfl rfl rfl ?_
    (apply EL.loadB; exact rfl; exact rfl; exact rfl; exact rfl; exact rfl; (case hm => repeat constructor); exact rfl)
    refine EL.lss rfl rfl rfl rfl ?_
    refine EL.move rfl rfl rfl ?_
    first | refine EL.splitD (d := 10) rfl (fun hp10 => ?_) (fun hp10 => ?_) | refine EL.splitN (d := 10) rfl (fun hp10 => ?_) (fun hp10 => ?_) | refine EL.splitB (d := 10) rfl (fun hp10 => ?_) (fun hp10 => ?_)
    · refine EL.pass rfl rfl rfl ?_
      refine EL.pass rfl rfl rfl ?_
      refine EL.pass rfl rfl rfl ?_
      refine EL.pickT rfl rfl rfl rfl ?_
      refine EL.move rfl rfl rfl ?_
      refine EL.pass rfl rfl rfl ?_
      refine EL.pass rfl rfl rfl ?_
      refine EL.pass rfl rfl rfl ?_
      refine EL.pass rfl rfl rfl ?_
      refine EL.pass rfl rfl rfl ?_
      refine EL.pass rfl rfl rfl ?_
      refine EL.pass rfl rfl rfl ?_
      refine EL.pass rfl rfl rfl ?_
      refine EL.pickT rfl rfl rfl rfl ?_
      refine EL.assign rfl rfl rfl ?_
      exact EL.endX () ⟨rfl, getA rfl (congrArg Value.bool (by rw [Bool.eq_iff_iff]; simp only [decide_eq_true_eq, true_iff, false_iff, Bool.false_eq_true]; omega)), trivial⟩ (.i (by repeat constructor))
    · refine EL.fieldAddr rfl rfl rfl rfl rfl rfl rfl rfl ?_
      (apply EL.loadB; exact rfl; exact rfl; exact rfl; exact rfl; exact rfl; (case hm => repeat constructor); exact rfl)
      refine EL.gtr rfl rfl rfl rfl ?_
      refine EL.pickF rfl rfl rfl rfl ?_
      refine EL.move rfl rfl rfl ?_
      first | refine EL.splitD (d := 15) rfl (fun hp15 => ?_) (fun hp15 => ?_) | refine EL.splitN (d := 15) rfl (fun hp15 => ?_) (fun hp15 => ?_) | refine EL.splitB (d := 15) rfl (fun hp15 => ?_) (fun hp15 => ?_)
      · refine EL.pass rfl rfl rfl ?_
        refine EL.pass rfl rfl rfl ?_
        refine EL.pass rfl rfl rfl ?_
        refine EL.pass rfl rfl rfl ?_
        refine EL.pass rfl rfl rfl ?_
        refine EL.pass rfl rfl rfl ?_
        refine EL.pass rfl rfl rfl ?_
        refine EL.pass rfl rfl rfl ?_
        refine EL.pickT rfl rfl rfl rfl ?_
        refine EL.assign rfl rfl rfl ?_
        exact EL.endX () ⟨rfl, getA rfl (congrArg Value.bool (by rw [Bool.eq_iff_iff]; simp only [decide_eq_true_eq, true_iff, false_iff, Bool.false_eq_true]; omega)), trivial⟩ (.i (by repeat constructor))
      · refine EL.fieldAddr rfl rfl rfl rfl rfl rfl rfl rfl ?_
        (apply EL.loadB; exact rfl; exact rfl; exact rfl; exact rfl; exact rfl; (case hm => repeat constructor); exact rfl)
        refine EL.eqlI rfl rfl rfl rfl ?_
        refine EL.move rfl rfl rfl ?_
        first | refine EL.splitD (d := 19) rfl (fun hp19 => ?_) (fun hp19 => ?_) | refine EL.splitN (d := 19) rfl (fun hp19 => ?_) (fun hp19 => ?_) | refine EL.splitB (d := 19) rfl (fun hp19 => ?_) (fun hp19 => ?_)
        · refine EL.fieldAddr rfl rfl rfl rfl rfl rfl rfl rfl ?_
          (apply EL.loadB; exact rfl; exact rfl; exact rfl; exact rfl; exact rfl; (case hm => repeat constructor); exact rfl)
          refine EL.lss rfl rfl rfl rfl ?_
          refine EL.pickT rfl rfl rfl rfl ?_
          refine EL.pickF rfl rfl rfl rfl ?_
          refine EL.assign rfl rfl rfl ?_
          exact EL.endX () ⟨rfl, getA rfl (congrArg Value.bool (by rw [Bool.eq_iff_iff]; simp only [decide_eq_true_eq, true_iff, false_iff, Bool.false_eq_true]; omega)), trivial⟩ (.i (by repeat constructor))
        · refine EL.pass rfl rfl rfl ?_
          refine EL.pass rfl rfl rfl ?_
          refine EL.pass rfl rfl rfl ?_
          refine EL.pickF rfl rfl rfl rfl ?_
          refine EL.pickF rfl rfl rfl rfl ?_
          refine EL.assign rfl rfl rfl ?_
          exact EL.endX () ⟨rfl, getA rfl (congrArg Value.bool (by rw [Bool.eq_iff_iff]; simp only [decide_eq_true_eq, true_iff, false_iff, Bool.false_eq_true]; omega)), trivial⟩ (.i (by repeat constructor))
  refine ES.condD rfl (fun hbad => ?_) (fun hbad => ?_)
  · rw [if_pos hbad] at hre
    have hn : ¬ hasM a := fun h => by obtain ⟨h1, _, _⟩ := h; omega
    refine .go ?_; repeat constructor
    refine EL.assign rfl rfl rfl ?_
    refine EL.assign rfl rfl rfl ?_
    refine .go ?_; repeat constructor
    exact PX.ret rfl Tryz.results50 (.cons (.tmp rfl) (.cons (.tmp rfl) .nil)) (fun w hs => ⟨⟨none, fun h => absurd h hn, fun _ => rfl⟩, by rw [hre]; rfl, hs.ent (.i (by repeat constructor))⟩)
  rw [if_neg hbad] at hre
  refine .go ?_; repeat constructor
  refine EL.cutX (X := Unit) (fun _ => [(1, Pv g1 0), (25, .bool (decide (a.kind ≠ 3 ∨ a.re = [])))]) (fun _ => HA.blk g1 (.cells (adC a).toArray 52) :: []) ?_ (fun _ => ?_)
  · refine .go ?_; repeat constructor
    refine EL.fieldAddr rfl rfl rfl rfl rfl rfl rfl rfl ?_
    (apply EL.loadB; exact rfl; exact rfl; exact rfl; exact rfl; exact rfl; (case hm => repeat constructor); exact rfl)
    refine EL.neqI rfl rfl rfl rfl ?_
    refine EL.move rfl rfl rfl ?_
    first | refine EL.splitD (d := 29) rfl (fun hp29 => ?_) (fun hp29 => ?_) | refine EL.splitN (d := 29) rfl (fun hp29 => ?_) (fun hp29 => ?_) | refine EL.splitB (d := 29) rfl (fun hp29 => ?_) (fun hp29 => ?_)
    · refine EL.pass rfl rfl rfl ?_
      refine EL.pass rfl rfl rfl ?_
      refine EL.pass rfl rfl rfl ?_
      refine EL.pickT rfl rfl rfl rfl ?_
      refine EL.assign rfl rfl rfl ?_
      exact EL.endX () ⟨rfl, getA rfl (congrArg Value.bool (by rw [Bool.eq_iff_iff]; simp_all)), trivial⟩ (.i (by repeat constructor))
    · refine EL.fieldAddr rfl rfl rfl rfl rfl rfl rfl rfl ?_
      (apply EL.loadB; exact rfl; exact rfl; exact rfl; exact rfl; exact rfl; (case hm => repeat constructor); exact rfl)
      refine EL.eqlS rfl rfl rfl rfl ?_
      refine EL.pickF rfl rfl rfl rfl ?_
      refine EL.assign rfl rfl rfl ?_
      exact EL.endX () ⟨rfl, getA rfl (congrArg Value.bool (by rw [Bool.eq_iff_iff]; simp_all)), trivial⟩ (.i (by repeat constructor))
  refine ES.condD rfl (fun hno => ?_) (fun hyes => ?_)
  · rw [if_pos hno] at hre
    have hn : ¬ hasM a := fun h => by
      obtain ⟨h1, h2, _⟩ := h
      rcases hno with h | h
      · exact h h1
      · exact h2 h
    refine .go ?_; repeat constructor
    refine EL.assign rfl rfl rfl ?_
    refine EL.assign rfl rfl rfl ?_
    refine .go ?_; repeat constructor
    exact PX.ret rfl Tryz.results50 (.cons (.tmp rfl) (.cons (.tmp rfl) .nil)) (fun w hs => ⟨⟨none, fun h => absurd h hn, fun _ => rfl⟩, by rw [hre]; rfl, hs.ent (.i (by repeat constructor))⟩)
  rw [if_neg hyes] at hre
  have hk : a.kind = 3 ∧ a.re ≠ [] := by
    constructor
    · exact Decidable.byContradiction fun h => hyes (.inl h)
    · exact fun h => hyes (.inr h)
  by_cases hp : (parseM a.re).e = 0
  · rw [hp] at hre
    refine .go ?_; repeat constructor
    refine EL.fieldAddr rfl rfl rfl rfl rfl rfl rfl rfl ?_
    (apply EL.loadB; exact rfl; exact rfl; exact rfl; exact rfl; exact rfl; (case hm => repeat constructor); exact rfl)
    (refine EL.callXw rfl rfl rfl ent10 rfl (fun w hs => newOk_c a.re hp ha w (GR.sat hG hs)) ?_; intro gm)
    refine EL.move rfl rfl rfl ?_
    refine EL.extract rfl rfl rfl rfl ?_
    refine EL.extract rfl rfl rfl rfl ?_
    (refine EL.alloc rfl rfl rfl ?_; intro g5)
    refine EL.assign rfl rfl rfl ?_
    (apply EL.storeAll; exact rfl; exact rfl; exact rfl; exact rfl; exact rfl; (case p => repeat constructor); exact rfl; (case h1 => exact (by first | rfl | exact all1 rfl | (intro u hu; simp only [List.mem_cons, List.not_mem_nil, or_false] at hu; rcases hu with rfl | rfl | rfl | rfl <;> rfl) | (intro u hu; simp at hu; rcases hu with rfl | rfl | rfl | rfl <;> rfl) | (intro u hu; simp at hu; rcases hu with rfl | rfl | rfl <;> rfl) | (intro u hu; simp at hu; rcases hu with rfl | rfl <;> rfl) | (intro u hu; simp at hu; obtain ⟨_, _, rfl⟩ := hu; rfl))))
    refine .go ?_; repeat constructor
    refine .g0 ?_; repeat constructor
    refine ES.draw (X := Unit) (fun _ => [(2, Pv gm 0), (3, Iv 0)]) (fun _ => MB gm a.re (meOf a.re) 0 :: []) (HA.blk g5 (.cells #[Iv 0, Iv 0] 33) :: []) mixed (.i (by repeat constructor)) ?_ (fun _ => ?_)
    · refine ED.take 0 rfl (by decide +kernel) CutX.no_panic (by decide +kernel) rfl rfl rfl (RV.move rfl) ?_
      refine ED.take 1 rfl (by decide +kernel) CutX.no_panic (by decide +kernel) rfl rfl rfl (RV.fieldAddr rfl rfl rfl rfl rfl rfl) ?_
      refine ED.take 2 rfl (by decide +kernel) CutX.no_panic (by decide +kernel) rfl rfl rfl (RV.loadB rfl rfl rfl (by repeat constructor) rfl) ?_
      refine ED.take 3 rfl (by decide +kernel) CutX.no_panic (by decide +kernel) rfl rfl rfl (RV.assign rfl) ?_
      refine ED.take 4 rfl (by decide +kernel) CutX.no_panic (by decide +kernel) rfl rfl rfl (RV.assign rfl) ?_
      refine ED.done (by decide +kernel) ?_
      exact PX.cutX () ⟨rfl, rfl, trivial⟩ (.i (by repeat constructor))
    refine .go ?_; repeat constructor
    exact PX.ret rfl Tryz.results50 (.cons (.tmp rfl) (.cons (.tmp rfl) .nil)) (fun w hs => ⟨⟨some (gm, a.re), fun _ => ⟨gm, rfl⟩, fun h => absurd ⟨hk.1, hk.2, hp⟩ h⟩, by rw [hre]; rfl, hs.ent (.i (by repeat constructor))⟩)
  · have hn : ¬ hasM a := fun h => hp h.2.2
    refine .go ?_; repeat constructor
    refine EL.fieldAddr rfl rfl rfl rfl rfl rfl rfl rfl ?_
    (apply EL.loadB; exact rfl; exact rfl; exact rfl; exact rfl; exact rfl; (case hm => repeat constructor); exact rfl)
    (refine EL.callPw rfl rfl rfl ent10 rfl (fun w hs => newBad_c a.re hp ha w (GR.sat hG hs)) ?_)
    refine EL.move rfl rfl rfl ?_
    refine EL.extract rfl rfl rfl rfl ?_
    refine EL.extract rfl rfl rfl rfl ?_
    (refine EL.alloc rfl rfl rfl ?_; intro g5)
    refine EL.assign rfl rfl rfl ?_
    (apply EL.storeAll; exact rfl; exact rfl; exact rfl; exact rfl; exact rfl; (case p => repeat constructor); exact rfl; (case h1 => exact (by first | rfl | exact all1 rfl | (intro u hu; simp only [List.mem_cons, List.not_mem_nil, or_false] at hu; rcases hu with rfl | rfl | rfl | rfl <;> rfl) | (intro u hu; simp at hu; rcases hu with rfl | rfl | rfl | rfl <;> rfl) | (intro u hu; simp at hu; rcases hu with rfl | rfl | rfl <;> rfl) | (intro u hu; simp at hu; rcases hu with rfl | rfl <;> rfl) | (intro u hu; simp at hu; obtain ⟨_, _, rfl⟩ := hu; rfl))))
    refine .go ?_; repeat constructor
    refine .g0 ?_; repeat constructor
    refine ES.draw (X := Unit) (fun _ => [(2, .pointer none), (3, Iv (parseM a.re).e)]) (fun _ => []) (HA.blk g5 (.cells #[Iv (parseM a.re).e, Iv ((parseM a.re).at_ : Nat)] 33) :: []) mixed (.i (by repeat constructor)) ?_ (fun _ => ?_)
    · refine ED.take 0 rfl (by decide +kernel) CutX.no_panic (by decide +kernel) rfl rfl rfl (RV.move rfl) ?_
      refine ED.take 1 rfl (by decide +kernel) CutX.no_panic (by decide +kernel) rfl rfl rfl (RV.fieldAddr rfl rfl rfl rfl rfl rfl) ?_
      refine ED.take 2 rfl (by decide +kernel) CutX.no_panic (by decide +kernel) rfl rfl rfl (RV.loadB rfl rfl rfl (by repeat constructor) rfl) ?_
      refine ED.take 3 rfl (by decide +kernel) CutX.no_panic (by decide +kernel) rfl rfl rfl (RV.assign rfl) ?_
      refine ED.take 4 rfl (by decide +kernel) CutX.no_panic (by decide +kernel) rfl rfl rfl (RV.assign rfl) ?_
      refine ED.done (by decide +kernel) ?_
      exact PX.cutX () ⟨rfl, rfl, trivial⟩ (.i (by repeat constructor))
    refine .go ?_; repeat constructor
    exact PX.ret rfl Tryz.results50 (.cons (.tmp rfl) (.cons (.tmp rfl) .nil)) (fun w hs => ⟨⟨none, fun h => absurd h hn, fun _ => rfl⟩, by rw [hre]; rfl, hs.ent (.i (by repeat constructor))⟩)
end Go.Proofs.YtblpgpgbnlhjlaaGreat
namespace Go.Proofs.YtblpgpgbnlhjlaaGreat.Sl
open Go Go.RowKit
set_option linter.unusedVariables false
set_option linter.unusedSimpArgs false
section yieldsX
variable {C : Cx} {all : Array Oper} {ops : List Oper} {Q : Qt} {E : Env} {H H' R : List HA} {d ty : Nat} {pos : String} {af : Array Edge} {gd : Option (Nat × Bool)}
end yieldsX
section rangesX
variable {C : Cx} {cs : List Code} {Q : Qt} {E E' : Env} {H H' H1 R : List HA}
end rangesX
end Go.Proofs.YtblpgpgbnlhjlaaGreat.Sl
namespace Go.Proofs.YtblpgpgbnlhjlaaGreat
open Go Go.RowKit Sl
set_option maxRecDepth 100000
set_option maxHeartbeats 8000000
set_option linter.unusedVariables false
set_option linter.unusedSimpArgs false
attribute [local irreducible] ES EL PX wps
end Go.Proofs.YtblpgpgbnlhjlaaGreat
namespace Go.Proofs.YtblpgpgbnlhjlaaGreat
open Go Go.RowKit Sl
set_option maxRecDepth 100000
set_option maxHeartbeats 8000000
set_option linter.unusedVariables false
set_option linter.unusedSimpArgs false
attribute [local irreducible] ES EL PX wps
end Go.Proofs.YtblpgpgbnlhjlaaGreat
namespace Go.Proofs.YtblpgpgbnlhjlaaGreat
open Go Go.RowKit Sl
set_option maxRecDepth 100000
set_option maxHeartbeats 8000000
set_option linter.unusedVariables false
set_option linter.unusedSimpArgs false
attribute [local irreducible] ES EL PX wps
end Go.Proofs.YtblpgpgbnlhjlaaGreat
namespace Go.Proofs.YtblpgpgbnlhjlaaGreat
open Go Go.RowKit Sl
set_option maxRecDepth 100000
set_option maxHeartbeats 8000000
set_option linter.unusedVariables false
set_option linter.unusedSimpArgs false
attribute [local irreducible] ES EL PX wps
def okB (n : Nat) : Bool := (decide (48 ≤ n) && decide (n ≤ 57)) || (decide (65 ≤ n) && decide (n ≤ 90)) || (decide (97 ≤ n) && decide (n ≤ 122)) || decide (128 ≤ n)
def testB (n : Nat) : Bool :=
  match (parseM [UInt8.ofNat n]).tree with
  | .cat [.byte S] => decide ((parseM [UInt8.ofNat n]).e = 0) && (measM (parseM [UInt8.ofNat n]).tree).back == false && decide ((measM (parseM [UInt8.ofNat n]).tree).grp = 0) && (List.range 256).all fun d => hasS S d == decide (d = n)
  | _ => false
theorem testB_all : ∀ n : Fin 256, okB n.val = true → testB n.val = true := by decide +kernel
theorem byte_tree (c : UInt8) (h : okB c.toNat = true) : ∃ S, (parseM [c]).tree = .cat [.byte S] ∧ (parseM [c]).e = 0 ∧ (measM (parseM [c]).tree).back = false ∧ (measM (parseM [c]).tree).grp = 0 ∧ ∀ d : UInt8, hasS S d.toNat = true ↔ d = c := by
  have ht := testB_all ⟨c.toNat, c.toNat_lt⟩ h
  unfold testB at ht
  rw [show UInt8.ofNat c.toNat = c by simp] at ht
  split at ht
  · rename_i S hS
    simp only [Bool.and_eq_true, decide_eq_true_eq, beq_iff_eq, List.all_eq_true, List.mem_range] at ht
    obtain ⟨⟨⟨h1, h2⟩, h3⟩, h4⟩ := ht
    refine ⟨S, hS, h1, h2, h3, fun d => ?_⟩
    have h5 := h4 d.toNat d.toNat_lt
    rw [h5, decide_eq_true_eq]
    exact ⟨fun e => UInt8.toNat_inj.1 e, fun e => by rw [e]⟩
  · cases ht
theorem hit_one {s : List UInt8} {S : BS} {c : UInt8} (hS : ∀ d : UInt8, hasS S d.toNat = true ↔ d = c) {i j : Nat} : HitL s [.cat [.byte S]] i j ↔ (i < s.length ∧ s.getD i 0 = c) ∧ j = i + 1 := by
  rw [hitL_one, hit_cat, hitL_one, hit_byte]
  exact and_congr (and_congr Iff.rfl (hS _)) Iff.rfl
theorem one_some {s : List UInt8} (hs : s.length ≤ 1024) {c : UInt8} (h : okB c.toNat = true) {p q : Nat} (hpq : p ≤ q) (hq : q < s.length) (hc : s.getD q 0 = c) (hno : ∀ k, p ≤ k → k < q → s.getD k 0 ≠ c) :
    ∃ F m, setM F [c] s (p : Nat) = some m ∧ m.ok = true ∧ m.e = 0 ∧ m.spans = [((q : Int), ((q + 1 : Nat) : Int))] := by
  obtain ⟨S, ht, he, hb, hg, hS⟩ := byte_tree c h
  have hbest : Best s (.cat [.byte S]) p q (q + 1) := ⟨hpq, by omega, by omega, (hit_one hS).2 ⟨⟨hq, hc⟩, rfl⟩, fun b' h1 _ h3 => by have := ((hit_one hS).1 h3).2; omega, fun a' h1 h2 b' h3 => hno a' h1 h2 ((hit_one hS).1 h3).1.2⟩
  obtain ⟨m, e1, e2, e3, e4⟩ := set_best (g := 0) (z := [((q : Int), ((q + 1 : Nat) : Int))]) hs he hb (by rw [hg]; rfl) (by omega) ht (by simp [costL, RE.cost]) hbest (.cat (.last .byte)) (by omega)
  exact ⟨_, m, e1, e2, e3, e4⟩
theorem one_none {s : List UInt8} (hs : s.length ≤ 1024) {c : UInt8} (h : okB c.toNat = true) {p : Nat} (hp : p ≤ s.length) (hno : ∀ k, p ≤ k → k < s.length → s.getD k 0 ≠ c) :
    ∃ F m, setM F [c] s (p : Nat) = some m ∧ m.ok = false ∧ m.e = 0 ∧ m.spans = [] := by
  obtain ⟨S, ht, he, hb, hg, hS⟩ := byte_tree c h
  obtain ⟨m, e1, e2, e3, e4⟩ := set_no (g := 0) hs hp he hb (by rw [hg]; rfl) (by omega) ht (by simp [costL, RE.cost]) (fun a h1 h2 b h3 => hno a h1 ((hit_one hS).1 h3).1.1 ((hit_one hS).1 h3).1.2)
  exact ⟨_, m, e1, e2, e3, e4⟩
end Go.Proofs.YtblpgpgbnlhjlaaGreat
namespace Go.Proofs.YtblpgpgbnlhjlaaGreat
open Go Go.RowKit Sl
set_option maxRecDepth 100000
set_option maxHeartbeats 8000000
set_option linter.unusedVariables false
set_option linter.unusedSimpArgs false
attribute [local irreducible] ES EL PX wps
end Go.Proofs.YtblpgpgbnlhjlaaGreat
namespace Go.Proofs.YtblpgpgbnlhjlaaGreat
open Go Go.RowKit Sl
set_option maxRecDepth 100000
set_option maxHeartbeats 8000000
set_option linter.unusedVariables false
set_option linter.unusedSimpArgs false
attribute [local irreducible] ES EL PX wps
abbrev SBk (g m : Nat) (u : Bool) (v : Value) (k : Nat) : HA := HA.blk g (.cells #[.map (some m), .pointer (if u then some ⟨g, 1, none⟩ else none), v, Iv k] 121)
abbrev SRB (g m : Nat) (u : Bool) (ad : Option Addr) (cap : Nat) (bs : List UInt8) (k : Nat) : List HA := [SBk g m u (.slice ad bs.length cap) k, HA.buf (.slice ad bs.length cap) 5 bs.length (bs.map Uv)]
theorem ext_noEscapeO (g o : Nat) (w : World) : (callFunc 105 #[Pv g o]).run Tryz.prog w = .ok (.value (Pv g o)) w := by
  rw [run_callFunc_extern (e := Extern.AbiNoEscape.same) Tryz.func105 (by kernel_rfl) (by kernel_rfl) (by kernel_rfl) (by kernel_rfl)]
  rfl
theorem copyCheck_s (g m : Nat) (u : Bool) (v : Value) (k : Nat) : Mut Tryz.prog 72 #[Pv g 1] [SBk g m u v k] (fun _ : Unit => .tuple #[]) (fun _ => [SBk g m true v k]) := by
  intro w0 B R w h
  replace h : Sat w0 B (SBk g m u v k :: R) w := h
  refine calls_of_ES TB Tryz.func72 rfl _ Tryz.ntmps72 rfl h ?_
  cases u
  · refine .go ?_; repeat constructor
    refine EL.move rfl rfl rfl ?_
    refine EL.nilCheck rfl rfl rfl ?_
    refine EL.fieldAddr rfl rfl rfl rfl rfl rfl rfl rfl ?_
    (apply EL.loadB; exact rfl; exact rfl; exact rfl; exact rfl; exact rfl; (case hm => repeat constructor); exact rfl)
    refine EL.eqlPn (a := none) rfl rfl rfl rfl rfl rfl ?_
    refine .go ?_; repeat constructor
    refine ES.condT rfl ?_
    refine .go ?_; repeat constructor
    refine EL.move rfl rfl rfl ?_
    refine EL.move rfl rfl rfl ?_
    refine EL.ofRV (RV.toUnsafeO rfl rfl rfl rfl rfl rfl (by decide) (by repeat constructor) (by simp)) rfl rfl rfl (by intro c h; cases h) ?_
    refine EL.callE rfl rfl rfl rfl (ext_noEscapeO g 1) ?_
    refine EL.ofRV (RV.fromUnsafeO rfl rfl rfl rfl rfl rfl (by repeat constructor) (by kernel_rfl)) rfl rfl rfl (by intro c h; cases h) ?_
    refine EL.nilCheck rfl rfl rfl ?_
    refine EL.fieldAddr rfl rfl rfl rfl rfl rfl rfl rfl ?_
    (apply EL.storeB; exact rfl; exact rfl; exact rfl; exact rfl; exact rfl; exact rfl; (case p => repeat constructor); exact (by first | decide | exact Nat.le_of_ble_eq_true rfl | simp))
    refine .go ?_; repeat constructor
    exact PX.end rfl Tryz.results72 .nil (fun w hs => ⟨(), rfl, hs.ent (.i (by repeat constructor))⟩)
  · refine .go ?_; repeat constructor
    refine EL.move rfl rfl rfl ?_
    refine EL.nilCheck rfl rfl rfl ?_
    refine EL.fieldAddr rfl rfl rfl rfl rfl rfl rfl rfl ?_
    (apply EL.loadB; exact rfl; exact rfl; exact rfl; exact rfl; exact rfl; (case hm => repeat constructor); exact rfl)
    refine EL.eqlPn (a := some ⟨g, 1, none⟩) rfl rfl rfl rfl rfl rfl ?_
    refine .go ?_; repeat constructor
    refine ES.condF rfl ?_
    refine .go ?_; repeat constructor
    refine EL.move rfl rfl rfl ?_
    refine EL.nilCheck rfl rfl rfl ?_
    refine EL.fieldAddr rfl rfl rfl rfl rfl rfl rfl rfl ?_
    (apply EL.loadB; exact rfl; exact rfl; exact rfl; exact rfl; exact rfl; (case hm => repeat constructor); exact rfl)
    refine EL.move rfl rfl rfl ?_
    refine EL.ofRV (RV.neqPs rfl rfl rfl rfl rfl) rfl rfl rfl (by intro c h; cases h) ?_
    refine .go ?_; repeat constructor
    refine ES.condF rfl ?_
    refine .go ?_; repeat constructor
    exact PX.end rfl Tryz.results72 .nil (fun w hs => ⟨(), rfl, hs.ent (.i (by repeat constructor))⟩)
theorem writeString_s (g m : Nat) (u : Bool) (ad : Option Addr) (cap : Nat) (bs l : List UInt8) (k : Nat) (hb : bs.length + l.length ≤ 140737488355328) : Mut Tryz.prog 49 #[Pv g 1, Sv l] (SRB g m u ad cap bs k) (fun _ : QA => .tuple #[Iv l.length, .nilIface]) (fun x => SRB g m true x.1 x.2 (bs ++ l) k) := by
  intro w0 B R w h
  replace h : Sat w0 B (SBk g m u (.slice ad bs.length cap) k :: HA.buf (.slice ad bs.length cap) 5 bs.length (bs.map Uv) :: R) w := h
  refine calls_of_ES TB Tryz.func49 rfl _ Tryz.ntmps49 rfl h ?_
  refine .go ?_; repeat constructor
  refine EL.assign rfl rfl rfl ?_
  refine EL.assign rfl rfl rfl ?_
  refine .go ?_; repeat constructor
  refine EL.move rfl rfl rfl ?_
  refine EL.callM1 rfl rfl rfl ent72 rfl (copyCheck_s g m u (.slice ad bs.length cap) k) (by repeat constructor) ?_
  refine .go ?_; repeat constructor
  have e1 : (bs ++ l).length = bs.length + l.length := by simp
  have e2 : (bs ++ l).map Uv = bs.map Uv ++ l.map Uv := by simp
  refine .go ?_; repeat constructor
  refine EL.move rfl rfl rfl ?_
  refine EL.move rfl rfl rfl ?_
  refine EL.nilCheck rfl rfl rfl ?_
  refine EL.fieldAddr rfl rfl rfl rfl rfl rfl rfl rfl ?_
  (apply EL.loadB; exact rfl; exact rfl; exact rfl; exact rfl; exact rfl; (case hm => repeat constructor); exact rfl)
  refine EL.move rfl rfl rfl ?_
  (refine EL.appendB rfl rfl rfl rfl rfl rfl rfl rfl rfl rfl rfl rfl (by repeat constructor) hb ?_; intro ad2 cap2)
  refine EL.nilCheck rfl rfl rfl ?_
  refine EL.fieldAddr rfl rfl rfl rfl rfl rfl rfl rfl ?_
  (apply EL.storeB; exact rfl; exact rfl; exact rfl; exact rfl; exact rfl; exact rfl; (case p => repeat constructor); exact (by first | decide | exact Nat.le_of_ble_eq_true rfl | simp))
  refine .go ?_; repeat constructor
  refine EL.move rfl rfl rfl ?_
  refine EL.lenS rfl rfl rfl rfl rfl ?_
  refine EL.assign rfl rfl rfl ?_
  refine EL.assign rfl rfl rfl ?_
  refine .go ?_; repeat constructor
  exact PX.ret rfl Tryz.results49 (.cons (.tmp rfl) (.cons (.tmp rfl) .nil)) (fun w hs => ⟨(ad2, cap2), rfl, by
    show Sat w0 B (SBk g m true (.slice ad2 (bs ++ l).length cap2) k :: HA.buf (.slice ad2 (bs ++ l).length cap2) 5 (bs ++ l).length ((bs ++ l).map Uv) :: R) w
    rw [e1, e2]
    exact hs.ent (.i (by repeat constructor))⟩)
theorem bstring_s (g m : Nat) (u : Bool) (ad : Option Addr) (cap : Nat) (bs : List UInt8) (k : Nat) (hb : bs.length ≤ 9223372036854775807) : Mut Tryz.prog 57 #[Pv g 1] (SRB g m u ad cap bs k) (fun _ : Unit => Sv bs) (fun _ => SRB g m u ad cap bs k) := by
  intro w0 B R w h
  replace h : Sat w0 B (SBk g m u (.slice ad bs.length cap) k :: HA.buf (.slice ad bs.length cap) 5 bs.length (bs.map Uv) :: R) w := h
  refine calls_of_ES TB Tryz.func57 rfl _ Tryz.ntmps57 rfl h ?_
  refine .go ?_; repeat constructor
  refine EL.assign rfl rfl rfl ?_
  repeat (first | apply EL.nil | apply ES.seq | apply ES.skip)
  refine ES.draw (X := Unit) (fun _ => [(2, Sv bs)]) (fun _ => SBk g m u (.slice ad bs.length cap) k :: HA.buf (.slice ad bs.length cap) 5 bs.length (bs.map Uv) :: R) [SBk g m u (.slice ad bs.length cap) k, HA.buf (.slice ad bs.length cap) 5 bs.length (bs.map Uv)] mixed (.i (by repeat constructor)) ?_ (fun _ => ?_)
  · refine ED.take 0 rfl (by decide +kernel) CutX.no_panic (by decide +kernel) rfl rfl rfl (RV.move rfl) ?_
    refine ED.take 1 rfl (by decide +kernel) CutX.no_panic (by decide +kernel) rfl rfl rfl (RV.nilCheck rfl) ?_
    refine ED.take 2 rfl (by decide +kernel) CutX.no_panic (by decide +kernel) rfl rfl rfl (RV.fieldAddr rfl rfl rfl rfl rfl rfl) ?_
    refine ED.take 3 rfl (by decide +kernel) CutX.no_panic (by decide +kernel) rfl rfl rfl (RV.loadB rfl rfl rfl (by repeat constructor) rfl) ?_
    refine ED.take 4 rfl (by decide +kernel) CutX.no_panic (by decide +kernel) rfl rfl rfl (RV.sliceData rfl (by repeat constructor)) ?_
    refine ED.take 5 rfl (by decide +kernel) CutX.no_panic (by decide +kernel) rfl rfl rfl (RV.move rfl) ?_
    refine ED.take 6 rfl (by decide +kernel) CutX.no_panic (by decide +kernel) rfl rfl rfl (RV.nilCheck rfl) ?_
    refine ED.take 7 rfl (by decide +kernel) CutX.no_panic (by decide +kernel) rfl rfl rfl (RV.fieldAddr rfl rfl rfl rfl rfl rfl) ?_
    refine ED.take 8 rfl (by decide +kernel) CutX.no_panic (by decide +kernel) rfl rfl rfl (RV.loadB rfl rfl rfl (by repeat constructor) rfl) ?_
    refine ED.take 9 rfl (by decide +kernel) CutX.no_panic (by decide +kernel) rfl rfl rfl (RV.lenL rfl rfl rfl) ?_
    refine ED.loud 10 rfl (by decide +kernel) ?_
    refine EL.unsafeStr rfl rfl rfl rfl rfl (by kernel_rfl) rfl (by repeat constructor) hb ?_
    refine ED.next (.i (by repeat constructor)) ?_
    refine ED.take 11 rfl (by decide +kernel) CutX.no_panic (by decide +kernel) rfl rfl rfl (RV.assign rfl) ?_
    refine ED.done (by decide +kernel) ?_
    exact PX.cutX () ⟨rfl, trivial⟩ (.i (by repeat constructor))
  refine .go ?_; repeat constructor
  exact PX.ret rfl Tryz.results57 (.cons (.tmp rfl) .nil) (fun w hs => ⟨(), rfl, hs⟩)
theorem storeNew_c (w : World) : Pure Tryz.prog 21 #[.slice none 0 0] (fun x : Nat × Nat => .tuple #[Pv x.1 0, Iv 0]) (fun x => SRB x.1 x.2 false none 0 [] 0) w := by
  refine calls_of_ES TB Tryz.func21 rfl _ Tryz.ntmps21 rfl (Sat.start w) ?_
  refine .go ?_; repeat constructor
  refine EL.assign rfl rfl rfl ?_
  refine EL.assign rfl rfl rfl ?_
  refine .go ?_; repeat constructor
  refine EL.move rfl rfl rfl ?_
  refine EL.lenL rfl rfl rfl rfl rfl ?_
  refine EL.gtr rfl rfl rfl rfl ?_
  refine .go ?_; repeat constructor
  refine ES.condD rfl (fun h => absurd h (by decide)) (fun _ => ?_)
  refine .go ?_; repeat constructor
  (refine EL.makeMap0 rfl rfl ?_; intro gm)
  refine EL.buildS #[.map (some gm), .pointer none, .slice none 0 0, Iv 0] rfl rfl rfl rfl rfl (by kernel_rfl) rfl ?_
  (refine EL.box rfl rfl rfl ?_; intro g14)
  refine EL.assign rfl rfl rfl ?_
  refine .go ?_; repeat constructor
  refine EL.assign rfl rfl rfl ?_
  refine .go ?_; repeat constructor
  refine EL.move rfl rfl rfl ?_
  refine EL.lenL rfl rfl rfl rfl rfl ?_
  refine EL.move rfl rfl rfl ?_
  refine .go ?_; repeat constructor
  refine ES.loop (σ := Unit) (fun _ => True) (fun _ => [(4, Pv g14 0), (17, Iv 0), (16, Iv 0)]) (fun _ => [SBk g14 gm false (.slice none 0 0) 0]) (fun _ => 0) () trivial ⟨rfl, rfl, rfl, trivial⟩ (.i (by repeat constructor)) ?_
  intro _ _
  refine .go ?_; repeat constructor
  refine EL.lss rfl rfl rfl rfl ?_
  refine .go ?_; repeat constructor
  refine ES.condD rfl (fun h => absurd h (by decide)) (fun _ => ?_)
  refine ES.nilBuf 5 ?_
  refine .go ?_; repeat constructor
  refine EL.move rfl rfl rfl ?_
  refine EL.assign rfl rfl rfl ?_
  refine EL.assign rfl rfl rfl ?_
  refine .go ?_; repeat constructor
  exact PX.ret rfl Tryz.results21 (.cons (.tmp rfl) (.cons (.tmp rfl) .nil)) (fun w hs => ⟨(g14, gm), rfl, hs.ent (.i (by repeat constructor))⟩)
theorem room_y (g m : Nat) (u : Bool) (v : Value) (k n : Nat) (hk : k + n ≤ 32768) : Mut Tryz.prog 56 #[Pv g 0, Iv (n : Nat)] [SBk g m u v k] (fun _ : Unit => Iv 0) (fun _ => [SBk g m u v (k + n)]) := by
  intro w0 B R w h
  replace h : Sat w0 B (SBk g m u v k :: R) w := h
  refine calls_of_ES TB Tryz.func56 rfl _ Tryz.ntmps56 rfl h ?_
  refine .go ?_; repeat constructor
  refine EL.assign rfl rfl rfl ?_
  refine .go ?_; repeat constructor
  refine EL.move rfl rfl rfl ?_
  refine EL.move rfl rfl rfl ?_
  refine EL.nilCheck rfl rfl rfl ?_
  refine EL.fieldAddr rfl rfl rfl rfl rfl rfl rfl rfl ?_
  (apply EL.loadB; exact rfl; exact rfl; exact rfl; exact rfl; exact rfl; (case hm => repeat constructor); exact rfl)
  refine EL.subN (m := 32768) rfl rfl rfl rfl rfl (by omega) (by omega) ?_
  refine EL.gtr rfl rfl rfl rfl ?_
  refine .go ?_; repeat constructor
  refine ES.condD rfl (fun h => ?_) (fun _ => ?_)
  · omega
  refine .go ?_; repeat constructor
  refine EL.move rfl rfl rfl ?_
  refine EL.nilCheck rfl rfl rfl ?_
  refine EL.fieldAddr rfl rfl rfl rfl rfl rfl rfl rfl ?_
  (apply EL.loadB; exact rfl; exact rfl; exact rfl; exact rfl; exact rfl; (case hm => repeat constructor); exact rfl)
  refine EL.move rfl rfl rfl ?_
  refine EL.addN rfl rfl rfl rfl rfl (by omega) ?_
  refine EL.nilCheck rfl rfl rfl ?_
  refine EL.fieldAddr rfl rfl rfl rfl rfl rfl rfl rfl ?_
  (apply EL.storeB; exact rfl; exact rfl; exact rfl; exact rfl; exact rfl; exact rfl; (case p => repeat constructor); exact (by first | decide | exact Nat.le_of_ble_eq_true rfl | simp))
  refine .go ?_; repeat constructor
  refine EL.assign rfl rfl rfl ?_
  refine .go ?_; repeat constructor
  exact PX.ret rfl Tryz.results56 (.cons (.tmp rfl) .nil) (fun w hs => ⟨(), rfl, hs.ent (.i (by repeat constructor))⟩)
theorem room_n (g m : Nat) (u : Bool) (v : Value) (k n : Nat) (hk0 : k ≤ 32768) (hk : 32768 < k + n) : Mut Tryz.prog 56 #[Pv g 0, Iv (n : Nat)] [SBk g m u v k] (fun _ : Unit => Iv 16) (fun _ => [SBk g m u v k]) := by
  intro w0 B R w h
  replace h : Sat w0 B (SBk g m u v k :: R) w := h
  refine calls_of_ES TB Tryz.func56 rfl _ Tryz.ntmps56 rfl h ?_
  refine .go ?_; repeat constructor
  refine EL.assign rfl rfl rfl ?_
  refine .go ?_; repeat constructor
  refine EL.move rfl rfl rfl ?_
  refine EL.move rfl rfl rfl ?_
  refine EL.nilCheck rfl rfl rfl ?_
  refine EL.fieldAddr rfl rfl rfl rfl rfl rfl rfl rfl ?_
  (apply EL.loadB; exact rfl; exact rfl; exact rfl; exact rfl; exact rfl; (case hm => repeat constructor); exact rfl)
  refine EL.subN (m := 32768) rfl rfl rfl rfl rfl (by omega) (by omega) ?_
  refine EL.gtr rfl rfl rfl rfl ?_
  refine .go ?_; repeat constructor
  refine ES.condD rfl (fun _ => ?_) (fun h => ?_)
  · refine .go ?_; repeat constructor
    refine EL.assign rfl rfl rfl ?_
    refine .go ?_; repeat constructor
    exact PX.ret rfl Tryz.results56 (.cons (.tmp rfl) .nil) (fun w hs => ⟨(), rfl, hs.ent (.i (by repeat constructor))⟩)
  · omega
theorem print_y (g m : Nat) (u : Bool) (ad : Option Addr) (cap : Nat) (bs l : List UInt8) (hk : bs.length + l.length ≤ 32768) : Mut Tryz.prog 30 #[Pv g 0, Sv l] (SRB g m u ad cap bs bs.length) (fun _ : QA => Iv 0) (fun x => SRB g m true x.1 x.2 (bs ++ l) (bs ++ l).length) := by
  intro w0 B R w h
  replace h : Sat w0 B (SBk g m u (.slice ad bs.length cap) bs.length :: HA.buf (.slice ad bs.length cap) 5 bs.length (bs.map Uv) :: R) w := h
  refine calls_of_ES TB Tryz.func30 rfl _ Tryz.ntmps30 rfl h ?_
  refine .go ?_; repeat constructor
  refine EL.assign rfl rfl rfl ?_
  refine .go ?_; repeat constructor
  refine EL.move rfl rfl rfl ?_
  refine EL.eqlPn rfl rfl rfl rfl rfl rfl ?_
  refine EL.move rfl rfl rfl ?_
  refine EL.rew (d := 8) (v' := .bool false) rfl (by first | rfl | (decide) | (simp)) ?_
  refine EL.move rfl rfl rfl ?_
  refine EL.nilCheck rfl rfl rfl ?_
  refine EL.fieldAddr rfl rfl rfl rfl rfl rfl rfl rfl ?_
  (apply EL.loadB; exact rfl; exact rfl; exact rfl; exact rfl; exact rfl; (case hm => repeat constructor); exact rfl)
  refine EL.eqlMn rfl rfl rfl rfl rfl rfl ?_
  refine EL.pickF rfl rfl rfl rfl ?_
  refine .go ?_; repeat constructor
  refine ES.condF rfl ?_
  refine .go ?_; repeat constructor
  refine EL.move rfl rfl rfl ?_
  refine EL.move rfl rfl rfl ?_
  refine EL.lenS rfl rfl rfl rfl rfl ?_
  refine EL.callM1 rfl rfl rfl ent56 rfl (room_y g m u (.slice ad bs.length cap) bs.length l.length hk) (by repeat constructor) ?_
  refine EL.assign rfl rfl rfl ?_
  refine .go ?_; repeat constructor
  refine .go ?_; repeat constructor
  refine EL.move rfl rfl rfl ?_
  refine EL.neqI rfl rfl rfl rfl ?_
  refine .go ?_; repeat constructor
  refine ES.condF rfl ?_
  refine .go ?_; repeat constructor
  refine EL.move rfl rfl rfl ?_
  refine EL.nilCheck rfl rfl rfl ?_
  refine EL.fieldAddr rfl rfl rfl rfl rfl rfl rfl rfl ?_
  refine EL.move rfl rfl rfl ?_
  (refine EL.callM rfl rfl rfl ent49 rfl (writeString_s g m u ad cap bs l (bs.length + l.length) (by omega)) (by repeat constructor) ?_; rintro ⟨ad2, cap2⟩)
  refine .go ?_; repeat constructor
  refine EL.assign rfl rfl rfl ?_
  refine .go ?_; repeat constructor
  refine PX.ret rfl Tryz.results30 (.cons (.tmp rfl) .nil) (fun w hs => ⟨(ad2, cap2), rfl, ?_⟩)
  have e1 : bs.length + l.length = (bs ++ l).length := by simp
  rw [e1] at hs
  exact hs.ent (.i (by repeat constructor))
theorem print_n (g m : Nat) (u : Bool) (ad : Option Addr) (cap : Nat) (bs l : List UInt8) (hk0 : bs.length ≤ 32768) (hk : 32768 < bs.length + l.length) : Mut Tryz.prog 30 #[Pv g 0, Sv l] (SRB g m u ad cap bs bs.length) (fun _ : Unit => Iv 16) (fun _ => SRB g m u ad cap bs bs.length) := by
  intro w0 B R w h
  replace h : Sat w0 B (SBk g m u (.slice ad bs.length cap) bs.length :: HA.buf (.slice ad bs.length cap) 5 bs.length (bs.map Uv) :: R) w := h
  refine calls_of_ES TB Tryz.func30 rfl _ Tryz.ntmps30 rfl h ?_
  refine .go ?_; repeat constructor
  refine EL.assign rfl rfl rfl ?_
  refine .go ?_; repeat constructor
  refine EL.move rfl rfl rfl ?_
  refine EL.eqlPn rfl rfl rfl rfl rfl rfl ?_
  refine EL.move rfl rfl rfl ?_
  refine EL.rew (d := 8) (v' := .bool false) rfl (by first | rfl | (decide) | (simp)) ?_
  refine EL.move rfl rfl rfl ?_
  refine EL.nilCheck rfl rfl rfl ?_
  refine EL.fieldAddr rfl rfl rfl rfl rfl rfl rfl rfl ?_
  (apply EL.loadB; exact rfl; exact rfl; exact rfl; exact rfl; exact rfl; (case hm => repeat constructor); exact rfl)
  refine EL.eqlMn rfl rfl rfl rfl rfl rfl ?_
  refine EL.pickF rfl rfl rfl rfl ?_
  refine .go ?_; repeat constructor
  refine ES.condF rfl ?_
  refine .go ?_; repeat constructor
  refine EL.move rfl rfl rfl ?_
  refine EL.move rfl rfl rfl ?_
  refine EL.lenS rfl rfl rfl rfl rfl ?_
  refine EL.callM1 rfl rfl rfl ent56 rfl (room_n g m u (.slice ad bs.length cap) bs.length l.length hk0 hk) (by repeat constructor) ?_
  refine EL.assign rfl rfl rfl ?_
  refine .go ?_; repeat constructor
  refine .go ?_; repeat constructor
  refine EL.move rfl rfl rfl ?_
  refine EL.neqI rfl rfl rfl rfl ?_
  refine .go ?_; repeat constructor
  refine ES.condT rfl ?_
  refine .go ?_; repeat constructor
  refine EL.move rfl rfl rfl ?_
  refine EL.assign rfl rfl rfl ?_
  refine .go ?_; repeat constructor
  exact PX.ret rfl Tryz.results30 (.cons (.tmp rfl) .nil) (fun w hs => ⟨(), rfl, hs.ent (.i (by repeat constructor))⟩)
theorem out_c (g m : Nat) (u : Bool) (ad : Option Addr) (cap : Nat) (bs : List UInt8) (k : Nat) (hb : bs.length ≤ 9223372036854775807) : Mut Tryz.prog 31 #[Pv g 0] (SRB g m u ad cap bs k) (fun _ : Unit => Sv bs) (fun _ => SRB g m u ad cap bs k) := by
  intro w0 B R w h
  replace h : Sat w0 B (SBk g m u (.slice ad bs.length cap) k :: HA.buf (.slice ad bs.length cap) 5 bs.length (bs.map Uv) :: R) w := h
  refine calls_of_ES TB Tryz.func31 rfl _ Tryz.ntmps31 rfl h ?_
  refine .go ?_; repeat constructor
  refine EL.assign rfl rfl rfl ?_
  refine .go ?_; repeat constructor
  refine EL.move rfl rfl rfl ?_
  refine EL.eqlPn rfl rfl rfl rfl rfl rfl ?_
  refine .go ?_; repeat constructor
  refine ES.condF rfl ?_
  refine .go ?_; repeat constructor
  refine EL.move rfl rfl rfl ?_
  refine EL.nilCheck rfl rfl rfl ?_
  refine EL.fieldAddr rfl rfl rfl rfl rfl rfl rfl rfl ?_
  refine EL.callM1 rfl rfl rfl ent57 rfl (bstring_s g m u ad cap bs k hb) (by repeat constructor) ?_
  refine EL.assign rfl rfl rfl ?_
  refine .go ?_; repeat constructor
  exact PX.ret rfl Tryz.results31 (.cons (.tmp rfl) .nil) (fun w hs => ⟨(), rfl, hs.ent (.i (by repeat constructor))⟩)
theorem written_c (g m : Nat) (u : Bool) (v : Value) (k : Nat) : Mut Tryz.prog 32 #[Pv g 0] [SBk g m u v k] (fun _ : Unit => Iv (k : Nat)) (fun _ => [SBk g m u v k]) := by
  intro w0 B R w h
  replace h : Sat w0 B (SBk g m u v k :: R) w := h
  refine calls_of_ES TB Tryz.func32 rfl _ Tryz.ntmps32 rfl h ?_
  refine .go ?_; repeat constructor
  refine EL.assign rfl rfl rfl ?_
  refine .go ?_; repeat constructor
  refine EL.move rfl rfl rfl ?_
  refine EL.eqlPn rfl rfl rfl rfl rfl rfl ?_
  refine .go ?_; repeat constructor
  refine ES.condF rfl ?_
  refine .go ?_; repeat constructor
  refine EL.move rfl rfl rfl ?_
  refine EL.nilCheck rfl rfl rfl ?_
  refine EL.fieldAddr rfl rfl rfl rfl rfl rfl rfl rfl ?_
  (apply EL.loadB; exact rfl; exact rfl; exact rfl; exact rfl; exact rfl; (case hm => repeat constructor); exact rfl)
  refine EL.assign rfl rfl rfl ?_
  refine .go ?_; repeat constructor
  exact PX.ret rfl Tryz.results32 (.cons (.tmp rfl) .nil) (fun w hs => ⟨(), rfl, hs.ent (.i (by repeat constructor))⟩)
theorem topHas_c (s : List UInt8) (c : UInt8) (hl : s.length ≤ 1024) (w : World) : Pure Tryz.prog 24 #[Sv s, Uv c] (fun _ : Unit => .bool (decide (c ∈ s))) (fun _ => []) w := by
  refine calls_of_ES TB Tryz.func24 rfl _ Tryz.ntmps24 rfl (Sat.start w) ?_
  refine .go ?_; repeat constructor
  refine EL.assign rfl rfl rfl ?_
  refine .go ?_; repeat constructor
  refine EL.assign rfl rfl rfl ?_
  refine .go ?_; repeat constructor
  refine ES.loop (σ := Nat) (fun i => i ≤ s.length ∧ c ∉ s.take i) (fun i => [(0, Sv s), (1, Uv c), (5, Iv (i : Nat))]) (fun _ => []) (fun i => s.length - i) 0 ⟨Nat.zero_le _, by simp⟩ ⟨rfl, rfl, rfl, trivial⟩ (.i (by repeat constructor)) ?_
  rintro i ⟨hi, hno⟩
  refine .go ?_; repeat constructor
  refine EL.move rfl rfl rfl ?_
  refine EL.move rfl rfl rfl ?_
  refine EL.lenS rfl rfl rfl rfl rfl ?_
  refine EL.lss rfl rfl rfl rfl ?_
  refine .go ?_; repeat constructor
  refine ES.condD rfl (fun hlt => ?_) (fun hge => ?_)
  · have hlt' : i < s.length := by omega
    refine .go ?_; repeat constructor
    refine EL.move rfl rfl rfl ?_
    refine EL.move rfl rfl rfl ?_
    refine EL.indexSN rfl rfl rfl rfl rfl rfl (by omega) ?_
    refine EL.move rfl rfl rfl ?_
    refine EL.eqlI rfl rfl rfl rfl ?_
    refine .go ?_; repeat constructor
    refine ES.condD rfl (fun he => ?_) (fun he => ?_)
    · have hm : c ∈ s := by
        rw [← u8_of (s.getD i 0) c he, List.getD_eq_getElem?_getD, List.getElem?_eq_getElem hlt']
        exact List.getElem_mem _
      refine .go ?_; repeat constructor
      refine EL.assign rfl rfl rfl ?_
      refine .go ?_; repeat constructor
      exact PX.ret rfl Tryz.results24 (.cons (.tmp rfl) .nil) (fun w hs => ⟨(), by rw [decide_eq_true hm]; rfl, hs.ent (.nil _)⟩)
    · refine .go ?_; repeat constructor
      refine EL.move rfl rfl rfl ?_
      refine EL.add1 rfl rfl rfl rfl (by omega) ?_
      refine EL.assign rfl rfl rfl ?_
      refine .go ?_; repeat constructor
      refine PX.loop (i + 1) ⟨by omega, ?_⟩ (by omega) ⟨rfl, rfl, rfl, trivial⟩ (.i (by repeat constructor))
      rw [List.take_succ_eq_append_getElem hlt']
      simp only [List.mem_append, List.mem_singleton, not_or]
      refine ⟨hno, fun e => he ?_⟩
      rw [List.getD_eq_getElem?_getD, List.getElem?_eq_getElem hlt', Option.getD_some, ← e]
  · obtain rfl : i = s.length := by omega
    rw [List.take_length] at hno
    refine .go ?_; repeat constructor
    refine EL.assign rfl rfl rfl ?_
    refine .go ?_; repeat constructor
    exact PX.ret rfl Tryz.results24 (.cons (.tmp rfl) .nil) (fun w hs => ⟨(), by rw [decide_eq_false hno]; rfl, hs.ent (.nil _)⟩)
end Go.Proofs.YtblpgpgbnlhjlaaGreat
namespace Go.Proofs.YtblpgpgbnlhjlaaGreat
open Go Go.RowKit Sl
set_option maxRecDepth 100000
set_option maxHeartbeats 8000000
set_option linter.unusedVariables false
set_option linter.unusedSimpArgs false
attribute [local irreducible] ES EL PX wps
structure Chc where
  row : Rw
  a : Option Mt
  b : Option Mt
  on : Bool
def chC (c : Chc) : List Value := rwC c.row ++ [ptrV c.a, ptrV c.b, .bool c.on]
def chsC (l : List Chc) : List Value := l.flatMap chC
theorem rwsC_get : ∀ (l : List Rw) (i : Nat) (r : Rw), l[i]? = some r → ∀ j u, (rwC r)[j]? = some u → (rwsC l)[i * 7 + j]? = some u
  | [], i, r, h, _, _, _ => by simp at h
  | r' :: l, 0, r, h, j, u, hj => by
    simp only [List.getElem?_cons_zero, Option.some.injEq] at h
    subst h
    have hlt := (List.getElem?_eq_some_iff.1 hj).1
    rw [Nat.zero_mul, Nat.zero_add]
    show (rwC r' ++ rwsC l)[j]? = some u
    rw [List.getElem?_append_left hlt]; exact hj
  | r' :: l, i + 1, r, h, j, u, hj => by
    simp only [List.getElem?_cons_succ] at h
    have ih := rwsC_get l i r h j u hj
    have hl : (rwC r').length = 7 := rfl
    show (rwC r' ++ rwsC l)[(i + 1) * 7 + j]? = some u
    rw [List.getElem?_append_right (by omega), show (i + 1) * 7 + j - (rwC r').length = i * 7 + j by omega]
    exact ih
theorem rwsC_len : ∀ l : List Rw, (rwsC l).length = l.length * 7
  | [] => rfl
  | r :: l => by
    have := rwsC_len l
    simp only [rwsC, List.flatMap_cons, List.length_append, List.length_cons] at this ⊢
    rw [this, show (rwC r).length = 7 from rfl]; omega
structure PkSt where
  ad : Option Addr
  cap : Nat
  cs : List Chc
  ms : List Mt
structure PkOk (rows : List Rw) (z : PkSt) : Prop where
  row : z.cs.map Chc.row = rows
  on : ∀ c ∈ z.cs, c.on = false
  a : ∀ c ∈ z.cs, MtOf c.row.A c.a ∧ ∀ q, c.a = some q → q ∈ z.ms
  b : ∀ c ∈ z.cs, MtOf c.row.B c.b ∧ ∀ q, c.b = some q → q ∈ z.ms
  src : ∀ q ∈ z.ms, ∃ r ∈ rows, (hasM r.A ∧ q.2 = r.A.re) ∨ (hasM r.B ∧ q.2 = r.B.re)
theorem MtOf.src {a : Ad} {o : Option Mt} (h : MtOf a o) {q : Mt} (e : o = Option.some q) : hasM a ∧ q.2 = a.re := by
  by_cases hm : hasM a
  · obtain ⟨g, hg⟩ := h.some hm
    rw [e] at hg
    cases hg
    exact ⟨hm, rfl⟩
  · have := h.none hm
    rw [e] at this
    cases this
def pkNE (rows : List Rw) : Int := if 4096 < rows.length then 4 else pksE rows
inductive NwX (rows : List Rw) : Type
  | bad (h : pkNE rows ≠ 0)
  | ok (h : pkNE rows = 0) (gp : Nat) (z : PkSt) (hz : PkOk rows z)
abbrev PKB (gp : Nat) (ad : Option Addr) (n cap : Nat) (last : Option Mt) : HA := HA.blk gp (.cells #[.slice ad n cap, ptrV last] 112)
abbrev CRow (ad : Option Addr) (cap : Nat) (cs : List Chc) : HA := HA.row (.slice ad cs.length cap) 134 10 cs.length (chsC cs)
def NwX.val {rows : List Rw} : NwX rows → Value
  | .bad _ => .tuple #[.pointer none, Iv (pkNE rows)]
  | .ok _ gp _ _ => .tuple #[Pv gp 0, Iv 0]
def NwX.H {rows : List Rw} : NwX rows → List HA
  | .bad _ => []
  | .ok _ gp z _ => [PKB gp z.ad z.cs.length z.cap none, CRow z.ad z.cap z.cs, HA.mats z.ms]
theorem RdX.absorb {a : Ad} (x : RdX a) {w0 w : World} {B : Nat} {ms : List Mt} {L R : List HA} (h : Sat w0 B (x.H ++ (L ++ HA.mats ms :: R)) w) : Sat w0 B (L ++ HA.mats (ms ++ x.o.toList) :: R) w := by
  obtain ⟨o, is⟩ := x
  cases o with
  | none =>
    rw [show ms ++ (none : Option Mt).toList = ms from List.append_nil ms]
    exact h
  | some q =>
    have h1 : Sat w0 B (MB q.1 q.2 (meOf q.2) 0 :: HA.mats (ms ++ []) :: (L ++ R)) w := by
      rw [List.append_nil]
      exact Sat.perm h (by
        show (MB q.1 q.2 (meOf q.2) 0 :: (L ++ HA.mats ms :: R)).Perm _
        exact List.perm_middle.cons _)
    have h2 := Sat.matsIn h1
    exact Sat.perm h2 List.perm_middle.symm
theorem pickNew_c (rows : List Rw) (hre : ∀ r ∈ rows, r.A.re.length ≤ 4611686018427387904 ∧ r.B.re.length ≤ 4611686018427387904) (ad0 : Option Addr) (cap0 : Nat) (w : World) (hG : GR w w.heap.size) (hrd : Rd w w.heap.size ad0 (rwsC rows)) :
    Pure Tryz.prog 22 #[.slice ad0 rows.length cap0] (fun x : NwX rows => x.val) (fun x => x.H) w := by
  have hrl := rwsC_len rows
  refine calls_of_ES TB Tryz.func22 rfl _ Tryz.ntmps22 rfl (Sat.start w) ?_
  refine .go ?_; repeat constructor
  refine EL.assign rfl rfl rfl ?_
  refine EL.assign rfl rfl rfl ?_
  refine .go ?_; repeat constructor
  refine EL.move rfl rfl rfl ?_
  refine EL.lenL rfl rfl rfl rfl rfl ?_
  refine EL.gtr rfl rfl rfl rfl ?_
  refine .go ?_; repeat constructor
  refine ES.condD rfl (fun hfull => ?_) (fun hroom => ?_)
  · have he : pkNE rows = 4 := if_pos (by omega)
    refine .go ?_; repeat constructor
    refine EL.assign rfl rfl rfl ?_
    refine EL.assign rfl rfl rfl ?_
    refine .go ?_; repeat constructor
    exact PX.ret rfl Tryz.results22 (.cons (.tmp rfl) (.cons (.tmp rfl) .nil)) (fun w hs => ⟨.bad (by rw [he]; decide), congrArg (fun e : Int => Ending.returned (.tuple #[.pointer none, Iv e])) he.symm, hs.ent (.i (by repeat constructor))⟩)
  have hne : pkNE rows = pksE rows := if_neg (by omega)
  refine .go ?_; repeat constructor
  refine EL.buildZ rfl rfl rfl rfl rfl ?_
  (refine EL.box rfl rfl rfl ?_; intro g14)
  refine EL.assign rfl rfl rfl ?_
  refine .go ?_; repeat constructor
  refine EL.nilRow 134 10 ?_
  refine EL.imp (H' := PKB g14 none 0 0 none :: CRow none 0 [] :: HA.mats [] :: []) (fun w hs => (Sat.mats0 hs).ent (.i (by repeat constructor))) ?_
  refine .go ?_; repeat constructor
  refine EL.move rfl rfl rfl ?_
  refine EL.lenL rfl rfl rfl rfl rfl ?_
  refine EL.move rfl rfl rfl ?_
  refine .go ?_; repeat constructor
  refine ES.loop (σ := PkSt) (fun z => z.cs.length ≤ rows.length ∧ PkOk (rows.take z.cs.length) z ∧ pksE (rows.drop z.cs.length) = pksE rows) (fun z => [(0, .slice ad0 rows.length cap0), (4, Pv g14 0), (15, .slice ad0 rows.length cap0), (16, Iv (rows.length : Nat)), (17, Iv (z.cs.length : Nat))])
    (fun z => PKB g14 z.ad z.cs.length z.cap none :: CRow z.ad z.cap z.cs :: HA.mats z.ms :: []) (fun z => rows.length - z.cs.length) ⟨none, 0, [], []⟩ ⟨Nat.zero_le _, ⟨rfl, by simp, by simp, by simp, by simp⟩, rfl⟩ ⟨rfl, rfl, rfl, rfl, rfl, trivial⟩ (.i (by repeat constructor)) ?_
  rintro ⟨ad, cap, cs, ms⟩ ⟨hi, hok, hgo⟩
  dsimp only at hi hok hgo ⊢
  obtain ⟨i, hic⟩ : ∃ i, i = cs.length := ⟨_, rfl⟩
  rw [← hic] at hi hok hgo
  unfold CRow
  rw [← hic]
  refine .go ?_; repeat constructor
  refine EL.lss rfl rfl rfl rfl ?_
  refine .go ?_; repeat constructor
  refine ES.condD rfl (fun hlt => ?_) (fun hge => ?_)
  rotate_left
  · obtain rfl : i = rows.length := by omega
    rw [List.drop_length, pksE] at hgo
    rw [List.take_length] at hok
    refine .go ?_; repeat constructor
    refine EL.move rfl rfl rfl ?_
    refine EL.assign rfl rfl rfl ?_
    refine EL.assign rfl rfl rfl ?_
    refine .go ?_; repeat constructor
    exact PX.ret rfl Tryz.results22 (.cons (.tmp rfl) (.cons (.tmp rfl) .nil)) (fun w hs => ⟨.ok (by rw [hne, ← hgo]) g14 ⟨ad, cap, cs, ms⟩ hok, rfl, by unfold NwX.H CRow; dsimp only; rw [← hic]; exact hs.ent (.i (by repeat constructor))⟩)
  have hlt' : i < rows.length := by omega
  obtain ⟨r, hri⟩ : ∃ r, rows[i]? = some r := ⟨_, List.getElem?_eq_getElem hlt'⟩
  obtain ⟨hra, hrb⟩ := hre r (List.mem_of_getElem? hri)
  rw [List.drop_eq_getElem_cons hlt', show rows[i] = r from (List.getElem?_eq_some_iff.1 hri).2, pksE] at hgo
  obtain ⟨rg, ro, rfl, _⟩ := hrd (fun e => by rw [e] at hrl; simp at hrl; omega)
  refine .go ?_; repeat constructor
  refine EL.indexAddrL rfl rfl rfl rfl rfl rfl rfl (by omega) ?_
  refine EL.ofRV (RV.loadOldA (j := i * 7) (vs := rwC r) rfl rfl rfl rfl (by simp [rwC, adC]) hrd (rwsC_get rows i r hri)) rfl rfl rfl (by intro c h; cases h) ?_
  (refine EL.alloc rfl rfl rfl ?_; intro g6)
  (apply EL.storeAll; exact rfl; exact rfl; exact rfl; exact rfl; exact rfl; (case p => repeat constructor); exact rfl; (case h1 => exact (by first | rfl | exact all1 rfl | (intro u hu; simp only [List.mem_cons, List.not_mem_nil, or_false] at hu; rcases hu with rfl | rfl | rfl | rfl <;> rfl) | (intro u hu; simp at hu; rcases hu with rfl | rfl | rfl | rfl <;> rfl) | (intro u hu; simp at hu; rcases hu with rfl | rfl | rfl <;> rfl) | (intro u hu; simp at hu; rcases hu with rfl | rfl <;> rfl) | (intro u hu; simp at hu; obtain ⟨_, _, rfl⟩ := hu; rfl))))
  refine .go ?_; repeat constructor
  refine .go ?_; repeat constructor
  refine EL.fieldAddr rfl rfl rfl rfl rfl rfl rfl rfl ?_
  refine EL.ofRV (RV.loadBA (adC r.A) rfl rfl rfl rfl (by repeat constructor) rfl) rfl rfl rfl (by intro c h; cases h) ?_
  (refine EL.callXw rfl rfl rfl ent50 rfl (fun w hs => pickRead_c r.A hra w (GR.sat hG hs)) ?_; intro xa; refine EL.imp (H' := HA.blk g6 (.cells (rwC r).toArray 55) :: PKB g14 ad i cap none :: HA.row (.slice ad i cap) 134 10 i (chsC cs) :: HA.mats (ms ++ xa.o.toList) :: []) (fun w hs => RdX.absorb xa (L := [HA.blk g6 (.cells (rwC r).toArray 55), PKB g14 ad i cap none, HA.row (.slice ad i cap) 134 10 i (chsC cs)]) hs) ?_)
  refine EL.move rfl rfl rfl ?_
  refine EL.extract rfl rfl rfl rfl ?_
  refine EL.extract rfl rfl rfl rfl ?_
  refine EL.assign rfl rfl rfl ?_
  refine EL.assign rfl rfl rfl ?_
  refine .go ?_; repeat constructor
  refine .go ?_; repeat constructor
  refine EL.move rfl rfl rfl ?_
  refine EL.neqI rfl rfl rfl rfl ?_
  refine .go ?_; repeat constructor
  refine ES.condN rfl (fun hea => ?_) (fun hea => ?_)
  · have he : pkNE rows = readE r.A := by
      rw [hne, ← hgo]
      unfold pkE
      rw [if_pos hea, if_pos hea]
    refine .go ?_; repeat constructor
    refine EL.move rfl rfl rfl ?_
    refine EL.assign rfl rfl rfl ?_
    refine EL.assign rfl rfl rfl ?_
    refine .go ?_; repeat constructor
    exact PX.ret rfl Tryz.results22 (.cons (.tmp rfl) (.cons (.tmp rfl) .nil)) (fun w hs => ⟨.bad (by rw [he]; exact hea), congrArg (fun e : Int => Ending.returned (.tuple #[.pointer none, Iv e])) he.symm, hs.ent (.nil _)⟩)
  have hea' : ¬ readE r.A ≠ 0 := fun h => h hea
  refine .go ?_; repeat constructor
  refine EL.fieldAddr rfl rfl rfl rfl rfl rfl rfl rfl ?_
  refine EL.ofRV (RV.loadBA (adC r.B) rfl rfl rfl rfl (by repeat constructor) rfl) rfl rfl rfl (by intro c h; cases h) ?_
  (refine EL.callXw rfl rfl rfl ent50 rfl (fun w hs => pickRead_c r.B hrb w (GR.sat hG hs)) ?_; intro xb; refine EL.imp (H' := HA.blk g6 (.cells (rwC r).toArray 55) :: PKB g14 ad i cap none :: HA.row (.slice ad i cap) 134 10 i (chsC cs) :: HA.mats (ms ++ xa.o.toList ++ xb.o.toList) :: []) (fun w hs => RdX.absorb xb (L := [HA.blk g6 (.cells (rwC r).toArray 55), PKB g14 ad i cap none, HA.row (.slice ad i cap) 134 10 i (chsC cs)]) hs) ?_)
  refine EL.move rfl rfl rfl ?_
  refine EL.extract rfl rfl rfl rfl ?_
  refine EL.extract rfl rfl rfl rfl ?_
  refine EL.assign rfl rfl rfl ?_
  refine EL.assign rfl rfl rfl ?_
  refine .go ?_; repeat constructor
  refine .go ?_; repeat constructor
  refine EL.move rfl rfl rfl ?_
  refine EL.neqI rfl rfl rfl rfl ?_
  refine .go ?_; repeat constructor
  refine ES.condN rfl (fun heb => ?_) (fun heb => ?_)
  · have he : pkNE rows = readE r.B := by
      rw [hne, ← hgo]
      unfold pkE
      rw [if_neg hea', if_pos heb, if_pos heb]
    refine .go ?_; repeat constructor
    refine EL.move rfl rfl rfl ?_
    refine EL.assign rfl rfl rfl ?_
    refine EL.assign rfl rfl rfl ?_
    refine .go ?_; repeat constructor
    exact PX.ret rfl Tryz.results22 (.cons (.tmp rfl) (.cons (.tmp rfl) .nil)) (fun w hs => ⟨.bad (by rw [he]; exact heb), congrArg (fun e : Int => Ending.returned (.tuple #[.pointer none, Iv e])) he.symm, hs.ent (.nil _)⟩)
  have heb' : ¬ readE r.B ≠ 0 := fun h => h heb
  refine .go ?_; repeat constructor
  refine EL.cutX (X := Unit) (fun _ => [(0, .slice (some ⟨rg, ro, none⟩) rows.length cap0), (4, Pv g14 0), (6, Pv g6 0), (7, ptrV xa.o), (9, ptrV xb.o), (15, .slice (some ⟨rg, ro, none⟩) rows.length cap0), (16, Iv (rows.length : Nat)), (17, Iv (i : Nat)), (48, .bool (decide (r.A.kind = 0 ∧ r.B.kind ≠ 0)))])
    (fun _ => HA.blk g6 (.cells (rwC r).toArray 55) :: PKB g14 ad i cap none :: HA.row (.slice ad i cap) 134 10 i (chsC cs) :: HA.mats (ms ++ xa.o.toList ++ xb.o.toList) :: []) ?_ (fun _ => ?_)
  · refine .go ?_; repeat constructor
    refine EL.fieldAddr rfl rfl rfl rfl rfl rfl rfl rfl ?_
    refine EL.fieldAddr rfl rfl rfl rfl rfl rfl rfl rfl ?_
    (apply EL.loadB; exact rfl; exact rfl; exact rfl; exact rfl; exact rfl; (case hm => repeat constructor); exact rfl)
    refine EL.eqlI rfl rfl rfl rfl ?_
    refine EL.move rfl rfl rfl ?_
    first | refine EL.splitD (d := 43) rfl (fun hp43 => ?_) (fun hp43 => ?_) | refine EL.splitN (d := 43) rfl (fun hp43 => ?_) (fun hp43 => ?_) | refine EL.splitB (d := 43) rfl (fun hp43 => ?_) (fun hp43 => ?_)
    · refine EL.fieldAddr rfl rfl rfl rfl rfl rfl rfl rfl ?_
      refine EL.fieldAddr rfl rfl rfl rfl rfl rfl rfl rfl ?_
      (apply EL.loadB; exact rfl; exact rfl; exact rfl; exact rfl; exact rfl; (case hm => repeat constructor); exact rfl)
      refine EL.neqI rfl rfl rfl rfl ?_
      refine EL.pickT rfl rfl rfl rfl ?_
      exact EL.endX () ⟨rfl, rfl, rfl, rfl, rfl, rfl, rfl, rfl, getA rfl (congrArg Value.bool (by rw [Bool.eq_iff_iff]; simp_all)), trivial⟩ (.i (by repeat constructor))
    · refine EL.pass rfl rfl rfl ?_
      refine EL.pass rfl rfl rfl ?_
      refine EL.pass rfl rfl rfl ?_
      refine EL.pass rfl rfl rfl ?_
      refine EL.pickF rfl rfl rfl rfl ?_
      exact EL.endX () ⟨rfl, rfl, rfl, rfl, rfl, rfl, rfl, rfl, getA rfl (congrArg Value.bool (by rw [Bool.eq_iff_iff]; simp_all)), trivial⟩ (.i (by repeat constructor))
  refine ES.condD rfl (fun hno => ?_) (fun hno => ?_)
  · have he : pkNE rows = 17 := by
      rw [hne, ← hgo]
      unfold pkE
      rw [if_neg hea', if_neg heb', if_pos hno, if_pos (by decide)]
    refine .go ?_; repeat constructor
    refine EL.assign rfl rfl rfl ?_
    refine EL.assign rfl rfl rfl ?_
    refine .go ?_; repeat constructor
    exact PX.ret rfl Tryz.results22 (.cons (.tmp rfl) (.cons (.tmp rfl) .nil)) (fun w hs => ⟨.bad (by rw [he]; decide), congrArg (fun e : Int => Ending.returned (.tuple #[.pointer none, Iv e])) he.symm, hs.ent (.nil _)⟩)
  have he0 : pkE r = 0 := by
    unfold pkE
    rw [if_neg hea', if_neg heb', if_neg hno]
  rw [he0, if_neg (by simp)] at hgo
  obtain ⟨c, hcd⟩ : ∃ c : Chc, c = ⟨r, xa.o, xb.o, false⟩ := ⟨_, rfl⟩
  have hcell : chC c = [Iv r.A.kind, Iv r.A.line, Sv r.A.re, Iv r.B.kind, Iv r.B.line, Sv r.B.re, .bool r.not, ptrV xa.o, ptrV xb.o, .bool false] := by rw [hcd]; rfl
  have hone : ∀ u ∈ chC c, u.oneCell' = true := by
    have hp : ∀ o : Option Mt, (ptrV o).oneCell' = true := fun o => by cases o <;> rfl
    rw [hcell]
    intro u hu
    simp only [List.mem_cons, List.not_mem_nil, or_false] at hu
    rcases hu with rfl | rfl | rfl | rfl | rfl | rfl | rfl | rfl | rfl | rfl <;> first | rfl | exact hp _
  have hcs : chsC (cs ++ [c]) = chsC cs ++ chC c := by simp [chsC]
  have hlc : (cs ++ [c]).length = i + 1 := by simp [hic]
  refine .g0 ?_; repeat constructor
  refine ES.draw (X := Nat × Nat) (fun _ => [(0, .slice (some ⟨rg, ro, none⟩) rows.length cap0), (4, Pv g14 0), (15, .slice (some ⟨rg, ro, none⟩) rows.length cap0), (16, Iv (rows.length : Nat)), (17, Iv (i : Nat))])
    (fun x => PKB g14 (some ⟨x.1, 0, none⟩) (i + 1) x.2 none :: HA.row (.slice (some ⟨x.1, 0, none⟩) (i + 1) x.2) 134 10 (i + 1) (chsC cs ++ chC c) :: HA.mats (ms ++ xa.o.toList ++ xb.o.toList) :: [])
    (HA.blk g6 (.cells (rwC r).toArray 55) :: PKB g14 ad i cap none :: []) mixed (.i (by repeat constructor)) ?_ (fun x => ?_)
  · refine ED.take 0 rfl (by decide +kernel) CutX.no_panic (by decide +kernel) rfl rfl rfl (RV.move rfl) ?_
    refine ED.take 1 rfl (by decide +kernel) CutX.no_panic (by decide +kernel) rfl rfl rfl (RV.move rfl) ?_
    refine ED.take 2 rfl (by decide +kernel) CutX.no_panic (by decide +kernel) rfl rfl rfl (RV.nilCheck rfl) ?_
    refine ED.take 3 rfl (by decide +kernel) CutX.no_panic (by decide +kernel) rfl rfl rfl (RV.fieldAddr rfl rfl rfl rfl rfl rfl) ?_
    refine ED.take 4 rfl (by decide +kernel) CutX.no_panic (by decide +kernel) rfl rfl rfl (RV.loadB rfl rfl rfl (by repeat constructor) rfl) ?_
    refine ED.take 5 rfl (by decide +kernel) CutX.no_panic (by decide +kernel) rfl rfl rfl (RV.loadAggB rfl rfl rfl (by repeat constructor) rfl) ?_
    refine ED.take 6 rfl (by decide +kernel) CutX.no_panic (by decide +kernel) rfl rfl rfl (RV.move rfl) ?_
    refine ED.take 7 rfl (by decide +kernel) CutX.no_panic (by decide +kernel) rfl rfl rfl (RV.move rfl) ?_
    refine ED.take 8 rfl (by decide +kernel) CutX.no_panic (by decide +kernel) rfl rfl rfl (RV.buildS (chC ⟨r, xa.o, xb.o, false⟩).toArray rfl rfl rfl rfl (by kernel_rfl)) ?_
    refine ED.loud 9 rfl (by decide +kernel) ?_
    (refine EL.buildSlice1 rfl rfl rfl rfl rfl rfl rfl rfl rfl rfl ?_; intro b58)
    refine ED.next (.i (by repeat constructor)) ?_
    refine ED.loud 10 rfl (by decide +kernel) ?_
    (refine EL.append1 (news := chC ⟨r, xa.o, xb.o, false⟩) rfl rfl rfl rfl rfl rfl rfl rfl rfl (by repeat constructor) (by repeat constructor) (hcd ▸ hone) (by rfl) (by unfold maxLen; omega) (by first | omega | (show 1 * _ ≤ _; omega) | (show 8 * _ ≤ _; omega) | (show 16 * _ ≤ _; omega) | (show 24 * _ ≤ _; omega) | (show _ * 1 ≤ _; omega) | (show _ * 8 ≤ _; omega) | (show _ * 16 ≤ _; omega) | (show _ * 24 ≤ _; omega) | exact Nat.le_trans (Nat.mul_le_mul_right _ (show _ ≤ 1073741824 by omega)) (by decide)) ?_; intro a59 c59)
    refine ED.next (.i (by repeat constructor)) ?_
    refine ED.take 11 rfl (by decide +kernel) CutX.no_panic (by decide +kernel) rfl rfl rfl (RV.nilCheck rfl) ?_
    refine ED.take 12 rfl (by decide +kernel) CutX.no_panic (by decide +kernel) rfl rfl rfl (RV.fieldAddr rfl rfl rfl rfl rfl rfl) ?_
    refine ED.last 13 rfl (by decide +kernel) (by decide +kernel) (by decide +kernel) ?_
    (apply EL.storeB; exact rfl; exact rfl; exact rfl; exact rfl; exact rfl; exact rfl; (case p => repeat constructor); exact (by first | decide | exact Nat.le_of_ble_eq_true rfl | simp))
    refine EL.endQ ?_
    exact PX.cutX (a59, c59) ⟨rfl, rfl, rfl, rfl, rfl, trivial⟩ (by rw [hcd]; exact (.i (by repeat constructor)))
  refine .go ?_; repeat constructor
  refine EL.add1 rfl rfl rfl rfl (by omega) ?_
  refine EL.move rfl rfl rfl ?_
  refine .go ?_; repeat constructor
  have hok2 : PkOk (rows.take (i + 1)) ⟨some ⟨x.1, 0, none⟩, x.2, cs ++ [c], ms ++ xa.o.toList ++ xb.o.toList⟩ := by
    obtain ⟨h1, h2, h3, h4, h5⟩ := hok
    have hin : ∀ q, q ∈ ms → q ∈ ms ++ xa.o.toList ++ xb.o.toList := fun q hq => by simp [hq]
    have hrin : r ∈ rows.take (i + 1) := by rw [List.take_succ_eq_append_getElem hlt', show rows[i] = r from (List.getElem?_eq_some_iff.1 hri).2]; simp
    refine ⟨?_, fun c' hc' => ?_, fun c' hc' => ?_, fun c' hc' => ?_, fun q hq => ?_⟩
    · show (cs ++ [c]).map Chc.row = _
      rw [List.map_append, h1, List.take_succ_eq_append_getElem hlt', show rows[i] = r from (List.getElem?_eq_some_iff.1 hri).2, hcd]; rfl
    · rcases List.mem_append.1 hc' with hc' | hc'
      · exact h2 c' hc'
      · rw [List.mem_singleton] at hc'; subst hc'; rw [hcd]
    · rcases List.mem_append.1 hc' with hc' | hc'
      · exact ⟨(h3 c' hc').1, fun q hq => hin q ((h3 c' hc').2 q hq)⟩
      · rw [List.mem_singleton] at hc'; subst hc'; rw [hcd]
        exact ⟨xa.is, fun q hq => by
          have hq : xa.o = some q := hq
          rw [hq]; simp⟩
    · rcases List.mem_append.1 hc' with hc' | hc'
      · exact ⟨(h4 c' hc').1, fun q hq => hin q ((h4 c' hc').2 q hq)⟩
      · rw [List.mem_singleton] at hc'; subst hc'; rw [hcd]
        exact ⟨xb.is, fun q hq => by
          have hq : xb.o = some q := hq
          rw [hq]; simp⟩
    · rcases List.mem_append.1 hq with hq | hq
      · rcases List.mem_append.1 hq with hq | hq
        · obtain ⟨r', hr', h⟩ := h5 q hq
          exact ⟨r', (List.take_subset_take_left _ (by omega)) hr', h⟩
        · exact ⟨r, hrin, .inl (xa.is.src (by simpa using hq))⟩
      · exact ⟨r, hrin, .inr (xb.is.src (by simpa using hq))⟩
  exact PX.loop ⟨some ⟨x.1, 0, none⟩, x.2, cs ++ [c], ms ++ xa.o.toList ++ xb.o.toList⟩ ⟨by rw [hlc]; exact hlt', by rw [hlc]; exact hok2, by rw [hlc]; exact hgo⟩ (by simp only; rw [hlc, ← hic]; omega) ⟨rfl, rfl, rfl, rfl, getA rfl (by dsimp only; rw [hlc]), trivial⟩ (by dsimp only; rw [hlc, hcs]; exact (.i (by repeat constructor)))
end Go.Proofs.YtblpgpgbnlhjlaaGreat
namespace Go.Proofs.YtblpgpgbnlhjlaaGreat
open Go Go.RowKit Sl
set_option maxRecDepth 100000
set_option maxHeartbeats 8000000
set_option linter.unusedVariables false
set_option linter.unusedSimpArgs false
attribute [local irreducible] ES EL PX wps
structure Line where
  line : Int
  last : Bool
  s : List UInt8
def lnC (l : Line) : List Value := [Iv l.line, .bool l.last, Sv l.s]
def orM (m last : Option Mt) : Option Mt := match m with
  | some q => some q
  | none => last
theorem pickUse_c (gp : Nat) (ad : Option Addr) (n cap : Nat) (last m : Option Mt) : Mut Tryz.prog 74 #[Pv gp 0, ptrV m] [PKB gp ad n cap last] (fun _ : Unit => .tuple #[]) (fun _ => [PKB gp ad n cap (orM m last)]) := by
  intro w0 B R w h
  replace h : Sat w0 B (PKB gp ad n cap last :: R) w := h
  cases m with
  | none =>
    refine calls_of_ES TB Tryz.func74 rfl _ Tryz.ntmps74 rfl h ?_
    refine .go ?_; repeat constructor
    refine EL.move rfl rfl rfl ?_
    refine EL.neqPn rfl rfl rfl rfl rfl rfl ?_
    refine EL.move rfl rfl rfl ?_
    refine EL.rew (d := 6) (v' := .bool true) rfl (by first | rfl | (decide) | (simp)) ?_
    refine EL.move rfl rfl rfl ?_
    refine EL.neqPn rfl rfl rfl rfl rfl rfl ?_
    refine EL.pickT rfl rfl rfl rfl ?_
    refine .go ?_; repeat constructor
    refine ES.condF rfl ?_
    refine .go ?_; repeat constructor
    exact PX.end rfl Tryz.results74 .nil (fun w hs => ⟨(), rfl, hs.ent (.i (by repeat constructor))⟩)
  | some q =>
    refine calls_of_ES TB Tryz.func74 rfl _ Tryz.ntmps74 rfl h ?_
    refine .go ?_; repeat constructor
    refine EL.move rfl rfl rfl ?_
    refine EL.neqPn rfl rfl rfl rfl rfl rfl ?_
    refine EL.move rfl rfl rfl ?_
    refine EL.rew (d := 6) (v' := .bool true) rfl (by first | rfl | (decide) | (simp)) ?_
    refine EL.move rfl rfl rfl ?_
    refine EL.neqPn rfl rfl rfl rfl rfl rfl ?_
    refine EL.pickT rfl rfl rfl rfl ?_
    refine .go ?_; repeat constructor
    refine ES.condT rfl ?_
    refine .go ?_; repeat constructor
    refine EL.move rfl rfl rfl ?_
    refine EL.move rfl rfl rfl ?_
    refine EL.nilCheck rfl rfl rfl ?_
    refine EL.fieldAddr rfl rfl rfl rfl rfl rfl rfl rfl ?_
    (apply EL.storeB; exact rfl; exact rfl; exact rfl; exact rfl; exact rfl; exact rfl; (case p => repeat constructor); exact (by first | decide | exact Nat.le_of_ble_eq_true rfl | simp))
    refine .go ?_; repeat constructor
    exact PX.end rfl Tryz.results74 .nil (fun w hs => ⟨(), rfl, hs.ent (.i (by repeat constructor))⟩)
def beginsM (b : Ad) (l : Line) : Bool := if b.kind = 1 then decide (l.line < b.line) else if b.kind = 2 then !l.last else true
theorem begins_c (b : Ad) (l : Line) (w : World) : Pure Tryz.prog 55 #[.agg (adC b).toArray, .agg (lnC l).toArray] (fun _ : Unit => .bool (beginsM b l)) (fun _ => []) w := by
  refine calls_of_ES TB Tryz.func55 rfl _ Tryz.ntmps55 rfl (Sat.start w) ?_
  refine .go ?_; repeat constructor
  (refine EL.box rfl rfl rfl ?_; intro g2)
  (refine EL.box rfl rfl rfl ?_; intro g3)
  refine EL.assign rfl rfl rfl ?_
  refine .go ?_; repeat constructor
  refine EL.fieldAddr rfl rfl rfl rfl rfl rfl rfl rfl ?_
  (apply EL.loadB; exact rfl; exact rfl; exact rfl; exact rfl; exact rfl; (case hm => repeat constructor); exact rfl)
  refine .go ?_; repeat constructor
  refine .go ?_; repeat constructor
  refine EL.eqlI rfl rfl rfl rfl ?_
  refine EL.assign rfl rfl rfl ?_
  refine .go ?_; repeat constructor
  refine ES.condD rfl (fun h1 => ?_) (fun h1 => ?_)
  · have e : beginsM b l = decide (l.line < b.line) := if_pos h1
    rw [e]
    refine .go ?_; repeat constructor
    refine EL.fieldAddr rfl rfl rfl rfl rfl rfl rfl rfl ?_
    (apply EL.loadB; exact rfl; exact rfl; exact rfl; exact rfl; exact rfl; (case hm => repeat constructor); exact rfl)
    refine EL.fieldAddr rfl rfl rfl rfl rfl rfl rfl rfl ?_
    (apply EL.loadB; exact rfl; exact rfl; exact rfl; exact rfl; exact rfl; (case hm => repeat constructor); exact rfl)
    refine EL.lss rfl rfl rfl rfl ?_
    refine EL.assign rfl rfl rfl ?_
    refine .go ?_; repeat constructor
    exact PX.ret rfl Tryz.results55 (.cons (.tmp rfl) .nil) (fun w hs => ⟨(), rfl, hs.ent (.i (by repeat constructor))⟩)
  refine .go ?_; repeat constructor
  refine EL.eqlI rfl rfl rfl rfl ?_
  refine EL.assign rfl rfl rfl ?_
  refine .go ?_; repeat constructor
  refine ES.condD rfl (fun h2 => ?_) (fun h2 => ?_)
  · have e : beginsM b l = !l.last := (if_neg h1).trans (if_pos h2)
    rw [e]
    refine .go ?_; repeat constructor
    refine EL.fieldAddr rfl rfl rfl rfl rfl rfl rfl rfl ?_
    (apply EL.loadB; exact rfl; exact rfl; exact rfl; exact rfl; exact rfl; (case hm => repeat constructor); exact rfl)
    refine EL.not rfl rfl rfl ?_
    refine EL.assign rfl rfl rfl ?_
    refine .go ?_; repeat constructor
    exact PX.ret rfl Tryz.results55 (.cons (.tmp rfl) .nil) (fun w hs => ⟨(), rfl, hs.ent (.i (by repeat constructor))⟩)
  have e : beginsM b l = true := (if_neg h1).trans (if_neg h2)
  rw [e]
  refine .go ?_; repeat constructor
  refine EL.assign rfl rfl rfl ?_
  refine .go ?_; repeat constructor
  exact PX.ret rfl Tryz.results55 (.cons (.tmp rfl) .nil) (fun w hs => ⟨(), rfl, hs.ent (.i (by repeat constructor))⟩)
structure Ans (t : List UInt8) (s : List UInt8) (ok : Bool) (e : Int) : Prop where
  len : t.length ≤ 4611686018427387904
  back : (meOf t).back = false
  is : ∃ F m, setM F t s 0 = some m ∧ m.ok = ok ∧ m.e = e
structure MtR where
  last : Option Mt
  ok : Bool
  e : Int
def meetsM (ans : List UInt8 → Bool × Int) (last : Option Mt) (a : Ad) (m : Option Mt) (l : Line) : MtR :=
  if a.kind = 0 then ⟨last, true, 0⟩
  else if a.kind = 1 then ⟨last, decide (l.line = a.line), 0⟩
  else if a.kind = 2 then ⟨last, l.last, 0⟩
  else match orM m last with
    | none => ⟨none, false, 24⟩
    | some q => ⟨some q, (ans q.2).1, (ans q.2).2⟩
abbrev AnsAll (ms : List Mt) (s : List UInt8) (ans : List UInt8 → Bool × Int) : Prop := ∀ q ∈ ms, Ans q.2 s (ans q.2).1 (ans q.2).2
theorem meets_c (gp : Nat) (ad : Option Addr) (n cap : Nat) (last m : Option Mt) (ms : List Mt) (a : Ad) (l : Line) (ans : List UInt8 → Bool × Int) (hans : AnsAll ms l.s ans) (hl : ∀ q, last = some q → q ∈ ms) (hm : ∀ q, m = some q → q ∈ ms) (w0 : World) (B : Nat) (hG : GR w0 B) :
    MutAt Tryz.prog 54 #[Pv gp 0, .agg (adC a).toArray, ptrV m, .agg (lnC l).toArray] [PKB gp ad n cap last, HA.mats ms] (fun _ : Unit => .tuple #[.bool (meetsM ans last a m l).ok, Iv (meetsM ans last a m l).e]) (fun _ => [PKB gp ad n cap (meetsM ans last a m l).last, HA.mats ms]) w0 B := by
  intro R w h
  replace h : Sat w0 B (PKB gp ad n cap last :: HA.mats ms :: R) w := h
  refine calls_of_ES TB Tryz.func54 rfl _ Tryz.ntmps54 rfl h ?_
  refine .go ?_; repeat constructor
  (refine EL.box rfl rfl rfl ?_; intro g5)
  (refine EL.box rfl rfl rfl ?_; intro g7)
  refine EL.assign rfl rfl rfl ?_
  refine EL.assign rfl rfl rfl ?_
  refine .go ?_; repeat constructor
  refine EL.fieldAddr rfl rfl rfl rfl rfl rfl rfl rfl ?_
  (apply EL.loadB; exact rfl; exact rfl; exact rfl; exact rfl; exact rfl; (case hm => repeat constructor); exact rfl)
  refine .go ?_; repeat constructor
  refine .go ?_; repeat constructor
  refine EL.eqlI rfl rfl rfl rfl ?_
  refine EL.assign rfl rfl rfl ?_
  refine .go ?_; repeat constructor
  refine ES.condD rfl (fun h0 => ?_) (fun h0 => ?_)
  · have e : meetsM ans last a m l = ⟨last, true, 0⟩ := if_pos h0
    rw [e]
    refine .go ?_; repeat constructor
    refine EL.assign rfl rfl rfl ?_
    refine EL.assign rfl rfl rfl ?_
    refine .go ?_; repeat constructor
    exact PX.ret rfl Tryz.results54 (.cons (.tmp rfl) (.cons (.tmp rfl) .nil)) (fun w hs => ⟨(), rfl, hs.ent (.i (by repeat constructor))⟩)
  refine .go ?_; repeat constructor
  refine EL.eqlI rfl rfl rfl rfl ?_
  refine EL.assign rfl rfl rfl ?_
  refine .go ?_; repeat constructor
  refine ES.condD rfl (fun h1 => ?_) (fun h1 => ?_)
  · have e : meetsM ans last a m l = ⟨last, decide (l.line = a.line), 0⟩ := (if_neg h0).trans (if_pos h1)
    rw [e]
    refine .go ?_; repeat constructor
    refine EL.fieldAddr rfl rfl rfl rfl rfl rfl rfl rfl ?_
    (apply EL.loadB; exact rfl; exact rfl; exact rfl; exact rfl; exact rfl; (case hm => repeat constructor); exact rfl)
    refine EL.fieldAddr rfl rfl rfl rfl rfl rfl rfl rfl ?_
    (apply EL.loadB; exact rfl; exact rfl; exact rfl; exact rfl; exact rfl; (case hm => repeat constructor); exact rfl)
    refine EL.eqlI rfl rfl rfl rfl ?_
    refine EL.assign rfl rfl rfl ?_
    refine EL.assign rfl rfl rfl ?_
    refine .go ?_; repeat constructor
    exact PX.ret rfl Tryz.results54 (.cons (.tmp rfl) (.cons (.tmp rfl) .nil)) (fun w hs => ⟨(), rfl, hs.ent (.i (by repeat constructor))⟩)
  refine .go ?_; repeat constructor
  refine EL.eqlI rfl rfl rfl rfl ?_
  refine EL.assign rfl rfl rfl ?_
  refine .go ?_; repeat constructor
  refine ES.condD rfl (fun h2 => ?_) (fun h2 => ?_)
  · have e : meetsM ans last a m l = ⟨last, l.last, 0⟩ := (if_neg h0).trans ((if_neg h1).trans (if_pos h2))
    rw [e]
    refine .go ?_; repeat constructor
    refine EL.fieldAddr rfl rfl rfl rfl rfl rfl rfl rfl ?_
    (apply EL.loadB; exact rfl; exact rfl; exact rfl; exact rfl; exact rfl; (case hm => repeat constructor); exact rfl)
    refine EL.assign rfl rfl rfl ?_
    refine EL.assign rfl rfl rfl ?_
    refine .go ?_; repeat constructor
    exact PX.ret rfl Tryz.results54 (.cons (.tmp rfl) (.cons (.tmp rfl) .nil)) (fun w hs => ⟨(), rfl, hs.ent (.i (by repeat constructor))⟩)
  have e : meetsM ans last a m l = match orM m last with
    | none => ⟨none, false, 24⟩
    | some q => ⟨some q, (ans q.2).1, (ans q.2).2⟩ := (if_neg h0).trans ((if_neg h1).trans (if_neg h2))
  have hin : ∀ q, orM m last = some q → q ∈ ms := fun q hq => by
    cases m with
    | none => exact hl q hq
    | some q' => exact hm q hq
  refine .go ?_; repeat constructor
  refine EL.move rfl rfl rfl ?_
  refine EL.move rfl rfl rfl ?_
  (refine EL.callM rfl rfl rfl ent74 rfl (pickUse_c gp ad n cap last m) (by repeat constructor) ?_; intro u)
  refine .go ?_; repeat constructor
  generalize orM m last = o at e hin
  cases o with
  | none =>
    rw [e]
    refine .go ?_; repeat constructor
    refine EL.move rfl rfl rfl ?_
    refine EL.nilCheck rfl rfl rfl ?_
    refine EL.fieldAddr rfl rfl rfl rfl rfl rfl rfl rfl ?_
    (apply EL.loadB; exact rfl; exact rfl; exact rfl; exact rfl; exact rfl; (case hm => repeat constructor); exact rfl)
    refine EL.eqlPn rfl rfl rfl rfl rfl rfl ?_
    refine .go ?_; repeat constructor
    refine ES.condT rfl ?_
    refine .go ?_; repeat constructor
    refine EL.assign rfl rfl rfl ?_
    refine EL.assign rfl rfl rfl ?_
    refine .go ?_; repeat constructor
    exact PX.ret rfl Tryz.results54 (.cons (.tmp rfl) (.cons (.tmp rfl) .nil)) (fun w hs => ⟨(), rfl, hs.ent (.i (by repeat constructor))⟩)
  | some q =>
    have hq := hin q rfl
    obtain ⟨hlen, hb, F, mr, hmr, hok, hme⟩ := hans q hq
    rw [e]
    have hmc := matchMats_c F ms q hq hlen hb l.s 0 mr hmr w0 B hG
    refine .go ?_; repeat constructor
    refine EL.move rfl rfl rfl ?_
    refine EL.nilCheck rfl rfl rfl ?_
    refine EL.fieldAddr rfl rfl rfl rfl rfl rfl rfl rfl ?_
    (apply EL.loadB; exact rfl; exact rfl; exact rfl; exact rfl; exact rfl; (case hm => repeat constructor); exact rfl)
    refine EL.eqlPn rfl rfl rfl rfl rfl rfl ?_
    refine .go ?_; repeat constructor
    refine ES.condF rfl ?_
    refine .g0 ?_; repeat constructor
    refine ES.draw (X := Unit) (fun _ => [(11, .bool mr.ok), (12, Iv mr.e)]) (fun _ => PKB gp ad n cap (some q) :: HA.mats ms :: R) (PKB gp ad n cap (some q) :: HA.blk g7 (.cells (lnC l).toArray 138) :: []) mixed (.i (by repeat constructor)) ?_ (fun _ => ?_)
    · refine ED.take 0 rfl (by decide +kernel) CutX.no_panic (by decide +kernel) rfl rfl rfl (RV.move rfl) ?_
      refine ED.take 1 rfl (by decide +kernel) CutX.no_panic (by decide +kernel) rfl rfl rfl (RV.nilCheck rfl) ?_
      refine ED.take 2 rfl (by decide +kernel) CutX.no_panic (by decide +kernel) rfl rfl rfl (RV.fieldAddr rfl rfl rfl rfl rfl rfl) ?_
      refine ED.take 3 rfl (by decide +kernel) CutX.no_panic (by decide +kernel) rfl rfl rfl (RV.loadB rfl rfl rfl (by repeat constructor) rfl) ?_
      refine ED.take 4 rfl (by decide +kernel) CutX.no_panic (by decide +kernel) rfl rfl rfl (RV.fieldAddr rfl rfl rfl rfl rfl rfl) ?_
      refine ED.take 5 rfl (by decide +kernel) CutX.no_panic (by decide +kernel) rfl rfl rfl (RV.loadB rfl rfl rfl (by repeat constructor) rfl) ?_
      refine ED.loud 6 rfl (by decide +kernel) ?_
      (refine EL.callMw rfl rfl rfl ent45 rfl hmc (by repeat constructor) ?_; intro x)
      refine ED.next (.i (by repeat constructor)) ?_
      refine ED.take 7 rfl (by decide +kernel) CutX.no_panic (by decide +kernel) rfl rfl rfl (RV.move rfl) ?_
      refine ED.take 8 rfl (by decide +kernel) CutX.no_panic (by decide +kernel) rfl rfl rfl (RV.extract rfl rfl) ?_
      refine ED.take 9 rfl (by decide +kernel) CutX.no_panic (by decide +kernel) rfl rfl rfl (RV.extract rfl rfl) ?_
      refine ED.take 10 rfl (by decide +kernel) CutX.no_panic (by decide +kernel) rfl rfl rfl (RV.extract rfl rfl) ?_
      refine ED.take 11 rfl (by decide +kernel) CutX.no_panic (by decide +kernel) rfl rfl rfl (RV.assign rfl) ?_
      refine ED.take 12 rfl (by decide +kernel) CutX.no_panic (by decide +kernel) rfl rfl rfl (RV.assign rfl) ?_
      refine ED.take 13 rfl (by decide +kernel) CutX.no_panic (by decide +kernel) rfl rfl rfl (RV.assign rfl) ?_
      refine ED.done (by decide +kernel) ?_
      exact PX.cutX () ⟨rfl, rfl, trivial⟩ (.i (by repeat constructor))
    refine .go ?_; repeat constructor
    refine EL.move rfl rfl rfl ?_
    refine EL.move rfl rfl rfl ?_
    refine EL.assign rfl rfl rfl ?_
    refine EL.assign rfl rfl rfl ?_
    refine .go ?_; repeat constructor
    refine PX.ret rfl Tryz.results54 (.cons (.tmp rfl) (.cons (.tmp rfl) .nil)) (fun w hs => ⟨(), ?_, hs.ent (.i (by repeat constructor))⟩)
    dsimp only
    rw [hok, hme]
    rfl
end Go.Proofs.YtblpgpgbnlhjlaaGreat
namespace Go.Proofs.YtblpgpgbnlhjlaaGreat
open Go Go.RowKit Sl
set_option maxRecDepth 100000
set_option maxHeartbeats 8000000
set_option linter.unusedVariables false
set_option linter.unusedSimpArgs false
attribute [local irreducible] ES EL PX wps
theorem chC_len (c : Chc) : (chC c).length = 10 := rfl
theorem chsC_split (l r : List Chc) (c : Chc) : chsC (l ++ c :: r) = chsC l ++ (chC c ++ chsC r) := by simp [chsC]
theorem chsC_len : ∀ l : List Chc, (chsC l).length = l.length * 10
  | [] => rfl
  | r :: l => by
    have := chsC_len l
    simp only [chsC, List.flatMap_cons, List.length_append, List.length_cons] at this ⊢
    rw [this, chC_len]; omega
theorem chs_at {cs : List Chc} {i : Nat} {c : Chc} (h : cs[i]? = some c) : ∃ l r, cs = l ++ c :: r ∧ l.length = i := by
  have hlt := (List.getElem?_eq_some_iff.1 h).1
  refine ⟨cs.take i, cs.drop (i + 1), ?_, by rw [List.length_take]; omega⟩
  conv => lhs; rw [← List.take_append_drop i cs, List.drop_eq_getElem_cons hlt, (List.getElem?_eq_some_iff.1 h).2]
theorem chs_get {cs : List Chc} {i : Nat} {c : Chc} (h : cs[i]? = some c) (j : Nat) (u : Value) (hj : (chC c)[j]? = some u) : (chsC cs)[0 + i * 10 + j]? = some u := by
  obtain ⟨l, r, rfl, rfl⟩ := chs_at h
  have hlt := (List.getElem?_eq_some_iff.1 hj).1
  rw [chsC_split, Nat.zero_add, ← chsC_len, List.getElem?_append_right (by omega), Nat.add_sub_cancel_left, List.getElem?_append_left hlt]
  exact hj
theorem chs_sub {cs : List Chc} {i : Nat} {c : Chc} (h : cs[i]? = some c) (j n : Nat) (vs : List Value) (hn : j + n ≤ 10) (hv : ((chC c).drop j).take n = vs) : ((chsC cs).drop (0 + i * 10 + j)).take n = vs := by
  obtain ⟨l, r, rfl, rfl⟩ := chs_at h
  have hc := chC_len c
  rw [chsC_split, Nat.zero_add, ← chsC_len, List.drop_append, List.drop_of_length_le (by omega), List.nil_append, Nat.add_sub_cancel_left, List.drop_append, Nat.sub_eq_zero_of_le (by omega), List.drop_zero, List.take_append, List.length_drop, Nat.sub_eq_zero_of_le (by omega), List.take_zero, List.append_nil]
  exact hv
theorem chs_set {cs : List Chc} {i : Nat} {c : Chc} (h : cs[i]? = some c) (b : Bool) : (chsC cs).set (0 + i * 10 + 9) (.bool b) = chsC (cs.set i { c with on := b }) := by
  obtain ⟨l, r, rfl, rfl⟩ := chs_at h
  have e : (l ++ c :: r).set l.length { c with on := b } = l ++ { c with on := b } :: r := by simp
  rw [e, chsC_split, chsC_split, Nat.zero_add, ← chsC_len, List.set_append_right _ _ (by omega), Nat.add_sub_cancel_left, List.set_append_left _ _ (by rw [chC_len]; omega)]
  rfl
structure WiR where
  last : Option Mt
  in_ : Bool
  on : Bool
  e : Int
def withinM (ans : List UInt8 → Bool × Int) (last : Option Mt) (c : Chc) (l : Line) : WiR :=
  if c.row.B.kind = 1 then ⟨last, decide (l.line ≤ c.row.B.line), decide (l.line < c.row.B.line), 0⟩
  else ⟨(meetsM ans last c.row.B c.b l).last, true, !(meetsM ans last c.row.B c.b l).ok, (meetsM ans last c.row.B c.b l).e⟩
theorem within_c (gp rg : Nat) (cap : Nat) (cs : List Chc) (i : Nat) (c : Chc) (hi : cs[i]? = some c) (last : Option Mt) (ms : List Mt) (l : Line) (ans : List UInt8 → Bool × Int) (hans : AnsAll ms l.s ans) (hl : ∀ q, last = some q → q ∈ ms) (hb : ∀ q, c.b = some q → q ∈ ms) (w0 : World) (B : Nat) (hG : GR w0 B) :
    MutAt Tryz.prog 53 #[Pv gp 0, Pv rg (0 + i * 10), .agg (lnC l).toArray] [PKB gp (some ⟨rg, 0, none⟩) cs.length cap last, CRow (some ⟨rg, 0, none⟩) cap cs, HA.mats ms] (fun _ : Unit => .tuple #[.bool (withinM ans last c l).in_, .bool (withinM ans last c l).on, Iv (withinM ans last c l).e])
      (fun _ => [PKB gp (some ⟨rg, 0, none⟩) cs.length cap (withinM ans last c l).last, CRow (some ⟨rg, 0, none⟩) cap cs, HA.mats ms]) w0 B := by
  intro R w h
  replace h : Sat w0 B (PKB gp (some ⟨rg, 0, none⟩) cs.length cap last :: CRow (some ⟨rg, 0, none⟩) cap cs :: HA.mats ms :: R) w := h
  have hc := fun j u hj => chs_get hi j u hj
  refine calls_of_ES TB Tryz.func53 rfl _ Tryz.ntmps53 rfl h ?_
  refine .go ?_; repeat constructor
  (refine EL.box rfl rfl rfl ?_; intro g5)
  refine EL.assign rfl rfl rfl ?_
  refine EL.assign rfl rfl rfl ?_
  refine EL.assign rfl rfl rfl ?_
  refine .go ?_; repeat constructor
  refine EL.move rfl rfl rfl ?_
  refine EL.nilCheck rfl rfl rfl ?_
  refine EL.fieldAddr rfl rfl rfl rfl rfl rfl rfl rfl ?_
  refine EL.fieldAddr rfl rfl rfl rfl rfl rfl rfl rfl ?_
  refine EL.fieldAddr rfl rfl rfl rfl rfl rfl rfl rfl ?_
  refine EL.loadR rfl rfl rfl rfl rfl (by repeat constructor) (hc 3 _ rfl) ?_
  refine EL.eqlI rfl rfl rfl rfl ?_
  refine .go ?_; repeat constructor
  refine ES.condD rfl (fun h1 => ?_) (fun h1 => ?_)
  · have e : withinM ans last c l = ⟨last, decide (l.line ≤ c.row.B.line), decide (l.line < c.row.B.line), 0⟩ := if_pos h1
    rw [e]
    refine .g0 ?_; repeat constructor
    refine ES.draw (X := Unit) (fun _ => [(6, .bool (decide (l.line ≤ c.row.B.line))), (7, .bool (decide (l.line < c.row.B.line))), (8, Iv 0)]) (fun _ => PKB gp (some ⟨rg, 0, none⟩) cs.length cap last :: CRow (some ⟨rg, 0, none⟩) cap cs :: HA.mats ms :: R) (CRow (some ⟨rg, 0, none⟩) cap cs :: HA.blk g5 (.cells (lnC l).toArray 138) :: []) mixed (.i (by repeat constructor)) ?_ (fun _ => ?_)
    · refine ED.take 0 rfl (by decide +kernel) CutX.no_panic (by decide +kernel) rfl rfl rfl (RV.fieldAddr rfl rfl rfl rfl rfl rfl) ?_
      refine ED.take 1 rfl (by decide +kernel) CutX.no_panic (by decide +kernel) rfl rfl rfl (RV.loadB rfl rfl rfl (by repeat constructor) rfl) ?_
      refine ED.take 2 rfl (by decide +kernel) CutX.no_panic (by decide +kernel) rfl rfl rfl (RV.move rfl) ?_
      refine ED.take 3 rfl (by decide +kernel) CutX.no_panic (by decide +kernel) rfl rfl rfl (RV.nilCheck rfl) ?_
      refine ED.take 4 rfl (by decide +kernel) CutX.no_panic (by decide +kernel) rfl rfl rfl (RV.fieldAddr rfl rfl rfl rfl rfl rfl) ?_
      refine ED.take 5 rfl (by decide +kernel) CutX.no_panic (by decide +kernel) rfl rfl rfl (RV.fieldAddr rfl rfl rfl rfl rfl rfl) ?_
      refine ED.take 6 rfl (by decide +kernel) CutX.no_panic (by decide +kernel) rfl rfl rfl (RV.fieldAddr rfl rfl rfl rfl rfl rfl) ?_
      refine ED.take 7 rfl (by decide +kernel) CutX.no_panic (by decide +kernel) rfl rfl rfl (RV.loadR rfl rfl rfl (by repeat constructor) (hc 4 _ rfl)) ?_
      refine ED.take 8 rfl (by decide +kernel) CutX.no_panic (by decide +kernel) rfl rfl rfl (RV.leq rfl rfl) ?_
      refine ED.take 9 rfl (by decide +kernel) CutX.no_panic (by decide +kernel) rfl rfl rfl (RV.fieldAddr rfl rfl rfl rfl rfl rfl) ?_
      refine ED.take 10 rfl (by decide +kernel) CutX.no_panic (by decide +kernel) rfl rfl rfl (RV.loadB rfl rfl rfl (by repeat constructor) rfl) ?_
      refine ED.take 11 rfl (by decide +kernel) CutX.no_panic (by decide +kernel) rfl rfl rfl (RV.move rfl) ?_
      refine ED.take 12 rfl (by decide +kernel) CutX.no_panic (by decide +kernel) rfl rfl rfl (RV.nilCheck rfl) ?_
      refine ED.take 13 rfl (by decide +kernel) CutX.no_panic (by decide +kernel) rfl rfl rfl (RV.fieldAddr rfl rfl rfl rfl rfl rfl) ?_
      refine ED.take 14 rfl (by decide +kernel) CutX.no_panic (by decide +kernel) rfl rfl rfl (RV.fieldAddr rfl rfl rfl rfl rfl rfl) ?_
      refine ED.take 15 rfl (by decide +kernel) CutX.no_panic (by decide +kernel) rfl rfl rfl (RV.fieldAddr rfl rfl rfl rfl rfl rfl) ?_
      refine ED.take 16 rfl (by decide +kernel) CutX.no_panic (by decide +kernel) rfl rfl rfl (RV.loadR rfl rfl rfl (by repeat constructor) (hc 4 _ rfl)) ?_
      refine ED.take 17 rfl (by decide +kernel) CutX.no_panic (by decide +kernel) rfl rfl rfl (RV.lss rfl rfl) ?_
      refine ED.take 18 rfl (by decide +kernel) CutX.no_panic (by decide +kernel) rfl rfl rfl (RV.assign rfl) ?_
      refine ED.take 19 rfl (by decide +kernel) CutX.no_panic (by decide +kernel) rfl rfl rfl (RV.assign rfl) ?_
      refine ED.take 20 rfl (by decide +kernel) CutX.no_panic (by decide +kernel) rfl rfl rfl (RV.assign rfl) ?_
      refine ED.done (by decide +kernel) ?_
      exact PX.cutX () ⟨rfl, rfl, rfl, trivial⟩ (.i (by repeat constructor))
    refine .go ?_; repeat constructor
    exact PX.ret rfl Tryz.results53 (.cons (.tmp rfl) (.cons (.tmp rfl) (.cons (.tmp rfl) .nil))) (fun w hs => ⟨(), rfl, hs.ent (.i (by repeat constructor))⟩)
  have e : withinM ans last c l = ⟨(meetsM ans last c.row.B c.b l).last, true, !(meetsM ans last c.row.B c.b l).ok, (meetsM ans last c.row.B c.b l).e⟩ := if_neg h1
  rw [e]
  have hmc := meets_c gp (some ⟨rg, 0, none⟩) cs.length cap last c.b ms c.row.B l ans hans hl hb w0 B hG
  generalize meetsM ans last c.row.B c.b l = r at hmc
  refine .g0 ?_; repeat constructor
  refine ES.draw (X := Unit) (fun _ => [(8, Iv r.e), (9, .bool r.ok)]) (fun _ => PKB gp (some ⟨rg, 0, none⟩) cs.length cap r.last :: CRow (some ⟨rg, 0, none⟩) cap cs :: HA.mats ms :: R) (CRow (some ⟨rg, 0, none⟩) cap cs :: HA.blk g5 (.cells (lnC l).toArray 138) :: []) mixed (.i (by repeat constructor)) ?_ (fun _ => ?_)
  · refine ED.take 0 rfl (by decide +kernel) CutX.no_panic (by decide +kernel) rfl rfl rfl (RV.move rfl) ?_
    refine ED.take 1 rfl (by decide +kernel) CutX.no_panic (by decide +kernel) rfl rfl rfl (RV.move rfl) ?_
    refine ED.take 2 rfl (by decide +kernel) CutX.no_panic (by decide +kernel) rfl rfl rfl (RV.nilCheck rfl) ?_
    refine ED.take 3 rfl (by decide +kernel) CutX.no_panic (by decide +kernel) rfl rfl rfl (RV.fieldAddr rfl rfl rfl rfl rfl rfl) ?_
    refine ED.take 4 rfl (by decide +kernel) CutX.no_panic (by decide +kernel) rfl rfl rfl (RV.fieldAddr rfl rfl rfl rfl rfl rfl) ?_
    refine ED.take 5 rfl (by decide +kernel) CutX.no_panic (by decide +kernel) rfl rfl rfl (RV.loadRA (adC c.row.B) rfl rfl rfl rfl (by repeat constructor) (chs_sub hi 3 3 _ (by omega) rfl)) ?_
    refine ED.take 6 rfl (by decide +kernel) CutX.no_panic (by decide +kernel) rfl rfl rfl (RV.move rfl) ?_
    refine ED.take 7 rfl (by decide +kernel) CutX.no_panic (by decide +kernel) rfl rfl rfl (RV.nilCheck rfl) ?_
    refine ED.take 8 rfl (by decide +kernel) CutX.no_panic (by decide +kernel) rfl rfl rfl (RV.fieldAddr rfl rfl rfl rfl rfl rfl) ?_
    refine ED.take 9 rfl (by decide +kernel) CutX.no_panic (by decide +kernel) rfl rfl rfl (RV.loadR rfl rfl rfl (by repeat constructor) (hc 8 _ rfl)) ?_
    refine ED.take 10 rfl (by decide +kernel) CutX.no_panic (by decide +kernel) rfl rfl rfl (RV.loadAggB rfl rfl rfl (by repeat constructor) rfl) ?_
    refine ED.loud 11 rfl (by decide +kernel) ?_
    (refine EL.callMw rfl rfl rfl ent54 rfl hmc (by repeat constructor) ?_; intro x)
    refine ED.next (.i (by repeat constructor)) ?_
    refine ED.take 12 rfl (by decide +kernel) CutX.no_panic (by decide +kernel) rfl rfl rfl (RV.move rfl) ?_
    refine ED.take 13 rfl (by decide +kernel) CutX.no_panic (by decide +kernel) rfl rfl rfl (RV.extract rfl rfl) ?_
    refine ED.take 14 rfl (by decide +kernel) CutX.no_panic (by decide +kernel) rfl rfl rfl (RV.extract rfl rfl) ?_
    refine ED.take 15 rfl (by decide +kernel) CutX.no_panic (by decide +kernel) rfl rfl rfl (RV.assign rfl) ?_
    refine ED.take 16 rfl (by decide +kernel) CutX.no_panic (by decide +kernel) rfl rfl rfl (RV.assign rfl) ?_
    refine ED.done (by decide +kernel) ?_
    exact PX.cutX () ⟨rfl, rfl, trivial⟩ (.i (by repeat constructor))
  refine .go ?_; repeat constructor
  refine EL.move rfl rfl rfl ?_
  refine EL.not rfl rfl rfl ?_
  refine EL.move rfl rfl rfl ?_
  refine EL.assign rfl rfl rfl ?_
  refine EL.assign rfl rfl rfl ?_
  refine EL.assign rfl rfl rfl ?_
  refine .go ?_; repeat constructor
  exact PX.ret rfl Tryz.results53 (.cons (.tmp rfl) (.cons (.tmp rfl) (.cons (.tmp rfl) .nil))) (fun w hs => ⟨(), rfl, hs.ent (.i (by repeat constructor))⟩)
structure AskR where
  last : Option Mt
  on : Bool
  yes : Bool
  off : Bool
  e : Int
def askA (ans : List UInt8 → Bool × Int) (last : Option Mt) (c : Chc) (l : Line) : AskR :=
  if (meetsM ans last c.row.A c.a l).e ≠ 0 then ⟨(meetsM ans last c.row.A c.a l).last, c.on, false, false, (meetsM ans last c.row.A c.a l).e⟩
  else
    let on := ((meetsM ans last c.row.A c.a l).ok && !decide (c.row.B.kind = 0)) && beginsM c.row.B l
    ⟨(meetsM ans last c.row.A c.a l).last, on, !((meetsM ans last c.row.A c.a l).ok == c.row.not), !on, 0⟩
def askM (ans : List UInt8 → Bool × Int) (last : Option Mt) (c : Chc) (l : Line) : AskR :=
  if c.on = true then
    if (withinM ans last c l).e ≠ 0 then ⟨(withinM ans last c l).last, c.on, false, false, (withinM ans last c l).e⟩
    else if (withinM ans last c l).in_ = true then ⟨(withinM ans last c l).last, (withinM ans last c l).on, !(true == c.row.not), !(withinM ans last c l).on, 0⟩
    else askA ans (withinM ans last c l).last c l
  else askA ans last c l
theorem meets_in {ans : List UInt8 → Bool × Int} {last m : Option Mt} {a : Ad} {l : Line} {ms : List Mt} (hl : ∀ q, last = some q → q ∈ ms) (hm : ∀ q, m = some q → q ∈ ms) : ∀ q, (meetsM ans last a m l).last = some q → q ∈ ms := fun q hq => by
  unfold meetsM at hq
  split at hq
  · exact hl q hq
  · split at hq
    · exact hl q hq
    · split at hq
      · exact hl q hq
      · cases m with
        | none =>
          simp only [orM] at hq
          cases last with
          | none => cases hq
          | some q' => cases hq; exact hl q rfl
        | some q' => simp only [orM] at hq; cases hq; exact hm q rfl
theorem within_in {ans : List UInt8 → Bool × Int} {last : Option Mt} {c : Chc} {l : Line} {ms : List Mt} (hl : ∀ q, last = some q → q ∈ ms) (hb : ∀ q, c.b = some q → q ∈ ms) : ∀ q, (withinM ans last c l).last = some q → q ∈ ms := fun q hq => by
  unfold withinM at hq
  split at hq
  · exact hl q hq
  · exact meets_in hl hb q hq
theorem ask_c (gp rg : Nat) (cap : Nat) (cs : List Chc) (i : Nat) (c : Chc) (hi : cs[i]? = some c) (last : Option Mt) (ms : List Mt) (l : Line) (ans : List UInt8 → Bool × Int) (hans : AnsAll ms l.s ans) (hl : ∀ q, last = some q → q ∈ ms) (ha : ∀ q, c.a = some q → q ∈ ms) (hb : ∀ q, c.b = some q → q ∈ ms) (w0 : World) (B : Nat) (hG : GR w0 B) :
    MutAt Tryz.prog 27 #[Pv gp 0, Iv (i : Nat), Iv l.line, .bool l.last, Sv l.s] [PKB gp (some ⟨rg, 0, none⟩) cs.length cap last, CRow (some ⟨rg, 0, none⟩) cap cs, HA.mats ms] (fun _ : Unit => .tuple #[.bool (askM ans last c l).yes, .bool (askM ans last c l).off, Iv (askM ans last c l).e])
      (fun _ => [PKB gp (some ⟨rg, 0, none⟩) cs.length cap (askM ans last c l).last, CRow (some ⟨rg, 0, none⟩) cap (cs.set i { c with on := (askM ans last c l).on }), HA.mats ms]) w0 B := by
  intro R w h
  replace h : Sat w0 B (PKB gp (some ⟨rg, 0, none⟩) cs.length cap last :: CRow (some ⟨rg, 0, none⟩) cap cs :: HA.mats ms :: R) w := h
  have hc := fun j u hj => chs_get hi j u hj
  have hlt : i < cs.length := (List.getElem?_eq_some_iff.1 hi).1
  have hset := chs_set hi
  have hself : cs.set i { c with on := c.on } = cs := by
    apply List.ext_getElem?
    intro j
    rw [List.getElem?_set]
    split
    · rename_i e; subst e; first | exact hi.symm | simp [hlt, hi]
    · rfl
  have hsl : ∀ b, (cs.set i { c with on := b }).length = cs.length := fun b => List.length_set
  have hlen := chsC_len cs
  have hwc := within_c gp rg cap cs i c hi last ms l ans hans hl hb w0 B hG
  have hwin := within_in (ans := ans) (l := l) hl hb
  refine calls_of_ES TB Tryz.func27 rfl _ Tryz.ntmps27 rfl h ?_
  refine .go ?_; repeat constructor
  refine EL.assign rfl rfl rfl ?_
  refine EL.assign rfl rfl rfl ?_
  refine EL.assign rfl rfl rfl ?_
  refine .go ?_; repeat constructor
  refine EL.move rfl rfl rfl ?_
  refine EL.eqlPn rfl rfl rfl rfl rfl rfl ?_
  refine .go ?_; repeat constructor
  refine ES.condF rfl ?_
  refine .go ?_; repeat constructor
  refine EL.cutX (X := Unit) (fun _ => [(0, Pv gp 0), (1, Iv (i : Nat)), (2, Iv l.line), (3, .bool l.last), (4, Sv l.s), (32, .bool false)]) (fun _ => PKB gp (some ⟨rg, 0, none⟩) cs.length cap last :: CRow (some ⟨rg, 0, none⟩) cap cs :: HA.mats ms :: R) ?_ (fun _ => ?_)
  · refine .go ?_; repeat constructor
    refine EL.move rfl rfl rfl ?_
    refine EL.lss rfl rfl rfl rfl ?_
    refine EL.move rfl rfl rfl ?_
    refine EL.rew (d := 24) (v' := .bool false) rfl (congrArg Value.bool (decide_eq_false (by omega))) ?_
    refine EL.move rfl rfl rfl ?_
    refine EL.move rfl rfl rfl ?_
    refine EL.nilCheck rfl rfl rfl ?_
    refine EL.fieldAddr rfl rfl rfl rfl rfl rfl rfl rfl ?_
    (apply EL.loadB; exact rfl; exact rfl; exact rfl; exact rfl; exact rfl; (case hm => repeat constructor); exact rfl)
    refine EL.lenL rfl rfl rfl rfl rfl ?_
    refine EL.geq rfl rfl rfl rfl ?_
    refine EL.pickF rfl rfl rfl rfl ?_
    exact EL.endX () ⟨rfl, rfl, rfl, rfl, rfl, getA rfl (congrArg Value.bool (decide_eq_false (by omega))), trivial⟩ (.i (by repeat constructor))
  refine ES.condF rfl ?_
  refine .go ?_; repeat constructor
  refine EL.move rfl rfl rfl ?_
  refine EL.nilCheck rfl rfl rfl ?_
  refine EL.fieldAddr rfl rfl rfl rfl rfl rfl rfl rfl ?_
  (apply EL.loadB; exact rfl; exact rfl; exact rfl; exact rfl; exact rfl; (case hm => repeat constructor); exact rfl)
  refine EL.move rfl rfl rfl ?_
  refine EL.indexAddrL rfl rfl rfl rfl rfl rfl rfl (by omega) ?_
  refine EL.move rfl rfl rfl ?_
  refine EL.move rfl rfl rfl ?_
  refine EL.move rfl rfl rfl ?_
  (apply EL.build3; exact rfl; exact rfl; exact rfl; exact rfl; exact rfl; exact rfl; exact rfl; exact rfl; exact rfl; exact rfl; exact rfl; exact rfl)
  (refine EL.alloc rfl rfl rfl ?_; intro g14)
  refine EL.assign rfl rfl rfl ?_
  (apply EL.storeAll; exact rfl; exact rfl; exact rfl; exact rfl; exact rfl; (case p => repeat constructor); exact rfl; (case h1 => exact (by first | rfl | exact all1 rfl | (intro u hu; simp only [List.mem_cons, List.not_mem_nil, or_false] at hu; rcases hu with rfl | rfl | rfl | rfl <;> rfl) | (intro u hu; simp at hu; rcases hu with rfl | rfl | rfl | rfl <;> rfl) | (intro u hu; simp at hu; rcases hu with rfl | rfl | rfl <;> rfl) | (intro u hu; simp at hu; rcases hu with rfl | rfl <;> rfl) | (intro u hu; simp at hu; obtain ⟨_, _, rfl⟩ := hu; rfl))))
  refine .go ?_; repeat constructor
  refine .go ?_; repeat constructor
  refine EL.move rfl rfl rfl ?_
  refine EL.nilCheck rfl rfl rfl ?_
  refine EL.fieldAddr rfl rfl rfl rfl rfl rfl rfl rfl ?_
  refine EL.loadR rfl rfl rfl rfl rfl (by repeat constructor) (hc 9 _ rfl) ?_
  refine .go ?_; repeat constructor
  refine ES.cutW (X := { last' : Option Mt // askM ans last c l = askA ans last' c l ∧ ∀ q, last' = some q → q ∈ ms }) (fun _ => [(0, Pv gp 0), (13, Pv rg (0 + i * 10)), (14, Pv g14 0)]) (fun x => PKB gp (some ⟨rg, 0, none⟩) cs.length cap x.1 :: CRow (some ⟨rg, 0, none⟩) cap cs :: HA.mats ms :: HA.blk g14 (.cells (lnC l).toArray 138) :: R) ?_ (fun x => ?_)
  · refine ES.cond rfl (fun hon => ?_) (fun hoff => ?_)
    rotate_left
    · have hoff' : c.on = false := hoff
      refine .go ?_; repeat constructor
      exact PX.cutWn ⟨last, by unfold askM; rw [if_neg (by rw [hoff']; simp)], hl⟩ ⟨rfl, rfl, rfl, trivial⟩ (.i (by repeat constructor))
    have hon' : c.on = true := hon
    have hask : askM ans last c l = if (withinM ans last c l).e ≠ 0 then ⟨(withinM ans last c l).last, c.on, false, false, (withinM ans last c l).e⟩
        else if (withinM ans last c l).in_ = true then ⟨(withinM ans last c l).last, (withinM ans last c l).on, !(true == c.row.not), !(withinM ans last c l).on, 0⟩
        else askA ans (withinM ans last c l).last c l := by unfold askM; rw [if_pos hon']
    generalize withinM ans last c l = wr at hask hwc hwin
    refine .go ?_; repeat constructor
    refine EL.move rfl rfl rfl ?_
    refine EL.move rfl rfl rfl ?_
    (apply EL.loadAggB; exact rfl; exact rfl; exact rfl; exact rfl; exact rfl; (case hm => repeat constructor); exact rfl)
    (refine EL.callMw rfl rfl rfl ent53 rfl hwc (by repeat constructor) ?_; intro x)
    refine EL.move rfl rfl rfl ?_
    refine EL.extract rfl rfl rfl rfl ?_
    refine EL.extract rfl rfl rfl rfl ?_
    refine EL.extract rfl rfl rfl rfl ?_
    refine EL.assign rfl rfl rfl ?_
    refine EL.assign rfl rfl rfl ?_
    refine EL.assign rfl rfl rfl ?_
    refine .go ?_; repeat constructor
    refine .go ?_; repeat constructor
    refine EL.move rfl rfl rfl ?_
    refine EL.neqI rfl rfl rfl rfl ?_
    refine .go ?_; repeat constructor
    refine ES.condN rfl (fun hne => ?_) (fun he0 => ?_)
    · rw [if_pos hne] at hask
      refine .go ?_; repeat constructor
      refine EL.move rfl rfl rfl ?_
      refine EL.assign rfl rfl rfl ?_
      refine EL.assign rfl rfl rfl ?_
      refine EL.assign rfl rfl rfl ?_
      refine .go ?_; repeat constructor
      refine PX.cutWr ?_
      rw [hask]
      exact PX.ret rfl Tryz.results27 (.cons (.tmp rfl) (.cons (.tmp rfl) (.cons (.tmp rfl) .nil))) (fun w hs => ⟨(), rfl, by dsimp only; rw [hself]; exact hs.ent (.i (by repeat constructor))⟩)
    rw [if_neg (fun h => h he0)] at hask
    refine .go ?_; repeat constructor
    refine EL.move rfl rfl rfl ?_
    refine .go ?_; repeat constructor
    refine ES.cond rfl (fun hin => ?_) (fun hout => ?_)
    · have hin' : wr.in_ = true := hin
      rw [if_pos hin'] at hask
      refine .go ?_; repeat constructor
      refine EL.move rfl rfl rfl ?_
      refine EL.move rfl rfl rfl ?_
      refine EL.nilCheck rfl rfl rfl ?_
      refine EL.fieldAddr rfl rfl rfl rfl rfl rfl rfl rfl ?_
      (refine EL.storeR rfl rfl rfl rfl rfl rfl (by repeat constructor) (by rw [hlen]; show 0 + i * 10 + 9 < _; omega) ?_; refine EL.rowEq (v := .slice (some ⟨rg, 0, none⟩) cs.length cap) (by repeat constructor) (hset wr.on) ?_)
      refine .go ?_; repeat constructor
      refine EL.move rfl rfl rfl ?_
      refine EL.move rfl rfl rfl ?_
      refine EL.nilCheck rfl rfl rfl ?_
      refine EL.fieldAddr rfl rfl rfl rfl rfl rfl rfl rfl ?_
      refine EL.fieldAddr rfl rfl rfl rfl rfl rfl rfl rfl ?_
      refine EL.loadR rfl rfl rfl rfl rfl (by repeat constructor) (chs_get (cs := cs.set i { c with on := wr.on }) (c := { c with on := wr.on }) (by rw [List.getElem?_set, if_pos rfl, if_pos hlt]) 6 _ rfl) ?_
      refine EL.neqB rfl rfl rfl rfl rfl rfl ?_
      refine EL.move rfl rfl rfl ?_
      refine EL.not rfl rfl rfl ?_
      refine EL.assign rfl rfl rfl ?_
      refine EL.assign rfl rfl rfl ?_
      refine EL.assign rfl rfl rfl ?_
      refine .go ?_; repeat constructor
      refine PX.cutWr ?_
      rw [hask]
      exact PX.ret rfl Tryz.results27 (.cons (.tmp rfl) (.cons (.tmp rfl) (.cons (.tmp rfl) .nil))) (fun w hs => ⟨(), by rw [hin']; rfl, by dsimp only; unfold CRow; rw [hsl]; exact hs.ent (.i (by repeat constructor))⟩)
    · have hout' : wr.in_ = false := hout
      rw [if_neg (by rw [hout']; simp)] at hask
      refine .go ?_; repeat constructor
      exact PX.cutWn ⟨wr.last, hask, hwin⟩ ⟨rfl, rfl, rfl, trivial⟩ (.i (by repeat constructor))
  obtain ⟨last', hask, hl'⟩ := x
  dsimp only
  rw [hask]
  have hmc := meets_c gp (some ⟨rg, 0, none⟩) cs.length cap last' c.a ms c.row.A l ans hans hl' ha w0 B hG
  have hA : askA ans last' c l = if (meetsM ans last' c.row.A c.a l).e ≠ 0 then ⟨(meetsM ans last' c.row.A c.a l).last, c.on, false, false, (meetsM ans last' c.row.A c.a l).e⟩
    else ⟨(meetsM ans last' c.row.A c.a l).last, ((meetsM ans last' c.row.A c.a l).ok && !decide (c.row.B.kind = 0)) && beginsM c.row.B l, !((meetsM ans last' c.row.A c.a l).ok == c.row.not), !(((meetsM ans last' c.row.A c.a l).ok && !decide (c.row.B.kind = 0)) && beginsM c.row.B l), 0⟩ := rfl
  generalize meetsM ans last' c.row.A c.a l = r at hmc hA
  refine .g0 ?_; repeat constructor
  refine ES.draw (X := Unit) (fun _ => [(0, Pv gp 0), (13, Pv rg (0 + i * 10)), (14, Pv g14 0), (18, .bool r.ok), (19, Iv r.e)]) (fun _ => PKB gp (some ⟨rg, 0, none⟩) cs.length cap r.last :: CRow (some ⟨rg, 0, none⟩) cap cs :: HA.mats ms :: HA.blk g14 (.cells (lnC l).toArray 138) :: R) (CRow (some ⟨rg, 0, none⟩) cap cs :: HA.blk g14 (.cells (lnC l).toArray 138) :: []) mixed (.i (by repeat constructor)) ?_ (fun _ => ?_)
  · refine ED.take 0 rfl (by decide +kernel) CutX.no_panic (by decide +kernel) rfl rfl rfl (RV.move rfl) ?_
    refine ED.take 1 rfl (by decide +kernel) CutX.no_panic (by decide +kernel) rfl rfl rfl (RV.move rfl) ?_
    refine ED.take 2 rfl (by decide +kernel) CutX.no_panic (by decide +kernel) rfl rfl rfl (RV.nilCheck rfl) ?_
    refine ED.take 3 rfl (by decide +kernel) CutX.no_panic (by decide +kernel) rfl rfl rfl (RV.fieldAddr rfl rfl rfl rfl rfl rfl) ?_
    refine ED.take 4 rfl (by decide +kernel) CutX.no_panic (by decide +kernel) rfl rfl rfl (RV.fieldAddr rfl rfl rfl rfl rfl rfl) ?_
    refine ED.take 5 rfl (by decide +kernel) CutX.no_panic (by decide +kernel) rfl rfl rfl (RV.loadRA (adC c.row.A) rfl rfl rfl rfl (by repeat constructor) (chs_sub hi 0 3 _ (by omega) rfl)) ?_
    refine ED.take 6 rfl (by decide +kernel) CutX.no_panic (by decide +kernel) rfl rfl rfl (RV.move rfl) ?_
    refine ED.take 7 rfl (by decide +kernel) CutX.no_panic (by decide +kernel) rfl rfl rfl (RV.nilCheck rfl) ?_
    refine ED.take 8 rfl (by decide +kernel) CutX.no_panic (by decide +kernel) rfl rfl rfl (RV.fieldAddr rfl rfl rfl rfl rfl rfl) ?_
    refine ED.take 9 rfl (by decide +kernel) CutX.no_panic (by decide +kernel) rfl rfl rfl (RV.loadR rfl rfl rfl (by repeat constructor) (hc 7 _ rfl)) ?_
    refine ED.take 10 rfl (by decide +kernel) CutX.no_panic (by decide +kernel) rfl rfl rfl (RV.loadAggB rfl rfl rfl (by repeat constructor) rfl) ?_
    refine ED.loud 11 rfl (by decide +kernel) ?_
    (refine EL.callMw rfl rfl rfl ent54 rfl hmc (by repeat constructor) ?_; intro x)
    refine ED.next (.i (by repeat constructor)) ?_
    refine ED.take 12 rfl (by decide +kernel) CutX.no_panic (by decide +kernel) rfl rfl rfl (RV.move rfl) ?_
    refine ED.take 13 rfl (by decide +kernel) CutX.no_panic (by decide +kernel) rfl rfl rfl (RV.extract rfl rfl) ?_
    refine ED.take 14 rfl (by decide +kernel) CutX.no_panic (by decide +kernel) rfl rfl rfl (RV.extract rfl rfl) ?_
    refine ED.take 15 rfl (by decide +kernel) CutX.no_panic (by decide +kernel) rfl rfl rfl (RV.assign rfl) ?_
    refine ED.take 16 rfl (by decide +kernel) CutX.no_panic (by decide +kernel) rfl rfl rfl (RV.assign rfl) ?_
    refine ED.done (by decide +kernel) ?_
    exact PX.cutX () ⟨rfl, rfl, rfl, rfl, rfl, trivial⟩ (.i (by repeat constructor))
  refine .go ?_; repeat constructor
  refine EL.move rfl rfl rfl ?_
  refine EL.neqI rfl rfl rfl rfl ?_
  refine .go ?_; repeat constructor
  refine ES.condN rfl (fun hne => ?_) (fun he0 => ?_)
  · rw [if_pos hne] at hA
    rw [hA]
    refine .go ?_; repeat constructor
    refine EL.move rfl rfl rfl ?_
    refine EL.assign rfl rfl rfl ?_
    refine EL.assign rfl rfl rfl ?_
    refine EL.assign rfl rfl rfl ?_
    refine .go ?_; repeat constructor
    exact PX.ret rfl Tryz.results27 (.cons (.tmp rfl) (.cons (.tmp rfl) (.cons (.tmp rfl) .nil))) (fun w hs => ⟨(), rfl, by dsimp only; rw [hself]; exact hs.ent (.i (by repeat constructor))⟩)
  rw [if_neg (fun h => h he0)] at hA
  obtain ⟨on', hon⟩ : ∃ on', on' = ((r.ok && !decide (c.row.B.kind = 0)) && beginsM c.row.B l) := ⟨_, rfl⟩
  rw [← hon] at hA
  rw [hA]
  refine .g0 ?_; repeat constructor
  refine ES.draw (X := { b : Bool // b = on' }) (fun _ => [(0, Pv gp 0), (13, Pv rg (0 + i * 10)), (14, Pv g14 0), (18, .bool r.ok)]) (fun b => PKB gp (some ⟨rg, 0, none⟩) cs.length cap r.last :: CRow (some ⟨rg, 0, none⟩) cap (cs.set i { c with on := b.1 }) :: HA.mats ms :: HA.blk g14 (.cells (lnC l).toArray 138) :: R) (CRow (some ⟨rg, 0, none⟩) cap cs :: HA.blk g14 (.cells (lnC l).toArray 138) :: []) mixed (.i (by repeat constructor)) ?_ (fun b => ?_)
  · refine ED.take 0 rfl (by decide +kernel) CutX.no_panic (by decide +kernel) rfl rfl rfl (RV.move rfl) ?_
    refine ED.take 1 rfl (by decide +kernel) CutX.no_panic (by decide +kernel) rfl rfl rfl (RV.move rfl) ?_
    refine ED.take 2 rfl (by decide +kernel) CutX.no_panic (by decide +kernel) rfl rfl rfl (RV.move rfl) ?_
    first | refine ED.part (d := 92) rfl (fun hp92 => ?_) (fun hp92 => ?_) | refine ED.partN (d := 92) rfl (fun hp92 => ?_) (fun hp92 => ?_) | refine ED.partB (d := 92) rfl (fun hp92 => ?_) (fun hp92 => ?_)
    · refine ED.take 3 rfl (by decide +kernel) CutX.no_panic (by decide +kernel) rfl rfl rfl (RV.move rfl) ?_
      refine ED.take 4 rfl (by decide +kernel) CutX.no_panic (by decide +kernel) rfl rfl rfl (RV.nilCheck rfl) ?_
      refine ED.take 5 rfl (by decide +kernel) CutX.no_panic (by decide +kernel) rfl rfl rfl (RV.fieldAddr rfl rfl rfl rfl rfl rfl) ?_
      refine ED.take 6 rfl (by decide +kernel) CutX.no_panic (by decide +kernel) rfl rfl rfl (RV.fieldAddr rfl rfl rfl rfl rfl rfl) ?_
      refine ED.take 7 rfl (by decide +kernel) CutX.no_panic (by decide +kernel) rfl rfl rfl (RV.fieldAddr rfl rfl rfl rfl rfl rfl) ?_
      refine ED.take 8 rfl (by decide +kernel) CutX.no_panic (by decide +kernel) rfl rfl rfl (RV.loadR rfl rfl rfl (by repeat constructor) (hc 3 _ rfl)) ?_
      refine ED.take 9 rfl (by decide +kernel) CutX.no_panic (by decide +kernel) rfl rfl rfl (RV.neqI rfl rfl) ?_
      refine ED.take 10 rfl (by decide +kernel) CutX.no_panic (by decide +kernel) rfl rfl rfl (RV.pickT rfl rfl) ?_
      refine ED.take 11 rfl (by decide +kernel) CutX.no_panic (by decide +kernel) rfl rfl rfl (RV.move rfl) ?_
      first | refine ED.part (d := 101) rfl (fun hp101 => ?_) (fun hp101 => ?_) | refine ED.partN (d := 101) rfl (fun hp101 => ?_) (fun hp101 => ?_) | refine ED.partB (d := 101) rfl (fun hp101 => ?_) (fun hp101 => ?_)
      · refine ED.take 12 rfl (by decide +kernel) CutX.no_panic (by decide +kernel) rfl rfl rfl (RV.move rfl) ?_
        refine ED.take 13 rfl (by decide +kernel) CutX.no_panic (by decide +kernel) rfl rfl rfl (RV.nilCheck rfl) ?_
        refine ED.take 14 rfl (by decide +kernel) CutX.no_panic (by decide +kernel) rfl rfl rfl (RV.fieldAddr rfl rfl rfl rfl rfl rfl) ?_
        refine ED.take 15 rfl (by decide +kernel) CutX.no_panic (by decide +kernel) rfl rfl rfl (RV.fieldAddr rfl rfl rfl rfl rfl rfl) ?_
        refine ED.take 16 rfl (by decide +kernel) CutX.no_panic (by decide +kernel) rfl rfl rfl (RV.loadRA (adC c.row.B) rfl rfl rfl rfl (by repeat constructor) (chs_sub hi 3 3 _ (by omega) rfl)) ?_
        refine ED.take 17 rfl (by decide +kernel) CutX.no_panic (by decide +kernel) rfl rfl rfl (RV.loadAggB rfl rfl rfl (by repeat constructor) rfl) ?_
        refine ED.loud 18 rfl (by decide +kernel) ?_
        refine EL.callP rfl rfl rfl ent55 rfl (begins_c c.row.B l) ?_
        refine ED.next (.i (by repeat constructor)) ?_
        refine ED.take 19 rfl (by decide +kernel) CutX.no_panic (by decide +kernel) rfl rfl rfl (RV.pickT rfl rfl) ?_
        refine ED.take 20 rfl (by decide +kernel) CutX.no_panic (by decide +kernel) rfl rfl rfl (RV.nilCheck rfl) ?_
        refine ED.take 21 rfl (by decide +kernel) CutX.no_panic (by decide +kernel) rfl rfl rfl (RV.fieldAddr rfl rfl rfl rfl rfl rfl) ?_
        refine ED.last 22 rfl (by decide +kernel) (by decide +kernel) (by decide +kernel) ?_
        (refine EL.storeR rfl rfl rfl rfl rfl rfl (by repeat constructor) (by rw [hlen]; show 0 + i * 10 + 9 < _; omega) ?_; refine EL.rowEq (v := .slice (some ⟨rg, 0, none⟩) cs.length cap) (by repeat constructor) (hset _) ?_)
        refine EL.endQ ?_
        first | (refine PX.cutX ⟨beginsM c.row.B l, ?_⟩ ⟨rfl, rfl, rfl, rfl, trivial⟩ ?_; rw [hon, hp92]; simp [hp101]; dsimp only; unfold CRow; rw [hsl]; exact (.i (by repeat constructor))) | (refine PX.cutX ⟨false, ?_⟩ ⟨rfl, rfl, rfl, rfl, trivial⟩ ?_; rw [hon, hp92]; simp [hp101]; dsimp only; unfold CRow; rw [hsl]; exact (.i (by repeat constructor))) | (refine PX.cutX ⟨false, ?_⟩ ⟨rfl, rfl, rfl, rfl, trivial⟩ ?_; rw [hon, hp92]; simp; dsimp only; unfold CRow; rw [hsl]; exact (.i (by repeat constructor)))
      · refine ED.pass 12 rfl (by decide +kernel) CutX.no_panic (by decide +kernel) rfl rfl rfl ?_
        refine ED.pass 13 rfl (by decide +kernel) CutX.no_panic (by decide +kernel) rfl rfl rfl ?_
        refine ED.pass 14 rfl (by decide +kernel) CutX.no_panic (by decide +kernel) rfl rfl rfl ?_
        refine ED.pass 15 rfl (by decide +kernel) CutX.no_panic (by decide +kernel) rfl rfl rfl ?_
        refine ED.pass 16 rfl (by decide +kernel) CutX.no_panic (by decide +kernel) rfl rfl rfl ?_
        refine ED.pass 17 rfl (by decide +kernel) CutX.no_panic (by decide +kernel) rfl rfl rfl ?_
        refine ED.pass 18 rfl (by decide +kernel) CutX.no_panic (by decide +kernel) rfl rfl rfl ?_
        refine ED.take 19 rfl (by decide +kernel) CutX.no_panic (by decide +kernel) rfl rfl rfl (RV.pickF rfl rfl) ?_
        refine ED.take 20 rfl (by decide +kernel) CutX.no_panic (by decide +kernel) rfl rfl rfl (RV.nilCheck rfl) ?_
        refine ED.take 21 rfl (by decide +kernel) CutX.no_panic (by decide +kernel) rfl rfl rfl (RV.fieldAddr rfl rfl rfl rfl rfl rfl) ?_
        refine ED.last 22 rfl (by decide +kernel) (by decide +kernel) (by decide +kernel) ?_
        (refine EL.storeR rfl rfl rfl rfl rfl rfl (by repeat constructor) (by rw [hlen]; show 0 + i * 10 + 9 < _; omega) ?_; refine EL.rowEq (v := .slice (some ⟨rg, 0, none⟩) cs.length cap) (by repeat constructor) (hset _) ?_)
        refine EL.endQ ?_
        first | (refine PX.cutX ⟨beginsM c.row.B l, ?_⟩ ⟨rfl, rfl, rfl, rfl, trivial⟩ ?_; rw [hon, hp92]; simp [hp101]; dsimp only; unfold CRow; rw [hsl]; exact (.i (by repeat constructor))) | (refine PX.cutX ⟨false, ?_⟩ ⟨rfl, rfl, rfl, rfl, trivial⟩ ?_; rw [hon, hp92]; simp [hp101]; dsimp only; unfold CRow; rw [hsl]; exact (.i (by repeat constructor))) | (refine PX.cutX ⟨false, ?_⟩ ⟨rfl, rfl, rfl, rfl, trivial⟩ ?_; rw [hon, hp92]; simp; dsimp only; unfold CRow; rw [hsl]; exact (.i (by repeat constructor)))
    · refine ED.pass 3 rfl (by decide +kernel) CutX.no_panic (by decide +kernel) rfl rfl rfl ?_
      refine ED.pass 4 rfl (by decide +kernel) CutX.no_panic (by decide +kernel) rfl rfl rfl ?_
      refine ED.pass 5 rfl (by decide +kernel) CutX.no_panic (by decide +kernel) rfl rfl rfl ?_
      refine ED.pass 6 rfl (by decide +kernel) CutX.no_panic (by decide +kernel) rfl rfl rfl ?_
      refine ED.pass 7 rfl (by decide +kernel) CutX.no_panic (by decide +kernel) rfl rfl rfl ?_
      refine ED.pass 8 rfl (by decide +kernel) CutX.no_panic (by decide +kernel) rfl rfl rfl ?_
      refine ED.pass 9 rfl (by decide +kernel) CutX.no_panic (by decide +kernel) rfl rfl rfl ?_
      refine ED.take 10 rfl (by decide +kernel) CutX.no_panic (by decide +kernel) rfl rfl rfl (RV.pickF rfl rfl) ?_
      refine ED.take 11 rfl (by decide +kernel) CutX.no_panic (by decide +kernel) rfl rfl rfl (RV.move rfl) ?_
      refine ED.pass 12 rfl (by decide +kernel) CutX.no_panic (by decide +kernel) rfl rfl rfl ?_
      refine ED.pass 13 rfl (by decide +kernel) CutX.no_panic (by decide +kernel) rfl rfl rfl ?_
      refine ED.pass 14 rfl (by decide +kernel) CutX.no_panic (by decide +kernel) rfl rfl rfl ?_
      refine ED.pass 15 rfl (by decide +kernel) CutX.no_panic (by decide +kernel) rfl rfl rfl ?_
      refine ED.pass 16 rfl (by decide +kernel) CutX.no_panic (by decide +kernel) rfl rfl rfl ?_
      refine ED.pass 17 rfl (by decide +kernel) CutX.no_panic (by decide +kernel) rfl rfl rfl ?_
      refine ED.pass 18 rfl (by decide +kernel) CutX.no_panic (by decide +kernel) rfl rfl rfl ?_
      refine ED.take 19 rfl (by decide +kernel) CutX.no_panic (by decide +kernel) rfl rfl rfl (RV.pickF rfl rfl) ?_
      refine ED.take 20 rfl (by decide +kernel) CutX.no_panic (by decide +kernel) rfl rfl rfl (RV.nilCheck rfl) ?_
      refine ED.take 21 rfl (by decide +kernel) CutX.no_panic (by decide +kernel) rfl rfl rfl (RV.fieldAddr rfl rfl rfl rfl rfl rfl) ?_
      refine ED.last 22 rfl (by decide +kernel) (by decide +kernel) (by decide +kernel) ?_
      (refine EL.storeR rfl rfl rfl rfl rfl rfl (by repeat constructor) (by rw [hlen]; show 0 + i * 10 + 9 < _; omega) ?_; refine EL.rowEq (v := .slice (some ⟨rg, 0, none⟩) cs.length cap) (by repeat constructor) (hset _) ?_)
      refine EL.endQ ?_
      first | (refine PX.cutX ⟨beginsM c.row.B l, ?_⟩ ⟨rfl, rfl, rfl, rfl, trivial⟩ ?_; rw [hon, hp92]; simp [hp101]; dsimp only; unfold CRow; rw [hsl]; exact (.i (by repeat constructor))) | (refine PX.cutX ⟨false, ?_⟩ ⟨rfl, rfl, rfl, rfl, trivial⟩ ?_; rw [hon, hp92]; simp [hp101]; dsimp only; unfold CRow; rw [hsl]; exact (.i (by repeat constructor))) | (refine PX.cutX ⟨false, ?_⟩ ⟨rfl, rfl, rfl, rfl, trivial⟩ ?_; rw [hon, hp92]; simp; dsimp only; unfold CRow; rw [hsl]; exact (.i (by repeat constructor)))
  obtain ⟨b, rfl⟩ := b
  have hget2 := fun j u hj => chs_get (cs := cs.set i { c with on := b }) (i := i) (c := { c with on := b }) (by rw [List.getElem?_set, if_pos rfl, if_pos hlt]) j u hj
  refine .g0 ?_; repeat constructor
  refine ES.draw (X := Unit) (fun _ => [(10, .bool (!(r.ok == c.row.not))), (11, .bool (!b)), (12, Iv 0)]) (fun _ => PKB gp (some ⟨rg, 0, none⟩) cs.length cap r.last :: CRow (some ⟨rg, 0, none⟩) cap (cs.set i { c with on := b }) :: HA.mats ms :: R) (CRow (some ⟨rg, 0, none⟩) cap (cs.set i { c with on := b }) :: []) mixed (.i (by repeat constructor)) ?_ (fun _ => ?_)
  · refine ED.take 0 rfl (by decide +kernel) CutX.no_panic (by decide +kernel) rfl rfl rfl (RV.move rfl) ?_
    refine ED.take 1 rfl (by decide +kernel) CutX.no_panic (by decide +kernel) rfl rfl rfl (RV.move rfl) ?_
    refine ED.take 2 rfl (by decide +kernel) CutX.no_panic (by decide +kernel) rfl rfl rfl (RV.nilCheck rfl) ?_
    refine ED.take 3 rfl (by decide +kernel) CutX.no_panic (by decide +kernel) rfl rfl rfl (RV.fieldAddr rfl rfl rfl rfl rfl rfl) ?_
    refine ED.take 4 rfl (by decide +kernel) CutX.no_panic (by decide +kernel) rfl rfl rfl (RV.fieldAddr rfl rfl rfl rfl rfl rfl) ?_
    refine ED.take 5 rfl (by decide +kernel) CutX.no_panic (by decide +kernel) rfl rfl rfl (RV.loadR rfl rfl rfl (by repeat constructor) (hget2 6 _ rfl)) ?_
    refine ED.take 6 rfl (by decide +kernel) CutX.no_panic (by decide +kernel) rfl rfl rfl (RV.neqB rfl rfl rfl rfl) ?_
    refine ED.take 7 rfl (by decide +kernel) CutX.no_panic (by decide +kernel) rfl rfl rfl (RV.move rfl) ?_
    refine ED.take 8 rfl (by decide +kernel) CutX.no_panic (by decide +kernel) rfl rfl rfl (RV.nilCheck rfl) ?_
    refine ED.take 9 rfl (by decide +kernel) CutX.no_panic (by decide +kernel) rfl rfl rfl (RV.fieldAddr rfl rfl rfl rfl rfl rfl) ?_
    refine ED.take 10 rfl (by decide +kernel) CutX.no_panic (by decide +kernel) rfl rfl rfl (RV.loadR rfl rfl rfl (by repeat constructor) (hget2 9 _ rfl)) ?_
    refine ED.take 11 rfl (by decide +kernel) CutX.no_panic (by decide +kernel) rfl rfl rfl (RV.not rfl) ?_
    refine ED.take 12 rfl (by decide +kernel) CutX.no_panic (by decide +kernel) rfl rfl rfl (RV.assign rfl) ?_
    refine ED.take 13 rfl (by decide +kernel) CutX.no_panic (by decide +kernel) rfl rfl rfl (RV.assign rfl) ?_
    refine ED.take 14 rfl (by decide +kernel) CutX.no_panic (by decide +kernel) rfl rfl rfl (RV.assign rfl) ?_
    refine ED.done (by decide +kernel) ?_
    exact PX.cutX () ⟨rfl, rfl, rfl, trivial⟩ (.i (by repeat constructor))
  refine .go ?_; repeat constructor
  exact PX.ret rfl Tryz.results27 (.cons (.tmp rfl) (.cons (.tmp rfl) (.cons (.tmp rfl) .nil))) (fun w hs => ⟨(), rfl, hs.ent (.i (by repeat constructor))⟩)
end Go.Proofs.YtblpgpgbnlhjlaaGreat
namespace Go.Proofs.YtblpgpgbnlhjlaaGreat
open Go Go.RowKit Sl
set_option maxRecDepth 100000
set_option maxHeartbeats 8000000
set_option linter.unusedVariables false
set_option linter.unusedSimpArgs false
attribute [local irreducible] ES EL PX wps
abbrev mtA (t : List UInt8) : Ad := ⟨3, 0, t⟩
end Go.Proofs.YtblpgpgbnlhjlaaGreat
namespace Go.Proofs.YtblpgpgbnlhjlaaGreat
open Go Go.RowKit Sl
set_option maxRecDepth 100000
set_option maxHeartbeats 8000000
set_option linter.unusedVariables false
set_option linter.unusedSimpArgs false
attribute [local irreducible] ES EL PX wps
abbrev PKA (gp rg cap : Nat) (cs : List Chc) (last : Option Mt) (ms : List Mt) : List HA := [PKB gp (some ⟨rg, 0, none⟩) cs.length cap last, CRow (some ⟨rg, 0, none⟩) cap cs, HA.mats ms]
theorem ask_e (gp rg cap : Nat) (cs cs' : List Chc) (i : Nat) (c : Chc) (last last' : Option Mt) (ms : List Mt) (l : Line) (ans : List UInt8 → Bool × Int) (hans : AnsAll ms l.s ans) (on yes off : Bool) (e : Int) (hi : cs[i]? = some c) (hl : ∀ q, last = some q → q ∈ ms) (ha : ∀ q, c.a = some q → q ∈ ms) (hb : ∀ q, c.b = some q → q ∈ ms)
    (hr : askM ans last c l = ⟨last', on, yes, off, e⟩) (hcs : cs.set i { c with on := on } = cs') (hn : cs'.length = cs.length) (w0 : World) (B : Nat) (hG : GR w0 B) :
    MutAt Tryz.prog 27 #[Pv gp 0, Iv (i : Nat), Iv l.line, .bool l.last, Sv l.s] (PKA gp rg cap cs last ms) (fun _ : Unit => .tuple #[.bool yes, .bool off, Iv e]) (fun _ => PKA gp rg cap cs' last' ms) w0 B := by
  have h := ask_c gp rg cap cs i c hi last ms l ans hans hl ha hb w0 B hG
  rw [hr] at h
  dsimp only at h
  rw [hcs] at h
  unfold PKA
  rw [hn]
  exact h
end Go.Proofs.YtblpgpgbnlhjlaaGreat
namespace Go.Proofs.YtblpgpgbnlhjlaaGreat
open Go Go.RowKit Sl
set_option maxRecDepth 100000
set_option maxHeartbeats 8000000
set_option linter.unusedVariables false
set_option linter.unusedSimpArgs false
attribute [local irreducible] ES EL PX wps
structure QS where
  ls : List (List UInt8)
  taken : Nat
  closed : Bool
def QS.bytes (s : QS) : Nat := (s.ls.map List.length).sum
def feedM (s : QS) (l : List UInt8) : Int × QS := if s.closed then (25, s) else if 10 ∈ l then (19, s) else if 1024 < l.length then (15, s) else (0, { s with ls := s.ls ++ [l] })
def closeM (s : QS) : Int × QS := if s.closed then (25, s) else (0, { s with closed := true })
def readyM (s : QS) : Bool := s.closed || decide (1 < s.ls.length)
def nextM (s : QS) : List UInt8 × Bool × QS := match s.ls with
  | [] => ([], false, s)
  | l :: r => if readyM s then (l, true, ⟨r, s.taken + 1, s.closed⟩) else ([], false, s)
def lastM (s : QS) : Bool := s.closed && s.ls.isEmpty
def idxBQ (l : List UInt8) (c : UInt8) : Int := Lib.indexByte l c
theorem idxB_nonnegQ (l : List UInt8) (c : UInt8) : 0 ≤ idxBQ l c ↔ c ∈ l := by
  unfold idxBQ
  induction l with
  | nil => simp [Lib.indexByte]
  | cons b l ih =>
    have hge := Lib.indexByte_ge l c
    by_cases h : b = c
    · subst h; simp [Lib.indexByte]
    · have h' : c ≠ b := fun e => h e.symm
      simp only [Lib.indexByte, beq_iff_eq, h, if_false, List.mem_cons, h', false_or]
      rw [← ih]
      by_cases h2 : Lib.indexByte l c = -1
      · rw [if_pos h2, h2]
      · rw [if_neg h2]; omega
theorem bytes_snoc (s : QS) (l : List UInt8) (k : Nat) (c : Bool) : QS.bytes ⟨s.ls ++ [l], k, c⟩ = s.bytes + l.length := by simp [QS.bytes]
theorem bytes_cons (l : List UInt8) (r : List (List UInt8)) (k k' : Nat) (c c' : Bool) : QS.bytes ⟨l :: r, k, c⟩ = l.length + QS.bytes ⟨r, k', c'⟩ := by simp [QS.bytes]
def HQ (g : Nat) (ad : Option Addr) (cap : Nat) (s : QS) : List HA := [HA.blk g (.cells #[.slice ad s.ls.length cap, Iv s.bytes, Iv s.taken, .bool s.closed] 114), HA.rowO (.slice ad s.ls.length cap) 9 s.ls.length (s.ls.map Sv)]
structure Small (s : QS) : Prop where
  n : s.ls.length ≤ 4194304
  b : s.bytes ≤ 8589934592
  t : s.taken ≤ 4194304
theorem ext_indexQ (l : List UInt8) (c : UInt8) (w : World) : (callFunc 106 #[Sv l, Uv c]).run Tryz.prog w = .ok (.value (Iv (idxBQ l c))) w := by
  rw [run_callFunc_extern (e := Extern.BytealgIndexByte.indexByte) Tryz.func106 (by kernel_rfl) (by kernel_rfl) (by kernel_rfl) (by kernel_rfl), Lib.run_indexByteString]
  simp [Result.andThen, idxBQ]
theorem lite_cQ (l : List UInt8) (c : UInt8) (w : World) : Pure Tryz.prog 73 #[Sv l, Uv c] (fun _ : Unit => Iv (idxBQ l c)) (fun _ => []) w := by
  refine calls_of_ES TB Tryz.func73 rfl _ Tryz.ntmps73 rfl (Sat.start w) ?_
  refine .go ?_; repeat constructor
  refine EL.assign rfl rfl rfl ?_
  refine .go ?_; repeat constructor
  refine EL.move rfl rfl rfl ?_
  refine EL.move rfl rfl rfl ?_
  refine EL.callE rfl rfl rfl rfl (ext_indexQ l c) ?_
  refine EL.assign rfl rfl rfl ?_
  refine .go ?_; repeat constructor
  exact PX.ret rfl Tryz.results73 (.cons (.tmp rfl) .nil) (fun w hs => ⟨(), rfl, hs.ent (.nil _)⟩)
theorem index_cQ (l : List UInt8) (c : UInt8) (w : World) : Pure Tryz.prog 51 #[Sv l, Uv c] (fun _ : Unit => Iv (idxBQ l c)) (fun _ => []) w := by
  refine calls_of_ES TB Tryz.func51 rfl _ Tryz.ntmps51 rfl (Sat.start w) ?_
  refine .go ?_; repeat constructor
  refine EL.assign rfl rfl rfl ?_
  refine .go ?_; repeat constructor
  refine EL.move rfl rfl rfl ?_
  refine EL.move rfl rfl rfl ?_
  refine EL.callP rfl rfl rfl ent73 rfl (lite_cQ _ _) ?_
  refine EL.assign rfl rfl rfl ?_
  refine .go ?_; repeat constructor
  exact PX.ret rfl Tryz.results51 (.cons (.tmp rfl) .nil) (fun w hs => ⟨(), rfl, hs.ent (.nil _)⟩)
end Go.Proofs.YtblpgpgbnlhjlaaGreat
namespace Go.Proofs.YtblpgpgbnlhjlaaGreat
open Go Go.RowKit Sl
set_option maxRecDepth 100000
set_option maxHeartbeats 8000000
set_option linter.unusedVariables false
set_option linter.unusedSimpArgs false
attribute [local irreducible] ES EL PX wps
theorem feed_c (g : Nat) (ad : Option Addr) (cap : Nat) (s : QS) (l : List UInt8) (hs : Small s) :
    Mut Tryz.prog 23 #[Pv g 0, Sv l] (HQ g ad cap s) (fun _ : Option Addr × Nat => Iv (feedM s l).1) (fun x => HQ g x.1 x.2 (feedM s l).2) := by
  intro w0 B R w h
  obtain ⟨ls, kt, c⟩ := s
  obtain ⟨hn, hb, ht⟩ := hs
  dsimp only at hn ht
  replace h : Sat w0 B (HA.blk g (.cells #[.slice ad ls.length cap, Iv (QS.bytes ⟨ls, kt, c⟩), Iv kt, .bool c] 114) :: HA.rowO (.slice ad ls.length cap) 9 ls.length (ls.map Sv) :: R) w := h
  refine calls_of_ES TB Tryz.func23 rfl _ Tryz.ntmps23 rfl h ?_
  refine .go ?_; repeat constructor
  refine EL.assign rfl rfl rfl ?_
  refine .go ?_; repeat constructor
  refine EL.move rfl rfl rfl ?_
  refine EL.eqlPn rfl rfl rfl rfl rfl rfl ?_
  refine EL.move rfl rfl rfl ?_
  refine EL.rew (d := 8) (v' := .bool false) rfl (by first | rfl | (decide) | (simp)) ?_
  refine EL.move rfl rfl rfl ?_
  refine EL.nilCheck rfl rfl rfl ?_
  refine EL.fieldAddr rfl rfl rfl rfl rfl rfl rfl rfl ?_
  (apply EL.loadB; exact rfl; exact rfl; exact rfl; exact rfl; exact rfl; (case hm => repeat constructor); exact rfl)
  refine EL.pickF rfl rfl rfl rfl ?_
  refine EL.assign rfl rfl rfl ?_
  refine .go ?_; repeat constructor
  refine ES.cond rfl (fun hc => ?_) (fun hc => ?_)
  · subst hc
    refine .go ?_; repeat constructor
    refine EL.assign rfl rfl rfl ?_
    refine .go ?_; repeat constructor
    exact PX.ret rfl Tryz.results23 (.cons (.tmp rfl) .nil) (fun w hs => ⟨(ad, cap), rfl, hs⟩)
  subst hc
  refine .go ?_; repeat constructor
  refine EL.move rfl rfl rfl ?_
  refine EL.callP rfl rfl rfl ent51 rfl (index_cQ l 10) ?_
  refine EL.geq rfl rfl rfl rfl ?_
  refine EL.assign rfl rfl rfl ?_
  refine .go ?_; repeat constructor
  refine ES.condD rfl (fun hnl => ?_) (fun hnl => ?_)
  · rw [idxB_nonnegQ] at hnl
    have hf : feedM ⟨ls, kt, false⟩ l = (19, ⟨ls, kt, false⟩) := by simp [feedM, hnl]
    refine .go ?_; repeat constructor
    refine EL.assign rfl rfl rfl ?_
    refine .go ?_; repeat constructor
    exact PX.ret rfl Tryz.results23 (.cons (.tmp rfl) .nil) (fun w hs => ⟨(ad, cap), by rw [hf]; rfl, by rw [hf]; exact hs⟩)
  rw [idxB_nonnegQ] at hnl
  refine .go ?_; repeat constructor
  refine EL.move rfl rfl rfl ?_
  refine EL.lenS rfl rfl rfl rfl rfl ?_
  refine EL.gtr rfl rfl rfl rfl ?_
  refine EL.assign rfl rfl rfl ?_
  refine .go ?_; repeat constructor
  refine ES.condD rfl (fun hlen => ?_) (fun hlen => ?_)
  · have hlen' : 1024 < l.length := by omega
    have hf : feedM ⟨ls, kt, false⟩ l = (15, ⟨ls, kt, false⟩) := by simp [feedM, hnl, hlen']
    refine .go ?_; repeat constructor
    refine EL.assign rfl rfl rfl ?_
    refine .go ?_; repeat constructor
    exact PX.ret rfl Tryz.results23 (.cons (.tmp rfl) .nil) (fun w hs => ⟨(ad, cap), by rw [hf]; rfl, by rw [hf]; exact hs⟩)
  have hlen' : ¬ 1024 < l.length := by omega
  have hf : feedM ⟨ls, kt, false⟩ l = (0, ⟨ls ++ [l], kt, false⟩) := by simp [feedM, hnl, hlen']
  have hby := bytes_snoc ⟨ls, kt, false⟩ l kt false
  dsimp only at hby
  refine .go ?_; repeat constructor
  refine EL.move rfl rfl rfl ?_
  refine EL.move rfl rfl rfl ?_
  refine EL.nilCheck rfl rfl rfl ?_
  refine EL.fieldAddr rfl rfl rfl rfl rfl rfl rfl rfl ?_
  (apply EL.loadB; exact rfl; exact rfl; exact rfl; exact rfl; exact rfl; (case hm => repeat constructor); exact rfl)
  refine EL.move rfl rfl rfl ?_
  (refine EL.buildSlice1 rfl rfl rfl rfl rfl rfl rfl rfl rfl rfl ?_; intro b28)
  (refine EL.appendO1 (u := Sv l) rfl rfl rfl rfl rfl rfl rfl rfl rfl (by repeat constructor) (by repeat constructor) rfl (by unfold maxLen; omega) (by first | omega | (show 1 * _ ≤ _; omega) | (show 8 * _ ≤ _; omega) | (show 16 * _ ≤ _; omega) | (show 24 * _ ≤ _; omega) | (show _ * 1 ≤ _; omega) | (show _ * 8 ≤ _; omega) | (show _ * 16 ≤ _; omega) | (show _ * 24 ≤ _; omega) | exact Nat.le_trans (Nat.mul_le_mul_right _ (show _ ≤ 1073741824 by omega)) (by decide)) ?_; intro g29 o29 c29)
  refine EL.nilCheck rfl rfl rfl ?_
  refine EL.fieldAddr rfl rfl rfl rfl rfl rfl rfl rfl ?_
  (apply EL.storeB; exact rfl; exact rfl; exact rfl; exact rfl; exact rfl; exact rfl; (case p => repeat constructor); exact (by first | decide | exact Nat.le_of_ble_eq_true rfl | simp))
  refine .go ?_; repeat constructor
  refine EL.move rfl rfl rfl ?_
  refine EL.nilCheck rfl rfl rfl ?_
  refine EL.fieldAddr rfl rfl rfl rfl rfl rfl rfl rfl ?_
  (apply EL.loadB; exact rfl; exact rfl; exact rfl; exact rfl; exact rfl; (case hm => repeat constructor); exact rfl)
  refine EL.move rfl rfl rfl ?_
  refine EL.lenS rfl rfl rfl rfl rfl ?_
  refine EL.addN rfl rfl rfl rfl rfl (by omega) ?_
  refine EL.nilCheck rfl rfl rfl ?_
  refine EL.fieldAddr rfl rfl rfl rfl rfl rfl rfl rfl ?_
  (apply EL.storeB; exact rfl; exact rfl; exact rfl; exact rfl; exact rfl; exact rfl; (case p => repeat constructor); exact (by first | decide | exact Nat.le_of_ble_eq_true rfl | simp))
  refine .go ?_; repeat constructor
  refine EL.assign rfl rfl rfl ?_
  refine .go ?_; repeat constructor
  refine PX.ret rfl Tryz.results23 (.cons (.tmp rfl) .nil) (fun w hs => ⟨(some ⟨g29, o29, none⟩, c29), by rw [hf]; rfl, ?_⟩)
  rw [hf]
  show Sat w0 B (HA.blk g (.cells #[.slice (some ⟨g29, o29, none⟩) (ls ++ [l]).length c29, Iv (QS.bytes ⟨ls ++ [l], kt, false⟩), Iv kt, .bool false] 114) :: HA.rowO (.slice (some ⟨g29, o29, none⟩) (ls ++ [l]).length c29) 9 (ls ++ [l]).length ((ls ++ [l]).map Sv) :: R) w
  rw [hby, List.length_append, List.length_singleton, List.map_append]
  exact hs.ent (.i (by repeat constructor))
theorem close_cQ (g : Nat) (ad : Option Addr) (cap : Nat) (s : QS) :
    Mut Tryz.prog 25 #[Pv g 0] (HQ g ad cap s) (fun _ : Unit => Iv (closeM s).1) (fun _ => HQ g ad cap (closeM s).2) := by
  intro w0 B R w h
  obtain ⟨ls, kt, c⟩ := s
  replace h : Sat w0 B (HA.blk g (.cells #[.slice ad ls.length cap, Iv (QS.bytes ⟨ls, kt, c⟩), Iv kt, .bool c] 114) :: HA.rowO (.slice ad ls.length cap) 9 ls.length (ls.map Sv) :: R) w := h
  refine calls_of_ES TB Tryz.func25 rfl _ Tryz.ntmps25 rfl h ?_
  refine .go ?_; repeat constructor
  refine EL.assign rfl rfl rfl ?_
  refine .go ?_; repeat constructor
  refine EL.move rfl rfl rfl ?_
  refine EL.eqlPn rfl rfl rfl rfl rfl rfl ?_
  refine EL.move rfl rfl rfl ?_
  refine EL.rew (d := 5) (v' := .bool false) rfl (by first | rfl | (decide) | (simp)) ?_
  refine EL.move rfl rfl rfl ?_
  refine EL.nilCheck rfl rfl rfl ?_
  refine EL.fieldAddr rfl rfl rfl rfl rfl rfl rfl rfl ?_
  (apply EL.loadB; exact rfl; exact rfl; exact rfl; exact rfl; exact rfl; (case hm => repeat constructor); exact rfl)
  refine EL.pickF rfl rfl rfl rfl ?_
  refine .go ?_; repeat constructor
  refine ES.cond rfl (fun hc => ?_) (fun hc => ?_)
  · subst hc
    refine .go ?_; repeat constructor
    refine EL.assign rfl rfl rfl ?_
    refine .go ?_; repeat constructor
    exact PX.ret rfl Tryz.results25 (.cons (.tmp rfl) .nil) (fun w hs => ⟨(), rfl, hs⟩)
  · subst hc
    refine .go ?_; repeat constructor
    refine EL.move rfl rfl rfl ?_
    refine EL.nilCheck rfl rfl rfl ?_
    refine EL.fieldAddr rfl rfl rfl rfl rfl rfl rfl rfl ?_
    (apply EL.storeB; exact rfl; exact rfl; exact rfl; exact rfl; exact rfl; exact rfl; (case p => repeat constructor); exact (by first | decide | exact Nat.le_of_ble_eq_true rfl | simp))
    refine .go ?_; repeat constructor
    refine EL.assign rfl rfl rfl ?_
    refine .go ?_; repeat constructor
    exact PX.ret rfl Tryz.results25 (.cons (.tmp rfl) .nil) (fun w hs => ⟨(), rfl, hs⟩)
theorem ready_c (g : Nat) (ad : Option Addr) (cap : Nat) (s : QS) :
    Mut Tryz.prog 52 #[Pv g 0] (HQ g ad cap s) (fun _ : Unit => .bool (readyM s)) (fun _ => HQ g ad cap s) := by
  intro w0 B R w h
  obtain ⟨ls, kt, c⟩ := s
  replace h : Sat w0 B (HA.blk g (.cells #[.slice ad ls.length cap, Iv (QS.bytes ⟨ls, kt, c⟩), Iv kt, .bool c] 114) :: HA.rowO (.slice ad ls.length cap) 9 ls.length (ls.map Sv) :: R) w := h
  refine calls_of_ES TB Tryz.func52 rfl _ Tryz.ntmps52 rfl h ?_
  refine .g0 ?_; repeat constructor
  refine .go ?_; repeat constructor
  refine EL.assign rfl rfl rfl ?_
  refine .go ?_; repeat constructor
  refine EL.cut [(2, .bool (readyM ⟨ls, kt, c⟩))] ([HA.blk g (.cells #[.slice ad ls.length cap, Iv (QS.bytes ⟨ls, kt, c⟩), Iv kt, .bool c] 114), HA.rowO (.slice ad ls.length cap) 9 ls.length (ls.map Sv)] ++ R) ?_ ?_
  · refine .go ?_; repeat constructor
    refine EL.move rfl rfl rfl ?_
    refine EL.neqPn rfl rfl rfl rfl rfl rfl ?_
    refine EL.move rfl rfl rfl ?_
    refine EL.rew (d := 5) (v' := .bool true) rfl (by first | rfl | (decide) | (simp)) ?_
    refine EL.move rfl rfl rfl ?_
    refine EL.nilCheck rfl rfl rfl ?_
    refine EL.fieldAddr rfl rfl rfl rfl rfl rfl rfl rfl ?_
    (apply EL.loadB; exact rfl; exact rfl; exact rfl; exact rfl; exact rfl; (case hm => repeat constructor); exact rfl)
    refine EL.move rfl rfl rfl ?_
    first | refine EL.splitD (d := 10) rfl (fun hp10 => ?_) (fun hp10 => ?_) | refine EL.splitN (d := 10) rfl (fun hp10 => ?_) (fun hp10 => ?_) | refine EL.splitB (d := 10) rfl (fun hp10 => ?_) (fun hp10 => ?_)
    · refine EL.pass rfl rfl rfl ?_
      refine EL.pass rfl rfl rfl ?_
      refine EL.pass rfl rfl rfl ?_
      refine EL.pass rfl rfl rfl ?_
      refine EL.pass rfl rfl rfl ?_
      refine EL.pass rfl rfl rfl ?_
      refine EL.pickT rfl rfl rfl rfl ?_
      refine EL.pickT rfl rfl rfl rfl ?_
      refine EL.assign rfl rfl rfl ?_
      exact EL.endK ⟨getB rfl (by rw [Bool.eq_iff_iff]; simp [readyM, *] <;> omega), trivial⟩ (.i (by repeat constructor))
    · refine EL.move rfl rfl rfl ?_
      refine EL.nilCheck rfl rfl rfl ?_
      refine EL.fieldAddr rfl rfl rfl rfl rfl rfl rfl rfl ?_
      (apply EL.loadB; exact rfl; exact rfl; exact rfl; exact rfl; exact rfl; (case hm => repeat constructor); exact rfl)
      refine EL.lenL rfl rfl rfl rfl rfl ?_
      refine EL.gtr rfl rfl rfl rfl ?_
      refine EL.pickF rfl rfl rfl rfl ?_
      refine EL.pickT rfl rfl rfl rfl ?_
      refine EL.assign rfl rfl rfl ?_
      exact EL.endK ⟨getB rfl (by rw [Bool.eq_iff_iff]; simp [readyM, *] <;> omega), trivial⟩ (.i (by repeat constructor))
  refine .go ?_; repeat constructor
  exact PX.ret rfl Tryz.results52 (.cons (.tmp rfl) .nil) (fun w hs => ⟨(), rfl, hs⟩)
theorem last_c (g : Nat) (ad : Option Addr) (cap : Nat) (s : QS) :
    Mut Tryz.prog 29 #[Pv g 0] (HQ g ad cap s) (fun _ : Unit => .bool (lastM s)) (fun _ => HQ g ad cap s) := by
  intro w0 B R w h
  obtain ⟨ls, kt, c⟩ := s
  replace h : Sat w0 B (HA.blk g (.cells #[.slice ad ls.length cap, Iv (QS.bytes ⟨ls, kt, c⟩), Iv kt, .bool c] 114) :: HA.rowO (.slice ad ls.length cap) 9 ls.length (ls.map Sv) :: R) w := h
  refine calls_of_ES TB Tryz.func29 rfl _ Tryz.ntmps29 rfl h ?_
  refine .go ?_; repeat constructor
  refine EL.assign rfl rfl rfl ?_
  refine .go ?_; repeat constructor
  refine EL.cut [(2, .bool (lastM ⟨ls, kt, c⟩))] ([HA.blk g (.cells #[.slice ad ls.length cap, Iv (QS.bytes ⟨ls, kt, c⟩), Iv kt, .bool c] 114), HA.rowO (.slice ad ls.length cap) 9 ls.length (ls.map Sv)] ++ R) ?_ ?_
  · refine .go ?_; repeat constructor
    refine EL.move rfl rfl rfl ?_
    refine EL.neqPn rfl rfl rfl rfl rfl rfl ?_
    refine EL.move rfl rfl rfl ?_
    refine EL.rew (d := 5) (v' := .bool true) rfl (by first | rfl | (decide) | (simp)) ?_
    refine EL.move rfl rfl rfl ?_
    refine EL.nilCheck rfl rfl rfl ?_
    refine EL.fieldAddr rfl rfl rfl rfl rfl rfl rfl rfl ?_
    (apply EL.loadB; exact rfl; exact rfl; exact rfl; exact rfl; exact rfl; (case hm => repeat constructor); exact rfl)
    refine EL.pickT rfl rfl rfl rfl ?_
    refine EL.move rfl rfl rfl ?_
    first | refine EL.splitD (d := 11) rfl (fun hp11 => ?_) (fun hp11 => ?_) | refine EL.splitN (d := 11) rfl (fun hp11 => ?_) (fun hp11 => ?_) | refine EL.splitB (d := 11) rfl (fun hp11 => ?_) (fun hp11 => ?_)
    · refine EL.move rfl rfl rfl ?_
      refine EL.nilCheck rfl rfl rfl ?_
      refine EL.fieldAddr rfl rfl rfl rfl rfl rfl rfl rfl ?_
      (apply EL.loadB; exact rfl; exact rfl; exact rfl; exact rfl; exact rfl; (case hm => repeat constructor); exact rfl)
      refine EL.lenL rfl rfl rfl rfl rfl ?_
      refine EL.eqlI rfl rfl rfl rfl ?_
      refine EL.pickT rfl rfl rfl rfl ?_
      refine EL.assign rfl rfl rfl ?_
      exact EL.endK ⟨getB rfl (by rw [Bool.eq_iff_iff]; simp [lastM, *] <;> omega), trivial⟩ (.i (by repeat constructor))
    · refine EL.pass rfl rfl rfl ?_
      refine EL.pass rfl rfl rfl ?_
      refine EL.pass rfl rfl rfl ?_
      refine EL.pass rfl rfl rfl ?_
      refine EL.pass rfl rfl rfl ?_
      refine EL.pass rfl rfl rfl ?_
      refine EL.pickF rfl rfl rfl rfl ?_
      refine EL.assign rfl rfl rfl ?_
      exact EL.endK ⟨getB rfl (by rw [Bool.eq_iff_iff]; simp [lastM, *] <;> omega), trivial⟩ (.i (by repeat constructor))
  refine .go ?_; repeat constructor
  exact PX.ret rfl Tryz.results29 (.cons (.tmp rfl) .nil) (fun w hs => ⟨(), rfl, hs⟩)
theorem number_cQ (g : Nat) (ad : Option Addr) (cap : Nat) (s : QS) :
    Mut Tryz.prog 28 #[Pv g 0] (HQ g ad cap s) (fun _ : Unit => Iv (s.taken : Nat)) (fun _ => HQ g ad cap s) := by
  intro w0 B R w h
  obtain ⟨ls, kt, c⟩ := s
  replace h : Sat w0 B (HA.blk g (.cells #[.slice ad ls.length cap, Iv (QS.bytes ⟨ls, kt, c⟩), Iv kt, .bool c] 114) :: HA.rowO (.slice ad ls.length cap) 9 ls.length (ls.map Sv) :: R) w := h
  refine calls_of_ES TB Tryz.func28 rfl _ Tryz.ntmps28 rfl h ?_
  refine .go ?_; repeat constructor
  refine EL.assign rfl rfl rfl ?_
  refine .go ?_; repeat constructor
  refine EL.move rfl rfl rfl ?_
  refine EL.eqlPn rfl rfl rfl rfl rfl rfl ?_
  refine .go ?_; repeat constructor
  refine ES.condF rfl ?_
  refine .go ?_; repeat constructor
  refine EL.move rfl rfl rfl ?_
  refine EL.nilCheck rfl rfl rfl ?_
  refine EL.fieldAddr rfl rfl rfl rfl rfl rfl rfl rfl ?_
  (apply EL.loadB; exact rfl; exact rfl; exact rfl; exact rfl; exact rfl; (case hm => repeat constructor); exact rfl)
  refine EL.assign rfl rfl rfl ?_
  refine .go ?_; repeat constructor
  exact PX.ret rfl Tryz.results28 (.cons (.tmp rfl) .nil) (fun w hs => ⟨(), rfl, hs⟩)
theorem next_c (g : Nat) (ad : Option Addr) (cap : Nat) (s : QS) (hs : Small s) :
    Mut Tryz.prog 26 #[Pv g 0] (HQ g ad cap s) (fun _ : Option Addr × Nat => .tuple #[Sv (nextM s).1, .bool (nextM s).2.1]) (fun x => HQ g x.1 x.2 (nextM s).2.2) := by
  intro w0 B R w h
  have rc := ready_c g ad cap s
  obtain ⟨ls, kt, c⟩ := s
  obtain ⟨hn, hb, ht⟩ := hs
  dsimp only at hn ht
  refine calls_of_ES TB Tryz.func26 rfl _ Tryz.ntmps26 rfl h ?_
  cases hr : readyM ⟨ls, kt, c⟩ with
  | false =>
    rw [hr] at rc
    have hf : nextM ⟨ls, kt, c⟩ = ([], false, ⟨ls, kt, c⟩) := by cases ls <;> simp [nextM, hr]
    rw [hf]
    refine .go ?_; repeat constructor
    refine EL.assign rfl rfl rfl ?_
    refine EL.assign rfl rfl rfl ?_
    refine .go ?_; repeat constructor
    refine EL.move rfl rfl rfl ?_
    refine EL.callM1 rfl rfl rfl ent52 rfl rc (by repeat constructor) ?_
    refine EL.not rfl rfl rfl ?_
    refine EL.move rfl rfl rfl ?_
    refine EL.rew (d := 8) (v' := .bool true) rfl (by first | rfl | (decide) | (simp)) ?_
    refine EL.pass rfl rfl rfl ?_
    refine EL.pass rfl rfl rfl ?_
    refine EL.pass rfl rfl rfl ?_
    refine EL.pass rfl rfl rfl ?_
    refine EL.pass rfl rfl rfl ?_
    refine EL.pass rfl rfl rfl ?_
    refine EL.pickT rfl rfl rfl rfl ?_
    refine .go ?_; repeat constructor
    refine .go ?_; repeat constructor
    refine ES.condT rfl ?_
    refine .go ?_; repeat constructor
    refine EL.assign rfl rfl rfl ?_
    refine EL.assign rfl rfl rfl ?_
    refine .go ?_; repeat constructor
    exact PX.ret rfl Tryz.results26 (.cons (.tmp rfl) (.cons (.tmp rfl) .nil)) (fun w hs => ⟨(ad, cap), rfl, hs⟩)
  | true =>
    rw [hr] at rc
    cases ls with
    | nil =>
      refine .go ?_; repeat constructor
      refine EL.assign rfl rfl rfl ?_
      refine EL.assign rfl rfl rfl ?_
      refine .go ?_; repeat constructor
      refine EL.move rfl rfl rfl ?_
      refine EL.callM1 rfl rfl rfl ent52 rfl rc (by repeat constructor) ?_
      refine EL.not rfl rfl rfl ?_
      refine EL.move rfl rfl rfl ?_
      refine EL.rew (d := 8) (v' := .bool false) rfl (by first | rfl | (decide) | (simp)) ?_
      refine EL.move rfl rfl rfl ?_
      refine EL.nilCheck rfl rfl rfl ?_
      refine EL.fieldAddr rfl rfl rfl rfl rfl rfl rfl rfl ?_
      (apply EL.loadB; exact rfl; exact rfl; exact rfl; exact rfl; exact rfl; (case hm => repeat constructor); exact rfl)
      refine EL.lenL rfl rfl rfl rfl rfl ?_
      refine EL.eqlI rfl rfl rfl rfl ?_
      refine EL.pickF rfl rfl rfl rfl ?_
      refine .go ?_; repeat constructor
      refine .go ?_; repeat constructor
      refine ES.condT rfl ?_
      refine .go ?_; repeat constructor
      refine EL.assign rfl rfl rfl ?_
      refine EL.assign rfl rfl rfl ?_
      refine .go ?_; repeat constructor
      exact PX.ret rfl Tryz.results26 (.cons (.tmp rfl) (.cons (.tmp rfl) .nil)) (fun w hs => ⟨(ad, cap), rfl, hs⟩)
    | cons l r =>
      have hf : nextM ⟨l :: r, kt, c⟩ = (l, true, ⟨r, kt + 1, c⟩) := by simp [nextM, hr]
      refine .go ?_; repeat constructor
      refine EL.assign rfl rfl rfl ?_
      refine EL.assign rfl rfl rfl ?_
      refine .go ?_; repeat constructor
      refine EL.move rfl rfl rfl ?_
      refine EL.callM1 rfl rfl rfl ent52 rfl rc (by repeat constructor) ?_
      refine EL.not rfl rfl rfl ?_
      refine EL.move rfl rfl rfl ?_
      refine EL.rew (d := 8) (v' := .bool false) rfl (by first | rfl | (decide) | (simp)) ?_
      refine EL.move rfl rfl rfl ?_
      refine EL.nilCheck rfl rfl rfl ?_
      refine EL.fieldAddr rfl rfl rfl rfl rfl rfl rfl rfl ?_
      (apply EL.loadB; exact rfl; exact rfl; exact rfl; exact rfl; exact rfl; (case hm => repeat constructor); exact rfl)
      refine EL.lenL rfl rfl rfl rfl rfl ?_
      refine EL.eqlI rfl rfl rfl rfl ?_
      refine EL.pickF rfl rfl rfl rfl ?_
      refine .go ?_; repeat constructor
      refine .go ?_; repeat constructor
      refine ES.condF rfl ?_
      refine .go ?_; repeat constructor
      refine EL.rowOForm (ad := ad) (cap := cap) (n := (l :: r).length) (cs := (l :: r).map Sv) (by repeat constructor) (fun hfm => ?_)
      obtain ⟨g2, o2, rfl⟩ := hfm.2.2.2 (by simp)
      have hby := bytes_cons l r kt (kt + 1) c c
      have hll : (l :: r).length - 1 = r.length := by simp
      have htk : (QS.mk (l :: r) kt c).taken ≤ 4194304 := ht
      refine .go ?_; repeat constructor
      refine EL.move rfl rfl rfl ?_
      refine EL.nilCheck rfl rfl rfl ?_
      refine EL.fieldAddr rfl rfl rfl rfl rfl rfl rfl rfl ?_
      (apply EL.loadB; exact rfl; exact rfl; exact rfl; exact rfl; exact rfl; (case hm => repeat constructor); exact rfl)
      refine EL.indexAddrL (i := 0) rfl rfl rfl rfl rfl rfl rfl (by simp) ?_
      refine EL.loadRO (v := Sv l) rfl rfl rfl rfl rfl (by repeat constructor) rfl ?_
      refine EL.assign rfl rfl rfl ?_
      refine .go ?_; repeat constructor
      refine EL.move rfl rfl rfl ?_
      refine EL.move rfl rfl rfl ?_
      refine EL.nilCheck rfl rfl rfl ?_
      refine EL.fieldAddr rfl rfl rfl rfl rfl rfl rfl rfl ?_
      (apply EL.loadB; exact rfl; exact rfl; exact rfl; exact rfl; exact rfl; (case hm => repeat constructor); exact rfl)
      (refine EL.sliceO (lo := 1) rfl rfl rfl rfl rfl rfl rfl rfl (by repeat constructor) (by simp) ?_; intro ad27; rw [hll])
      refine EL.nilCheck rfl rfl rfl ?_
      refine EL.fieldAddr rfl rfl rfl rfl rfl rfl rfl rfl ?_
      (apply EL.storeB; exact rfl; exact rfl; exact rfl; exact rfl; exact rfl; exact rfl; (case p => repeat constructor); exact (by first | decide | exact Nat.le_of_ble_eq_true rfl | simp))
      refine .go ?_; repeat constructor
      refine EL.move rfl rfl rfl ?_
      refine EL.nilCheck rfl rfl rfl ?_
      refine EL.fieldAddr rfl rfl rfl rfl rfl rfl rfl rfl ?_
      (apply EL.loadB; exact rfl; exact rfl; exact rfl; exact rfl; exact rfl; (case hm => repeat constructor); exact rfl)
      refine EL.move rfl rfl rfl ?_
      refine EL.lenS rfl rfl rfl rfl rfl ?_
      refine EL.subN rfl rfl rfl rfl rfl (by omega) (by omega) ?_
      refine EL.nilCheck rfl rfl rfl ?_
      refine EL.fieldAddr rfl rfl rfl rfl rfl rfl rfl rfl ?_
      (apply EL.storeB; exact rfl; exact rfl; exact rfl; exact rfl; exact rfl; exact rfl; (case p => repeat constructor); exact (by first | decide | exact Nat.le_of_ble_eq_true rfl | simp))
      refine .go ?_; repeat constructor
      refine EL.move rfl rfl rfl ?_
      refine EL.nilCheck rfl rfl rfl ?_
      refine EL.fieldAddr rfl rfl rfl rfl rfl rfl rfl rfl ?_
      (apply EL.loadB; exact rfl; exact rfl; exact rfl; exact rfl; exact rfl; (case hm => repeat constructor); exact rfl)
      refine EL.add1 rfl rfl rfl rfl (by omega) ?_
      refine EL.nilCheck rfl rfl rfl ?_
      refine EL.fieldAddr rfl rfl rfl rfl rfl rfl rfl rfl ?_
      (apply EL.storeB; exact rfl; exact rfl; exact rfl; exact rfl; exact rfl; exact rfl; (case p => repeat constructor); exact (by first | decide | exact Nat.le_of_ble_eq_true rfl | simp))
      refine .go ?_; repeat constructor
      refine EL.move rfl rfl rfl ?_
      refine EL.assign rfl rfl rfl ?_
      refine EL.assign rfl rfl rfl ?_
      refine .go ?_; repeat constructor
      refine PX.ret rfl Tryz.results26 (.cons (.tmp rfl) (.cons (.tmp rfl) .nil)) (fun w hs => ⟨(ad27, cap - 1), by rw [hf]; rfl, ?_⟩)
      rw [hf]
      have hby2 : QS.bytes ⟨l :: r, kt, c⟩ - l.length = QS.bytes ⟨r, kt + 1, c⟩ := by omega
      show Sat w0 B (HA.blk g (.cells #[.slice ad27 r.length (cap - 1), Iv (QS.bytes ⟨r, kt + 1, c⟩), Iv (kt + 1 : Nat), .bool c] 114) :: HA.rowO (.slice ad27 r.length (cap - 1)) 9 r.length (r.map Sv) :: R) w
      rw [← hby2]
      exact hs.ent (.i (by repeat constructor))
end Go.Proofs.YtblpgpgbnlhjlaaGreat
namespace Go.Proofs.YtblpgpgbnlhjlaaGreat
open Go Go.RowKit Sl
set_option maxRecDepth 100000
set_option maxHeartbeats 8000000
set_option linter.unusedVariables false
set_option linter.unusedSimpArgs false
attribute [local irreducible] ES EL PX wps
theorem qnew_c (w : World) : Pure Tryz.prog 20 #[] (fun g : Nat => Pv g 0) (fun g => HQ g none 0 ⟨[], 0, false⟩) w := by
  refine calls_of_ES TB Tryz.func20 rfl _ Tryz.ntmps20 rfl (Sat.start w) ?_
  refine ES.nilRowO 9 ?_
  refine .go ?_; repeat constructor
  refine EL.assign rfl rfl rfl ?_
  refine .go ?_; repeat constructor
  refine EL.buildZ rfl rfl rfl rfl rfl ?_
  (refine EL.box rfl rfl rfl ?_; intro g2)
  refine EL.assign rfl rfl rfl ?_
  refine .go ?_; repeat constructor
  exact PX.ret rfl Tryz.results20 (.cons (.tmp rfl) .nil) (fun w hs => ⟨g2, rfl, hs.ent (.i (by repeat constructor))⟩)
end Go.Proofs.YtblpgpgbnlhjlaaGreat
