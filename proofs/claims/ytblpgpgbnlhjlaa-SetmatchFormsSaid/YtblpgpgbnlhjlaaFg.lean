/- Layer 7 in plain Lean: copies with a way out, repeats, trees; Ends and Starts by what trees match. -/
import Derived.Test.YtblpgpgbnlhjlaaFf
namespace Go.Proofs.Ytblpgpgbnlhjlaa
open Go Go.RowKit Sl
set_option maxRecDepth 100000
set_option maxHeartbeats 8000000
set_option linter.unusedVariables false
set_option linter.unusedSimpArgs false
attribute [local irreducible] ES EL PX wps

theorem opt_all {s : List UInt8} {f : AM → Nat → AM × Nat} {R : Nat → Nat → Prop} (h : LayH s f R) (o : Nat) : ∀ (n : Nat) (a : AM) (p : Nat), Wf a → p < a.out.length → o < a.out.length → o ≠ p → ERow a o = [] →
    Wf (optA f o n a p) ∧ a.out.length ≤ (optA f o n a p).out.length ∧ (∀ q, ∀ e ∈ ERow a q, e ∈ ERow (optA f o n a p) q) ∧ (∀ q, ∀ e ∈ ERow (optA f o n a p) q, e ∈ ERow a q ∨ ((q = p ∨ a.out.length ≤ q) ∧ (e.to = o ∨ a.out.length ≤ e.to))) ∧
    ∀ x0 i j, x0 < a.out.length → (FW s (optA f o n a p) (x0, i) (o, j) ↔ FW s a (x0, i) (o, j) ∨ ∃ m c, FW s a (x0, i) (p, m) ∧ 1 ≤ c ∧ c ≤ n ∧ Iter R c m j)
  | 0, a, p, hw, hp, ho, hne, hd => ⟨hw, Nat.le_refl _, fun _ _ h => h, fun _ _ h => .inl h, fun x0 i j hx => ⟨.inl, fun h => by
    rcases h with h | ⟨m, c, _, h1, h2, _⟩
    · exact h
    · omega⟩⟩
  | n + 1, a, p, hw, hp, ho, hne, hd => by
    have hw1 := h.wf a p hw hp
    have hg := h.grow a p hw hp
    obtain ⟨hout, hlt⟩ := h.out a p hw hp
    have hhit := fun x0 i j => h.hit a p x0 i j hw hp
    rw [show optA f o (n + 1) a p = optA f o n ((f a p).1.link (f a p).2 o 0 zeroS) (f a p).2 from rfl]
    generalize f a p = y at hw1 hg hout hlt hhit
    obtain ⟨a1, p1⟩ := y
    dsimp only at hw1 hg hout hlt hhit ⊢
    have hl1 := hg.len
    have hne1 : o ≠ p1 := by
      rcases hout with e | e
      · rw [e]; exact hne
      · omega
    have hd1 : ERow a1 o = [] := by
      apply List.eq_nil_iff_forall_not_mem.2
      intro e he
      rcases hg.new o e he with h | ⟨h, _⟩
      · rw [hd] at h; cases h
      · omega
    have hrow2 := fun q => row_link (k := 0) (S := zeroS) (t := o) hlt q
    have hl2 : (a1.link p1 o 0 zeroS).out.length = a1.out.length := (link_len _ _ _ _ _).1
    have hw2 : Wf (a1.link p1 o 0 zeroS) := wf_link hw1 hlt (by omega)
    have hd2 : ERow (a1.link p1 o 0 zeroS) o = [] := by rw [hrow2, if_neg hne1]; exact hd1
    obtain ⟨k1, k2, k3, k4, k5⟩ := opt_all h o n _ p1 hw2 (by omega) (by omega) hne1 hd2
    have hsub2 : ∀ q, ∀ e ∈ ERow a1 q, e ∈ ERow (a1.link p1 o 0 zeroS) q := fun q e he => by
      rw [hrow2]; split
      · exact List.mem_append.2 (.inl he)
      · exact he
    have hrow3 : ∀ q, ∀ e ∈ ERow (a1.link p1 o 0 zeroS) q, e ∈ ERow a1 q ∨ (q = p1 ∧ e = ⟨0, zeroS, o⟩) := fun q e he => by
      rw [hrow2] at he
      split at he
      · rename_i e1
        rcases List.mem_append.1 he with he | he
        · exact .inl he
        · exact .inr ⟨e1, List.mem_singleton.1 he⟩
      · exact .inl he
    have hother : ∀ x z, FW s (a1.link p1 o 0 zeroS) x z → z.1 ≠ o → FW s a1 x z := by
      intro x z hz
      induction hz with
      | here => exact fun _ => .here
      | @step q u b e h1 he hpl ih =>
        intro hzo
        rcases hrow3 q e he with he1 | ⟨rfl, rfl⟩
        · exact .step (ih (fun e1 => by
            have e1 : q = o := e1
            rw [e1, hd1] at he1; cases he1)) he1 hpl
        · exact absurd rfl hzo
    have hexit : ∀ x0 i j, FW s (a1.link p1 o 0 zeroS) (x0, i) (o, j) ↔ FW s a1 (x0, i) (o, j) ∨ FW s a1 (x0, i) (p1, j) := by
      intro x0 i j
      constructor
      · intro hr
        rcases hr.inv with e | ⟨q, u, e, h1, he, ht, hpl⟩
        · rw [e]; exact .inl .here
        · rcases hrow3 q e he with he1 | ⟨rfl, rfl⟩
          · left
            have hq : q ≠ o := fun e1 => by rw [e1, hd1] at he1; cases he1
            have := Rch.step (hother _ _ h1 hq) he1 hpl
            rw [ht] at this; exact this
          · rw [eps_place] at hpl
            cases hpl
            exact .inr (hother _ _ h1 (fun e => hne1 e.symm))
      · rintro (h1 | h1)
        · exact h1.mono hsub2
        · refine Rch.step (e := ⟨0, zeroS, o⟩) (h1.mono hsub2) ?_ (eps_place _ _ _ _ _)
          show _ ∈ ERow _ p1
          rw [hrow2, if_pos rfl]; simp
    refine ⟨k1, by omega, fun q e he => k3 q e (hsub2 q e (hg.sub q e he)), fun q e he => ?_, fun x0 i j hx => ?_⟩
    · rcases k4 q e he with he2 | ⟨hq, ht⟩
      · rcases hrow3 q e he2 with he1 | ⟨rfl, rfl⟩
        · rcases hg.new q e he1 with h1 | ⟨h1, h2⟩
          · exact .inl h1
          · exact .inr ⟨h1, .inr h2⟩
        · exact .inr ⟨hout, .inl rfl⟩
      · rw [hl2] at hq ht
        right
        constructor
        · rcases hq with rfl | hq
          · exact hout
          · right; omega
        · rcases ht with ht | ht
          · exact .inl ht
          · right; omega
    · rw [k5 x0 i j (by omega), hexit]
      constructor
      · rintro ((h1 | h1) | ⟨m, c, h1, c1, c2, hc⟩)
        · exact .inl ((hg.old hw hx ho).1 h1)
        · obtain ⟨m, h2, h3⟩ := (hhit x0 i j hx).1 h1
          exact .inr ⟨m, 1, h2, by omega, by omega, j, h3, rfl⟩
        · have h2 := hother _ _ h1 (fun e => hne1 e.symm)
          obtain ⟨m0, h3, h4⟩ := (hhit x0 i m hx).1 h2
          exact .inr ⟨m0, c + 1, h3, by omega, by omega, m, h4, hc⟩
      · rintro (h1 | ⟨m, c, h1, c1, c2, hc⟩)
        · exact .inl (.inl ((hg.old hw hx ho).2 h1))
        · cases c with
          | zero => omega
          | succ c =>
            obtain ⟨m1, h2, h3⟩ := hc
            have h4 : FW s a1 (x0, i) (p1, m1) := (hhit x0 i m1 hx).2 ⟨m, h1, h2⟩
            cases c with
            | zero =>
              cases (show m1 = j from h3)
              exact .inl (.inr h4)
            | succ c => exact .inr ⟨m1, c + 1, h4.mono hsub2, by omega, by omega, h3⟩
def questA (f : AM → Nat → AM × Nat) (n : Nat) (a : AM) (p : Nat) : AM × Nat := (optA f a.out.length n (a.step p 0 zeroS) p, a.out.length)
theorem LayH.quest {s : List UInt8} {f : AM → Nat → AM × Nat} {R : Nat → Nat → Prop} (h : LayH s f R) (n : Nat) : LayH s (questA f n) (fun i j => ∃ c, c ≤ n ∧ Iter R c i j) := by
  have all : ∀ a p, Wf a → p < a.out.length → Wf (questA f n a p).1 ∧ Grow a (questA f n a p).1 p ∧ a.out.length < (questA f n a p).1.out.length ∧ ∀ x0 i j, x0 < a.out.length → (FW s (questA f n a p).1 (x0, i) (a.out.length, j) ↔ ∃ m, FW s a (x0, i) (p, m) ∧ ∃ c, c ≤ n ∧ Iter R c m j) := by
    intro a p hw hp
    have hw2 := wf_step (k := 0) (S := zeroS) hw hp
    have hl2 : (a.step p 0 zeroS).out.length = a.out.length + 1 := step_len _ _ _ _
    have hg2 := grow_step (k := 0) (S := zeroS) hp
    have hdead : ERow (a.step p 0 zeroS) a.out.length = [] := by
      rw [row_step hp, if_neg (by omega)]
      exact getD_nil (Nat.le_refl _)
    obtain ⟨k1, k2, k3, k4, k5⟩ := opt_all h a.out.length n (a.step p 0 zeroS) p hw2 (by omega) (by omega) (by omega) hdead
    unfold questA
    dsimp only
    refine ⟨k1, ⟨by omega, fun q e he => k3 q e (hg2.sub q e he), fun q e he => ?_⟩, by omega, fun x0 i j hx => ?_⟩
    · rcases k4 q e he with he | ⟨hq, ht⟩
      · exact hg2.new q e he
      · exact .inr ⟨by omega, by omega⟩
    · rw [k5 x0 i j (by omega)]
      constructor
      · rintro (h1 | ⟨m, c, h1, c1, c2, hc⟩)
        · obtain ⟨m, h2, h3⟩ := (step_hit hw hp hx).1 h1
          rw [eps_place] at h3
          cases h3
          exact ⟨_, h2, 0, Nat.zero_le _, rfl⟩
        · exact ⟨m, (hg2.old hw hx hp).1 h1, c, c2, hc⟩
      · rintro ⟨m, h1, c, c2, hc⟩
        cases c with
        | zero =>
          cases (show m = j from hc)
          exact .inl ((step_hit hw hp hx).2 ⟨_, h1, rfl⟩)
        | succ c => exact .inr ⟨m, c + 1, (hg2.old hw hx hp).2 h1, by omega, c2, hc⟩
  exact ⟨fun a p hw hp => (all a p hw hp).1, fun a p hw hp => (all a p hw hp).2.1, fun a p hw hp => ⟨.inr (Nat.le_refl _), (all a p hw hp).2.2.1⟩, fun a p x0 i j hw hp hx => (all a p hw hp).2.2.2 x0 i j hx⟩
theorem LayH.rep {s : List UInt8} {f : AM → Nat → AM × Nat} {R : Nat → Nat → Prop} (h : LayH s f R) (lo : Nat) (hi : Int) (k : RE) : LayH s (repA lo hi k f) (fun i j => ∃ c, RepN lo hi k c ∧ Iter R c i j) := by
  by_cases hc : hi = (lo : Int) ∨ k.thin = true
  · have e : repA lo hi k f = timesA f (leastM lo k) := by
      funext a p
      unfold repA
      dsimp only
      rw [if_pos hc]
    rw [e]
    refine (h.times _).iff fun i j => ⟨fun hh => ⟨_, ⟨Nat.le_refl _, by rw [if_pos hc]⟩, hh⟩, fun ⟨c, ⟨_, h2⟩, hh⟩ => ?_⟩
    rw [if_pos hc] at h2
    rw [h2] at hh
    exact hh
  by_cases hn : hi < 0
  · have e : repA lo hi k f = fun a p => starA f (timesA f (leastM lo k) a p).1 (timesA f (leastM lo k) a p).2 := by
      funext a p
      unfold repA starA
      dsimp only
      rw [if_neg hc, if_pos hn]
    rw [e]
    refine ((h.times _).seq h.star).iff fun i j => ⟨fun ⟨m, h1, c, h2⟩ => ⟨leastM lo k + c, ⟨Nat.le_add_right _ _, by rw [if_neg hc]; exact .inl hn⟩, Iter.add.2 ⟨m, h1, h2⟩⟩, fun ⟨c, ⟨h1, _⟩, hh⟩ => ?_⟩
    obtain ⟨d, rfl⟩ := Nat.exists_eq_add_of_le h1
    obtain ⟨m, h3, h4⟩ := Iter.add.1 hh
    exact ⟨m, h3, d, h4⟩
  · have e : repA lo hi k f = fun a p => questA f (hi.toNat - lo) (timesA f (leastM lo k) a p).1 (timesA f (leastM lo k) a p).2 := by
      funext a p
      unfold repA questA
      dsimp only
      rw [if_neg hc, if_neg hn]
    rw [e]
    refine ((h.times _).seq (h.quest _)).iff fun i j => ⟨fun ⟨m, h1, c, hcn, h2⟩ => ⟨leastM lo k + c, ⟨Nat.le_add_right _ _, by rw [if_neg hc]; exact .inr (by omega)⟩, Iter.add.2 ⟨m, h1, h2⟩⟩, fun ⟨c, ⟨h1, h5⟩, hh⟩ => ?_⟩
    rw [if_neg hc] at h5
    obtain ⟨d, rfl⟩ := Nat.exists_eq_add_of_le h1
    obtain ⟨m, h3, h4⟩ := Iter.add.1 hh
    exact ⟨m, h3, d, by omega, h4⟩

/-! any bytes -/
theorem all_has : ∀ b : UInt8, hasS (notS zeroS) b.toNat = true := by
  have h : ∀ b : Fin 256, hasS (notS zeroS) b.val = true := by decide +kernel
  exact fun b => h ⟨b.toNat, b.toNat_lt⟩
theorem LayH.any (s : List UInt8) : LayH s (fun a p => ((a.step p 0 zeroS).link a.out.length a.out.length 1 (notS zeroS), a.out.length)) (fun i j => j = i ∨ (i < j ∧ j ≤ s.length)) := by
  have all : ∀ a p, Wf a → p < a.out.length → Wf ((a.step p 0 zeroS).link a.out.length a.out.length 1 (notS zeroS)) ∧ Grow a ((a.step p 0 zeroS).link a.out.length a.out.length 1 (notS zeroS)) p ∧ a.out.length < ((a.step p 0 zeroS).link a.out.length a.out.length 1 (notS zeroS)).out.length ∧
      ∀ x0 i j, x0 < a.out.length → (FW s ((a.step p 0 zeroS).link a.out.length a.out.length 1 (notS zeroS)) (x0, i) (a.out.length, j) ↔ ∃ m, FW s a (x0, i) (p, m) ∧ (j = m ∨ (m < j ∧ j ≤ s.length))) := by
    intro a p hw hp
    have hw2 := wf_step (k := 0) (S := zeroS) hw hp
    have hl2 : (a.step p 0 zeroS).out.length = a.out.length + 1 := step_len _ _ _ _
    have hg2 := grow_step (k := 0) (S := zeroS) hp
    have hh : a.out.length < (a.step p 0 zeroS).out.length := by omega
    have hdead : ERow (a.step p 0 zeroS) a.out.length = [] := by
      rw [row_step hp, if_neg (by omega)]
      exact getD_nil (Nat.le_refl _)
    have hrow3 := fun q => row_link (k := 1) (S := notS zeroS) (t := a.out.length) hh q
    have hl3 : ((a.step p 0 zeroS).link a.out.length a.out.length 1 (notS zeroS)).out.length = (a.step p 0 zeroS).out.length := (link_len _ _ _ _ _).1
    have hsub3 : ∀ q, ∀ e ∈ ERow (a.step p 0 zeroS) q, e ∈ ERow ((a.step p 0 zeroS).link a.out.length a.out.length 1 (notS zeroS)) q := fun q e he => by
      rw [hrow3]; split
      · exact List.mem_append.2 (.inl he)
      · exact he
    have hcase : ∀ q, ∀ e ∈ ERow ((a.step p 0 zeroS).link a.out.length a.out.length 1 (notS zeroS)) q, e ∈ ERow (a.step p 0 zeroS) q ∨ (q = a.out.length ∧ e = ⟨1, notS zeroS, a.out.length⟩) := fun q e he => by
      rw [hrow3] at he
      split at he
      · rename_i e1
        rcases List.mem_append.1 he with he | he
        · exact .inl he
        · exact .inr ⟨e1, List.mem_singleton.1 he⟩
      · exact .inl he
    refine ⟨wf_link hw2 hh hh, ⟨by omega, fun q e he => hsub3 q e (hg2.sub q e he), fun q e he => ?_⟩, by omega, fun x0 i j hx => ⟨fun hr => ?_, ?_⟩⟩
    · rcases hcase q e he with he | ⟨rfl, rfl⟩
      · exact hg2.new q e he
      · exact .inr ⟨.inr (Nat.le_refl _), Nat.le_refl _⟩
    · have key : ∀ z, FW s ((a.step p 0 zeroS).link a.out.length a.out.length 1 (notS zeroS)) (x0, i) z → (z.1 < a.out.length ∧ FW s a (x0, i) z) ∨ ∃ m, FW s a (x0, i) (p, m) ∧ z.1 = a.out.length ∧ (z.2 = m ∨ (m < z.2 ∧ z.2 ≤ s.length)) := by
        intro z hz
        induction hz with
        | here => exact .inl ⟨hx, .here⟩
        | @step q u b e h1 he hpl ih =>
          rcases hcase q e he with he2 | ⟨rfl, rfl⟩
          · rcases ih with ⟨hq, hold⟩ | ⟨m, k1, k2, k3⟩
            · have hq : q < a.out.length := hq
              rw [row_step hp] at he2
              split at he2
              · rename_i e1
                rcases List.mem_append.1 he2 with he2 | he2
                · exact .inl ⟨hw q e he2, .step hold he2 hpl⟩
                · rw [List.mem_singleton] at he2; subst he2 e1
                  rw [eps_place] at hpl
                  cases hpl
                  exact .inr ⟨u, hold, rfl, .inl rfl⟩
              · exact .inl ⟨hw q e he2, .step hold he2 hpl⟩
            · have k2 : q = a.out.length := k2
              rw [k2, hdead] at he2
              cases he2
          · rcases ih with ⟨hq, hold⟩ | ⟨m, k1, k2, k3⟩
            · have hq : a.out.length < a.out.length := hq
              omega
            · dsimp only at k3 ⊢
              unfold placeM inB at hpl
              simp at hpl
              exact .inr ⟨m, k1, rfl, .inr (by omega)⟩
      rcases key _ hr with ⟨hbad, _⟩ | ⟨m, k1, _, k3⟩
      · exact absurd hbad (by dsimp only; omega)
      · exact ⟨m, k1, k3⟩
    · rintro ⟨m, h1, hj⟩
      have hbase : FW s ((a.step p 0 zeroS).link a.out.length a.out.length 1 (notS zeroS)) (x0, i) (a.out.length, m) :=
        ((step_hit (k := 0) (S := zeroS) hw hp hx (j := m) (s := s) (i := i)).2 ⟨m, h1, rfl⟩).mono hsub3
      have hgo : ∀ d, m + d ≤ s.length → FW s ((a.step p 0 zeroS).link a.out.length a.out.length 1 (notS zeroS)) (x0, i) (a.out.length, m + d) := by
        intro d
        induction d with
        | zero => exact fun _ => hbase
        | succ d ih =>
          intro hd
          refine Rch.step (e := ⟨1, notS zeroS, a.out.length⟩) (ih (by omega)) ?_ (b := m + (d + 1)) ?_
          · show _ ∈ ERow _ a.out.length
            rw [hrow3, if_pos rfl]; simp
          · have := all_has (s.getD (m + d) 0)
            unfold placeM inB bAt
            simp only [if_true, this, and_true, decide_eq_true_eq]
            rw [if_pos (by omega)]
            rfl
      rcases hj with rfl | ⟨h2, h3⟩
      · exact hbase
      · have := hgo (j - m) (by omega)
        rw [show m + (j - m) = j by omega] at this
        exact this
  exact ⟨fun a p hw hp => (all a p hw hp).1, fun a p hw hp => (all a p hw hp).2.1, fun a p hw hp => ⟨.inr (Nat.le_refl _), (all a p hw hp).2.2.1⟩, fun a p x0 i j hw hp hx => (all a p hw hp).2.2.2 x0 i j hx⟩

mutual
theorem lay_hit (s : List UInt8) : ∀ r : RE, LayH s (layM r) (Hit s r)
  | .byte S => by
    rw [show layM (.byte S) = fun a p => (a.step p 1 S, a.out.length) from by funext a p; rw [layM]]
    refine LayH.edge s 1 S _ fun t i j => ?_
    rw [Hit]
    unfold placeM inB bAt
    simp only [if_true, decide_eq_true_eq]
    constructor
    · intro h
      split at h
      · rename_i h1; cases h; exact ⟨h1, rfl⟩
      · cases h
    · rintro ⟨h1, rfl⟩
      rw [if_pos h1]
  | .bol => by
    rw [show layM .bol = fun a p => (a.step p 2 zeroS, a.out.length) from by funext a p; rw [layM]]
    refine LayH.edge s 2 zeroS _ fun t i j => ?_
    rw [Hit]
    unfold placeM
    simp only [show ¬ ((2 : Nat) = 1) by omega, if_false, if_true]
    constructor
    · intro h
      split at h
      · rename_i h1; cases h; exact ⟨h1, rfl⟩
      · cases h
    · rintro ⟨h1, rfl⟩
      rw [if_pos h1]
  | .eol => by
    rw [show layM .eol = fun a p => (a.step p 3 zeroS, a.out.length) from by funext a p; rw [layM]]
    refine LayH.edge s 3 zeroS _ fun t i j => ?_
    rw [Hit]
    unfold placeM
    simp only [show ¬ ((3 : Nat) = 1) by omega, show ¬ ((3 : Nat) = 2) by omega, if_false, if_true]
    constructor
    · intro h
      split at h
      · rename_i h1; cases h; exact ⟨h1, rfl⟩
      · cases h
    · rintro ⟨h1, rfl⟩
      rw [if_pos h1]
  | .back n => by
    rw [show layM (.back n) = fun a p => ((a.step p 0 zeroS).link a.out.length a.out.length 1 (notS zeroS), a.out.length) from by funext a p; rw [layM]]
    exact (LayH.any s).iff fun i j => by rw [Hit]
  | .rep lo hi k => by
    rw [show layM (.rep lo hi k) = repA lo hi k (layM k) from by funext a p; rw [layM]]
    exact (LayH.rep (lay_hit s k) lo hi k).iff fun i j => by rw [Hit]
  | .cat ks => by
    rw [show layM (.cat ks) = layL ks from by funext a p; rw [layM]]
    exact (layL_hit s ks).iff fun i j => by rw [Hit]
  | .group n k => by
    rw [show layM (.group n k) = layM k from by funext a p; rw [layM]]
    exact (lay_hit s k).iff fun i j => by rw [Hit]
theorem layL_hit (s : List UInt8) : ∀ ks : List RE, LayH s (layL ks) (HitL s ks)
  | [] => by
    rw [show layL [] = fun a p => (a, p) from by funext a p; rw [layL]]
    exact (LayH.id s).iff fun i j => by rw [HitL]
  | k :: ks => by
    rw [show layL (k :: ks) = fun a p => layL ks (layM k a p).1 (layM k a p).2 from by funext a p; rw [layL]]
    exact ((lay_hit s k).seq (layL_hit s ks)).iff fun i j => by rw [HitL]
end
theorem make_hit (s : List UInt8) (ks : List RE) (i j : Nat) : FW s (makeM ks).1 (0, i) ((makeM ks).2, j) ↔ HitL s ks i j := by
  have hw : Wf (AM.add ⟨[], []⟩) := fun q e he => by
    rw [show ERow (AM.add ⟨[], []⟩) q = ERow ⟨[], []⟩ q from getD_new _ _] at he
    cases he
  refine ((layL_hit s ks).hit (AM.add ⟨[], []⟩) 0 0 i j hw (by decide) (by decide)).trans ⟨fun ⟨m, h1, h2⟩ => ?_, fun h => ⟨i, .here, h⟩⟩
  have := Rch.dead rfl h1
  injection this with _ e
  subst e
  exact h2
theorem ends_iff {ks : List RE} (hc : costL ks + 1 ≤ 131072) (s : List UInt8) {i j : Nat} (st : Nat) (hi : i ≤ s.length) (hj : j ≤ s.length) : (endsM (makeM ks) s i st).marks.getD j false = true ↔ HitL s ks i j := by
  obtain ⟨hr, hlt⟩ := make_room ks hc
  obtain ⟨done, hd⟩ := flood_spec hr.eo s (x0 := (0, i)) (by omega) hi (makeM ks).2 true st
  exact (hd.marks j hj).trans (make_hit s ks i j)

/-! backward -/
theorem place_rev (s : List UInt8) (k t q : Nat) (S : BS) (a b : Nat) : placeM s true ⟨k, S, t⟩ a = some b ↔ placeM s false ⟨k, S, q⟩ b = some a := by
  unfold placeM inB bAt
  dsimp only
  by_cases h1 : k = 1
  · simp only [h1, if_true, Bool.false_eq_true, if_false, decide_eq_true_eq]
    constructor
    · intro h
      split at h
      · rename_i h2; cases h
        rw [show a + 1 - 1 = a by omega, if_pos ⟨⟨by omega, h2.1⟩, h2.2⟩]
      · cases h
    · intro h
      split at h
      · rename_i h2; cases h
        rw [if_pos ⟨h2.1.2, h2.2⟩, show b - 1 + 1 = b by omega]
      · cases h
  · simp only [h1, if_false]
    by_cases h2 : k = 2
    · simp only [h2, if_true]
      constructor <;> intro h <;> split at h <;> first | (rename_i h3; cases h; rw [if_pos h3]) | cases h
    · simp only [h2, if_false]
      by_cases h3 : k = 3
      · simp only [h3, if_true]
        constructor <;> intro h <;> split at h <;> first | (rename_i h4; cases h; rw [if_pos h4]) | cases h
      · simp only [h3, if_false, Option.some.injEq]
        exact eq_comm
def Rev (a : AM) : Prop := a.back.length = a.out.length ∧ ∀ q t k S, (⟨k, S, t⟩ : Ed) ∈ a.out.getD q [] ↔ (⟨k, S, q⟩ : Ed) ∈ a.back.getD t []
theorem rev_add {a : AM} (h : Rev a) : Rev a.add := ⟨by simp [AM.add, h.1], fun q t k S => by
  rw [show a.add.out.getD q [] = a.out.getD q [] from getD_new _ _, show a.add.back.getD t [] = a.back.getD t [] from getD_new _ _]
  exact h.2 q t k S⟩
theorem rev_link {a : AM} {f t k : Nat} {S : BS} (h : Rev a) (hf : f < a.out.length) (ht : t < a.out.length) : Rev (a.link f t k S) := by
  refine ⟨by rw [(link_len _ _ _ _ _).1, (link_len _ _ _ _ _).2]; exact h.1, fun q t' k' S' => ?_⟩
  rw [show (a.link f t k S).out.getD q [] = _ from getD_addTo _ _ _ _ hf, show (a.link f t k S).back.getD t' [] = _ from getD_addTo _ _ _ _ (by rw [h.1]; exact ht)]
  have h2 := h.2 q t' k' S'
  have e1 : (⟨k', S', t'⟩ : Ed) ∈ (if q = f then a.out.getD q [] ++ [⟨k, S, t⟩] else a.out.getD q []) ↔ (⟨k', S', t'⟩ : Ed) ∈ a.out.getD q [] ∨ (q = f ∧ k' = k ∧ S' = S ∧ t' = t) := by
    split <;> simp_all
  have e2 : (⟨k', S', q⟩ : Ed) ∈ (if t' = t then a.back.getD t' [] ++ [⟨k, S, f⟩] else a.back.getD t' []) ↔ (⟨k', S', q⟩ : Ed) ∈ a.back.getD t' [] ∨ (t' = t ∧ k' = k ∧ S' = S ∧ q = f) := by
    split <;> simp_all
  rw [e1, e2, h2]
  constructor
  · rintro (h | ⟨h1, h2, h3, h4⟩)
    · exact .inl h
    · exact .inr ⟨h4, h2, h3, h1⟩
  · rintro (h | ⟨h1, h2, h3, h4⟩)
    · exact .inl h
    · exact .inr ⟨h4, h2, h3, h1⟩
theorem rev_step {a : AM} {f k : Nat} {S : BS} (h : Rev a) (hf : f < a.out.length) : Rev (a.step f k S) := rev_link (rev_add h) (by rw [add_len]; omega) (by rw [add_len]; omega)
theorem Rch.rev {es es' : List (List Ed)} {s : List UInt8} (hrev : ∀ q t k S, (⟨k, S, t⟩ : Ed) ∈ es.getD q [] ↔ (⟨k, S, q⟩ : Ed) ∈ es'.getD t []) {x y : Nat × Nat} : Rch es s true x y ↔ Rch es' s false y x := by
  constructor
  · intro h
    induction h with
    | here => exact .here
    | @step q a b e h1 he hp ih =>
      obtain ⟨k, S, t⟩ := e
      exact Rch.trans (Rch.step (e := ⟨k, S, q⟩) .here ((hrev q t k S).1 he) ((place_rev s k t q S a b).1 hp)) ih
  · intro h
    induction h with
    | here => exact .here
    | @step q a b e h1 he hp ih =>
      obtain ⟨k, S, t⟩ := e
      exact Rch.trans (Rch.step (e := ⟨k, S, q⟩) .here ((hrev t q k S).2 he) ((place_rev s k q t S b a).2 hp)) ih
end Go.Proofs.Ytblpgpgbnlhjlaa
