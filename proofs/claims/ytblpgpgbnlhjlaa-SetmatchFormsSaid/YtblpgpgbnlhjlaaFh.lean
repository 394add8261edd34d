/- Layer 7 in plain Lean: backward edges are the forward ones turned; Starts by what trees match. -/
import Derived.Test.YtblpgpgbnlhjlaaFg
namespace Go.Proofs.Ytblpgpgbnlhjlaa
open Go Go.RowKit Sl
set_option maxRecDepth 100000
set_option maxHeartbeats 8000000
set_option linter.unusedVariables false
set_option linter.unusedSimpArgs false
attribute [local irreducible] ES EL PX wps

structure Inv (P : AM → Prop) : Prop where
  add : ∀ a, P a → P a.add
  link : ∀ a f t k S, P a → f < a.out.length → t < a.out.length → P (a.link f t k S)
def Pres (P : AM → Prop) (f : AM → Nat → AM × Nat) : Prop := ∀ a p, P a → p < a.out.length → P (f a p).1 ∧ (f a p).2 < (f a p).1.out.length ∧ a.out.length ≤ (f a p).1.out.length
theorem Inv.step {P : AM → Prop} (hP : Inv P) {a : AM} {f k : Nat} {S : BS} (h : P a) (hf : f < a.out.length) : P (a.step f k S) :=
  hP.link _ _ _ _ _ (hP.add _ h) (by rw [add_len]; omega) (by rw [add_len]; omega)
theorem times_pres {P : AM → Prop} {f : AM → Nat → AM × Nat} (hf : Pres P f) : ∀ n, Pres P (timesA f n)
  | 0, a, p, h, hp => ⟨h, hp, Nat.le_refl _⟩
  | n + 1, a, p, h, hp => by
    have h1 := hf a p h hp
    have h2 := times_pres hf n _ _ h1.1 h1.2.1
    exact ⟨h2.1, h2.2.1, Nat.le_trans h1.2.2 h2.2.2⟩
theorem opt_pres {P : AM → Prop} (hP : Inv P) {f : AM → Nat → AM × Nat} (hf : Pres P f) (o : Nat) : ∀ n a p, P a → p < a.out.length → o < a.out.length → P (optA f o n a p) ∧ a.out.length ≤ (optA f o n a p).out.length
  | 0, a, p, h, _, _ => ⟨h, Nat.le_refl _⟩
  | n + 1, a, p, h, hp, ho => by
    have h1 := hf a p h hp
    have hl : ((f a p).1.link (f a p).2 o 0 zeroS).out.length = (f a p).1.out.length := (link_len _ _ _ _ _).1
    have h2 := opt_pres hP hf o n _ (f a p).2 (hP.link _ _ _ 0 zeroS h1.1 h1.2.1 (show o < _ by omega)) (by omega) (by omega)
    exact ⟨h2.1, by have := h2.2; rw [optA]; omega⟩
theorem rep_pres {P : AM → Prop} (hP : Inv P) {f : AM → Nat → AM × Nat} (hf : Pres P f) (lo : Nat) (hi : Int) (k : RE) : Pres P (repA lo hi k f) := fun a p h hp => by
  have h1 := times_pres hf (leastM lo k) a p h hp
  unfold repA
  dsimp only
  generalize timesA f (leastM lo k) a p = x at h1
  obtain ⟨a1, p1⟩ := x
  dsimp only at h1 ⊢
  split
  · exact h1
  · have h2 : P (a1.step p1 0 zeroS) := hP.step h1.1 h1.2.1
    have hl2 : (a1.step p1 0 zeroS).out.length = a1.out.length + 1 := step_len _ _ _ _
    split
    · have h3 := hf (a1.step p1 0 zeroS) a1.out.length h2 (by omega)
      dsimp only
      refine ⟨hP.link _ _ _ _ _ h3.1 h3.2.1 (by omega), ?_, ?_⟩ <;> rw [(link_len _ _ _ _ _).1] <;> omega
    · have h3 := opt_pres hP hf a1.out.length (hi.toNat - lo) (a1.step p1 0 zeroS) p1 h2 (by omega) (by omega)
      exact ⟨h3.1, by dsimp only; omega, by dsimp only; omega⟩
mutual
theorem lay_pres {P : AM → Prop} (hP : Inv P) : ∀ r : RE, Pres P (layM r)
  | .byte S, a, p, h, hp => by
    rw [layM]
    exact ⟨hP.step h hp, by dsimp only; rw [step_len]; omega, by dsimp only; rw [step_len]; omega⟩
  | .bol, a, p, h, hp => by
    rw [layM]
    exact ⟨hP.step h hp, by dsimp only; rw [step_len]; omega, by dsimp only; rw [step_len]; omega⟩
  | .eol, a, p, h, hp => by
    rw [layM]
    exact ⟨hP.step h hp, by dsimp only; rw [step_len]; omega, by dsimp only; rw [step_len]; omega⟩
  | .back n, a, p, h, hp => by
    rw [layM]
    refine ⟨hP.link _ _ _ _ _ (hP.step h hp) (by rw [step_len]; omega) (by rw [step_len]; omega), ?_, ?_⟩ <;> dsimp only <;> rw [(link_len _ _ _ _ _).1, step_len] <;> omega
  | .rep lo hi k, a, p, h, hp => by
    rw [layM]
    exact rep_pres hP (lay_pres hP k) lo hi k a p h hp
  | .cat ks, a, p, h, hp => by
    rw [layM]
    exact layL_pres hP ks a p h hp
  | .group n k, a, p, h, hp => by
    rw [layM]
    exact lay_pres hP k a p h hp
theorem layL_pres {P : AM → Prop} (hP : Inv P) : ∀ ks : List RE, Pres P (layL ks)
  | [], a, p, h, hp => by
    rw [layL]
    exact ⟨h, hp, Nat.le_refl _⟩
  | k :: ks, a, p, h, hp => by
    rw [layL]
    have h1 := lay_pres hP k a p h hp
    have h2 := layL_pres hP ks _ _ h1.1 h1.2.1
    exact ⟨h2.1, h2.2.1, Nat.le_trans h1.2.2 h2.2.2⟩
end
theorem make_rev (ks : List RE) : Rev (makeM ks).1 := by
  have h0 : Rev ⟨[], []⟩ := ⟨rfl, fun q t k S => by simp⟩
  exact (layL_pres (P := Rev) ⟨fun _ h => rev_add h, fun _ _ _ _ _ h h1 h2 => rev_link h h1 h2⟩ ks (AM.add ⟨[], []⟩) 0 (rev_add h0) (by decide)).1
theorem starts_iff {ks : List RE} (hc : costL ks + 1 ≤ 131072) (s : List UInt8) {i j : Nat} (st : Nat) (hi : i ≤ s.length) (hj : j ≤ s.length) : (startsM (makeM ks) s j st).marks.getD i false = true ↔ HitL s ks i j := by
  obtain ⟨hr, hlt⟩ := make_room ks hc
  obtain ⟨done, hd⟩ := flood_spec hr.eb s (x0 := ((makeM ks).2, j)) (by rw [hr.same]; exact hlt) hj 0 false st
  refine (hd.marks i hi).trans (Iff.trans ?_ (make_hit s ks i j))
  exact (Rch.rev (make_rev ks).2).symm
theorem startsM_steps {A : AM × Nat} (hr : A.1.Room 0) {s : List UInt8} (hs : s.length ≤ 1024) (j st : Nat) : (startsM A s j st).steps ≤ st + 17609365913600 :=
  floodM_steps (by have := hr.out; have := hr.same; omega) (fun l hl => by have := hr.rb l hl; omega) s hs (A.2, j) 0 false st
end Go.Proofs.Ytblpgpgbnlhjlaa
