/- Layer 7 (nfa) in plain Lean: a tree laid out as states with edges. -/
import Derived.Test.YtblpgpgbnlhjlaaAb
import Derived.Test.YtblpgpgbnlhjlaaSlq
namespace Go.Proofs.Ytblpgpgbnlhjlaa
open Go Go.RowKit Sl
set_option maxRecDepth 100000
set_option maxHeartbeats 8000000
set_option linter.unusedVariables false
set_option linter.unusedSimpArgs false
attribute [local irreducible] ES EL PX wps

/-- An edge: what it wants (0 nothing, 1 a byte, 2 the beginning, 3 the end), its set, where it leads. -/
structure Ed where
  kind : Nat
  set : BS
  to : Nat
structure AM where
  out : List (List Ed)
  back : List (List Ed)
def addTo (l : List (List Ed)) (i : Nat) (e : Ed) : List (List Ed) := l.set i (l.getD i [] ++ [e])
def AM.add (a : AM) : AM := ⟨a.out ++ [[]], a.back ++ [[]]⟩
def AM.link (a : AM) (f t k : Nat) (s : BS) : AM := ⟨addTo a.out f ⟨k, s, t⟩, addTo a.back t ⟨k, s, f⟩⟩
/-- A new state, that an edge leads to. -/
def AM.step (a : AM) (f k : Nat) (s : BS) : AM := a.add.link f a.out.length k s
def timesA (f : AM → Nat → AM × Nat) : Nat → AM → Nat → AM × Nat
  | 0, a, p => (a, p)
  | n + 1, a, p => timesA f n (f a p).1 (f a p).2
def optA (f : AM → Nat → AM × Nat) (out : Nat) : Nat → AM → Nat → AM
  | 0, a, _ => a
  | n + 1, a, p => optA f out n ((f a p).1.link (f a p).2 out 0 zeroS) (f a p).2
def repA (lo : Nat) (hi : Int) (k : RE) (f : AM → Nat → AM × Nat) (a : AM) (p : Nat) : AM × Nat :=
  let x := timesA f (leastM lo k) a p
  if hi = (lo : Int) ∨ k.thin = true then x
  else if hi < 0 then
    let h := x.1.out.length
    let y := f (x.1.step x.2 0 zeroS) h
    (y.1.link y.2 h 0 zeroS, h)
  else
    let o := x.1.out.length
    (optA f o (hi.toNat - lo) (x.1.step x.2 0 zeroS) x.2, o)
mutual
def layM : RE → AM → Nat → AM × Nat
  | .byte s, a, p => (a.step p 1 s, a.out.length)
  | .bol, a, p => (a.step p 2 zeroS, a.out.length)
  | .eol, a, p => (a.step p 3 zeroS, a.out.length)
  | .back _, a, p => ((a.step p 0 zeroS).link a.out.length a.out.length 1 (notS zeroS), a.out.length)
  | .rep lo hi k, a, p => repA lo hi k (layM k) a p
  | .cat ks, a, p => layL ks a p
  | .group _ k, a, p => layM k a p
def layL : List RE → AM → Nat → AM × Nat
  | [], a, p => (a, p)
  | k :: ks, a, p => layL ks (layM k a p).1 (layM k a p).2
end
/-- Trees laid out behind one another: the automaton, and its end. -/
def makeM (ks : List RE) : AM × Nat := layL ks (AM.add ⟨[], []⟩) 0
theorem add_len (a : AM) : a.add.out.length = a.out.length + 1 := by simp [AM.add]
theorem addTo_len (l : List (List Ed)) (i : Nat) (e : Ed) : (addTo l i e).length = l.length := by simp [addTo]
theorem link_len (a : AM) (f t k : Nat) (s : BS) : (a.link f t k s).out.length = a.out.length ∧ (a.link f t k s).back.length = a.back.length := ⟨addTo_len _ _ _, addTo_len _ _ _⟩
/-! what an automaton keeps -/
def EdsOk (es : List (List Ed)) : Prop := ∀ l ∈ es, ∀ e ∈ l, e.to < es.length ∧ e.kind ≤ 3
structure AM.Room (a : AM) (n : Nat) : Prop where
  out : a.out.length + n ≤ 131072
  same : a.back.length = a.out.length
  ro : ∀ l ∈ a.out, l.length + n ≤ 131072
  rb : ∀ l ∈ a.back, l.length + n ≤ 131072
  eo : EdsOk a.out
  eb : EdsOk a.back
theorem AM.Room.less {a : AM} {n m : Nat} (h : a.Room n) (hm : m ≤ n) : a.Room m := ⟨by have := h.out; omega, h.same, fun l hl => by have := h.ro l hl; omega, fun l hl => by have := h.rb l hl; omega, h.eo, h.eb⟩
theorem eds_add {l : List (List Ed)} (h : EdsOk l) : EdsOk (l ++ [[]]) := fun x hx e he => by
  rcases List.mem_append.1 hx with hx | hx
  · have := h x hx e he
    simp only [List.length_append, List.length_singleton]; exact ⟨by omega, this.2⟩
  · simp only [List.mem_singleton] at hx; subst hx; cases he
theorem eds_link {l : List (List Ed)} (h : EdsOk l) {i : Nat} {e : Ed} (ht : e.to < l.length) (hk : e.kind ≤ 3) : EdsOk (addTo l i e) := fun x hx e' he => by
  rw [addTo_len]
  rcases List.mem_or_eq_of_mem_set hx with hx | rfl
  · exact h x hx e' he
  · rcases List.mem_append.1 he with he | he
    · rw [List.getD_eq_getElem?_getD] at he
      cases hg : l[i]? with
      | none => rw [hg] at he; cases he
      | some y => rw [hg] at he; exact h y (List.mem_of_getElem? hg) e' he
    · rw [List.mem_singleton] at he; subst he; exact ⟨ht, hk⟩
theorem add_room {a : AM} {n : Nat} (h : a.Room (n + 1)) : a.add.Room n := by
  refine ⟨by have := h.out; rw [add_len]; omega, by simp [AM.add, h.same], fun l hl => ?_, fun l hl => ?_, eds_add h.eo, eds_add h.eb⟩
  · rcases List.mem_append.1 hl with hl | hl
    · have := h.ro l hl; omega
    · have := h.out; simp only [List.mem_singleton] at hl; subst hl; simp; omega
  · rcases List.mem_append.1 hl with hl | hl
    · have := h.rb l hl; omega
    · have := h.out; simp only [List.mem_singleton] at hl; subst hl; simp; omega
theorem addTo_room {l : List (List Ed)} {n : Nat} (h : ∀ x ∈ l, x.length + (n + 1) ≤ 131072) {i : Nat} (hi : i < l.length) (e : Ed) : ∀ x ∈ addTo l i e, x.length + n ≤ 131072 := by
  intro x hx
  rcases List.mem_or_eq_of_mem_set hx with hx | rfl
  · have := h x hx; omega
  · have := h l[i] (List.getElem_mem hi)
    simp only [List.getD_eq_getElem?_getD, List.getElem?_eq_getElem hi, Option.getD_some, List.length_append, List.length_singleton]
    omega
theorem link_room {a : AM} {n f t k : Nat} {s : BS} (h : a.Room (n + 1)) (hf : f < a.out.length) (ht : t < a.out.length) (hk : k ≤ 3 := by omega) : (a.link f t k s).Room n :=
  ⟨by rw [(link_len a f t k s).1]; have := h.out; omega, by rw [(link_len a f t k s).1, (link_len a f t k s).2]; exact h.same, addTo_room h.ro hf _, addTo_room h.rb (by rw [h.same]; exact ht) _, eds_link h.eo ht hk, eds_link h.eb (by rw [h.same]; exact hf) hk⟩
theorem step_len (a : AM) (f k : Nat) (s : BS) : (a.step f k s).out.length = a.out.length + 1 := by
  unfold AM.step; rw [(link_len _ _ _ _ _).1, add_len]
theorem step_room {a : AM} {n f k : Nat} {s : BS} (h : a.Room (n + 2)) (hf : f < a.out.length) (hk : k ≤ 3 := by omega) : (a.step f k s).Room n :=
  link_room (add_room h) (by rw [add_len]; omega) (by rw [add_len]; omega) hk
mutual
/-- How many states and edges a tree takes at the most. -/
def RE.cost : RE → Nat
  | .byte _ => 2
  | .bol => 2
  | .eol => 2
  | .back _ => 3
  | .cat ks => costL ks
  | .group _ k => k.cost
  | .rep lo hi k => leastM lo k * k.cost + (if hi = (lo : Int) ∨ k.thin = true then 0 else if hi < 0 then k.cost + 3 else (hi.toNat - lo) * (k.cost + 1) + 2)
def costL : List RE → Nat
  | [] => 0
  | k :: ks => k.cost + costL ks
end
/-- What laying does to the room. -/
structure Lays (c : Nat) (f : AM → Nat → AM × Nat) : Prop where
  room : ∀ a p n, a.Room (c + n) → p < a.out.length → (f a p).1.Room n ∧ (f a p).2 < (f a p).1.out.length ∧ a.out.length ≤ (f a p).1.out.length
theorem times_room {c : Nat} {f : AM → Nat → AM × Nat} (hf : Lays c f) : ∀ (m : Nat) (a : AM) (p n : Nat), a.Room (m * c + n) → p < a.out.length → (timesA f m a p).1.Room n ∧ (timesA f m a p).2 < (timesA f m a p).1.out.length ∧ a.out.length ≤ (timesA f m a p).1.out.length
  | 0, a, p, n, h, hp => ⟨h.less (by omega), hp, Nat.le_refl _⟩
  | m + 1, a, p, n, h, hp => by
    have h1 := hf.room a p (m * c + n) (h.less (by rw [Nat.succ_mul]; omega)) hp
    have h2 := times_room hf m _ _ n h1.1 h1.2.1
    exact ⟨h2.1, h2.2.1, by have := h1.2.2; have := h2.2.2; simp only [timesA]; omega⟩
theorem opt_room {c : Nat} {f : AM → Nat → AM × Nat} (hf : Lays c f) {o : Nat} : ∀ (m : Nat) (a : AM) (p n : Nat), a.Room (m * (c + 1) + n) → p < a.out.length → o < a.out.length → (optA f o m a p).Room n ∧ a.out.length ≤ (optA f o m a p).out.length
  | 0, a, p, n, h, hp, ho => ⟨h.less (by omega), Nat.le_refl _⟩
  | m + 1, a, p, n, h, hp, ho => by
    have h1 := hf.room a p (m * (c + 1) + n + 1) (h.less (by rw [Nat.succ_mul]; omega)) hp
    have h2 := opt_room hf (o := o) m ((f a p).1.link (f a p).2 o 0 zeroS) (f a p).2 n (link_room h1.1 h1.2.1 (by omega)) (by rw [(link_len _ _ _ _ _).1]; exact h1.2.1) (by rw [(link_len _ _ _ _ _).1]; omega)
    refine ⟨h2.1, ?_⟩
    have := h2.2
    rw [(link_len _ _ _ _ _).1] at this
    simp only [optA]; omega
theorem rep_room {lo : Nat} {hi : Int} {k : RE} (hk : Lays k.cost (layM k)) (a : AM) (p n : Nat) (h : a.Room ((RE.rep lo hi k).cost + n)) (hp : p < a.out.length) :
    (repA lo hi k (layM k) a p).1.Room n ∧ (repA lo hi k (layM k) a p).2 < (repA lo hi k (layM k) a p).1.out.length ∧ a.out.length ≤ (repA lo hi k (layM k) a p).1.out.length := by
  rw [RE.cost] at h
  unfold repA
  dsimp only
  split
  · rename_i hc
    rw [if_pos hc] at h
    exact times_room hk _ a p n (h.less (by omega)) hp
  · rename_i hc
    rw [if_neg hc] at h
    split
    · rename_i hneg
      rw [if_pos hneg] at h
      have h1 := times_room hk (leastM lo k) a p (k.cost + 3 + n) (h.less (by omega)) hp
      generalize timesA (layM k) (leastM lo k) a p = x at h1
      have h2 := step_room (k := 0) (s := zeroS) (n := k.cost + (1 + n)) (h1.1.less (by omega)) h1.2.1
      have h3 := hk.room _ x.1.out.length (1 + n) h2 (by rw [step_len]; omega)
      rw [step_len] at h3
      refine ⟨link_room (h3.1.less (by omega)) h3.2.1 (by omega), ?_, ?_⟩
      · rw [(link_len _ _ _ _ _).1]; omega
      · rw [(link_len _ _ _ _ _).1]; omega
    · rename_i hneg
      rw [if_neg hneg] at h
      have h1 := times_room hk (leastM lo k) a p ((hi.toNat - lo) * (k.cost + 1) + 2 + n) (h.less (by omega)) hp
      generalize timesA (layM k) (leastM lo k) a p = x at h1
      have h2 := step_room (k := 0) (s := zeroS) (n := (hi.toNat - lo) * (k.cost + 1) + n) (h1.1.less (by omega)) h1.2.1
      have h3 := opt_room hk (o := x.1.out.length) (hi.toNat - lo) (x.1.step x.2 0 zeroS) x.2 n h2 (by rw [step_len]; omega) (by rw [step_len]; omega)
      rw [step_len] at h3
      exact ⟨h3.1, by dsimp only; omega, by dsimp only; omega⟩
mutual
theorem lay_room : ∀ r : RE, Lays r.cost (layM r)
  | .byte s => ⟨fun a p n h hp => by rw [RE.cost] at h; exact ⟨step_room (h.less (by omega)) hp, by rw [layM, step_len]; dsimp only; omega, by rw [layM, step_len]; omega⟩⟩
  | .bol => ⟨fun a p n h hp => by rw [RE.cost] at h; exact ⟨step_room (h.less (by omega)) hp, by rw [layM, step_len]; dsimp only; omega, by rw [layM, step_len]; omega⟩⟩
  | .eol => ⟨fun a p n h hp => by rw [RE.cost] at h; exact ⟨step_room (h.less (by omega)) hp, by rw [layM, step_len]; dsimp only; omega, by rw [layM, step_len]; omega⟩⟩
  | .back _ => ⟨fun a p n h hp => by
      rw [RE.cost] at h
      rw [layM]
      dsimp only
      have h1 := step_room (k := 0) (s := zeroS) (n := n + 1) (h.less (by omega)) hp
      exact ⟨link_room h1 (by rw [step_len]; omega) (by rw [step_len]; omega), by rw [(link_len _ _ _ _ _).1, step_len]; omega, by rw [(link_len _ _ _ _ _).1, step_len]; omega⟩⟩
  | .rep lo hi k => ⟨fun a p n h hp => by rw [layM]; exact rep_room (lay_room k) a p n h hp⟩
  | .cat ks => ⟨fun a p n h hp => by rw [RE.cost] at h; rw [layM]; exact layL_room ks a p n h hp⟩
  | .group _ k => ⟨fun a p n h hp => by rw [RE.cost] at h; rw [layM]; exact (lay_room k).room a p n h hp⟩
theorem layL_room : ∀ (ks : List RE) (a : AM) (p n : Nat), a.Room (costL ks + n) → p < a.out.length → (layL ks a p).1.Room n ∧ (layL ks a p).2 < (layL ks a p).1.out.length ∧ a.out.length ≤ (layL ks a p).1.out.length
  | [], a, p, n, h, hp => by rw [layL]; rw [costL] at h; exact ⟨h.less (by omega), hp, Nat.le_refl _⟩
  | k :: ks, a, p, n, h, hp => by
    rw [costL] at h
    have h1 := (lay_room k).room a p (costL ks + n) (h.less (by omega)) hp
    have h2 := layL_room ks _ _ n h1.1 h1.2.1
    rw [layL]
    exact ⟨h2.1, h2.2.1, by omega⟩
end
end Go.Proofs.Ytblpgpgbnlhjlaa
