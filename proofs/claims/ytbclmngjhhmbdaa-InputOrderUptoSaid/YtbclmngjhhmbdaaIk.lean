/- Layer 23 (input): the law InputOrder, in plain Lean: what stands at each round. -/
import Derived.Test.YtbclmngjhhmbdaaIj
namespace Go.Proofs.Ytbclmngjhhmbdaa
open Go Go.RowKit Sl
set_option maxRecDepth 100000
set_option maxHeartbeats 8000000
set_option linter.unusedVariables false
set_option linter.unusedSimpArgs false
attribute [local irreducible] ES EL PX wps

abbrev LL := List (List UInt8)
/-- What has gone in, what has come out, and the queue between. -/
structure OI (i : Nat) (s : QS) (ins outs : LL) : Prop where
  io : ins = outs ++ s.ls
  tk : s.taken = outs.length
  op : s.closed = false
  ne : ins ≠ [] → outs.length < ins.length
  n : ins.length ≤ i
  b : s.bytes ≤ 1024 * i
theorem OI.small {i : Nat} {s : QS} {ins outs : LL} (h : OI i s ins outs) (hi : i ≤ 1048576) : Small s := by
  have h1 := congrArg List.length h.io
  rw [List.length_append] at h1
  exact ⟨by have := h.n; omega, by have := h.b; omega, by have := h.n; have := h.tk; omega⟩
/-- What feeding does. -/
theorem OI.feed {i : Nat} {s : QS} {ins outs : LL} (h : OI i s ins outs) (l : List UInt8) : OI (i + 1) (feedM s l).2 (if (feedM s l).1 = 0 then ins ++ [l] else ins) outs := by
  have h0 := h.b
  have h1 := h.n
  have hstay : OI (i + 1) s ins outs := ⟨h.io, h.tk, h.op, h.ne, by omega, by omega⟩
  by_cases h2 : (10 : UInt8) ∈ l
  · have hf : feedM s l = (19, s) := by simp [feedM, h.op, h2]
    rw [hf]; simpa using hstay
  · by_cases h3 : 1024 < l.length
    · have hf : feedM s l = (15, s) := by simp [feedM, h.op, h2, h3]
      rw [hf]; simpa using hstay
    · have hf : feedM s l = (0, ⟨s.ls ++ [l], s.taken, s.closed⟩) := by simp [feedM, h.op, h2, h3]
      rw [hf]
      simp only [if_true]
      have hl := congrArg List.length h.io
      rw [List.length_append] at hl
      exact ⟨by simp [h.io], h.tk, h.op, fun _ => by simp; omega, by simp; omega, by rw [bytes_snoc]; omega⟩
/-- What taking does, where the queue is open. -/
theorem OI.next {i : Nat} {s : QS} {ins outs : LL} (h : OI i s ins outs) : OI i (nextM s).2.2 ins (if (nextM s).2.1 then outs ++ [(nextM s).1] else outs) := by
  obtain ⟨ls, k, c⟩ := s
  have hop : c = false := h.op
  subst hop
  have hio : ins = outs ++ ls := h.io
  cases ls with
  | nil => exact h
  | cons l r =>
    by_cases hr : readyM ⟨l :: r, k, false⟩ = true
    · have hf : nextM ⟨l :: r, k, false⟩ = (l, true, ⟨r, k + 1, false⟩) := by simp [nextM, hr]
      rw [hf]
      have hlen : 1 < (l :: r).length := by simpa [readyM] using hr
      have hl := congrArg List.length hio
      rw [List.length_append] at hl
      have hb := h.b
      rw [bytes_cons l r k (k + 1) false false] at hb
      refine ⟨by simp [hio], by have := h.tk; simp at this ⊢; omega, rfl, fun _ => ?_, h.n, by simp only; omega⟩
      simp at hl hlen ⊢; omega
    · have hf : nextM ⟨l :: r, k, false⟩ = ([], false, ⟨l :: r, k, false⟩) := by simp [nextM, hr]
      rw [hf]; exact h
/-- Behind the close: what is left comes out. -/
structure OC (j : Nat) (s : QS) (ins outs : LL) : Prop where
  io : ins = outs ++ s.ls
  cl : s.closed = true
  left : s.ls.length ≤ ins.length - j
  tk : s.taken = outs.length
  b : s.bytes ≤ 1073741824
  n : ins.length ≤ 1048576
theorem OC.small {j : Nat} {s : QS} {ins outs : LL} (h : OC j s ins outs) : Small s := by
  have h1 := congrArg List.length h.io
  rw [List.length_append] at h1
  exact ⟨by have := h.n; omega, by have := h.b; omega, by have := h.n; have := h.tk; omega⟩
theorem OC.next {j : Nat} {s : QS} {ins outs : LL} (h : OC j s ins outs) (hj : j < ins.length) : OC (j + 1) (nextM s).2.2 ins (if (nextM s).2.1 then outs ++ [(nextM s).1] else outs) := by
  obtain ⟨ls, k, c⟩ := s
  have hop : c = true := h.cl
  subst hop
  have hio : ins = outs ++ ls := h.io
  have hl := congrArg List.length hio
  rw [List.length_append] at hl
  have hleft : ls.length ≤ ins.length - j := h.left
  cases ls with
  | nil => exact ⟨h.io, rfl, Nat.zero_le _, h.tk, h.b, h.n⟩
  | cons l r =>
    have hf : nextM ⟨l :: r, k, true⟩ = (l, true, ⟨r, k + 1, true⟩) := by simp [nextM, readyM]
    rw [hf]
    have hb : QS.bytes ⟨l :: r, k, true⟩ ≤ 1073741824 := h.b
    have ht : k = outs.length := h.tk
    rw [bytes_cons l r k (k + 1) true true] at hb
    refine ⟨by simp [hio], rfl, ?_, by simp [ht], by simp only; omega, h.n⟩
    simp at hleft ⊢; omega
end Go.Proofs.Ytbclmngjhhmbdaa
