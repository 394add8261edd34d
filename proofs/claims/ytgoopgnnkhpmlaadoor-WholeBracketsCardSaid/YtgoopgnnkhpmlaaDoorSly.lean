/- THE BASE: rows appended to rows of one's own; the lesser and the greater of two whole numbers. -/
import Derived.Test.YtgoopgnnkhpmlaaDoorSlz
namespace Go.Proofs.YtgoopgnnkhpmlaaDoor.Sl
open Go Go.RowKit
set_option linter.unusedVariables false
set_option linter.unusedSimpArgs false
section appendrow
variable {C : Cx} {all : Array Oper} {ops : List Oper} {Q : Qt} {E : Env} {H R : List HA} {d ty t : Nat} {pos : String} {af : Array Edge} {gd : Option (Nat × Bool)} {x y : Operand}
/-- append(s, xs...): s a slice of one's own, xs a slice that can be read. -/
theorem EL.appendW {ti te : TI} {el : TypeId} {ad ad2 : Option Addr} {n cap m c : Nat} {cs news : List Value} (hg : guardOk all E gd = some true) (hx : E.ev x = some (.slice ad n cap)) (hy : E.ev y = some (.slice ad2 m c)) (ht : C.T.f t = some ti) (hu : ti.u = .slice el) (hte : C.T.f el = some te)
    (hz1 : te.zero.cells.size = te.size) (hpos : Nat.blt 0 te.size = true) (hd : Nat.blt d C.n = true) (p : Pick H (HA.row (.slice ad n cap) el te.size n cs) R) (hrd : ∀ w, Sat C.w0 C.B H w → Rd w w.heap.size ad2 news) (hl : news.length = m * te.size) (h1 : ∀ u ∈ news, u.oneCell' = true)
    (h63 : n + m ≤ maxLen) (hbytes : (n + m) * te.bytes ≤ 140737488355328)
    (k : ∀ ad' cap', EL C all ops Q ((d, .slice ad' (n + m) cap') :: E) (HA.row (.slice ad' (n + m) cap') el te.size (n + m) (cs ++ news) :: R)) :
    EL C all (⟨some d, .call { callee := .builtin .append, args := #[x, y], argTypes := #[t, t] }, ty, pos, af, gd⟩ :: ops) Q E H := by
  rcases Nat.eq_zero_or_pos m with rfl | hm
  · obtain rfl : news = [] := List.eq_nil_of_length_eq_zero (by simpa using hl)
    refine EL.val (.slice ad n cap) hg rfl hd (by simp) (fun a w ha => ?_) ?_
    · have hT := (C.T.ok t ti ht).u
      rw [hu] at hT
      obtain ⟨i, hi, hz, hs, hb⟩ := (C.T.ok el te hte).info
      have hf := row_form (ha.2.perm p.perm).head
      have hr := run_append_none (P := C.P) w t ty el i hT hi ad n cap hf.2.1 ad2 c
      simp [execOp, ha.1.ev hx, ha.1.ev hy, resolve, invoke, builtin, hr, Result.andThen]
    · intro a w ha
      have h2 := k ad cap a w
      simp only [Nat.add_zero, List.append_nil] at h2
      exact h2 ⟨ha.1, ha.2.perm p.perm⟩
  · have hpz : 0 < te.size := by simpa using hpos
    have hne : news ≠ [] := by
      intro e; subst e
      have := Nat.mul_pos hm hpz
      simp at hl; omega
    intro a w ha
    obtain ⟨g, off, rfl, hgB, _⟩ := hrd w ha.2 hne
    exact (EL.append hg hx hy ht hu hte hz1 hpos hd p hl hm (fun w hs j u hj => by
      obtain ⟨g', off', h1', h2', h3'⟩ := hrd w hs hne
      cases h1'
      rw [add_n]; exact h3' j u hj) h1 h63 hbytes (fun g' cap' => k _ cap')) a w ha
theorem EL.minI {m n : Int} {ts : Array TypeId} (hg : guardOk all E gd = some true) (hx : E.ev x = some (Iv m)) (hy : E.ev y = some (Iv n)) (hd : Nat.blt d C.n = true) (r : Int) (hr : (if n < m then n else m) = r)
    (k : EL C all ops Q ((d, Iv r) :: E) H) : EL C all (⟨some d, .call { callee := .builtin .min, args := #[x, y], argTypes := ts }, ty, pos, af, gd⟩ :: ops) Q E H :=
  EL.val _ hg rfl hd (by simp) (fun a w ha => by
    have h : (Builtin.min_ ts ty #[Iv m, Iv n]).run C.P w = .ok (Iv r) w := by
      simp only [Builtin.min_, List.foldlM_cons, List.foldlM_nil, Builtin.min2, Sem.run_bind, Sem.run_pure, Result.andThen, hr]
    simp only [execOp, ha.1.ev hx, ha.1.ev hy, resolve, invoke, builtin, Sem.run_bind, Sem.run_pure, List.map_toArray, List.map_cons, List.map_nil, h, Result.andThen]) k
theorem EL.maxI {m n : Int} {ts : Array TypeId} (hg : guardOk all E gd = some true) (hx : E.ev x = some (Iv m)) (hy : E.ev y = some (Iv n)) (hd : Nat.blt d C.n = true) (r : Int) (hr : (if m < n then n else m) = r)
    (k : EL C all ops Q ((d, Iv r) :: E) H) : EL C all (⟨some d, .call { callee := .builtin .max, args := #[x, y], argTypes := ts }, ty, pos, af, gd⟩ :: ops) Q E H :=
  EL.val _ hg rfl hd (by simp) (fun a w ha => by
    have h : (Builtin.max_ ts ty #[Iv m, Iv n]).run C.P w = .ok (Iv r) w := by
      simp only [Builtin.max_, List.foldlM_cons, List.foldlM_nil, Builtin.max2, Sem.run_bind, Sem.run_pure, Result.andThen, gt_iff_lt, hr]
    simp only [execOp, ha.1.ev hx, ha.1.ev hy, resolve, invoke, builtin, Sem.run_bind, Sem.run_pure, List.map_toArray, List.map_cons, List.map_nil, h, Result.andThen]) k
end appendrow
end Go.Proofs.YtgoopgnnkhpmlaaDoor.Sl
