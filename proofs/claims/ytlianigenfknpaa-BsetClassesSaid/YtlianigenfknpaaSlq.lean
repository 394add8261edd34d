/- THE BASE: rows whose elements are four words. -/
import Derived.Test.YtlianigenfknpaaSlw
namespace Go.Proofs.Ytlianigenfknpaa.Sl
open Go Go.RowKit
set_option linter.unusedVariables false
set_option linter.unusedSimpArgs false
def flat4 (L : List BS) : List Value := L.flatMap fun s => s.cells.toList
theorem flat4_len : ∀ L : List BS, (flat4 L).length = L.length * 4
  | [] => rfl
  | s :: L => by
    have := flat4_len L
    unfold flat4 at this ⊢
    rw [List.flatMap_cons, List.length_append, this, List.length_cons]
    simp only [List.length_cons, List.length_nil]
    omega
theorem flat4_snoc (L : List BS) (s : BS) : flat4 (L ++ [s]) = flat4 L ++ s.cells.toList := by simp [flat4]
theorem flat4_get : ∀ (L : List BS) (i : Nat) (s : BS) (j : Nat) (u : Value), L[i]? = some s → s.cells.toList[j]? = some u → (flat4 L)[i * 4 + j]? = some u
  | [], i, s, j, u, h, _ => by simp at h
  | t :: L, 0, s, j, u, h, hj => by
    obtain rfl : t = s := by simpa using h
    have hl : j < 4 := by
      have := (List.getElem?_eq_some_iff.1 hj).1
      simpa using this
    unfold flat4
    rw [List.flatMap_cons, List.getElem?_append_left (by simp; omega)]
    simpa using hj
  | t :: L, i + 1, s, j, u, h, hj => by
    have ih := flat4_get L i s j u (by simpa using h) hj
    unfold flat4 at ih ⊢
    rw [List.flatMap_cons, List.getElem?_append_right (by simp; omega)]
    simp only [List.length_cons, List.length_nil]
    rw [show (i + 1) * 4 + j - (0 + 1 + 1 + 1 + 1) = i * 4 + j by omega]
    exact ih
section rows4
variable {C : Cx} {E : Env} {H : List HA} {d ty t e g : Nat} {pos : String} {af : Array Edge} {gd : Option (Nat × Bool)} {x : Operand}
theorem RV.loadRow4 {ti : TI} {L : List BS} {len cap n : Nat} (i : Nat) (s : BS) (hx : E.ev x = some (Pv g (i * 4))) (ht : C.T.f t = some ti) (hu : ti.agg = true) (hsz : ti.size = 4) (hm : Mem H (HA.row (.slice (some ⟨g, 0, none⟩) len cap) e 4 n (flat4 L))) (hs : L[i]? = some s) :
    RunV C E H ⟨some d, .load t x, ty, pos, af, gd⟩ (Bs s) := by
  have := RV.loadAgg (C := C) (E := E) (H := H) (d := d) (ty := ty) (pos := pos) (af := af) (gd := gd) (cs := s.cells.toList) hx ht hu (by rw [hsz]; rfl) (fun w hs' j u hj => by
    rw [add_n]
    exact row_cell (hs'.all _ hm.mem) _ u (flat4_get L i s j u hs hj))
  simpa using this
end rows4
end Go.Proofs.Ytlianigenfknpaa.Sl
