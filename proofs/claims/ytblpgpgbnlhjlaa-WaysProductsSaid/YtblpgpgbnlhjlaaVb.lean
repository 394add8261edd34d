/- Layer 9 (ways) in plain Lean: bounds, what is zero; rows as cells. -/
import Derived.Test.YtblpgpgbnlhjlaaVa
namespace Go.Proofs.Ytblpgpgbnlhjlaa
open Go Go.RowKit Sl
set_option maxRecDepth 100000
set_option maxHeartbeats 8000000
set_option linter.unusedVariables false
set_option linter.unusedSimpArgs false
attribute [local irreducible] ES EL PX wps

theorem row_le (s : List UInt8) (r : RE) (a q : Nat) : rowW s r a q ≤ 4097 := by
  unfold rowW
  rw [row_cap]
  exact cap_le _
theorem thr_le (f : Nat → Row) (v : Row) (more : Bool) (q : Nat) : ∀ m, thrGo capW f v more q m ≤ 4097
  | 0 => by simp [thrGo]
  | m + 1 => by
    rw [thrGo]
    split
    · exact thr_le f v more q m
    · exact cap_le _
theorem thr_zero {cap : Nat → Nat} (hc : cap 0 = 0) (f : Nat → Row) (v : Row) (more : Bool) (q : Nat) (h : ∀ p, v p = 0 ∨ f p q = 0 ∨ (more = true ∧ q = p)) : ∀ m, thrGo cap f v more q m = 0
  | 0 => rfl
  | m + 1 => by
    rw [thrGo, thr_zero hc f v more q h m]
    split
    · rfl
    · rename_i hn
      rcases h m with h1 | h1 | h1
      · exact absurd (.inl h1) hn
      · rw [h1]; simpa using hc
      · exact absurd (.inr h1) hn
/-- What is zero ahead of a place. -/
def zeroTo (v : Row) (b : Nat) : Prop := ∀ q, q < b → v q = 0
section zero
variable {cap : Nat → Nat} (hc : cap 0 = 0) {f : Nat → Row} (hf : ∀ p q, q < p → f p q = 0)
include hc hf
theorem thrR_zero {n : Nat} {v : Row} {more : Bool} {b : Nat} (h : zeroTo v b) : zeroTo (thrR cap n f v more) b := fun q hq =>
  thr_zero hc f v more q (fun p => by
    rcases Nat.lt_or_ge p b with h1 | h1
    · exact .inl (h p h1)
    · exact .inr (.inl (hf p q (by omega)))) _
theorem thrR_step {n : Nat} {v : Row} {b : Nat} (h : zeroTo v b) : zeroTo (thrR cap n f v true) (b + 1) := fun q hq =>
  thr_zero hc f v true q (fun p => by
    rcases Nat.lt_or_ge p b with h1 | h1
    · exact .inl (h p h1)
    · rcases Nat.lt_or_ge q p with h2 | h2
      · exact .inr (.inl (hf p q h2))
      · exact .inr (.inr ⟨rfl, by omega⟩)) _
theorem times_zero {n : Nat} {b : Nat} : ∀ (k : Nat) (v : Row), zeroTo v b → zeroTo (timesR cap n f k v) b
  | 0, v, h => h
  | k + 1, v, h => by rw [timesR]; exact times_zero k _ (thrR_zero hc hf h)
theorem more_zero {n : Nat} {b : Nat} : ∀ (k : Nat) (v all : Row), zeroTo v b → zeroTo all b → zeroTo (moreR cap n f k v all) b
  | 0, v, all, _, h => h
  | k + 1, v, all, hv, ha => by
    rw [moreR]
    have h1 : zeroTo (thrR cap n f v true) b := thrR_zero hc hf hv
    split
    · exact ha
    · refine more_zero k _ _ h1 (fun q hq => ?_)
      rw [ha q hq, h1 q hq]; exact hc
theorem rep_zero {n lo : Nat} {hi : Int} {thin : Bool} {v : Row} {b : Nat} (h : zeroTo v b) : zeroTo (repR cap n lo hi thin f v) b := by
  unfold repR
  dsimp only
  have h1 := times_zero hc hf (n := n) (b := b) (if thin = true then min lo 1 else lo) v h
  generalize timesR cap n f (if thin = true then min lo 1 else lo) v = v1 at h1 ⊢
  split
  · exact h1
  · exact more_zero hc hf _ _ _ h1 h1
end zero
theorem unit_zero (a : Nat) : zeroTo (unitR a) a := fun q hq => if_neg (by omega)
mutual
theorem row_zero {cap : Nat → Nat} (hc : cap 0 = 0) (s : List UInt8) : ∀ (r : RE) (a q : Nat), q < a → rowR cap s r a q = 0
  | .byte b, a, q, h => by rw [rowR]; exact if_neg (by omega)
  | .bol, a, q, h => by rw [rowR]; exact if_neg (by omega)
  | .eol, a, q, h => by rw [rowR]; exact if_neg (by omega)
  | .back _, a, q, h => by rw [rowR]; exact if_neg (by omega)
  | .rep lo hi k, a, q, h => by rw [rowR]; exact rep_zero hc (row_zero hc s k) (unit_zero a) q h
  | .cat ks, a, q, h => by rw [rowR]; exact cat_zero hc s ks _ a (unit_zero a) q h
  | .group _ k, a, q, h => by rw [rowR]; exact thrR_zero hc (row_zero hc s k) (unit_zero a) q h
theorem cat_zero {cap : Nat → Nat} (hc : cap 0 = 0) (s : List UInt8) : ∀ (ks : List RE) (v : Row) (b : Nat), zeroTo v b → zeroTo (catR cap s ks v) b
  | [], v, b, h => by rw [catR]; exact h
  | k :: ks, v, b, h => by rw [catR]; exact cat_zero hc s ks _ b (thrR_zero hc (row_zero hc s k) h)
end
theorem rowW_zero (s : List UInt8) (r : RE) (p q : Nat) (h : q < p) : rowW s r p q = 0 := row_zero rfl s r p q h
theorem noneR_iff (n : Nat) (v : Row) : noneR n v = true ↔ ∀ q, q ≤ n → v q = 0 := by
  unfold noneR
  rw [List.all_eq_true]
  simp only [List.mem_range, decide_eq_true_eq]
  exact ⟨fun h q hq => h q (by omega), fun h q hq => h q (by omega)⟩

/-! rows as cells -/
def rowC (v : Row) (n : Nat) : List Value := (List.range (n + 1)).map fun q => Iv (v q : Nat)
theorem rowC_len (v : Row) (n : Nat) : (rowC v n).length = n + 1 := by simp [rowC]
theorem rowC_get (v : Row) {n q : Nat} (h : q ≤ n) : (rowC v n)[q]? = some (Iv (v q : Nat)) := by
  unfold rowC
  rw [List.getElem?_map, List.getElem?_range (by omega)]
  rfl
theorem rowC_ext {u v : Row} {n : Nat} (h : ∀ q, q ≤ n → u q = v q) : rowC u n = rowC v n := by
  unfold rowC
  refine List.map_congr_left (fun q hq => ?_)
  rw [h q (by have := List.mem_range.1 hq; omega)]
def updR (v : Row) (j x : Nat) : Row := fun q => if q = j then x else v q
theorem rowC_set (v : Row) {n j : Nat} (x : Nat) (h : j ≤ n) : (rowC v n).set j (Iv (x : Nat)) = rowC (updR v j x) n := by
  apply List.ext_getElem?
  intro q
  rw [List.getElem?_set]
  rcases Nat.lt_or_ge n q with hq | hq
  · rw [if_neg (by omega), List.getElem?_eq_none (by rw [rowC_len]; omega), List.getElem?_eq_none (by rw [rowC_len]; omega)]
  · rw [rowC_get _ hq]
    by_cases e : j = q
    · subst e
      rw [if_pos rfl, if_pos (by rw [rowC_len]; omega), rowC_get _ hq]
      show some (Iv (x : Nat)) = some (Iv ((if j = j then x else v j : Nat) : Nat))
      rw [if_pos rfl]
    · rw [if_neg e, rowC_get _ hq]
      show some (Iv (v q : Nat)) = some (Iv ((if q = j then x else v q : Nat) : Nat))
      rw [if_neg (Ne.symm e)]
theorem rowC_zero (n : Nat) : List.replicate (n + 1) (Iv 0) = rowC (fun _ => 0) n := by
  apply List.ext_getElem?
  intro q
  rcases Nat.lt_or_ge n q with hq | hq
  · rw [List.getElem?_eq_none (by simp; omega), List.getElem?_eq_none (by rw [rowC_len]; omega)]
  · rw [rowC_get _ hq, List.getElem?_replicate, if_pos (by omega)]; rfl
end Go.Proofs.Ytblpgpgbnlhjlaa
