/- Layer 9 (ways) in plain Lean: the counts on a run of one letter. -/
import Derived.Test.YtblpgpgbnlhjlaaVb
namespace Go.Proofs.Ytblpgpgbnlhjlaa
open Go Go.RowKit Sl
set_option maxRecDepth 100000
set_option maxHeartbeats 8000000
set_option linter.unusedVariables false
set_option linter.unusedSimpArgs false
attribute [local irreducible] ES EL PX wps

example : waysM [92, 40, 97, 42, 92, 41, 42] [97, 97, 97] 0 = (8, 0) := by decide +kernel
example : waysM [92, 40, 97, 42, 92, 41, 92, 49] [97, 97] 0 = (6, 0) := by decide +kernel

/-! a part's step, as a sum -/
def stepT (f : Nat → Row) (v : Row) (more : Bool) (q p : Nat) : Nat := if more = true ∧ q = p then 0 else v p * f p q
theorem thr_succ (f : Nat → Row) (v : Row) (more : Bool) (q m : Nat) : thrGo id f v more q (m + 1) = thrGo id f v more q m + stepT f v more q m := by
  rw [thrGo]
  unfold stepT
  by_cases h1 : more = true ∧ q = m
  · rw [if_pos (.inr h1), if_pos h1]; rfl
  · rw [if_neg h1]
    by_cases h2 : v m = 0
    · rw [if_pos (.inl h2), h2, Nat.zero_mul]; rfl
    · rw [if_neg (by rintro (h | h); exact h2 h; exact h1 h)]; rfl
theorem thr_add (f : Nat → Row) (u v : Row) (more : Bool) (q : Nat) : ∀ m, thrGo id f (fun p => u p + v p) more q m = thrGo id f u more q m + thrGo id f v more q m
  | 0 => rfl
  | m + 1 => by
    rw [thr_succ, thr_succ, thr_succ, thr_add f u v more q m]
    unfold stepT
    split
    · omega
    · rw [Nat.add_mul]; omega
/-- What the rounds of a repeat add up to. -/
theorem more_star (n : Nat) (f : Nat → Row) (hf : ∀ p q, q < p → f p q = 0) (v0 : Row) : ∀ (k c : Nat) (v all : Row), zeroTo v c → n < c + k → (∀ q, q ≤ n → all q + thrR id n f v true q = v0 q + thrR id n f all true q) →
    ∀ q, q ≤ n → moreR id n f k v all q = v0 q + thrR id n f (moreR id n f k v all) true q
  | 0, c, v, all, hz, hc, hi, q, hq => by
    have h0 : thrR id n f v true q = 0 := thrR_step rfl hf hz q (by omega)
    have := hi q hq
    rw [h0] at this
    exact this
  | k + 1, c, v, all, hz, hc, hi, q, hq => by
    rw [moreR]
    split
    · rename_i hn
      have h0 : thrR id n f v true q = 0 := (noneR_iff _ _).1 hn q hq
      have := hi q hq
      rw [h0] at this
      exact this
    · refine more_star n f hf v0 k (c + 1) _ _ (thrR_step rfl hf hz) (by omega) (fun q' hq' => ?_) q hq
      have h1 := hi q' hq'
      have h2 := thr_add f all (thrR id n f v true) true q' (n + 1)
      unfold thrR at h1 h2 ⊢
      simp only [id] at h1 h2 ⊢
      omega
theorem rep_star (n : Nat) (f : Nat → Row) (hf : ∀ p q, q < p → f p q = 0) (v : Row) (q : Nat) (hq : q ≤ n) : repR id n 0 (-1) false f v q = v q + thrR id n f (repR id n 0 (-1) false f v) true q := by
  have he : repR id n 0 (-1) false f v = moreR id n f (n + 2) v v := rfl
  rw [he]
  exact more_star n f hf v (n + 2) 0 v v (fun q h => absurd h (Nat.not_lt_zero q)) (by omega) (fun q _ => rfl) q hq
theorem thr_congr (f g : Nat → Row) (u v : Row) (more : Bool) (q : Nat) : ∀ m, (∀ p, p < m → u p = v p ∧ f p q = g p q) → thrGo id f u more q m = thrGo id g v more q m
  | 0, _ => rfl
  | m + 1, h => by
    rw [thr_succ, thr_succ, thr_congr f g u v more q m (fun p hp => h p (by omega))]
    unfold stepT
    rw [(h m (by omega)).1, (h m (by omega)).2]
theorem thr_unit (f : Nat → Row) (a q : Nat) : ∀ m, thrGo id f (unitR a) false q m = if a < m then f a q else 0
  | 0 => rfl
  | m + 1 => by
    rw [thr_succ, thr_unit f a q m]
    have hs : stepT f (unitR a) false q m = unitR a m * f m q := if_neg (by simp)
    rw [hs]
    unfold unitR
    by_cases h : m = a
    · subst h; rw [if_neg (Nat.lt_irrefl m), if_pos rfl, if_pos (Nat.lt_succ_self m)]; omega
    · rw [if_neg h]
      by_cases h2 : a < m
      · rw [if_pos h2, if_pos (show a < m + 1 by omega)]; omega
      · rw [if_neg h2, if_neg (show ¬ a < m + 1 by omega)]; omega
/-- A part that takes one byte of the run. -/
theorem thr_next (n : Nat) (f : Nat → Row) (v : Row) (more : Bool) (q : Nat) (hq : q ≤ n) (hf : ∀ p, p ≤ n → f p q = if q = p + 1 then 1 else 0) : ∀ m, m ≤ n + 1 → thrGo id f v more q m = if 1 ≤ q ∧ q ≤ m then v (q - 1) else 0
  | 0, _ => by rw [if_neg (by omega)]; rfl
  | m + 1, hm => by
    rw [thr_succ, thr_next n f v more q hq hf m (by omega)]
    unfold stepT
    rw [hf m (by omega)]
    by_cases h : q = m + 1
    · subst h
      rw [if_neg (show ¬ (1 ≤ m + 1 ∧ m + 1 ≤ m) by omega), if_neg (show ¬ (more = true ∧ m + 1 = m) by omega), if_pos rfl, if_pos (show 1 ≤ m + 1 ∧ m + 1 ≤ m + 1 by omega)]
      simp
    · rw [if_neg h]
      by_cases h2 : 1 ≤ q ∧ q ≤ m
      · rw [if_pos h2, if_pos (show 1 ≤ q ∧ q ≤ m + 1 by omega)]; split <;> simp
      · rw [if_neg h2, if_neg (show ¬ (1 ≤ q ∧ q ≤ m + 1) by omega)]; split <;> simp
/-- A part that takes any piece of the run. -/
theorem thr_ones (n : Nat) (f : Nat → Row) (v : Row) (more : Bool) (q : Nat) (hq : q ≤ n) (hf : ∀ p, p ≤ n → f p q = if p ≤ q then 1 else 0) : ∀ m, m ≤ n + 1 → thrGo id f v more q m = sumGo id v (min m (if more = true then q else q + 1))
  | 0, _ => by rw [Nat.zero_min]; rfl
  | m + 1, hm => by
    rw [thr_succ, thr_ones n f v more q hq hf m (by omega)]
    unfold stepT
    rw [hf m (by omega)]
    cases more with
    | true =>
      simp only [true_and, if_true]
      by_cases h : q = m
      · subst h; rw [if_pos rfl, show min (q + 1) q = min q q by omega]; omega
      · rw [if_neg h]
        by_cases h2 : m ≤ q
        · rw [if_pos h2, show min (m + 1) q = m + 1 by omega, show min m q = m by omega, sumGo]; simp
        · rw [if_neg h2, show min (m + 1) q = min m q by omega]; simp
    | false =>
      simp only [Bool.false_eq_true, false_and, if_false]
      by_cases h2 : m ≤ q
      · rw [if_pos h2, show min (m + 1) (q + 1) = m + 1 by omega, show min m (q + 1) = m by omega, sumGo]; simp
      · rw [if_neg h2, show min (m + 1) (q + 1) = min m (q + 1) by omega]; simp
theorem sum_congr {u v : Row} : ∀ m, (∀ q, q < m → u q = v q) → sumGo id u m = sumGo id v m
  | 0, _ => rfl
  | m + 1, h => by rw [sumGo, sumGo, sum_congr m (fun q hq => h q (by omega)), h m (by omega)]
theorem sum_one : ∀ m, sumGo id (fun _ => 1) m = m
  | 0 => rfl
  | m + 1 => by rw [sumGo, sum_one m]; rfl
/-- A repeat of one byte: to each place in just one way. -/
theorem star_next (n : Nat) (f : Nat → Row) (hf0 : ∀ p q, q < p → f p q = 0) (hf : ∀ p q, p ≤ n → q ≤ n → f p q = if q = p + 1 then 1 else 0) (a : Nat) : ∀ q, q ≤ n → repR id n 0 (-1) false f (unitR a) q = if a ≤ q then 1 else 0
  | 0, hq => by
    rw [rep_star n f hf0 (unitR a) 0 hq]
    unfold thrR
    rw [thr_next n f _ true 0 hq (fun p hp => hf p 0 hp hq) (n + 1) (Nat.le_refl _), if_neg (by omega)]
    unfold unitR
    split <;> split <;> omega
  | q + 1, hq => by
    rw [rep_star n f hf0 (unitR a) (q + 1) hq]
    unfold thrR
    rw [thr_next n f _ true (q + 1) hq (fun p hp => hf p (q + 1) hp hq) (n + 1) (Nat.le_refl _), if_pos (by omega), Nat.add_sub_cancel, star_next n f hf0 hf a q (by omega)]
    unfold unitR
    split <;> split <;> split <;> omega
theorem row_group (s : List UInt8) (g : Nat) (k : RE) (p q : Nat) (hp : p ≤ s.length) : rowE s (.group g k) p q = rowE s k p q := by
  show rowR id s (.group g k) p q = _
  rw [rowR]
  unfold thrR
  rw [thr_unit, if_pos (by omega)]
theorem row_cat1 (s : List UInt8) (k : RE) (p q : Nat) (hp : p ≤ s.length) : rowE s (.cat [k]) p q = rowE s k p q := by
  show rowR id s (.cat [k]) p q = _
  rw [rowR, catR, catR]
  unfold thrR
  rw [thr_unit, if_pos (by omega)]
abbrev aS : BS := ofS [97]
abbrev runA (n : Nat) : List UInt8 := List.replicate n 97
theorem row_a (n p q : Nat) (hp : p ≤ n) (hq : q ≤ n) : rowE (runA n) (.byte aS) p q = if q = p + 1 then 1 else 0 := by
  show (if p < (runA n).length ∧ hasS aS ((runA n).getD p 0).toNat = true ∧ q = p + 1 then 1 else 0) = _
  by_cases h : q = p + 1
  · have hg : (runA n).getD p 0 = 97 := by simp [List.getD_eq_getElem?_getD, List.getElem?_replicate, show p < n by omega]
    rw [if_pos ⟨by simp; omega, by rw [hg]; decide, h⟩, if_pos h]
  · rw [if_neg (fun hh => h hh.2.2), if_neg h]
abbrev starA : RE := .rep 0 (-1) (.byte aS)
theorem row_star (n p q : Nat) (hq : q ≤ n) : rowE (runA n) starA p q = if p ≤ q then 1 else 0 := by
  show rowR id (runA n) (.rep 0 (-1) (.byte aS)) p q = _
  rw [rowR, List.length_replicate]
  exact star_next n (rowR id (runA n) (.byte aS)) (row_zero rfl (runA n) _) (fun p' q' hp' hq' => row_a n p' q' hp' hq') p q hq
/-- On a run all pieces, repeated: as many ways as compositions. -/
theorem comp_sum (n : Nat) (f : Nat → Row) (hf0 : ∀ p q, q < p → f p q = 0) (hf : ∀ p q, p ≤ n → q ≤ n → f p q = if p ≤ q then 1 else 0) : ∀ q, q ≤ n → sumGo id (repR id n 0 (-1) false f (unitR 0)) (q + 1) = 2 ^ q
  | 0, hq => by
    rw [sumGo, sumGo, rep_star n f hf0 (unitR 0) 0 hq]
    unfold thrR
    rw [thr_ones n f _ true 0 hq (fun p hp => hf p 0 hp hq) (n + 1) (Nat.le_refl _)]
    simp only [if_true]
    rw [show min (n + 1) 0 = 0 by omega]
    rfl
  | q + 1, hq => by
    have ih := comp_sum n f hf0 hf q (by omega)
    rw [sumGo, rep_star n f hf0 (unitR 0) (q + 1) hq]
    unfold thrR
    rw [thr_ones n f _ true (q + 1) hq (fun p hp => hf p (q + 1) hp hq) (n + 1) (Nat.le_refl _)]
    simp only [if_true]
    rw [show min (n + 1) (q + 1) = q + 1 by omega, ih]
    unfold unitR
    rw [if_neg (by omega)]
    show 2 ^ q + (0 + 2 ^ q) = 2 ^ (q + 1)
    rw [Nat.pow_succ]; omega
abbrev tComp : RE := .cat [.rep 0 (-1) (.group 1 (.cat [starA]))]
abbrev tOnes : RE := .cat [.rep 0 (-1) (.group 1 (.cat [.byte aS]))]
abbrev tThree : RE := .cat [starA, starA, starA]
theorem countE (n : Nat) (r : RE) : countM (runA n) r 0 = capW (sumGo id (rowE (runA n) r 0) (n + 1)) := by
  rw [count_exact]; unfold sumR; rw [List.length_replicate]
theorem count_comp (n : Nat) : countM (runA n) tComp 0 = capW (2 ^ n) := by
  rw [countE, sum_congr (n + 1) (fun q hq => row_cat1 (runA n) (.rep 0 (-1) (.group 1 (.cat [starA]))) 0 q (Nat.zero_le _))]
  congr 1
  have he : rowE (runA n) (.rep 0 (-1) (.group 1 (.cat [starA]))) 0 = repR id n 0 (-1) false (rowE (runA n) (.group 1 (.cat [starA]))) (unitR 0) := by
    show rowR id (runA n) (.rep 0 (-1) (.group 1 (.cat [starA]))) 0 = _
    rw [rowR, List.length_replicate]; rfl
  rw [he]
  exact comp_sum n _ (row_zero rfl (runA n) _) (fun p q hp hq => by
    have hl : p ≤ (runA n).length := by rw [List.length_replicate]; exact hp
    exact (row_group _ _ _ _ _ hl).trans ((row_cat1 _ _ _ _ hl).trans (row_star n p q hq))) n (Nat.le_refl _)
theorem count_ones (n : Nat) : countM (runA n) tOnes 0 = capW (n + 1) := by
  rw [countE, sum_congr (n + 1) (fun q hq => row_cat1 (runA n) (.rep 0 (-1) (.group 1 (.cat [.byte aS]))) 0 q (Nat.zero_le _))]
  have he : rowE (runA n) (.rep 0 (-1) (.group 1 (.cat [.byte aS]))) 0 = repR id n 0 (-1) false (rowE (runA n) (.group 1 (.cat [.byte aS]))) (unitR 0) := by
    show rowR id (runA n) (.rep 0 (-1) (.group 1 (.cat [.byte aS]))) 0 = _
    rw [rowR, List.length_replicate]; rfl
  rw [he, sum_congr (v := fun _ => 1) (n + 1) (fun q hq => by
    rw [star_next n _ (row_zero rfl (runA n) _) (fun p' q' hp' hq' => by
      have hl : p' ≤ (runA n).length := by rw [List.length_replicate]; exact hp'
      exact (row_group _ _ _ _ _ hl).trans ((row_cat1 _ _ _ _ hl).trans (row_a n p' q' hp' hq'))) 0 q (by omega), if_pos (Nat.zero_le _)]), sum_one]
def three (n : Nat) : Nat := sumGo id (fun q => sumGo id (fun p => p + 1) (q + 1)) (n + 1)
theorem count_three (n : Nat) : countM (runA n) tThree 0 = capW (three n) := by
  rw [countE]
  congr 1
  refine sum_congr (n + 1) (fun q hq => ?_)
  show rowR id (runA n) tThree 0 q = _
  rw [rowR, catR, catR, catR, catR, List.length_replicate]
  have h1 : ∀ p q, p ≤ n → q ≤ n → rowR id (runA n) starA p q = if p ≤ q then 1 else 0 := fun p q _ hq => row_star n p q hq
  have f1 : ∀ q, q ≤ n → thrR id n (rowR id (runA n) starA) (unitR 0) false q = 1 := fun q hq => by
    unfold thrR
    rw [thr_unit, if_pos (by omega), h1 0 q (by omega) hq, if_pos (Nat.zero_le _)]
  have f2 : ∀ q, q ≤ n → thrR id n (rowR id (runA n) starA) (thrR id n (rowR id (runA n) starA) (unitR 0) false) false q = q + 1 := fun q hq => by
    unfold thrR
    rw [thr_ones n _ _ false q hq (fun p hp => h1 p q hp hq) (n + 1) (Nat.le_refl _)]
    simp only [Bool.false_eq_true, if_false]
    rw [show min (n + 1) (q + 1) = q + 1 by omega]
    exact (sum_congr (v := fun _ => 1) (q + 1) (fun p hp => f1 p (by omega))).trans (sum_one _)
  unfold thrR
  rw [thr_ones n _ _ false q (by omega) (fun p hp => h1 p q hp (by omega)) (n + 1) (Nat.le_refl _)]
  simp only [Bool.false_eq_true, if_false]
  rw [show min (n + 1) (q + 1) = q + 1 by omega]
  exact sum_congr (q + 1) (fun p hp => f2 p (by omega))
theorem three_eq : ∀ n, n < 40 → three n = (n + 1) * (n + 2) * (n + 3) / 6 := by decide +kernel
end Go.Proofs.Ytblpgpgbnlhjlaa
