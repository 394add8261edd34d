/- Layer 9 (ways) in plain Lean: rows of counts, that stop at 4097; the same without a stop. -/
import Derived.Test.YtblpgpgbnlhjlaaPa
namespace Go.Proofs.Ytblpgpgbnlhjlaa
open Go Go.RowKit Sl
set_option maxRecDepth 100000
set_option maxHeartbeats 8000000
set_option linter.unusedVariables false
set_option linter.unusedSimpArgs false
attribute [local irreducible] ES EL PX wps

/-! what matches nothing but the empty text -/
mutual
def RE.thin : RE → Bool
  | .byte _ => false
  | .back _ => false
  | .bol => true
  | .eol => true
  | .cat ks => thinL ks
  | .group _ k => k.thin
  | .rep _ hi k => decide (hi = 0) || k.thin
def thinL : List RE → Bool
  | [] => true
  | k :: ks => k.thin && thinL ks
end
def leastM (lo : Nat) (k : RE) : Nat := if k.thin = true then min lo 1 else lo

abbrev Row := Nat → Nat
def unitR (i : Nat) : Row := fun q => if q = i then 1 else 0
def capW (x : Nat) : Nat := min x 4097
/-- Counts carried on by a part; more: what would end where it began is left out. -/
def thrGo (cap : Nat → Nat) (f : Nat → Row) (v : Row) (more : Bool) (q : Nat) : Nat → Nat
  | 0 => 0
  | p + 1 => if v p = 0 ∨ (more = true ∧ q = p) then thrGo cap f v more q p else cap (thrGo cap f v more q p + v p * f p q)
def thrR (cap : Nat → Nat) (n : Nat) (f : Nat → Row) (v : Row) (more : Bool) : Row := fun q => thrGo cap f v more q (n + 1)
def noneR (n : Nat) (v : Row) : Bool := (List.range (n + 1)).all fun q => decide (v q = 0)
def timesR (cap : Nat → Nat) (n : Nat) (f : Nat → Row) : Nat → Row → Row
  | 0, v => v
  | k + 1, v => timesR cap n f k (thrR cap n f v false)
def moreR (cap : Nat → Nat) (n : Nat) (f : Nat → Row) : Nat → Row → Row → Row
  | 0, _, all => all
  | k + 1, v, all =>
    if noneR n (thrR cap n f v true) = true then all
    else moreR cap n f k (thrR cap n f v true) (fun q => cap (all q + thrR cap n f v true q))
def repR (cap : Nat → Nat) (n lo : Nat) (hi : Int) (thin : Bool) (f : Nat → Row) (v : Row) : Row :=
  let v1 := timesR cap n f (if thin = true then min lo 1 else lo) v
  if thin = true then v1 else moreR cap n f (if hi < 0 then n + 2 else hi.toNat - lo) v1 v1
mutual
def rowR (cap : Nat → Nat) (s : List UInt8) : RE → Nat → Row
  | .byte b, a => fun q => if a < s.length ∧ hasS b (s.getD a 0).toNat = true ∧ q = a + 1 then 1 else 0
  | .bol, a => fun q => if a = 0 ∧ q = a then 1 else 0
  | .eol, a => fun q => if a = s.length ∧ q = a then 1 else 0
  | .back _, a => fun q => if a ≤ q then 1 else 0
  | .rep lo hi k, a => repR cap s.length lo hi k.thin (rowR cap s k) (unitR a)
  | .cat ks, a => catR cap s ks (unitR a)
  | .group _ k, a => thrR cap s.length (rowR cap s k) (unitR a) false
def catR (cap : Nat → Nat) (s : List UInt8) : List RE → Row → Row
  | [], v => v
  | k :: ks, v => catR cap s ks (thrR cap s.length (rowR cap s k) v false)
end
def sumGo (cap : Nat → Nat) (v : Row) : Nat → Nat
  | 0 => 0
  | q + 1 => cap (sumGo cap v q + v q)
def sumR (cap : Nat → Nat) (n : Nat) (v : Row) : Nat := sumGo cap v (n + 1)
abbrev rowW (s : List UInt8) (r : RE) (a : Nat) : Row := rowR capW s r a
abbrev rowE (s : List UInt8) (r : RE) (a : Nat) : Row := rowR id s r a
def countM (s : List UInt8) (r : RE) (a : Nat) : Nat := sumR capW s.length (rowW s r a)
/-- Count. -/
def waysM (t s : List UInt8) (a : Int) : Nat × Int :=
  if (parseM t).e ≠ 0 then (0, (parseM t).e)
  else if 1024 < s.length then (0, 15)
  else if a < 0 ∨ (s.length : Int) < a then (0, 1)
  else (countM s (parseM t).tree a.toNat, 0)

/-! stopping at a number, at each step or at the end, is one -/
theorem cap_add (x y : Nat) : capW (capW x + capW y) = capW (x + y) := by unfold capW; omega
theorem cap_le (x : Nat) : capW x ≤ 4097 := by unfold capW; omega
theorem cap_zero (x : Nat) : capW x = 0 ↔ x = 0 := by unfold capW; omega
theorem cap_mul (x y : Nat) : capW (capW x * capW y) = capW (x * y) := by
  unfold capW
  rcases Nat.lt_or_ge x 4097 with hx | hx
  · rcases Nat.lt_or_ge y 4097 with hy | hy
    · rw [Nat.min_eq_left (show x ≤ 4097 by omega), Nat.min_eq_left (show y ≤ 4097 by omega)]
    · rw [Nat.min_eq_left (show x ≤ 4097 by omega), Nat.min_eq_right (show 4097 ≤ y by omega)]
      rcases Nat.eq_zero_or_pos x with h0 | h0
      · subst h0; simp
      · have h1 : 1 * 4097 ≤ x * 4097 := Nat.mul_le_mul_right _ h0
        have h2 : 1 * y ≤ x * y := Nat.mul_le_mul_right _ h0
        omega
  · rw [Nat.min_eq_right (show 4097 ≤ x by omega)]
    rcases Nat.eq_zero_or_pos y with h0 | h0
    · subst h0; simp
    · have h3 : 1 ≤ min y 4097 := by omega
      have h1 : 4097 * 1 ≤ 4097 * min y 4097 := Nat.mul_le_mul_left _ h3
      have h2 : x * 1 ≤ x * y := Nat.mul_le_mul_left _ h0
      omega
theorem cap_step (x y z : Nat) : capW (capW x + capW y * capW z) = capW (x + y * z) := by
  have h1 := cap_mul y z
  have h2 := cap_add x (y * z)
  have h3 : capW (capW x + capW y * capW z) = capW (capW x + capW (capW y * capW z)) := by unfold capW; omega
  rw [h3, h1, h2]
theorem thr_cap (f : Nat → Row) (v : Row) (more : Bool) (q : Nat) : ∀ p, thrGo capW (fun a q => capW (f a q)) (fun q => capW (v q)) more q p = capW (thrGo id f v more q p)
  | 0 => rfl
  | p + 1 => by
    rw [thrGo, thrGo, thr_cap f v more q p]
    simp only [cap_zero]
    split
    · rfl
    · exact cap_step _ _ _
abbrev capR (v : Row) : Row := fun q => capW (v q)
theorem thrR_cap (n : Nat) (f : Nat → Row) (v : Row) (more : Bool) : thrR capW n (fun a => capR (f a)) (capR v) more = capR (thrR id n f v more) := by
  funext q
  exact thr_cap f v more q (n + 1)
theorem none_cap (n : Nat) (v : Row) : noneR n (capR v) = noneR n v := by
  unfold noneR
  congr 1
  funext q
  simp only [capR, cap_zero]
theorem times_cap (n : Nat) (f : Nat → Row) : ∀ (k : Nat) (v : Row), timesR capW n (fun a => capR (f a)) k (capR v) = capR (timesR id n f k v)
  | 0, v => rfl
  | k + 1, v => by rw [timesR, timesR, thrR_cap, times_cap n f k]
theorem more_cap (n : Nat) (f : Nat → Row) : ∀ (k : Nat) (v all : Row), moreR capW n (fun a => capR (f a)) k (capR v) (capR all) = capR (moreR id n f k v all)
  | 0, v, all => rfl
  | k + 1, v, all => by
    rw [moreR, moreR, thrR_cap, none_cap]
    split
    · rfl
    · rw [← more_cap n f k]
      congr 1
      funext q
      exact cap_add _ _
theorem unit_cap (i : Nat) : unitR i = capR (unitR i) := by
  funext q
  simp only [unitR, capR]
  split <;> rfl
theorem one_cap (p : Prop) [Decidable p] : (if p then 1 else 0 : Nat) = capW (if p then 1 else 0) := by split <;> rfl
mutual
theorem row_cap (s : List UInt8) : ∀ (r : RE), rowR capW s r = fun a => capR (rowR id s r a)
  | .byte b => by funext a q; simp only [rowR, capR]; exact one_cap _
  | .bol => by funext a q; simp only [rowR, capR]; exact one_cap _
  | .eol => by funext a q; simp only [rowR, capR]; exact one_cap _
  | .back _ => by funext a q; simp only [rowR, capR]; exact one_cap _
  | .rep lo hi k => by
    funext a
    rw [rowR, rowR, row_cap s k]
    unfold repR
    dsimp only
    rw [unit_cap a, times_cap]
    split
    · rw [← unit_cap a]
    · rw [more_cap, ← unit_cap a]
  | .cat ks => by
    funext a
    rw [rowR, rowR, unit_cap a, cat_cap s ks, ← unit_cap a]
  | .group _ k => by
    funext a
    rw [rowR, rowR, row_cap s k, unit_cap a, thrR_cap, ← unit_cap a]
theorem cat_cap (s : List UInt8) : ∀ (ks : List RE) (v : Row), catR capW s ks (capR v) = capR (catR id s ks v)
  | [], v => by rw [catR, catR]
  | k :: ks, v => by
    rw [catR, catR, row_cap s k, thrR_cap, cat_cap s ks]
end
theorem sum_cap (v : Row) : ∀ q, sumGo capW (capR v) q = capW (sumGo id v q)
  | 0 => rfl
  | q + 1 => by rw [sumGo, sumGo, sum_cap v q]; exact cap_add _ _
theorem count_exact (s : List UInt8) (r : RE) (a : Nat) : countM s r a = capW (sumR id s.length (rowE s r a)) := by
  unfold countM sumR rowW rowE
  rw [row_cap s r]
  exact sum_cap _ _
end Go.Proofs.Ytblpgpgbnlhjlaa
