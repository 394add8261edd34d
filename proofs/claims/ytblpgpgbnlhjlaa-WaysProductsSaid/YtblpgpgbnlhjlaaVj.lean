/- Layer 9 (ways) in plain Lean: the ways of two parts, the first of which matches one byte alone. -/
import Derived.Test.YtblpgpgbnlhjlaaVi
import Derived.Test.YtblpgpgbnlhjlaaVg
import Derived.Test.YtblpgpgbnlhjlaaVb
namespace Go.Proofs.Ytblpgpgbnlhjlaa
open Go Go.RowKit Sl
set_option maxRecDepth 100000
set_option maxHeartbeats 8000000
set_option linter.unusedVariables false
set_option linter.unusedSimpArgs false
attribute [local irreducible] ES EL PX wps

mutual
theorem thin_nm : ∀ r : RE, r.nm.thin = r.thin
  | .byte _ => rfl
  | .back _ => rfl
  | .bol => rfl
  | .eol => rfl
  | .cat ks => by rw [RE.nm, RE.thin, RE.thin, thinL_nm ks]
  | .group _ k => by rw [RE.nm, RE.thin, RE.thin, thin_nm k]
  | .rep lo hi k => by rw [RE.nm, RE.thin, RE.thin, thin_nm k]
theorem thinL_nm : ∀ ks : List RE, thinL (nmL ks) = thinL ks
  | [] => rfl
  | k :: ks => by rw [nmL, thinL, thinL, thin_nm k, thinL_nm ks]
end
mutual
theorem row_nm (cap : Nat → Nat) (s : List UInt8) : ∀ r : RE, rowR cap s r.nm = rowR cap s r
  | .byte _ => rfl
  | .back _ => by funext a; rw [RE.nm, rowR, rowR]
  | .bol => rfl
  | .eol => rfl
  | .cat ks => by funext a; rw [RE.nm, rowR, rowR, cat_nm cap s ks]
  | .group _ k => by funext a; rw [RE.nm, rowR, rowR, row_nm cap s k]
  | .rep lo hi k => by funext a; rw [RE.nm, rowR, rowR, row_nm cap s k, thin_nm k]
theorem cat_nm (cap : Nat → Nat) (s : List UInt8) : ∀ ks : List RE, catR cap s (nmL ks) = catR cap s ks
  | [] => rfl
  | k :: ks => by funext v; rw [nmL, catR, catR, row_nm cap s k, cat_nm cap s ks]
end
theorem cat_of_nm (cap : Nat → Nat) (s : List UInt8) {k1 k2 : List RE} (h : k1.map RE.nm = k2.map RE.nm) : catR cap s k1 = catR cap s k2 := by
  rw [← cat_nm cap s k1, ← cat_nm cap s k2, nmL_map, nmL_map, h]
theorem row_dot (s : List UInt8) (p q : Nat) (hp : p ≤ s.length) : rowE s gDot p q = if p < s.length ∧ q = p + 1 then 1 else 0 := by
  rw [row_group s 1 _ p q hp, row_cat1 s _ p q hp]
  show (if p < s.length ∧ hasS (notS zeroS) (s.getD p 0).toNat = true ∧ q = p + 1 then 1 else 0) = _
  have h : hasS (notS zeroS) (s.getD p 0).toNat = true := by rw [has_not, has_zero]; rfl
  simp only [h, true_and]
theorem dot_front (s : List UInt8) (i : Nat) (hi : i ≤ s.length) : thrR id s.length (rowE s gDot) (unitR i) false = fun q => if i < s.length then unitR (i + 1) q else 0 := by
  funext q
  unfold thrR
  rw [thr_unit, if_pos (by omega), row_dot s i q hi]
  unfold unitR
  by_cases h : i < s.length
  · simp [h]
  · simp [h]
theorem catE (s : List UInt8) (k : RE) (ks : List RE) (a : Nat) : rowE s (.cat (k :: ks)) a = catR id s ks (thrR id s.length (rowE s k) (unitR a) false) := by
  show rowR id s (.cat (k :: ks)) a = _
  rw [rowR, catR]
theorem count_dot (s : List UInt8) {k1 k2 : List RE} (h : k1.map RE.nm = k2.map RE.nm) (i : Nat) (hi : i ≤ s.length) :
    countM s (.cat (gDot :: k1)) i = if i = s.length then 0 else countM s (.cat k2) (i + 1) := by
  rw [count_exact, count_exact, catE, dot_front s i hi, cat_of_nm id s h]
  by_cases h2 : i = s.length
  · rw [if_pos h2]
    have hz : (fun q => if i < s.length then unitR (i + 1) q else 0) = fun _ => 0 := by funext q; rw [if_neg (by omega)]
    rw [hz]
    have hz2 : ∀ q, catR id s k2 (fun _ => 0) q = 0 := fun q => cat_zero rfl s k2 (fun _ => 0) (q + 1) (fun _ _ => rfl) q (by omega)
    have : ∀ m, sumGo id (catR id s k2 (fun _ => 0)) m = 0 := fun m => by
      induction m with
      | zero => rfl
      | succ m ih => rw [sumGo, ih, hz2]; rfl
    unfold sumR
    rw [this]; rfl
  · rw [if_neg h2]
    have hz : (fun q => if i < s.length then unitR (i + 1) q else 0) = unitR (i + 1) := by funext q; rw [if_pos (by omega)]
    rw [hz]
    show _ = capW (sumR id s.length (rowR id s (.cat k2) (i + 1)))
    rw [rowR]
theorem ways_dot (b s : List UInt8) (hs : s.length ≤ 1024) (i : Nat) (hi : i ≤ s.length)
    (h1 : (waysM (dotT ++ (92 :: 40 :: (b ++ [92, 41]))) s (i : Nat)).2 = 0) (h2 : (waysM (92 :: 40 :: (b ++ [92, 41])) s (min (i + 1) s.length : Nat)).2 = 0) :
    (waysM (dotT ++ (92 :: 40 :: (b ++ [92, 41]))) s (i : Nat)).1 = if i = s.length then 0 else (waysM (92 :: 40 :: (b ++ [92, 41])) s (min (i + 1) s.length : Nat)).1 := by
  have g : ∀ (t : List UInt8) (a : Nat), a ≤ s.length → (waysM t s (a : Nat)).2 = 0 → (parseM t).e = 0 ∧ (waysM t s (a : Nat)).1 = countM s (parseM t).tree a := by
    intro t a ha
    unfold waysM
    by_cases h : (parseM t).e = 0
    · rw [if_neg (fun h' => h' h), if_neg (by omega), if_neg (by omega), Int.toNat_natCast]
      exact fun _ => ⟨h, rfl⟩
    · rw [if_pos h]
      exact fun h' => absurd h' h
  obtain ⟨a1, a2⟩ := g _ i hi h1
  obtain ⟨b1, b2⟩ := g _ _ (by omega) h2
  obtain ⟨k1, k2, e1, e2, e3⟩ := parse_dot (b ++ [92, 41]) (by simp) a1 b1
  rw [a2, b2, e1, e2, count_dot s e3 i hi]
  split
  · rfl
  · rw [show min (i + 1) s.length = i + 1 by omega]
end Go.Proofs.Ytblpgpgbnlhjlaa
