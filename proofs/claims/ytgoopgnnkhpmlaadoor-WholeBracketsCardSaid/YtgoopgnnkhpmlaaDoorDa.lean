/- Layer 2 (bset): sets of bytes as four words, in plain Lean: what the operations come to; two sets with the same bytes are one. -/
import Derived.Test.YtgoopgnnkhpmlaaDoorSlw
import Derived.Test.YtgoopgnnkhpmlaaDoorTy
namespace Go.Proofs.YtgoopgnnkhpmlaaDoor
open Go Go.RowKit Sl
set_option maxRecDepth 100000
set_option maxHeartbeats 8000000
set_option linter.unusedVariables false
set_option linter.unusedSimpArgs false
attribute [local irreducible] ES EL PX wps

def zeroS : BS := ⟨0, 0, 0, 0⟩
def bitW (b : Nat) : UInt64 := 1 <<< UInt64.ofNat (b % 64)
def addS (s : BS) (b : Nat) : BS := s.set (b / 64) (s.get (b / 64) ||| bitW b)
def hasS (s : BS) (b : Nat) : Bool := decide ((((s.get (b / 64) >>> UInt64.ofNat (b % 64)) &&& 1).toNat : Int) = 1)
def ofS (l : List UInt8) : BS := l.foldl (fun s b => addS s b.toNat) zeroS
def joinS (f : UInt64 → UInt64 → UInt64) (s t : BS) : BS := ⟨f s.a t.a, f s.b t.b, f s.c t.c, f s.d t.d⟩
def notS (s : BS) : BS := joinS (fun x _ => ~~~x) s s
def orS (s t : BS) : BS := joinS (fun x y => x ||| y) s t
def andS (s t : BS) : BS := joinS (fun x y => x &&& y) s t
/-- The set of the bytes below n that p takes, put in one by one. -/
def fillS (p : Nat → Bool) : Nat → BS
  | 0 => zeroS
  | n + 1 => if p n then addS (fillS p n) n else fillS p n

theorem bit_get (x : UInt64) (j : Nat) (hj : j < 64) : decide ((((x >>> UInt64.ofNat j) &&& 1).toNat : Int) = 1) = x.toNat.testBit j := by
  rw [UInt64.toNat_and, UInt64.toNat_shiftRight, UInt64.toNat_ofNat_of_lt' (by simp only [UInt64.size]; omega), Nat.mod_eq_of_lt hj]
  rw [show (1 : UInt64).toNat = 1 from rfl, Nat.and_one_is_mod, Nat.testBit_eq_decide_div_mod_eq, Nat.shiftRight_eq_div_pow]
  apply decide_eq_decide.2
  omega
theorem hasS_bit (s : BS) (b : Nat) : hasS s b = (s.get (b / 64)).toNat.testBit (b % 64) := bit_get _ _ (Nat.mod_lt _ (by omega))
theorem bitW_bit (b j : Nat) (hj : j < 64) : (bitW b).toNat.testBit j = decide (j = b % 64) := by
  have hb : b % 64 < 64 := Nat.mod_lt _ (by omega)
  unfold bitW
  rw [UInt64.toNat_shiftLeft, UInt64.toNat_ofNat_of_lt' (by simp only [UInt64.size]; omega), Nat.mod_eq_of_lt hb, show (1 : UInt64).toNat = 1 from rfl, Nat.testBit_mod_two_pow, Nat.one_shiftLeft, Nat.testBit_two_pow]
  simp [hj]
  exact eq_comm
theorem get_set (s : BS) (i k : Nat) (hi : i < 4) (hk : k < 4) (x : UInt64) : (s.set i x).get k = if i = k then x else s.get k := by
  match i, k, hi, hk with
  | 0, 0, _, _ | 0, 1, _, _ | 0, 2, _, _ | 0, 3, _, _ => rfl
  | 1, 0, _, _ | 1, 1, _, _ | 1, 2, _, _ | 1, 3, _, _ => rfl
  | 2, 0, _, _ | 2, 1, _, _ | 2, 2, _, _ | 2, 3, _, _ => rfl
  | 3, 0, _, _ | 3, 1, _, _ | 3, 2, _, _ | 3, 3, _, _ => rfl
theorem has_add (s : BS) (b k : Nat) (hb : b < 256) (hk : k < 256) : hasS (addS s b) k = (hasS s k || decide (k = b)) := by
  rw [hasS_bit, hasS_bit, addS, get_set _ _ _ (by omega) (by omega)]
  by_cases h : b / 64 = k / 64
  · rw [if_pos h, UInt64.toNat_or, Nat.testBit_or, bitW_bit _ _ (Nat.mod_lt _ (by omega)), h]
    congr 1
    apply decide_eq_decide.2
    omega
  · rw [if_neg h]
    have : decide (k = b) = false := decide_eq_false (by omega)
    rw [this, Bool.or_false]
theorem has_zero (k : Nat) : hasS zeroS k = false := by
  rw [hasS_bit]
  have : (zeroS.get (k / 64)).toNat = 0 := by
    unfold zeroS BS.get
    split <;> rfl
  rw [this, Nat.zero_testBit]
theorem bs_word (x y : UInt64) (h : ∀ j, j < 64 → x.toNat.testBit j = y.toNat.testBit j) : x = y := by
  apply UInt64.toNat_inj.1
  apply Nat.eq_of_testBit_eq
  intro j
  by_cases hj : j < 64
  · exact h j hj
  · have hx : x.toNat < 2 ^ j := Nat.lt_of_lt_of_le x.toNat_lt (Nat.pow_le_pow_right (by omega) (by omega))
    have hy : y.toNat < 2 ^ j := Nat.lt_of_lt_of_le y.toNat_lt (Nat.pow_le_pow_right (by omega) (by omega))
    rw [Nat.testBit_lt_two_pow hx, Nat.testBit_lt_two_pow hy]
/-- Two sets with the same bytes are one. -/
theorem bs_ext (s t : BS) (h : ∀ k, k < 256 → hasS s k = hasS t k) : s = t := by
  have hw : ∀ i, i < 4 → s.get i = t.get i := fun i hi => bs_word _ _ fun j hj => by
    have := h (64 * i + j) (by omega)
    rw [hasS_bit, hasS_bit] at this
    rw [show (64 * i + j) / 64 = i by omega, show (64 * i + j) % 64 = j by omega] at this
    exact this
  obtain ⟨a, b, c, d⟩ := s
  obtain ⟨a', b', c', d'⟩ := t
  have h0 : a = a' := hw 0 (by omega)
  have h1 : b = b' := hw 1 (by omega)
  have h2 : c = c' := hw 2 (by omega)
  have h3 : d = d' := hw 3 (by omega)
  rw [h0, h1, h2, h3]
theorem has_fill (p : Nat → Bool) (k : Nat) (hk : k < 256) : ∀ n, n ≤ 256 → hasS (fillS p n) k = (p k && decide (k < n))
  | 0, _ => by rw [fillS, has_zero]; simp
  | n + 1, hn => by
    rw [fillS]
    have ih := has_fill p k hk n (by omega)
    split
    · rename_i hp
      rw [has_add _ _ _ (by omega) hk, ih]
      by_cases h : k = n
      · subst h; simp [hp]
      · have : (k < n + 1) ↔ k < n := by omega
        simp [h, this]
    · rename_i hp
      rw [ih]
      by_cases h : k = n
      · subst h; simp [hp]
      · have : (k < n + 1) ↔ k < n := by omega
        simp [this]
theorem fill_eq (p : Nat → Bool) (s : BS) (h : ∀ k, k < 256 → hasS s k = p k) : fillS p 256 = s := bs_ext _ _ fun k hk => by
  rw [has_fill p k hk 256 (by omega), h k hk]; simp [hk]
theorem get_join (f : UInt64 → UInt64 → UInt64) (s t : BS) (i : Nat) : (joinS f s t).get i = f (s.get i) (t.get i) := by
  unfold joinS BS.get
  split <;> rfl
theorem has_not (s : BS) (k : Nat) : hasS (notS s) k = !hasS s k := by
  rw [hasS_bit, hasS_bit, notS, get_join, UInt64.toNat_not]
  have h1 := (s.get (k / 64)).toNat_lt
  rw [show UInt64.size - 1 - (s.get (k / 64)).toNat = 2 ^ 64 - ((s.get (k / 64)).toNat + 1) by simp only [UInt64.size]; omega, Nat.testBit_two_pow_sub_succ h1]
  simp [Nat.mod_lt k (show 0 < 64 by omega)]
theorem has_or (s t : BS) (k : Nat) : hasS (orS s t) k = (hasS s k || hasS t k) := by
  rw [hasS_bit, hasS_bit, hasS_bit, orS, get_join, UInt64.toNat_or, Nat.testBit_or]
theorem has_and (s t : BS) (k : Nat) : hasS (andS s t) k = (hasS s k && hasS t k) := by
  rw [hasS_bit, hasS_bit, hasS_bit, andS, get_join, UInt64.toNat_and, Nat.testBit_and]

/-! Span -/
def spanGo (lo : Nat) : Nat → BS
  | 0 => zeroS
  | n + 1 => addS (spanGo lo n) (lo + n)
def spanM (lo hi : UInt8) : BS × Int := if hi.toNat < lo.toNat then (zeroS, 7) else (fillS (fun b => decide (lo.toNat ≤ b) && decide (b ≤ hi.toNat)) 256, 0)
theorem has_span (lo k : Nat) (hk : k < 256) : ∀ n, lo + n ≤ 256 → hasS (spanGo lo n) k = decide (lo ≤ k ∧ k < lo + n)
  | 0, _ => by rw [spanGo, has_zero]; symm; exact decide_eq_false (by omega)
  | n + 1, h => by
    rw [spanGo, has_add _ _ _ (by omega) hk, has_span lo k hk n (by omega), Bool.eq_iff_iff]
    simp only [Bool.or_eq_true, decide_eq_true_eq]
    omega
theorem span_eq (lo hi : UInt8) (h : lo.toNat ≤ hi.toNat) : spanGo lo.toNat (hi.toNat + 1 - lo.toNat) = fillS (fun b => decide (lo.toNat ≤ b) && decide (b ≤ hi.toNat)) 256 := by
  have := hi.toNat_lt
  refine (fill_eq _ _ fun k hk => ?_).symm
  rw [has_span _ _ hk _ (by omega), Bool.eq_iff_iff]
  simp only [Bool.and_eq_true, decide_eq_true_eq]
  omega
/-! Count -/
def oc1 (x : UInt64) : UInt64 := ((x >>> UInt64.ofNat 1) &&& 6148914691236517205) + (x &&& 6148914691236517205)
def oc2 (x : UInt64) : UInt64 := ((x >>> UInt64.ofNat 2) &&& 3689348814741910323) + (x &&& 3689348814741910323)
def oc3 (x : UInt64) : UInt64 := ((x >>> UInt64.ofNat 4) + x) &&& 1085102592571150095
def oc4 (x : UInt64) : UInt64 := x + (x >>> UInt64.ofNat 8)
def oc5 (x : UInt64) : UInt64 := x + (x >>> UInt64.ofNat 16)
def oc6 (x : UInt64) : UInt64 := x + (x >>> UInt64.ofNat 32)
def ocM (x : UInt64) : Nat := (oc6 (oc5 (oc4 (oc3 (oc2 (oc1 x))))) &&& 127).toNat
theorem ocM_le (x : UInt64) : ocM x ≤ 127 := by unfold ocM; rw [UInt64.toNat_and]; exact Nat.and_le_right
def countGo (s : BS) : Nat → Nat
  | 0 => 0
  | n + 1 => countGo s n + ocM (s.get n)
def countS (s : BS) : Nat := countGo s 4
theorem countGo_le (s : BS) : ∀ n, countGo s n ≤ 127 * n
  | 0 => Nat.le_refl _
  | n + 1 => by have := countGo_le s n; have := ocM_le (s.get n); simp only [countGo]; omega
/-! join -/
def partJ (f : UInt64 → UInt64 → UInt64) (s t : BS) (i : Nat) : BS := ⟨if 0 < i then f s.a t.a else 0, if 1 < i then f s.b t.b else 0, if 2 < i then f s.c t.c else 0, if 3 < i then f s.d t.d else 0⟩
theorem partJ_step (f : UInt64 → UInt64 → UInt64) (s t : BS) (i : Nat) (hi : i < 4) : (partJ f s t i).set i (f (s.get i) (t.get i)) = partJ f s t (i + 1) := by
  match i, hi with
  | 0, _ | 1, _ | 2, _ | 3, _ => rfl
/-! classes -/
abbrev nAlpha : List UInt8 := [97, 108, 112, 104, 97]
abbrev nDigit : List UInt8 := [100, 105, 103, 105, 116]
abbrev nAlnum : List UInt8 := [97, 108, 110, 117, 109]
abbrev nUpper : List UInt8 := [117, 112, 112, 101, 114]
abbrev nLower : List UInt8 := [108, 111, 119, 101, 114]
abbrev nSpace : List UInt8 := [115, 112, 97, 99, 101]
abbrev nBlank : List UInt8 := [98, 108, 97, 110, 107]
abbrev nGraph : List UInt8 := [103, 114, 97, 112, 104]
abbrev nPrint : List UInt8 := [112, 114, 105, 110, 116]
abbrev nPunct : List UInt8 := [112, 117, 110, 99, 116]
abbrev nCntrl : List UInt8 := [99, 110, 116, 114, 108]
abbrev nXdigit : List UInt8 := [120, 100, 105, 103, 105, 116]
def bUp (b : Nat) : Bool := decide (65 ≤ b ∧ b ≤ 90)
def bLo (b : Nat) : Bool := decide (97 ≤ b ∧ b ≤ 122)
def bDi (b : Nat) : Bool := decide (48 ≤ b ∧ b ≤ 57)
def bGr (b : Nat) : Bool := decide (32 < b ∧ b < 127)
def isB (l : List UInt8) (b : Nat) : Bool :=
  if l = nAlpha then decide ((65 ≤ b ∧ b ≤ 90) ∨ (97 ≤ b ∧ b ≤ 122)) else if l = nDigit then decide (48 ≤ b ∧ b ≤ 57)
  else if l = nAlnum then decide ((65 ≤ b ∧ b ≤ 90) ∨ (97 ≤ b ∧ b ≤ 122) ∨ (48 ≤ b ∧ b ≤ 57)) else if l = nUpper then decide (65 ≤ b ∧ b ≤ 90)
  else if l = nLower then decide (97 ≤ b ∧ b ≤ 122) else if l = nSpace then decide (b = 32 ∨ (9 ≤ b ∧ b ≤ 13)) else if l = nBlank then decide (b = 32 ∨ b = 9)
  else if l = nGraph then decide (32 < b ∧ b < 127) else if l = nPrint then decide ((32 < b ∧ b < 127) ∨ b = 32)
  else if l = nPunct then decide ((32 < b ∧ b < 127) ∧ ¬ (65 ≤ b ∧ b ≤ 90) ∧ ¬ (97 ≤ b ∧ b ≤ 122) ∧ ¬ (48 ≤ b ∧ b ≤ 57))
  else if l = nCntrl then decide (b < 32 ∨ b = 127) else if l = nXdigit then decide ((48 ≤ b ∧ b ≤ 57) ∨ (65 ≤ b ∧ b ≤ 70) ∨ (97 ≤ b ∧ b ≤ 102)) else false
def names12 : List (List UInt8) := [nAlpha, nDigit, nAlnum, nUpper, nLower, nSpace, nBlank, nGraph, nPrint, nPunct, nCntrl, nXdigit]
def okM (l : List UInt8) : Bool := decide (l ∈ names12)
def classM (l : List UInt8) : BS × Int := if okM l then (fillS (isB l) 256, 0) else (zeroS, 8)
/-! the reference -/
def tDigit : List UInt8 := [48, 49, 50, 51, 52, 53, 54, 55, 56, 57]
def tUpper : List UInt8 := [65, 66, 67, 68, 69, 70, 71, 72, 73, 74, 75, 76, 77, 78, 79, 80, 81, 82, 83, 84, 85, 86, 87, 88, 89, 90]
def tLower : List UInt8 := [97, 98, 99, 100, 101, 102, 103, 104, 105, 106, 107, 108, 109, 110, 111, 112, 113, 114, 115, 116, 117, 118, 119, 120, 121, 122]
def tPunct : List UInt8 := [33, 34, 35, 36, 37, 38, 39, 40, 41, 42, 43, 44, 45, 46, 47, 58, 59, 60, 61, 62, 63, 64, 91, 92, 93, 94, 95, 96, 123, 124, 125, 126]
def textM (l : List UInt8) : List UInt8 :=
  if l = nDigit then tDigit else if l = nUpper then tUpper else if l = nLower then tLower else if l = nAlpha then tUpper ++ tLower else if l = nAlnum then tUpper ++ tLower ++ tDigit
  else if l = nXdigit then tDigit ++ [65, 66, 67, 68, 69, 70, 97, 98, 99, 100, 101, 102] else if l = nBlank then [32, 9] else if l = nSpace then [32, 9, 10, 11, 12, 13]
  else if l = nPunct then tPunct else if l = nGraph then tPunct ++ tUpper ++ tLower ++ tDigit else if l = nPrint then tPunct ++ tUpper ++ tLower ++ tDigit ++ [32] else []
theorem textM_le (l : List UInt8) : (textM l).length ≤ 140737488351232 := by
  unfold textM
  repeat' split
  all_goals decide
/-- The members below n, rising. -/
def memGo (p : Nat → Bool) : Nat → List UInt8
  | 0 => []
  | n + 1 => if p n then memGo p n ++ [UInt8.ofNat n] else memGo p n
theorem memGo_le (p : Nat → Bool) : ∀ n, (memGo p n).length ≤ n
  | 0 => Nat.le_refl _
  | n + 1 => by
    have := memGo_le p n
    rw [memGo]; split
    · rw [List.length_append, List.length_singleton]; omega
    · omega
def membersM (s : BS) : List UInt8 := memGo (hasS s) 256
def docClassM (l : List UInt8) : BS × Int := if l = nCntrl then (addS (spanM 0 31).1 127, 0) else if (membersM (ofS (textM l))).length = 0 then (ofS (textM l), 8) else (ofS (textM l), 0)
end Go.Proofs.YtgoopgnnkhpmlaaDoor
