/- Layer 2 (bset): counting the ones of a word: what the additions of fields come to. -/
import Derived.Test.YtlianigenfknpaaDoorDa
namespace Go.Proofs.YtlianigenfknpaaDoor
open Go Go.RowKit Sl
set_option maxRecDepth 100000
set_option maxHeartbeats 8000000
set_option linter.unusedVariables false
set_option linter.unusedSimpArgs false
attribute [local irreducible] ES EL PX wps

theorem and_split (n a m r M : Nat) (ha : a < 2 ^ n) (hm : m < 2 ^ n) : (a + 2 ^ n * r) &&& (m + 2 ^ n * M) = (a &&& m) + 2 ^ n * (r &&& M) := by
  have hl : (a &&& m) < 2 ^ n := Nat.lt_of_le_of_lt Nat.and_le_left ha
  apply Nat.eq_of_testBit_eq
  intro i
  rw [Nat.testBit_and, Nat.add_comm a, Nat.add_comm m, Nat.add_comm (a &&& m), Nat.testBit_two_pow_mul_add _ ha, Nat.testBit_two_pow_mul_add _ hm, Nat.testBit_two_pow_mul_add _ hl]
  split <;> simp
def mk (c : Nat) : Nat → Nat
  | 0 => 0
  | k + 1 => c + 256 * mk c k
def F1 (k x : Nat) : Nat := ((x / 2) &&& mk 85 k) + (x &&& mk 85 k)
def F2 (k x : Nat) : Nat := ((x / 4) &&& mk 51 k) + (x &&& mk 51 k)
def F3 (k x : Nat) : Nat := (x / 16 + x) &&& mk 15 k
def f1 (a : Nat) : Nat := ((a / 2) &&& 85) + (a &&& 85)
def f2 (a : Nat) : Nat := ((a / 4) &&& 51) + (a &&& 51)
def pop8 (b : Nat) : Nat := (f2 (f1 b) + f2 (f1 b) / 16) % 16
theorem low_and (n t u m : Nat) (ht : t < 2 ^ n) (hm : m < 2 ^ n) : (t + 2 ^ n * u) &&& m = t &&& m := by
  have := and_split n t m u 0 ht hm
  simpa using this
theorem F1_step (k x : Nat) : F1 (k + 1) x = f1 (x % 256) + 256 * F1 k (x / 256) := by
  have h1 : x = x % 256 + 2 ^ 8 * (x / 256) := by omega
  have h2 : x / 2 = (x % 256 / 2 + 2 ^ 7 * (x / 256 % 2)) + 2 ^ 8 * (x / 256 / 2) := by omega
  have h3 : (x / 2) &&& mk 85 (k + 1) = ((x % 256 / 2) &&& 85) + 256 * ((x / 256 / 2) &&& mk 85 k) := by
    conv => lhs; rw [h2]
    show _ &&& (85 + 2 ^ 8 * mk 85 k) = _
    rw [and_split 8 _ _ _ _ (by omega) (by omega), low_and 7 _ _ _ (by omega) (by omega)]
  have h4 : x &&& mk 85 (k + 1) = ((x % 256) &&& 85) + 256 * ((x / 256) &&& mk 85 k) := by
    conv => lhs; rw [h1]
    show _ &&& (85 + 2 ^ 8 * mk 85 k) = _
    rw [and_split 8 _ _ _ _ (by omega) (by omega)]
  simp only [F1, f1]
  rw [h3, h4]; omega
theorem F2_step (k x : Nat) : F2 (k + 1) x = f2 (x % 256) + 256 * F2 k (x / 256) := by
  have h1 : x = x % 256 + 2 ^ 8 * (x / 256) := by omega
  have h2 : x / 4 = (x % 256 / 4 + 2 ^ 6 * (x / 256 % 4)) + 2 ^ 8 * (x / 256 / 4) := by omega
  have h3 : (x / 4) &&& mk 51 (k + 1) = ((x % 256 / 4) &&& 51) + 256 * ((x / 256 / 4) &&& mk 51 k) := by
    conv => lhs; rw [h2]
    show _ &&& (51 + 2 ^ 8 * mk 51 k) = _
    rw [and_split 8 _ _ _ _ (by omega) (by omega), low_and 6 _ _ _ (by omega) (by omega)]
  have h4 : x &&& mk 51 (k + 1) = ((x % 256) &&& 51) + 256 * ((x / 256) &&& mk 51 k) := by
    conv => lhs; rw [h1]
    show _ &&& (51 + 2 ^ 8 * mk 51 k) = _
    rw [and_split 8 _ _ _ _ (by omega) (by omega)]
  simp only [F2, f2]
  rw [h3, h4]; omega
theorem F3_step (k a r : Nat) (ha : a ≤ 68) (hr : r % 16 ≤ 4) : F3 (k + 1) (a + 256 * r) = (a + a / 16) % 16 + 256 * F3 k r := by
  have h1 : (a + 256 * r) / 16 + (a + 256 * r) = (a / 16 + a + 16 * (r % 16)) + 2 ^ 8 * (r / 16 + r) := by omega
  simp only [F3]
  rw [h1]
  show _ &&& (15 + 2 ^ 8 * mk 15 k) = _
  rw [and_split 8 _ _ _ _ (by omega) (by omega)]
  have h2 : (a / 16 + a + 16 * (r % 16)) &&& 15 = (a + a / 16) % 16 := by
    have := Nat.and_two_pow_sub_one_eq_mod (a / 16 + a + 16 * (r % 16)) 4
    rw [show (2 : Nat) ^ 4 - 1 = 15 from rfl] at this
    rw [this]; omega
  rw [h2]
theorem f_small : ∀ b : Fin 256, f1 b.val < 256 ∧ f2 (f1 b.val) ≤ 68 ∧ f2 (f1 b.val) % 16 ≤ 4 ∧ pop8 b.val ≤ 8 := by decide +kernel
def Y (k x : Nat) : Nat := F2 k (F1 k x)
theorem Y_step (k x : Nat) : Y (k + 1) x = f2 (f1 (x % 256)) + 256 * Y k (x / 256) := by
  have h := (f_small ⟨x % 256, by omega⟩).1
  simp only at h
  simp only [Y]
  rw [F2_step, F1_step, show (f1 (x % 256) + 256 * F1 k (x / 256)) % 256 = f1 (x % 256) by omega, show (f1 (x % 256) + 256 * F1 k (x / 256)) / 256 = F1 k (x / 256) by omega]
theorem Y_low (k x : Nat) : Y k x % 16 ≤ 4 := by
  cases k with
  | zero => simp [Y, F2, mk]
  | succ k =>
    have h := (f_small ⟨x % 256, by omega⟩).2.2.1
    simp only at h
    rw [Y_step]; omega
def G (k x : Nat) : Nat := F3 k (Y k x)
theorem G_step (k x : Nat) : G (k + 1) x = pop8 (x % 256) + 256 * G k (x / 256) := by
  have h := (f_small ⟨x % 256, by omega⟩).2.1
  simp only at h
  simp only [G]
  rw [Y_step, F3_step _ _ _ h (Y_low _ _)]; rfl
theorem G_zero (x : Nat) : G 0 x = 0 := by simp [G, F3, mk]
def sum8 : Nat → Nat → Nat
  | 0, _ => 0
  | k + 1, x => pop8 (x % 256) + sum8 k (x / 256)
theorem div_split (a b m : Nat) (h : a < m) : (a + m * b) / m = b := by
  rw [Nat.add_mul_div_left _ _ (by omega), Nat.div_eq_of_lt h, Nat.zero_add]
theorem G_sum (x : Nat) : (let y := G 8 x; let y4 := y + y / 256; let y5 := y4 + y4 / 65536; let y6 := y5 + y5 / 4294967296; y6 % 128 = sum8 8 x ∧ y6 < 18446744073709551616 ∧ y5 < 18446744073709551616 ∧ y4 < 18446744073709551616) := by
  have p : ∀ b, pop8 (b % 256) ≤ 8 := fun b => (f_small ⟨b % 256, by omega⟩).2.2.2
  have h := p x
  have h1 := p (x / 256)
  have h2 := p (x / 256 / 256)
  have h3 := p (x / 256 / 256 / 256)
  have h4 := p (x / 256 / 256 / 256 / 256)
  have h5 := p (x / 256 / 256 / 256 / 256 / 256)
  have h6 := p (x / 256 / 256 / 256 / 256 / 256 / 256)
  have h7 := p (x / 256 / 256 / 256 / 256 / 256 / 256 / 256)
  simp only [G_step, G_zero, sum8]
  generalize pop8 (x % 256) = p0 at *
  generalize pop8 (x / 256 % 256) = p1 at *
  generalize pop8 (x / 256 / 256 % 256) = p2 at *
  generalize pop8 (x / 256 / 256 / 256 % 256) = p3 at *
  generalize pop8 (x / 256 / 256 / 256 / 256 % 256) = p4 at *
  generalize pop8 (x / 256 / 256 / 256 / 256 / 256 % 256) = p5 at *
  generalize pop8 (x / 256 / 256 / 256 / 256 / 256 / 256 % 256) = p6 at *
  generalize pop8 (x / 256 / 256 / 256 / 256 / 256 / 256 / 256 % 256) = p7 at *
  clear p
  have e4 : (p0 + 256 * (p1 + 256 * (p2 + 256 * (p3 + 256 * (p4 + 256 * (p5 + 256 * (p6 + 256 * (p7 + 256 * 0)))))))) / 256 = p1 + 256 * (p2 + 256 * (p3 + 256 * (p4 + 256 * (p5 + 256 * (p6 + 256 * (p7 + 256 * 0)))))) := by
    rw [div_split _ _ _ (by omega)]
  rw [e4]
  clear e4
  obtain ⟨q4, hq4⟩ : ∃ q, q = p0 + 256 * (p1 + 256 * (p2 + 256 * (p3 + 256 * (p4 + 256 * (p5 + 256 * (p6 + 256 * (p7 + 256 * 0))))))) + (p1 + 256 * (p2 + 256 * (p3 + 256 * (p4 + 256 * (p5 + 256 * (p6 + 256 * (p7 + 256 * 0))))))) := ⟨_, rfl⟩
  rw [← hq4]
  have e5 : q4 / 65536 = (p2 + p3) + 256 * ((p3 + p4) + 256 * ((p4 + p5) + 256 * ((p5 + p6) + 256 * ((p6 + p7) + 256 * p7)))) := by
    rw [show q4 = ((p0 + p1) + 256 * (p1 + p2)) + 65536 * ((p2 + p3) + 256 * ((p3 + p4) + 256 * ((p4 + p5) + 256 * ((p5 + p6) + 256 * ((p6 + p7) + 256 * p7))))) by omega, div_split _ _ _ (by omega)]
  rw [e5]
  clear e5
  obtain ⟨q5, hq5⟩ : ∃ q, q = q4 + ((p2 + p3) + 256 * ((p3 + p4) + 256 * ((p4 + p5) + 256 * ((p5 + p6) + 256 * ((p6 + p7) + 256 * p7))))) := ⟨_, rfl⟩
  rw [← hq5]
  have e6 : q5 / 4294967296 = (p4 + p5 + p6 + p7) + 256 * ((p5 + p6 + p7) + 256 * ((p6 + p7) + 256 * p7)) := by
    rw [show q5 = ((p0 + p1 + p2 + p3) + 256 * ((p1 + p2 + p3 + p4) + 256 * ((p2 + p3 + p4 + p5) + 256 * (p3 + p4 + p5 + p6)))) + 4294967296 * ((p4 + p5 + p6 + p7) + 256 * ((p5 + p6 + p7) + 256 * ((p6 + p7) + 256 * p7))) by omega, div_split _ _ _ (by omega)]
  rw [e6]
  clear e6
  have hy : q5 + ((p4 + p5 + p6 + p7) + 256 * ((p5 + p6 + p7) + 256 * ((p6 + p7) + 256 * p7))) = (p0 + p1 + p2 + p3 + p4 + p5 + p6 + p7) + 128 * (2 * ((p1 + p2 + p3 + p4 + p5 + p6 + p7) + 256 * ((p2 + p3 + p4 + p5 + p6 + p7) + 256 * ((p3 + p4 + p5 + p6 + p7) + 256 * ((p4 + p5 + p6 + p7) + 256 * ((p5 + p6 + p7) + 256 * ((p6 + p7) + 256 * p7))))))) := by omega
  refine ⟨?_, by omega, by omega, by omega⟩
  rw [hy, Nat.add_mul_mod_self_left, Nat.mod_eq_of_lt (by omega)]
  omega
theorem and_lit (x : UInt64) (c : UInt64) (n : Nat) (h : c.toNat = n) : (x &&& c).toNat = x.toNat &&& n := by rw [UInt64.toNat_and, h]
theorem shr_lit (x : UInt64) (s : Nat) (hs : s < 64) : (x >>> UInt64.ofNat s).toNat = x.toNat / 2 ^ s := by
  rw [UInt64.toNat_shiftRight, UInt64.toNat_ofNat_of_lt' (by simp only [UInt64.size]; omega), Nat.mod_eq_of_lt hs, Nat.shiftRight_eq_div_pow]
theorem add_small (x y : UInt64) (h : x.toNat + y.toNat < 18446744073709551616) : (x + y).toNat = x.toNat + y.toNat := by
  rw [UInt64.toNat_add]; exact Nat.mod_eq_of_lt h
theorem F1_le (k x : Nat) : F1 k x ≤ 2 * mk 85 k := by
  have h1 : (x / 2) &&& mk 85 k ≤ mk 85 k := Nat.and_le_right
  have h2 : x &&& mk 85 k ≤ mk 85 k := Nat.and_le_right
  simp only [F1]; omega
theorem F2_le (k x : Nat) : F2 k x ≤ 2 * mk 51 k := by
  have h1 : (x / 4) &&& mk 51 k ≤ mk 51 k := Nat.and_le_right
  have h2 : x &&& mk 51 k ≤ mk 51 k := Nat.and_le_right
  simp only [F2]; omega
theorem oc1_eq (x : UInt64) : (oc1 x).toNat = F1 8 x.toNat := by
  have hle := F1_le 8 x.toNat
  rw [show mk 85 8 = 6148914691236517205 from rfl] at hle
  have h1 : ((x >>> UInt64.ofNat 1) &&& 6148914691236517205).toNat = (x.toNat / 2) &&& mk 85 8 := by rw [and_lit _ _ (mk 85 8) rfl, shr_lit x 1 (by omega)]
  have h2 : (x &&& 6148914691236517205).toNat = x.toNat &&& mk 85 8 := and_lit _ _ _ rfl
  unfold oc1
  rw [add_small _ _ (by rw [h1, h2]; show F1 8 x.toNat < _; omega), h1, h2]; rfl
theorem oc2_eq (x : UInt64) : (oc2 x).toNat = F2 8 x.toNat := by
  have hle := F2_le 8 x.toNat
  rw [show mk 51 8 = 3689348814741910323 from rfl] at hle
  have h1 : ((x >>> UInt64.ofNat 2) &&& 3689348814741910323).toNat = (x.toNat / 4) &&& mk 51 8 := by rw [and_lit _ _ (mk 51 8) rfl, shr_lit x 2 (by omega)]
  have h2 : (x &&& 3689348814741910323).toNat = x.toNat &&& mk 51 8 := and_lit _ _ _ rfl
  unfold oc2
  rw [add_small _ _ (by rw [h1, h2]; show F2 8 x.toNat < _; omega), h1, h2]; rfl
theorem oc3_eq (x : UInt64) (hx : x.toNat ≤ 7378697629483820646) : (oc3 x).toNat = F3 8 x.toNat := by
  have h1 : (x >>> UInt64.ofNat 4).toNat = x.toNat / 16 := shr_lit x 4 (by omega)
  unfold oc3
  rw [and_lit _ _ (mk 15 8) rfl, add_small _ _ (by rw [h1]; omega), h1]; rfl
/-- How many ones a word has: by its bytes. -/
theorem ocM_sum (x : UInt64) : ocM x = sum8 8 x.toNat := by
  have hle := F2_le 8 (F1 8 x.toNat)
  rw [show mk 51 8 = 3689348814741910323 from rfl] at hle
  have h3 : (oc3 (oc2 (oc1 x))).toNat = G 8 x.toNat := by rw [oc3_eq _ (by rw [oc2_eq, oc1_eq]; omega), oc2_eq, oc1_eq]; rfl
  obtain ⟨g0, g6, g5, g4⟩ := G_sum x.toNat
  have h4 : (oc4 (oc3 (oc2 (oc1 x)))).toNat = G 8 x.toNat + G 8 x.toNat / 256 := by
    unfold oc4
    rw [add_small _ _ (by rw [shr_lit _ 8 (by omega), h3]; exact g4), shr_lit _ 8 (by omega), h3]
  have h5 : (oc5 (oc4 (oc3 (oc2 (oc1 x))))).toNat = (G 8 x.toNat + G 8 x.toNat / 256) + (G 8 x.toNat + G 8 x.toNat / 256) / 65536 := by
    unfold oc5
    rw [add_small _ _ (by rw [shr_lit _ 16 (by omega), h4]; exact g5), shr_lit _ 16 (by omega), h4]
  have h6 : (oc6 (oc5 (oc4 (oc3 (oc2 (oc1 x)))))).toNat = ((G 8 x.toNat + G 8 x.toNat / 256) + (G 8 x.toNat + G 8 x.toNat / 256) / 65536) + ((G 8 x.toNat + G 8 x.toNat / 256) + (G 8 x.toNat + G 8 x.toNat / 256) / 65536) / 4294967296 := by
    unfold oc6
    rw [add_small _ _ (by rw [shr_lit _ 32 (by omega), h5]; exact g6), shr_lit _ 32 (by omega), h5]
  unfold ocM
  rw [and_lit _ _ 127 rfl, h6, show (127 : Nat) = 2 ^ 7 - 1 from rfl, Nat.and_two_pow_sub_one_eq_mod]
  exact g0
theorem pop_add : ∀ a b : Fin 256, pop8 a.val + pop8 b.val = pop8 (a.val ||| b.val) + pop8 (a.val &&& b.val) := by decide +kernel
theorem sum8_add : ∀ (k x y : Nat), sum8 k x + sum8 k y = sum8 k (x ||| y) + sum8 k (x &&& y)
  | 0, _, _ => rfl
  | k + 1, x, y => by
    have h := pop_add ⟨x % 256, by omega⟩ ⟨y % 256, by omega⟩
    simp only at h
    have ih := sum8_add k (x / 256) (y / 256)
    have e1 : (x ||| y) % 256 = x % 256 ||| y % 256 := Nat.or_mod_two_pow (n := 8)
    have e2 : (x &&& y) % 256 = x % 256 &&& y % 256 := Nat.and_mod_two_pow (n := 8)
    have e3 : (x ||| y) / 256 = x / 256 ||| y / 256 := Nat.or_div_two_pow (n := 8)
    have e4 : (x &&& y) / 256 = x / 256 &&& y / 256 := Nat.and_div_two_pow (n := 8)
    simp only [sum8]
    rw [e1, e2, e3, e4]
    omega
theorem oc_add (x y : UInt64) : ocM x + ocM y = ocM (x ||| y) + ocM (x &&& y) := by
  simp only [ocM_sum, UInt64.toNat_or, UInt64.toNat_and]
  exact sum8_add 8 _ _
theorem count_add (s t : BS) : countS s + countS t = countS (orS s t) + countS (andS s t) := by
  have h0 := oc_add s.a t.a
  have h1 := oc_add s.b t.b
  have h2 := oc_add s.c t.c
  have h3 := oc_add s.d t.d
  simp only [countS, countGo, BS.get, orS, andS, joinS]
  omega
theorem or_not (s : BS) : orS s (notS s) = ⟨18446744073709551615, 18446744073709551615, 18446744073709551615, 18446744073709551615⟩ := bs_ext _ _ fun k hk => by
  rw [has_or, has_not]
  have : hasS ⟨18446744073709551615, 18446744073709551615, 18446744073709551615, 18446744073709551615⟩ k = true := (by decide +kernel : ∀ k : Fin 256, hasS ⟨18446744073709551615, 18446744073709551615, 18446744073709551615, 18446744073709551615⟩ k.val = true) ⟨k, hk⟩
  rw [this]; simp
theorem and_not0 (s : BS) : andS s (notS s) = zeroS := bs_ext _ _ fun k hk => by
  rw [has_and, has_not, has_zero]; simp
theorem count_not (s : BS) : countS s + countS (notS s) = 256 := by
  rw [count_add, or_not, and_not0]
  decide +kernel
end Go.Proofs.YtlianigenfknpaaDoor
