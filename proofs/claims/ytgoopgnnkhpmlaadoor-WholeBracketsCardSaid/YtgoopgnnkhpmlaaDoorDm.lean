/- Layer 2 (bset): the members of a set, one at a time. -/
import Derived.Test.YtgoopgnnkhpmlaaDoorDd
import Derived.Test.YtgoopgnnkhpmlaaDoorSlg
import Derived.Test.YtgoopgnnkhpmlaaDoorSlw2
import Derived.Lib.TrailingZeros
namespace Go.Proofs.YtgoopgnnkhpmlaaDoor
open Go Go.RowKit Sl
set_option maxRecDepth 100000
set_option maxHeartbeats 8000000
set_option linter.unusedVariables false
set_option linter.unusedSimpArgs false
attribute [local irreducible] ES EL PX wps

def bitsN (x : Nat) : List Nat := (List.range 64).filter (x.testBit ·)
theorem filter_first (p : Nat → Bool) (k : Nat) (hlo : ∀ j, j < k → p j = false) (hk : p k = true) : ∀ n, k < n → (List.range n).filter p = k :: (List.range n).filter (fun j => p j && decide (j ≠ k))
  | 0, h => by omega
  | n + 1, h => by
    rw [List.range_succ, List.filter_append, List.filter_append]
    rcases Nat.lt_or_ge k n with h1 | h1
    · rw [filter_first p k hlo hk n h1]
      have : [n].filter p = [n].filter (fun j => p j && decide (j ≠ k)) := by
        simp [List.filter_cons, show n ≠ k by omega]
      rw [this, List.cons_append]
    · obtain rfl : k = n := by omega
      have e1 : (List.range k).filter p = [] := by
        rw [List.filter_eq_nil_iff]
        intro j hj
        rw [hlo j (List.mem_range.1 hj)]; simp
      have e2 : (List.range k).filter (fun j => p j && decide (j ≠ k)) = [] := by
        rw [List.filter_eq_nil_iff]
        intro j hj
        rw [hlo j (List.mem_range.1 hj)]; simp
      rw [e1, e2]
      simp [List.filter_cons, hk]
theorem low_bits (k m j : Nat) : (2 ^ k * (2 * m + 1)).testBit j = (decide (k ≤ j) && (2 * m + 1).testBit (j - k)) := by
  rw [Nat.mul_comm, Nat.testBit_mul_two_pow]
theorem bits_step (x : Nat) (h0 : 0 < x) (h : x < 2 ^ 64) : bitsN x = Lib.ctz 64 x :: bitsN (x &&& (x - 1)) ∧ Lib.ctz 64 x < 64 := by
  obtain ⟨m, hx, hk⟩ := Lib.ctzFrom_spec 64 x h0 h
  have hc : Lib.ctz 64 x = Lib.ctzFrom 64 x := by unfold Lib.ctz; rw [if_neg (by omega)]
  rw [hc]
  generalize Lib.ctzFrom 64 x = k at hx hk
  refine ⟨?_, hk⟩
  have hp : 0 < 2 ^ k := Nat.two_pow_pos k
  have hx1 : x - 1 = 2 ^ k * (2 * m) + (2 ^ k - 1) := by
    rw [hx, Nat.mul_add]; omega
  have hb : ∀ j, x.testBit j = (decide (k ≤ j) && (2 * m + 1).testBit (j - k)) := fun j => by rw [hx]; exact low_bits k m j
  have hb1 : ∀ j, (x - 1).testBit j = if j < k then (2 ^ k - 1).testBit j else (2 * m).testBit (j - k) := fun j => by
    rw [hx1]; exact Nat.testBit_two_pow_mul_add _ (by omega) j
  have hlo : ∀ j, j < k → x.testBit j = false := fun j hj => by rw [hb, decide_eq_false (by omega)]; rfl
  have hkk : x.testBit k = true := by rw [hb, Nat.sub_self, decide_eq_true (Nat.le_refl k)]; simp
  have hand : ∀ j, (x &&& (x - 1)).testBit j = (x.testBit j && decide (j ≠ k)) := fun j => by
    rw [Nat.testBit_and, hb1]
    rcases Nat.lt_trichotomy j k with h1 | h1 | h1
    · rw [hlo j h1]; rfl
    · subst h1
      rw [if_neg (by omega), Nat.sub_self, hkk]
      simp
    · rw [if_neg (by omega), hb, decide_eq_true (show k ≤ j by omega), decide_eq_true (show j ≠ k by omega)]
      obtain ⟨i, hi⟩ : ∃ i, j - k = i + 1 := ⟨j - k - 1, by omega⟩
      rw [hi, Nat.testBit_succ, Nat.testBit_succ, show (2 * m + 1) / 2 = m by omega, show 2 * m / 2 = m by omega]
      cases m.testBit i <;> rfl
  unfold bitsN
  rw [filter_first (x.testBit ·) k hlo hkk 64 hk]
  congr 1
  exact List.filter_congr (fun j _ => (hand j).symm)
theorem bits_zero : bitsN 0 = [] := by
  unfold bitsN
  rw [List.filter_eq_nil_iff]
  intro j _
  simp
def memI (s : BS) (i : Nat) : List Nat := (bitsN (s.get i).toNat).map (64 * i + ·)
def memF (s : BS) (i : Nat) : List Nat := (List.range i).flatMap (memI s)
theorem memF_step (s : BS) (i : Nat) : memF s (i + 1) = memF s i ++ memI s i := by
  unfold memF
  rw [List.range_succ, List.flatMap_append]; simp
theorem memF_filter (s : BS) : ∀ n, n ≤ 4 → (List.range (64 * n)).filter (hasS s) = memF s n
  | 0, _ => rfl
  | n + 1, h => by
    rw [show 64 * (n + 1) = 64 * n + 64 by omega, List.range_add, List.filter_append, memF_filter s n (by omega), memF_step]
    congr 1
    unfold memI bitsN
    rw [List.filter_map]
    congr 1
    refine List.filter_congr fun j hj => ?_
    have hj' := List.mem_range.1 hj
    simp only [Function.comp]
    rw [hasS_bit, show (64 * n + j) / 64 = n by omega, show (64 * n + j) % 64 = j by omega]
theorem memGo_filter (p : Nat → Bool) : ∀ n, memGo p n = ((List.range n).filter p).map UInt8.ofNat
  | 0 => by simp [memGo]
  | n + 1 => by
    rw [memGo, List.range_succ, List.filter_append, List.map_append, ← memGo_filter p n]
    by_cases h : p n = true
    · rw [if_pos h]; simp [List.filter_cons, h]
    · rw [if_neg h]; simp [List.filter_cons, h]
theorem members_eq (s : BS) : membersM s = (memF s 4).map UInt8.ofNat := by
  unfold membersM
  rw [memGo_filter, ← memF_filter s 4 (Nat.le_refl _)]
def tzM (x : UInt64) : Nat := Lib.ctz 64 x.toNat
def tabV : List Value := Lib.deBruijn64tab.map fun n : Nat => Value.int .u8 ((n : Nat) : Int)
/-- The table of the library stands in block 0. -/
def TabR (w : World) (B : Nat) : Prop := Rd w B (some ⟨0, 0, none⟩) tabV
theorem shr_lit' (x : UInt64) (s : Nat) (hs : s < 64) : (x >>> UInt64.ofNat s).toNat = x.toNat / 2 ^ s := by
  rw [UInt64.toNat_shiftRight, UInt64.toNat_ofNat', Nat.mod_eq_of_lt (show s < 2 ^ 64 by omega), Nat.mod_eq_of_lt hs, Nat.shiftRight_eq_div_pow]
theorem neg_lit (x : UInt64) (h : x.toNat ≠ 0) : (0 - x).toNat = 18446744073709551616 - x.toNat := by
  have := x.toNat_lt
  rw [UInt64.toNat_sub]
  simp
  omega
theorem lit_mul : (285870213051353865 : UInt64).toNat = 285870213051353865 := rfl
theorem lit_58 : (2 : Nat) ^ 58 = 288230376151711744 := rfl
theorem lit_64 : (18446744073709551616 : Nat) = 2 ^ 64 := rfl
theorem tz_e (x : UInt64) (h : x.toNat ≠ 0) : (((x &&& (0 - x)) * 285870213051353865) >>> UInt64.ofNat 58).toNat = (x.toNat &&& (18446744073709551616 - x.toNat)) * 285870213051353865 % 18446744073709551616 / 288230376151711744 := by
  rw [shr_lit' _ _ (by omega), UInt64.toNat_mul, UInt64.toNat_and, neg_lit x h, lit_mul, lit_58, lit_64]
theorem tz_e2 (x : UInt64) (h : x.toNat ≠ 0) : (x.toNat &&& (18446744073709551616 - x.toNat)) = 2 ^ Lib.ctz 64 x.toNat := by
  have hlt := x.toNat_lt
  exact (Lib.lowest_bit 64 x.toNat h hlt).1
theorem tab_at (k n : Nat) (h : n < 64) (h4 : Lib.deBruijn64tab.getD n 0 = k) : tabV[n]? = some (.int .u8 (k : Nat)) := by
  unfold tabV
  have hl : Lib.deBruijn64tab.length = 64 := by decide
  rw [List.getElem?_map, List.getElem?_eq_getElem (by omega)]
  rw [List.getD_eq_getElem?_getD, List.getElem?_eq_getElem (by omega)] at h4
  simp only [Option.getD_some] at h4
  simp only [Option.map_some, h4]
theorem tz_index (x : UInt64) (h : x.toNat ≠ 0) : (((x &&& (0 - x)) * 285870213051353865) >>> UInt64.ofNat 58).toNat < 64 ∧ tabV[(((x &&& (0 - x)) * 285870213051353865) >>> UInt64.ofNat 58).toNat]? = some (.int .u8 (tzM x : Nat)) ∧ tzM x < 64 := by
  have hlt := x.toNat_lt
  have h2 := (Lib.lowest_bit 64 x.toNat h hlt).2
  have e := tz_e x h
  rw [tz_e2 x h] at e
  obtain ⟨n, hn⟩ : ∃ n, n = (((x &&& (0 - x)) * 285870213051353865) >>> UInt64.ofNat 58).toNat := ⟨_, rfl⟩
  obtain ⟨h3, h4⟩ := Lib.deBruijn64_at _ h2
  rw [← e, ← hn] at h3 h4
  rw [← hn]
  exact ⟨h3, tab_at _ _ h3 h4, h2⟩
theorem tz_c (x : UInt64) (h0 : x.toNat ≠ 0) (w : World) (hT : TabR w w.heap.size) : Pure Tryd.prog 21 #[Wv x] (fun _ : Unit => Iv (tzM x : Nat)) (fun _ => []) w := by
  obtain ⟨h1, h2, h3⟩ := tz_index x h0
  refine calls_of_ES TB Tryd.func21 rfl _ Tryd.ntmps21 rfl (Sat.start w) ?_
  refine .go ?_; repeat constructor
  refine EL.assign rfl rfl rfl ?_
  refine .go ?_; repeat constructor
  refine EL.move rfl rfl rfl ?_
  refine EL.eqlI rfl rfl rfl rfl ?_
  refine .go ?_; repeat constructor
  refine ES.condK false rfl (decide_eq_false (by omega)) ?_
  refine .go ?_; repeat constructor
  refine EL.move rfl rfl rfl ?_
  refine EL.move rfl rfl rfl ?_
  refine EL.ofRV (RV.negW rfl rfl) rfl rfl rfl (by intro c h; cases h) ?_
  refine EL.ofRV (RV.andW rfl rfl rfl rfl) rfl rfl rfl (by intro c h; cases h) ?_
  refine EL.ofRV (RV.mulW (b := 285870213051353865) rfl rfl rfl rfl) rfl rfl rfl (by intro c h; cases h) ?_
  refine EL.ofRV (RV.shrW (s := 58) rfl rfl rfl (by omega)) rfl rfl rfl (by intro c h; cases h) ?_
  refine EL.indexAddrA1 rfl rfl rfl rfl rfl rfl rfl rfl h1 ?_
  refine EL.loadOld (off := 0) rfl (by rw [Nat.zero_add]; rfl) rfl rfl rfl hT h2 ?_
  refine EL.convN rfl rfl rfl rfl rfl rfl (by simp only [kmax]; omega) ?_
  refine EL.assign rfl rfl rfl ?_
  refine .go ?_; repeat constructor
  exact PX.ret rfl Tryd.results21 (.cons (.tmp rfl) .nil) (fun w hs => ⟨(), rfl, hs.ent (.nil _)⟩)
abbrev ym (s : BS) : List (List Value) := (membersM s).map fun b => [Uv b]
theorem get_lt (s : BS) (i : Nat) : (s.get i).toNat < 2 ^ 64 := (s.get i).toNat_lt
/-- The member told behind those ahead of word i and the first ones of its own. -/
theorem ym_at (s : BS) (i : Nat) (hi : i < 4) (pre rest : List Nat) (k : Nat) (h : bitsN (s.get i).toNat = pre ++ k :: rest) : (ym s)[(memF s i).length + pre.length]? = some [Uv (UInt8.ofNat (64 * i + k))] := by
  have hF : ∃ post, memF s 4 = memF s i ++ (memI s i ++ post) := by
    have h1 : ∀ n, i < n → ∃ post, memF s n = memF s i ++ (memI s i ++ post) := by
      intro n
      induction n with
      | zero => intro h; omega
      | succ n ih =>
        intro h
        rcases Nat.lt_or_ge i n with h1 | h1
        · obtain ⟨post, hp⟩ := ih h1
          exact ⟨post ++ memI s n, by rw [memF_step, hp]; simp⟩
        · obtain rfl : i = n := by omega
          exact ⟨[], by rw [memF_step]; simp⟩
    exact h1 4 hi
  obtain ⟨post, hp⟩ := hF
  unfold ym
  rw [members_eq, hp, memI, h]
  simp
theorem mem1_iter (gs : Nat) (s : BS) (W0 : World) (B0 : Nat) (hT : TabR W0 B0) : Iter Tryd.prog 20 #[Pv gs 0] (ym s) [SB gs s] W0 B0 := by
  intro l I Ix hY A R W hI hs
  replace hs : Sat W0 B0 (SB gs s :: A :: R) W := hs
  refine calls_of_ES TB Tryd.func20 rfl _ Tryd.ntmps20 rfl hs ?_
  refine .go ?_; repeat constructor
  (apply EL.loadAggB; exact rfl; exact rfl; exact rfl; exact rfl; exact rfl; (case hm => repeat constructor); exact rfl)
  refine EL.move rfl rfl rfl ?_
  refine .go ?_; repeat constructor
  refine ES.loop (σ := Nat × HA) (fun (i, A) => i ≤ 4 ∧ I (memF s i).length A) (fun (i, A) => [(0, .func (.yield l) #[] #[]), (5, Bs s), (6, Iv i)])
    (fun (i, A) => SB gs s :: A :: R) (fun (i, A) => 4 - i) (0, A) ⟨Nat.zero_le _, hI⟩ ⟨rfl, rfl, rfl, trivial⟩ (.i (by repeat constructor)) ?_
  rintro ⟨i, A⟩ ⟨hi, hI⟩
  dsimp only at hi hI ⊢
  refine .go ?_; repeat constructor
  refine EL.lss rfl rfl rfl rfl ?_
  refine .go ?_; repeat constructor
  refine ES.condD rfl (fun hlt => ?_) (fun hge => ?_)
  · have hlt' : i < 4 := by omega
    have hbl : (memF s (i + 1)).length = (memF s i).length + (bitsN (s.get i).toNat).length := by rw [memF_step, List.length_append]; simp [memI]
    refine .go ?_; repeat constructor
    refine EL.move rfl rfl rfl ?_
    refine EL.indexBS rfl rfl rfl rfl rfl rfl rfl rfl rfl hlt' ?_
    refine EL.assign rfl rfl rfl ?_
    refine EL.assign rfl rfl rfl ?_
    refine .go ?_; repeat constructor
    refine ES.loop (σ := List Nat × UInt64 × HA) (fun (pre, x, A) => bitsN (s.get i).toNat = pre ++ bitsN x.toNat ∧ I ((memF s i).length + pre.length) A) (fun (pre, x, A) => [(0, .func (.yield l) #[] #[]), (3, Iv i), (4, Wv x), (5, Bs s), (6, Iv i)])
      (fun (pre, x, A) => SB gs s :: A :: R) (fun (pre, x, A) => (bitsN x.toNat).length) ([], s.get i, A) ⟨rfl, hI⟩ ⟨rfl, rfl, rfl, rfl, rfl, trivial⟩ (.i (by repeat constructor)) ?_
    rintro ⟨pre, x, A⟩ ⟨hpre, hI⟩
    dsimp only at hpre hI ⊢
    refine .go ?_; repeat constructor
    refine EL.move rfl rfl rfl ?_
    refine EL.neqI rfl rfl rfl rfl ?_
    refine .go ?_; repeat constructor
    refine ES.condN rfl (fun hne => ?_) (fun he => ?_)
    · have hx0 : x.toNat ≠ 0 := by omega
      have hxl := x.toNat_lt
      obtain ⟨hb, hk⟩ := bits_step x.toNat (by omega) hxl
      have hx1 : (x &&& (x - 1)).toNat = x.toNat &&& (x.toNat - 1) := by
        rw [UInt64.toNat_and, UInt64.toNat_sub_of_le _ _ (by rw [UInt64.le_iff_toNat_le]; show 1 ≤ x.toNat; omega)]; rfl
      rw [← hx1] at hb
      rw [hb] at hpre
      have hk' : tzM x < 64 := hk
      have hat := ym_at s i hlt' pre _ (tzM x) hpre
      have hk8 : (UInt8.ofNat (64 * i + tzM x)).toNat = 64 * i + tzM x := by simp; omega
      refine .go ?_; repeat constructor
      refine EL.move rfl rfl rfl ?_
      refine EL.move rfl rfl rfl ?_
      refine EL.mulN (m := 64) rfl rfl rfl rfl rfl (by omega) ?_
      refine EL.move rfl rfl rfl ?_
      refine EL.callPw rfl rfl rfl ent21 rfl (fun w hs => tz_c x hx0 w (Rd.sat hT hs)) ?_
      refine EL.addN rfl rfl rfl rfl rfl (by omega) ?_
      refine EL.convI ((UInt8.ofNat (64 * i + tzM x)).toNat : Int) rfl rfl rfl rfl rfl rfl (by rw [hk8]; exact wrap_u8 _ (by omega)) ?_
      refine EL.yield rfl rfl rfl rfl hY hI hat (by repeat constructor) (fun A' hI' => ?_) (fun A' hX' => ?_)
      · refine EL.not rfl rfl rfl ?_
        refine .go ?_; repeat constructor
        refine ES.condF rfl ?_
        refine .go ?_; repeat constructor
        refine EL.move rfl rfl rfl ?_
        refine EL.move rfl rfl rfl ?_
        refine EL.ofRV (RV.subW (b := 1) rfl rfl rfl rfl) rfl rfl rfl (by intro c h; cases h) ?_
        refine EL.ofRV (RV.andW rfl rfl rfl rfl) rfl rfl rfl (by intro c h; cases h) ?_
        refine EL.assign rfl rfl rfl ?_
        refine .go ?_; repeat constructor
        refine PX.loop (pre ++ [tzM x], x &&& (x - 1), A') ⟨by simp only; rw [hpre]; simp [tzM], by simp only [List.length_append, List.length_singleton]; exact hI'⟩ (by simp only; rw [hb, List.length_cons]; omega) ⟨rfl, rfl, rfl, rfl, rfl, trivial⟩ (.i (by repeat constructor))
      · refine EL.not rfl rfl rfl ?_
        refine .go ?_; repeat constructor
        refine ES.condT rfl ?_
        refine .go ?_; repeat constructor
        exact PX.ret rfl Tryd.results20 .nil (fun w hs => ⟨⟨_, rfl⟩, .inr ⟨_, A', hX', hs.ent (.i (by repeat constructor))⟩⟩)
    · have hx0 : x.toNat = 0 := by omega
      rw [hx0, bits_zero, List.append_nil] at hpre
      refine .go ?_; repeat constructor
      refine EL.add1 rfl rfl rfl rfl (by omega) ?_
      refine EL.move rfl rfl rfl ?_
      refine .go ?_; repeat constructor
      exact PX.loop (i + 1, A) ⟨by simp only; omega, by simp only; rw [hbl, hpre]; exact hI⟩ (by simp only; omega) ⟨rfl, rfl, rfl, trivial⟩ (.i (by repeat constructor))
  · obtain rfl : i = 4 := by omega
    have hlen : (ym s).length = (memF s 4).length := by simp [ym, members_eq]
    refine .go ?_; repeat constructor
    exact PX.end rfl Tryd.results20 .nil (fun w hs => ⟨⟨_, rfl⟩, .inl ⟨A, by rw [hlen]; exact hI, hs.ent (.i (by repeat constructor))⟩⟩)
theorem members_c (s : BS) (w : World) : Pure Tryd.prog 12 #[Bs s] (fun g : Nat => .func (.func 20) #[] #[Pv g 0]) (fun g => [SB g s]) w := by
  refine calls_of_ES TB Tryd.func12 rfl _ Tryd.ntmps12 rfl (Sat.start w) ?_
  refine .go ?_; repeat constructor
  (refine EL.box rfl rfl rfl ?_; intro g1)
  refine EL.assign rfl rfl rfl ?_
  refine .go ?_; repeat constructor
  refine EL.makeFunc rfl rfl rfl ?_
  refine EL.assign rfl rfl rfl ?_
  refine .go ?_; repeat constructor
  exact PX.ret rfl Tryd.results12 (.cons (.tmp rfl) .nil) (fun w hs => ⟨g1, rfl, hs.ent (.i (by repeat constructor))⟩)
end Go.Proofs.YtgoopgnnkhpmlaaDoor
