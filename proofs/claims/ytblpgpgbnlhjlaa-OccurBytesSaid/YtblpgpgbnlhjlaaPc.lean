/- Layer 4 (bre): the tokens. -/
import Derived.Test.YtblpgpgbnlhjlaaPb
import Derived.Test.YtblpgpgbnlhjlaaSlt
namespace Go.Proofs.Ytblpgpgbnlhjlaa
open Go Go.RowKit Sl
set_option maxRecDepth 100000
set_option maxHeartbeats 8000000
set_option linter.unusedVariables false
set_option linter.unusedSimpArgs false
attribute [local irreducible] ES EL PX wps

theorem isDig_int (b : UInt8) : isDig b = (decide (48 ≤ (b.toNat : Int)) && decide ((b.toNat : Int) ≤ 57)) := by
  unfold isDig
  rw [Bool.eq_iff_iff]
  simp only [decide_eq_true_eq, Bool.and_eq_true]
  omega
theorem numGo_le (t : List UInt8) : ∀ (k n a : Nat), n ≤ 256 → a + k ≤ t.length → (numGo t k n a).1 ≤ 256 ∧ a ≤ (numGo t k n a).2 ∧ (numGo t k n a).2 ≤ a + k
  | 0, n, a, hn, _ => ⟨hn, Nat.le_refl _, Nat.le_refl _⟩
  | k + 1, n, a, hn, ha => by
    rw [numGo]
    split
    · have := numGo_le t k (min (10 * n + ((t.getD a 0).toNat - 48)) 256) (a + 1) (by omega) (by omega)
      omega
    · exact ⟨hn, Nat.le_refl _, by simp only; omega⟩
theorem numM_le (t : List UInt8) (a : Nat) (h : a ≤ t.length) : -1 ≤ (numM t a).1 ∧ (numM t a).1 ≤ 256 ∧ a ≤ (numM t a).2 ∧ (numM t a).2 ≤ t.length := by
  have := numGo_le t (t.length - a) 0 a (by omega) (by omega)
  unfold numM
  dsimp only
  split <;> omega
theorem number_c (t : List UInt8) (a : Nat) (ha : a ≤ t.length) (ht : t.length ≤ 1073741824) (w : World) : Pure Try.prog 112 #[Sv t, Iv (a : Nat)] (fun _ : Unit => .tuple #[Iv (numM t a).1, Iv ((numM t a).2 : Nat)]) (fun _ => []) w := by
  refine calls_of_ES TB Try.func112 rfl _ Try.ntmps112 rfl (Sat.start w) ?_
  refine .go ?_; repeat constructor
  refine EL.assign rfl rfl rfl ?_
  refine EL.assign rfl rfl rfl ?_
  refine .go ?_; repeat constructor
  refine EL.move rfl rfl rfl ?_
  refine EL.assign rfl rfl rfl ?_
  refine EL.assign rfl rfl rfl ?_
  refine .go ?_; repeat constructor
  obtain ⟨res, hres⟩ : ∃ res, res = numGo t (t.length - a) 0 a := ⟨_, rfl⟩
  have hm : numM t a = (if res.2 = a then -1 else (res.1 : Int), res.2) := by rw [hres]; rfl
  rw [hm]
  refine ES.loop (σ := Nat × Nat) (fun (n, c) => n ≤ 256 ∧ a ≤ c ∧ c ≤ t.length ∧ numGo t (t.length - c) n c = res) (fun (n, c) => [(0, Sv t), (1, Iv (c : Nat)), (6, Iv (n : Nat)), (7, Iv (a : Nat))]) (fun _ => []) (fun (n, c) => t.length - c) (0, a) ⟨by omega, Nat.le_refl _, ha, hres.symm⟩ ⟨rfl, rfl, rfl, rfl, trivial⟩ (.i (by repeat constructor)) ?_
  rintro ⟨n, c⟩ ⟨hn, hac, hc, hgo⟩
  dsimp only at hn hac hc hgo ⊢
  refine .go ?_; repeat constructor
  refine EL.cutX (X := Unit) (fun _ => [(0, Sv t), (1, Iv (c : Nat)), (6, Iv (n : Nat)), (7, Iv (a : Nat)), (24, .bool (decide ((c : Int) < (t.length : Int)) && isDig (t.getD c 0)))]) (fun _ => []) ?_ (fun _ => ?_)
  · refine .go ?_; repeat constructor
    refine EL.move rfl rfl rfl ?_
    refine EL.move rfl rfl rfl ?_
    refine EL.lenS rfl rfl rfl rfl rfl ?_
    refine EL.lss rfl rfl rfl rfl ?_
    refine EL.move rfl rfl rfl ?_
    first | refine EL.splitD (d := 13) rfl (fun hp13 => ?_) (fun hp13 => ?_) | refine EL.splitN (d := 13) rfl (fun hp13 => ?_) (fun hp13 => ?_) | refine EL.splitB (d := 13) rfl (fun hp13 => ?_) (fun hp13 => ?_)
    · refine EL.move rfl rfl rfl ?_
      refine EL.move rfl rfl rfl ?_
      refine EL.indexSN rfl rfl rfl rfl rfl rfl (by omega) ?_
      refine EL.geq rfl rfl rfl rfl ?_
      refine EL.pickT rfl rfl rfl rfl ?_
      refine EL.move rfl rfl rfl ?_
      first | refine EL.splitD (d := 19) rfl (fun hp19 => ?_) (fun hp19 => ?_) | refine EL.splitN (d := 19) rfl (fun hp19 => ?_) (fun hp19 => ?_) | refine EL.splitB (d := 19) rfl (fun hp19 => ?_) (fun hp19 => ?_)
      · refine EL.move rfl rfl rfl ?_
        refine EL.move rfl rfl rfl ?_
        refine EL.indexSN rfl rfl rfl rfl rfl rfl (by omega) ?_
        refine EL.leq rfl rfl rfl rfl ?_
        refine EL.pickT rfl rfl rfl rfl ?_
        exact EL.endX () ⟨rfl, rfl, rfl, rfl, getA rfl (congrArg Value.bool (by rw [isDig_int]; simp_all <;> omega)), trivial⟩ (.i (by repeat constructor))
      · refine EL.pass rfl rfl rfl ?_
        refine EL.pass rfl rfl rfl ?_
        refine EL.pass rfl rfl rfl ?_
        refine EL.pass rfl rfl rfl ?_
        refine EL.pickF rfl rfl rfl rfl ?_
        exact EL.endX () ⟨rfl, rfl, rfl, rfl, getA rfl (congrArg Value.bool (by rw [isDig_int]; simp_all <;> omega)), trivial⟩ (.i (by repeat constructor))
    · refine EL.pass rfl rfl rfl ?_
      refine EL.pass rfl rfl rfl ?_
      refine EL.pass rfl rfl rfl ?_
      refine EL.pass rfl rfl rfl ?_
      refine EL.pickF rfl rfl rfl rfl ?_
      refine EL.move rfl rfl rfl ?_
      refine EL.pass rfl rfl rfl ?_
      refine EL.pass rfl rfl rfl ?_
      refine EL.pass rfl rfl rfl ?_
      refine EL.pass rfl rfl rfl ?_
      refine EL.pickF rfl rfl rfl rfl ?_
      exact EL.endX () ⟨rfl, rfl, rfl, rfl, getA rfl (congrArg Value.bool (by rw [isDig_int]; simp_all <;> omega)), trivial⟩ (.i (by repeat constructor))
  refine ES.cond rfl (fun hd => ?_) (fun hd => ?_)
  · rw [Bool.and_eq_true, decide_eq_true_eq] at hd
    have hlt : c < t.length := by omega
    have hdig := hd.2
    have hb : 48 ≤ (t.getD c 0).toNat ∧ (t.getD c 0).toNat ≤ 57 := by unfold isDig at hdig; exact of_decide_eq_true hdig
    obtain ⟨k, hk⟩ : ∃ k, t.length - c = k + 1 := ⟨t.length - c - 1, by omega⟩
    rw [hk, numGo, if_pos ⟨hlt, hd.2⟩] at hgo
    refine .go ?_; repeat constructor
    refine EL.move rfl rfl rfl ?_
    refine EL.mulN (m := 10) rfl rfl rfl rfl rfl (by omega) ?_
    refine EL.move rfl rfl rfl ?_
    refine EL.move rfl rfl rfl ?_
    refine EL.indexSN rfl rfl rfl rfl rfl rfl (by omega) ?_
    refine EL.ofRV (RV.subK (n := 48) rfl rfl (by omega) (by simp only [kmax]; omega)) rfl rfl rfl (by intro c h; cases h) ?_
    refine EL.convN rfl rfl rfl rfl rfl rfl (by simp only [kmax]; omega) ?_
    refine EL.addN rfl rfl rfl rfl rfl (by omega) ?_
    refine EL.ofRV (RV.minI rfl rfl) rfl rfl rfl (by intro c h; cases h) ?_
    refine EL.assign rfl rfl rfl ?_
    refine .go ?_; repeat constructor
    refine EL.move rfl rfl rfl ?_
    refine EL.add1 rfl rfl rfl rfl (by omega) ?_
    refine EL.assign rfl rfl rfl ?_
    refine .go ?_; repeat constructor
    refine PX.loop (min (10 * n + ((t.getD c 0).toNat - 48)) 256, c + 1) ⟨by simp only; omega, by simp only; omega, by simp only; omega, by simp only; rw [show t.length - (c + 1) = k by omega]; exact hgo⟩ (by simp only; omega) ⟨rfl, rfl, getA rfl (congrArg Iv (by omega)), rfl, trivial⟩ (.i (by repeat constructor))
  · have hr : res = (n, c) := by
      rw [← hgo]
      cases hk : t.length - c with
      | zero => rfl
      | succ k =>
        rw [numGo, if_neg]
        rintro ⟨h1, h2⟩
        rw [h2, decide_eq_true (by omega)] at hd
        cases hd
    rw [hr]
    refine .go ?_; repeat constructor
    refine EL.move rfl rfl rfl ?_
    refine EL.move rfl rfl rfl ?_
    refine EL.eqlI rfl rfl rfl rfl ?_
    refine .go ?_; repeat constructor
    refine ES.cutC (X := Unit) (fun _ => [(1, Iv (c : Nat)), (6, Iv (if c = a then -1 else (n : Int)))]) (fun _ => []) ?_ (fun _ => ?_)
    · refine ES.condD rfl (fun he => ?_) (fun hne => ?_)
      · refine .go ?_; repeat constructor
        refine EL.assign rfl rfl rfl ?_
        refine .go ?_; repeat constructor
        exact PX.cutX () ⟨rfl, getA rfl (congrArg Iv (by rw [if_pos (by omega)])), trivial⟩ (.i (by repeat constructor))
      · refine .go ?_; repeat constructor
        exact PX.cutX () ⟨rfl, getA rfl (congrArg Iv (by rw [if_neg (by omega)])), trivial⟩ (.i (by repeat constructor))
    refine .go ?_; repeat constructor
    refine EL.move rfl rfl rfl ?_
    refine EL.move rfl rfl rfl ?_
    refine EL.assign rfl rfl rfl ?_
    refine EL.assign rfl rfl rfl ?_
    refine .go ?_; repeat constructor
    exact PX.ret rfl Try.results112 (.cons (.tmp rfl) (.cons (.tmp rfl) .nil)) (fun w hs => ⟨(), rfl, hs.ent (.i (by repeat constructor))⟩)
def ivV (o : Option (Nat × Int × Nat)) : Value := match o with
  | none => .tuple #[Iv 0, Iv 0, Iv 0, .bool false]
  | some (lo, hi, n) => .tuple #[Iv (lo : Nat), Iv hi, Iv (n : Nat), .bool true]
theorem iv_le {t : List UInt8} {a lo n : Nat} {hi : Int} (h : ivM t a = some (lo, hi, n)) : lo ≤ 255 ∧ -1 ≤ hi ∧ hi ≤ 255 ∧ (0 ≤ hi → (lo : Int) ≤ hi) ∧ a < n ∧ n ≤ t.length := by
  have hbeyond : t.length < a → numM t a = (-1, a) := fun h => by
    unfold numM
    rw [show t.length - a = 0 by omega]
    simp [numGo]
  have h1 := numM_le t a
  unfold ivM at h
  dsimp only at h
  obtain ⟨h2, hh⟩ : ∃ h2, h2 = (if (numM t a).2 < t.length ∧ t.getD (numM t a).2 0 = 44 then numM t ((numM t a).2 + 1) else numM t a) := ⟨_, rfl⟩
  rw [← hh] at h
  generalize hl : numM t a = l at h h1 hh hbeyond
  by_cases hb : l.1 < 0 ∨ 255 < l.1 ∨ 255 < h2.1 ∨ (0 ≤ h2.1 ∧ h2.1 < l.1)
  · rw [if_pos hb] at h; cases h
  rw [if_neg hb] at h
  by_cases hb2 : t.length < h2.2 + 2 ∨ (t.drop h2.2).take 2 ≠ [92, 125]
  · rw [if_pos hb2] at h; cases h
  rw [if_neg hb2] at h
  simp only [Option.some.injEq, Prod.mk.injEq] at h
  obtain ⟨rfl, rfl, rfl⟩ := h
  simp only [not_or, Nat.not_lt] at hb hb2
  have ha : a ≤ t.length := by
    rcases Nat.lt_or_ge t.length a with h3 | h3
    · have := hbeyond h3
      subst this
      simp only at hb
      omega
    · exact h3
  have h4 := h1 ha
  have h5 : -1 ≤ h2.1 ∧ a ≤ h2.2 := by
    rw [hh]
    split
    · have := numM_le t (l.2 + 1) (by omega); omega
    · omega
  omega
theorem interval_c (t : List UInt8) (a : Nat) (ha : a ≤ t.length) (ht : t.length ≤ 1073741824) (w : World) : Pure Try.prog 107 #[Sv t, Iv (a : Nat)] (fun _ : Unit => ivV (ivM t a)) (fun _ => []) w := by
  have hl := numM_le t a ha
  have hnc := number_c t a ha ht
  have hiv : ivM t a = (let l := numM t a
    let h := if l.2 < t.length ∧ t.getD l.2 0 = 44 then numM t (l.2 + 1) else l
    if l.1 < 0 ∨ 255 < l.1 ∨ 255 < h.1 ∨ (0 ≤ h.1 ∧ h.1 < l.1) then none
    else if t.length < h.2 + 2 ∨ (t.drop h.2).take 2 ≠ [92, 125] then none
    else some (l.1.toNat, h.1, h.2 + 2)) := rfl
  dsimp only at hiv
  generalize numM t a = l at hl hnc hiv
  obtain ⟨l1, l2⟩ := l
  dsimp only at hl hnc hiv
  have h44 : (((t.getD l2 0).toNat : Int) = 44) ↔ t.getD l2 0 = 44 := u8_lit (t.getD l2 0) 44 (by omega)
  refine calls_of_ES TB Try.func107 rfl _ Try.ntmps107 rfl (Sat.start w) ?_
  refine .go ?_; repeat constructor
  refine EL.assign rfl rfl rfl ?_
  refine EL.assign rfl rfl rfl ?_
  refine EL.assign rfl rfl rfl ?_
  refine EL.assign rfl rfl rfl ?_
  refine .go ?_; repeat constructor
  refine EL.move rfl rfl rfl ?_
  refine EL.move rfl rfl rfl ?_
  refine EL.callP rfl rfl rfl ent112 rfl hnc ?_
  refine EL.move rfl rfl rfl ?_
  refine EL.extract rfl rfl rfl rfl ?_
  refine EL.extract rfl rfl rfl rfl ?_
  refine EL.assign rfl rfl rfl ?_
  refine EL.assign rfl rfl rfl ?_
  refine .go ?_; repeat constructor
  refine EL.move rfl rfl rfl ?_
  refine EL.assign rfl rfl rfl ?_
  refine .go ?_; repeat constructor
  refine EL.cutX (X := Unit) (fun _ => [(0, Sv t), (1, Iv (l2 : Nat)), (4, Iv l1), (5, Iv l1), (24, .bool (decide (l2 < t.length ∧ t.getD l2 0 = 44)))]) (fun _ => []) ?_ (fun _ => ?_)
  · refine .go ?_; repeat constructor
    refine EL.move rfl rfl rfl ?_
    refine EL.move rfl rfl rfl ?_
    refine EL.lenS rfl rfl rfl rfl rfl ?_
    refine EL.lss rfl rfl rfl rfl ?_
    refine EL.move rfl rfl rfl ?_
    first | refine EL.splitD (d := 19) rfl (fun hp19 => ?_) (fun hp19 => ?_) | refine EL.splitN (d := 19) rfl (fun hp19 => ?_) (fun hp19 => ?_) | refine EL.splitB (d := 19) rfl (fun hp19 => ?_) (fun hp19 => ?_)
    · refine EL.move rfl rfl rfl ?_
      refine EL.move rfl rfl rfl ?_
      refine EL.indexSN rfl rfl rfl rfl rfl rfl (by omega) ?_
      refine EL.eqlI rfl rfl rfl rfl ?_
      refine EL.pickT rfl rfl rfl rfl ?_
      exact EL.endX () ⟨rfl, rfl, rfl, rfl, getA rfl (congrArg Value.bool (by rw [Bool.eq_iff_iff]; simp only [decide_eq_true_eq, ← h44]; first | omega | (simp only [Bool.false_eq_true, false_iff]; omega))), trivial⟩ (.i (by repeat constructor))
    · refine EL.pass rfl rfl rfl ?_
      refine EL.pass rfl rfl rfl ?_
      refine EL.pass rfl rfl rfl ?_
      refine EL.pass rfl rfl rfl ?_
      refine EL.pickF rfl rfl rfl rfl ?_
      exact EL.endX () ⟨rfl, rfl, rfl, rfl, getA rfl (congrArg Value.bool (by rw [Bool.eq_iff_iff]; simp only [decide_eq_true_eq, ← h44]; first | omega | (simp only [Bool.false_eq_true, false_iff]; omega))), trivial⟩ (.i (by repeat constructor))
  obtain ⟨h, hh⟩ : ∃ h, h = (if l2 < t.length ∧ t.getD l2 0 = 44 then numM t (l2 + 1) else (l1, l2)) := ⟨_, rfl⟩
  rw [← hh] at hiv
  have hle : -1 ≤ h.1 ∧ h.1 ≤ 256 ∧ h.2 ≤ t.length := by
    rw [hh]
    split
    · have := numM_le t (l2 + 1) (by omega); omega
    · omega
  refine ES.cutC (X := Unit) (fun _ => [(0, Sv t), (1, Iv (h.2 : Nat)), (4, Iv l1), (5, Iv h.1)]) (fun _ => []) ?_ (fun _ => ?_)
  · refine ES.condD rfl (fun hc => ?_) (fun hc => ?_)
    · rw [if_pos hc] at hh
      subst hh
      have hnc2 := number_c t (l2 + 1) (by omega) ht
      refine .go ?_; repeat constructor
      refine EL.move rfl rfl rfl ?_
      refine EL.move rfl rfl rfl ?_
      refine EL.add1 rfl rfl rfl rfl (by omega) ?_
      refine EL.callP rfl rfl rfl ent112 rfl hnc2 ?_
      refine EL.move rfl rfl rfl ?_
      refine EL.extract rfl rfl rfl rfl ?_
      refine EL.extract rfl rfl rfl rfl ?_
      refine EL.assign rfl rfl rfl ?_
      refine EL.assign rfl rfl rfl ?_
      refine .go ?_; repeat constructor
      exact PX.cutX () ⟨rfl, rfl, rfl, rfl, trivial⟩ (.i (by repeat constructor))
    · rw [if_neg hc] at hh
      subst hh
      refine .go ?_; repeat constructor
      exact PX.cutX () ⟨rfl, rfl, rfl, rfl, trivial⟩ (.i (by repeat constructor))
  obtain ⟨h1, h2⟩ := h
  dsimp only at hiv hle ⊢
  refine .go ?_; repeat constructor
  refine EL.cutX (X := Unit) (fun _ => [(0, Sv t), (1, Iv (h2 : Nat)), (4, Iv l1), (5, Iv h1), (50, .bool (decide (l1 < 0 ∨ 255 < l1 ∨ 255 < h1 ∨ (0 ≤ h1 ∧ h1 < l1))))]) (fun _ => []) ?_ (fun _ => ?_)
  · refine .go ?_; repeat constructor
    refine EL.move rfl rfl rfl ?_
    refine EL.lss rfl rfl rfl rfl ?_
    refine EL.move rfl rfl rfl ?_
    first | refine EL.splitD (d := 34) rfl (fun hp34 => ?_) (fun hp34 => ?_) | refine EL.splitN (d := 34) rfl (fun hp34 => ?_) (fun hp34 => ?_) | refine EL.splitB (d := 34) rfl (fun hp34 => ?_) (fun hp34 => ?_)
    · refine EL.pass rfl rfl rfl ?_
      refine EL.pass rfl rfl rfl ?_
      refine EL.pickT rfl rfl rfl rfl ?_
      refine EL.move rfl rfl rfl ?_
      refine EL.pass rfl rfl rfl ?_
      refine EL.pass rfl rfl rfl ?_
      refine EL.pickT rfl rfl rfl rfl ?_
      refine EL.move rfl rfl rfl ?_
      refine EL.pass rfl rfl rfl ?_
      refine EL.pass rfl rfl rfl ?_
      refine EL.pass rfl rfl rfl ?_
      refine EL.pass rfl rfl rfl ?_
      refine EL.pass rfl rfl rfl ?_
      refine EL.pass rfl rfl rfl ?_
      refine EL.pass rfl rfl rfl ?_
      refine EL.pickT rfl rfl rfl rfl ?_
      exact EL.endX () ⟨rfl, rfl, rfl, rfl, getA rfl (congrArg Value.bool (by rw [Bool.eq_iff_iff]; simp only [decide_eq_true_eq, true_iff, Bool.false_eq_true, false_iff]; omega)), trivial⟩ (.i (by repeat constructor))
    · refine EL.move rfl rfl rfl ?_
      refine EL.gtr rfl rfl rfl rfl ?_
      refine EL.pickF rfl rfl rfl rfl ?_
      refine EL.move rfl rfl rfl ?_
      first | refine EL.splitD (d := 38) rfl (fun hp38 => ?_) (fun hp38 => ?_) | refine EL.splitN (d := 38) rfl (fun hp38 => ?_) (fun hp38 => ?_) | refine EL.splitB (d := 38) rfl (fun hp38 => ?_) (fun hp38 => ?_)
      · refine EL.pass rfl rfl rfl ?_
        refine EL.pass rfl rfl rfl ?_
        refine EL.pickT rfl rfl rfl rfl ?_
        refine EL.move rfl rfl rfl ?_
        refine EL.pass rfl rfl rfl ?_
        refine EL.pass rfl rfl rfl ?_
        refine EL.pass rfl rfl rfl ?_
        refine EL.pass rfl rfl rfl ?_
        refine EL.pass rfl rfl rfl ?_
        refine EL.pass rfl rfl rfl ?_
        refine EL.pass rfl rfl rfl ?_
        refine EL.pickT rfl rfl rfl rfl ?_
        exact EL.endX () ⟨rfl, rfl, rfl, rfl, getA rfl (congrArg Value.bool (by rw [Bool.eq_iff_iff]; simp only [decide_eq_true_eq, true_iff, Bool.false_eq_true, false_iff]; omega)), trivial⟩ (.i (by repeat constructor))
      · refine EL.move rfl rfl rfl ?_
        refine EL.gtr rfl rfl rfl rfl ?_
        refine EL.pickF rfl rfl rfl rfl ?_
        refine EL.move rfl rfl rfl ?_
        first | refine EL.splitD (d := 42) rfl (fun hp42 => ?_) (fun hp42 => ?_) | refine EL.splitN (d := 42) rfl (fun hp42 => ?_) (fun hp42 => ?_) | refine EL.splitB (d := 42) rfl (fun hp42 => ?_) (fun hp42 => ?_)
        · refine EL.pass rfl rfl rfl ?_
          refine EL.pass rfl rfl rfl ?_
          refine EL.pass rfl rfl rfl ?_
          refine EL.pass rfl rfl rfl ?_
          refine EL.pass rfl rfl rfl ?_
          refine EL.pass rfl rfl rfl ?_
          refine EL.pass rfl rfl rfl ?_
          refine EL.pickT rfl rfl rfl rfl ?_
          exact EL.endX () ⟨rfl, rfl, rfl, rfl, getA rfl (congrArg Value.bool (by rw [Bool.eq_iff_iff]; simp only [decide_eq_true_eq, true_iff, Bool.false_eq_true, false_iff]; omega)), trivial⟩ (.i (by repeat constructor))
        · refine EL.move rfl rfl rfl ?_
          refine EL.geq rfl rfl rfl rfl ?_
          refine EL.move rfl rfl rfl ?_
          first | refine EL.splitD (d := 45) rfl (fun hp45 => ?_) (fun hp45 => ?_) | refine EL.splitN (d := 45) rfl (fun hp45 => ?_) (fun hp45 => ?_) | refine EL.splitB (d := 45) rfl (fun hp45 => ?_) (fun hp45 => ?_)
          · refine EL.move rfl rfl rfl ?_
            refine EL.move rfl rfl rfl ?_
            refine EL.lss rfl rfl rfl rfl ?_
            refine EL.pickT rfl rfl rfl rfl ?_
            refine EL.pickF rfl rfl rfl rfl ?_
            exact EL.endX () ⟨rfl, rfl, rfl, rfl, getA rfl (congrArg Value.bool (by rw [Bool.eq_iff_iff]; simp only [decide_eq_true_eq, true_iff, Bool.false_eq_true, false_iff]; omega)), trivial⟩ (.i (by repeat constructor))
          · refine EL.pass rfl rfl rfl ?_
            refine EL.pass rfl rfl rfl ?_
            refine EL.pass rfl rfl rfl ?_
            refine EL.pickF rfl rfl rfl rfl ?_
            refine EL.pickF rfl rfl rfl rfl ?_
            exact EL.endX () ⟨rfl, rfl, rfl, rfl, getA rfl (congrArg Value.bool (by rw [Bool.eq_iff_iff]; simp only [decide_eq_true_eq, true_iff, Bool.false_eq_true, false_iff]; omega)), trivial⟩ (.i (by repeat constructor))
  refine ES.condD rfl (fun hc => ?_) (fun hc => ?_)
  · rw [if_pos hc] at hiv
    rw [hiv]
    refine .go ?_; repeat constructor
    refine EL.assign rfl rfl rfl ?_
    refine EL.assign rfl rfl rfl ?_
    refine EL.assign rfl rfl rfl ?_
    refine EL.assign rfl rfl rfl ?_
    refine .go ?_; repeat constructor
    exact PX.ret rfl Try.results107 (.cons (.tmp rfl) (.cons (.tmp rfl) (.cons (.tmp rfl) (.cons (.tmp rfl) .nil)))) (fun w hs => ⟨(), rfl, hs.ent (.i (by repeat constructor))⟩)
  rw [if_neg hc] at hiv
  refine .go ?_; repeat constructor
  refine EL.cutX (X := Unit) (fun _ => [(0, Sv t), (1, Iv (h2 : Nat)), (4, Iv l1), (5, Iv h1), (63, .bool (decide (t.length < h2 + 2 ∨ (t.drop h2).take 2 ≠ [92, 125])))]) (fun _ => []) ?_ (fun _ => ?_)
  · refine .go ?_; repeat constructor
    refine EL.move rfl rfl rfl ?_
    refine EL.addN (n := 2) rfl rfl rfl rfl rfl (by omega) ?_
    refine EL.move rfl rfl rfl ?_
    refine EL.lenS rfl rfl rfl rfl rfl ?_
    refine EL.gtr rfl rfl rfl rfl ?_
    refine EL.move rfl rfl rfl ?_
    first | refine EL.splitD (d := 56) rfl (fun hp56 => ?_) (fun hp56 => ?_) | refine EL.splitN (d := 56) rfl (fun hp56 => ?_) (fun hp56 => ?_) | refine EL.splitB (d := 56) rfl (fun hp56 => ?_) (fun hp56 => ?_)
    · refine EL.pass rfl rfl rfl ?_
      refine EL.pass rfl rfl rfl ?_
      refine EL.pass rfl rfl rfl ?_
      refine EL.pass rfl rfl rfl ?_
      refine EL.pass rfl rfl rfl ?_
      refine EL.pass rfl rfl rfl ?_
      refine EL.pickT rfl rfl rfl rfl ?_
      exact EL.endX () ⟨rfl, rfl, rfl, rfl, getA rfl (congrArg Value.bool (by rw [Bool.eq_iff_iff]; simp only [decide_eq_true_eq, true_iff, Bool.not_eq_true', decide_eq_false_iff_not]; first | exact .inl (by omega) | exact ⟨fun hx => .inr (by rw [show h2 + 2 - h2 = 2 by omega] at hx; exact hx), fun hx => hx.elim (fun h => absurd h (by omega)) (fun h => by rw [show h2 + 2 - h2 = 2 by omega]; exact h)⟩)), trivial⟩ (.i (by repeat constructor))
    · refine EL.move rfl rfl rfl ?_
      refine EL.move rfl rfl rfl ?_
      refine EL.move rfl rfl rfl ?_
      refine EL.addN (n := 2) rfl rfl rfl rfl rfl (by omega) ?_
      refine EL.sliceS rfl rfl rfl rfl rfl ⟨_, rfl⟩ ⟨_, rfl⟩ (by omega) (by omega) ?_
      refine EL.neqS rfl rfl rfl rfl ?_
      refine EL.pickF rfl rfl rfl rfl ?_
      exact EL.endX () ⟨rfl, rfl, rfl, rfl, getA rfl (congrArg Value.bool (by rw [Bool.eq_iff_iff]; simp only [decide_eq_true_eq, true_iff, Bool.not_eq_true', decide_eq_false_iff_not]; first | exact .inl (by omega) | exact ⟨fun hx => .inr (by rw [show h2 + 2 - h2 = 2 by omega] at hx; exact hx), fun hx => hx.elim (fun h => absurd h (by omega)) (fun h => by rw [show h2 + 2 - h2 = 2 by omega]; exact h)⟩)), trivial⟩ (.i (by repeat constructor))
  refine ES.condD rfl (fun hc2 => ?_) (fun hc2 => ?_)
  · rw [if_pos hc2] at hiv
    rw [hiv]
    refine .go ?_; repeat constructor
    refine EL.assign rfl rfl rfl ?_
    refine EL.assign rfl rfl rfl ?_
    refine EL.assign rfl rfl rfl ?_
    refine EL.assign rfl rfl rfl ?_
    refine .go ?_; repeat constructor
    exact PX.ret rfl Try.results107 (.cons (.tmp rfl) (.cons (.tmp rfl) (.cons (.tmp rfl) (.cons (.tmp rfl) .nil)))) (fun w hs => ⟨(), rfl, hs.ent (.i (by repeat constructor))⟩)
  · rw [if_neg hc2] at hiv
    rw [hiv]
    have hl1 : ((l1.toNat : Nat) : Int) = l1 := by omega
    refine .go ?_; repeat constructor
    refine EL.move rfl rfl rfl ?_
    refine EL.move rfl rfl rfl ?_
    refine EL.move rfl rfl rfl ?_
    refine EL.addN (n := 2) rfl rfl rfl rfl rfl (by omega) ?_
    refine EL.assign rfl rfl rfl ?_
    refine EL.assign rfl rfl rfl ?_
    refine EL.assign rfl rfl rfl ?_
    refine EL.assign rfl rfl rfl ?_
    refine .go ?_; repeat constructor
    refine PX.ret rfl Try.results107 (.cons (.tmp rfl) (.cons (.tmp rfl) (.cons (.tmp rfl) (.cons (.tmp rfl) .nil)))) (fun w hs => ⟨(), ?_, hs.ent (.i (by repeat constructor))⟩)
    simp only [ivV, hl1]
    rfl
theorem alnum_c (b : UInt8) (w : World) : Pure Try.prog 108 #[Uv b] (fun _ : Unit => .bool (isAln b)) (fun _ => []) w := by
  have hd := isDig_int b
  refine calls_of_ES TB Try.func108 rfl _ Try.ntmps108 rfl (Sat.start w) ?_
  refine .go ?_; repeat constructor
  refine EL.assign rfl rfl rfl ?_
  refine .go ?_; repeat constructor
  refine EL.cutX (X := Unit) (fun _ => [(2, .bool (isAln b))]) (fun _ => []) ?_ (fun _ => ?_)
  · refine .go ?_; repeat constructor
    refine EL.move rfl rfl rfl ?_
    refine EL.geq rfl rfl rfl rfl ?_
    refine EL.move rfl rfl rfl ?_
    first | refine EL.splitD (d := 5) rfl (fun hp5 => ?_) (fun hp5 => ?_) | refine EL.splitN (d := 5) rfl (fun hp5 => ?_) (fun hp5 => ?_) | refine EL.splitB (d := 5) rfl (fun hp5 => ?_) (fun hp5 => ?_)
    · refine EL.move rfl rfl rfl ?_
      refine EL.leq rfl rfl rfl rfl ?_
      refine EL.pickT rfl rfl rfl rfl ?_
      refine EL.move rfl rfl rfl ?_
      first | refine EL.splitD (d := 9) rfl (fun hp9 => ?_) (fun hp9 => ?_) | refine EL.splitN (d := 9) rfl (fun hp9 => ?_) (fun hp9 => ?_) | refine EL.splitB (d := 9) rfl (fun hp9 => ?_) (fun hp9 => ?_)
      · refine EL.pass rfl rfl rfl ?_
        refine EL.pass rfl rfl rfl ?_
        refine EL.pass rfl rfl rfl ?_
        refine EL.pass rfl rfl rfl ?_
        refine EL.pass rfl rfl rfl ?_
        refine EL.pass rfl rfl rfl ?_
        refine EL.pass rfl rfl rfl ?_
        refine EL.pass rfl rfl rfl ?_
        refine EL.pickT rfl rfl rfl rfl ?_
        refine EL.assign rfl rfl rfl ?_
        exact EL.endX () ⟨getA rfl (congrArg Value.bool (by unfold isAln; rw [hd, Bool.eq_iff_iff]; simp only [decide_eq_true_eq, true_iff, Bool.false_eq_true, false_iff, Bool.or_eq_true, Bool.and_eq_true, not_or, not_and]; omega)), trivial⟩ (.i (by repeat constructor))
      · refine EL.move rfl rfl rfl ?_
        refine EL.orU8 32 rfl rfl rfl rfl rfl ?_
        refine EL.geq rfl rfl rfl rfl ?_
        refine EL.move rfl rfl rfl ?_
        first | refine EL.splitD (d := 13) rfl (fun hp13 => ?_) (fun hp13 => ?_) | refine EL.splitN (d := 13) rfl (fun hp13 => ?_) (fun hp13 => ?_) | refine EL.splitB (d := 13) rfl (fun hp13 => ?_) (fun hp13 => ?_)
        · refine EL.move rfl rfl rfl ?_
          refine EL.orU8 32 rfl rfl rfl rfl rfl ?_
          refine EL.leq rfl rfl rfl rfl ?_
          refine EL.pickT rfl rfl rfl rfl ?_
          refine EL.pickF rfl rfl rfl rfl ?_
          refine EL.assign rfl rfl rfl ?_
          exact EL.endX () ⟨getA rfl (congrArg Value.bool (by unfold isAln; rw [hd, Bool.eq_iff_iff]; simp only [decide_eq_true_eq, true_iff, Bool.false_eq_true, false_iff, Bool.or_eq_true, Bool.and_eq_true, not_or, not_and]; omega)), trivial⟩ (.i (by repeat constructor))
        · refine EL.pass rfl rfl rfl ?_
          refine EL.pass rfl rfl rfl ?_
          refine EL.pass rfl rfl rfl ?_
          refine EL.pickF rfl rfl rfl rfl ?_
          refine EL.pickF rfl rfl rfl rfl ?_
          refine EL.assign rfl rfl rfl ?_
          exact EL.endX () ⟨getA rfl (congrArg Value.bool (by unfold isAln; rw [hd, Bool.eq_iff_iff]; simp only [decide_eq_true_eq, true_iff, Bool.false_eq_true, false_iff, Bool.or_eq_true, Bool.and_eq_true, not_or, not_and]; omega)), trivial⟩ (.i (by repeat constructor))
    · refine EL.pass rfl rfl rfl ?_
      refine EL.pass rfl rfl rfl ?_
      refine EL.pickF rfl rfl rfl rfl ?_
      refine EL.move rfl rfl rfl ?_
      refine EL.move rfl rfl rfl ?_
      refine EL.orU8 32 rfl rfl rfl rfl rfl ?_
      refine EL.geq rfl rfl rfl rfl ?_
      refine EL.move rfl rfl rfl ?_
      first | refine EL.splitD (d := 13) rfl (fun hp13 => ?_) (fun hp13 => ?_) | refine EL.splitN (d := 13) rfl (fun hp13 => ?_) (fun hp13 => ?_) | refine EL.splitB (d := 13) rfl (fun hp13 => ?_) (fun hp13 => ?_)
      · refine EL.move rfl rfl rfl ?_
        refine EL.orU8 32 rfl rfl rfl rfl rfl ?_
        refine EL.leq rfl rfl rfl rfl ?_
        refine EL.pickT rfl rfl rfl rfl ?_
        refine EL.pickF rfl rfl rfl rfl ?_
        refine EL.assign rfl rfl rfl ?_
        exact EL.endX () ⟨getA rfl (congrArg Value.bool (by unfold isAln; rw [hd, Bool.eq_iff_iff]; simp only [decide_eq_true_eq, true_iff, Bool.false_eq_true, false_iff, Bool.or_eq_true, Bool.and_eq_true, not_or, not_and]; omega)), trivial⟩ (.i (by repeat constructor))
      · refine EL.pass rfl rfl rfl ?_
        refine EL.pass rfl rfl rfl ?_
        refine EL.pass rfl rfl rfl ?_
        refine EL.pickF rfl rfl rfl rfl ?_
        refine EL.pickF rfl rfl rfl rfl ?_
        refine EL.assign rfl rfl rfl ?_
        exact EL.endX () ⟨getA rfl (congrArg Value.bool (by unfold isAln; rw [hd, Bool.eq_iff_iff]; simp only [decide_eq_true_eq, true_iff, Bool.false_eq_true, false_iff, Bool.or_eq_true, Bool.and_eq_true, not_or, not_and]; omega)), trivial⟩ (.i (by repeat constructor))
  refine .go ?_; repeat constructor
  exact PX.ret rfl Try.results108 (.cons (.tmp rfl) .nil) (fun w hs => ⟨(), rfl, hs.ent (.i (by repeat constructor))⟩)
def tokCells (k : Tok) : Array Value := #[Iv (k.kind : Nat), Iv (k.at_ : Nat), Wv k.set.a, Wv k.set.b, Wv k.set.c, Wv k.set.d, Iv k.lo, Iv k.hi, Iv k.e]
abbrev tokV (k : Tok) : Value := .agg (tokCells k)
theorem bad_c (a : Nat) (e : Int) (w : World) : Pure Try.prog 100 #[Iv (a : Nat), Iv e] (fun _ : Unit => tokV (badT a e)) (fun _ => []) w := by
  refine calls_of_ES TB Try.func100 rfl _ Try.ntmps100 rfl (Sat.start w) ?_
  refine .go ?_; repeat constructor
  (refine EL.alloc rfl rfl rfl ?_; intro g4)
  refine .go ?_; repeat constructor
  refine EL.move rfl rfl rfl ?_
  refine EL.move rfl rfl rfl ?_
  refine EL.buildS (tokCells (badT a e)) rfl rfl rfl rfl rfl rfl rfl ?_
  (apply EL.storeAll; exact rfl; exact rfl; exact rfl; exact rfl; exact rfl; (case p => repeat constructor); exact rfl; (case h1 => exact (by first | rfl | exact all1 rfl | (intro u hu; simp only [List.mem_cons, List.not_mem_nil, or_false] at hu; rcases hu with rfl | rfl | rfl | rfl <;> rfl) | (intro u hu; simp at hu; rcases hu with rfl | rfl | rfl | rfl <;> rfl) | (intro u hu; simp at hu; rcases hu with rfl | rfl | rfl <;> rfl) | (intro u hu; simp at hu; rcases hu with rfl | rfl <;> rfl) | (intro u hu; simp at hu; obtain ⟨_, _, rfl⟩ := hu; rfl))))
  refine .go ?_; repeat constructor
  exact PX.ret rfl Try.results100 (.cons (.blkA rfl rfl rfl (by repeat constructor) rfl) .nil) (fun w hs => ⟨(), rfl, hs.ent (.i (by repeat constructor))⟩)
theorem one_c (a : Nat) (b : UInt8) (w : World) : Pure Try.prog 101 #[Iv (a : Nat), Uv b] (fun _ : Unit => tokV (oneT a b)) (fun _ => []) w := by
  refine calls_of_ES TB Try.func101 rfl _ Try.ntmps101 rfl (Sat.start w) ?_
  refine .go ?_; repeat constructor
  (refine EL.alloc rfl rfl rfl ?_; intro g4)
  refine .go ?_; repeat constructor
  refine EL.move rfl rfl rfl ?_
  refine EL.move rfl rfl rfl ?_
  (refine EL.buildSlice1 rfl rfl rfl rfl rfl rfl rfl rfl rfl rfl ?_; intro b7)
  refine EL.bytesS (bs := [b]) rfl rfl rfl rfl rfl rfl rfl rfl rfl (by repeat constructor) ?_
  refine EL.callP rfl rfl rfl ent111 rfl (of_c [b] (by simp)) ?_
  refine EL.buildS (tokCells (oneT a b)) rfl rfl rfl rfl rfl rfl rfl ?_
  (apply EL.storeAll; exact rfl; exact rfl; exact rfl; exact rfl; exact rfl; (case p => repeat constructor); exact rfl; (case h1 => exact (by first | rfl | exact all1 rfl | (intro u hu; simp only [List.mem_cons, List.not_mem_nil, or_false] at hu; rcases hu with rfl | rfl | rfl | rfl <;> rfl) | (intro u hu; simp at hu; rcases hu with rfl | rfl | rfl | rfl <;> rfl) | (intro u hu; simp at hu; rcases hu with rfl | rfl | rfl <;> rfl) | (intro u hu; simp at hu; rcases hu with rfl | rfl <;> rfl) | (intro u hu; simp at hu; obtain ⟨_, _, rfl⟩ := hu; rfl))))
  refine .go ?_; repeat constructor
  exact PX.ret rfl Try.results101 (.cons (.blkA rfl rfl rfl (by repeat constructor) rfl) .nil) (fun w hs => ⟨(), rfl, hs.ent (.i (by repeat constructor))⟩)
end Go.Proofs.Ytblpgpgbnlhjlaa
