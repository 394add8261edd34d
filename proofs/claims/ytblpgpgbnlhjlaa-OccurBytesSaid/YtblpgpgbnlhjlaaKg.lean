/- Layer 12 (occur): the law OccurBytes returns true at every input. -/
import Derived.Test.YtblpgpgbnlhjlaaKf
import Derived.Test.YtblpgpgbnlhjlaaSlaw
namespace Go.Proofs.Ytblpgpgbnlhjlaa
open Go.ChangeShapes Go.WideShapes Go.ChangeAt
open Go Go.RowKit Sl
set_option maxRecDepth 100000
set_option maxHeartbeats 8000000
set_option linter.unusedVariables false
set_option linter.unusedSimpArgs false
attribute [local irreducible] ES EL PX wps

theorem letters (s : List UInt8) (hs : s.length ≤ 100) (c : UInt8) (h : okB c.toNat = true) : ∃ mr : Nat → MR, (∀ p : Nat, p ≤ s.length → ∃ F, setM F [c] s (p : Nat) = some (mr p)) ∧ McOk mr s.length ∧ (∀ p, (mr p).e = 0) ∧ occL mr s.length = (plc s c 0).map fun q : Nat => ([((q : Int), ((q + 1 : Nat) : Int))], (0 : Int)) := by
  have hst : ∀ p, p ≤ s.length → ∃ m : MR, (∃ F, setM F [c] s (p : Nat) = some m) ∧ m.e = 0 ∧ ((∃ q, p ≤ q ∧ q < s.length ∧ s.getD q 0 = c ∧ (∀ k, p ≤ k → k < q → s.getD k 0 ≠ c) ∧ m.ok = true ∧ m.spans = [((q : Int), ((q + 1 : Nat) : Int))]) ∨ ((∀ k, p ≤ k → k < s.length → s.getD k 0 ≠ c) ∧ m.ok = false)) := fun p hp => by
    by_cases hq : ∃ q, p ≤ q ∧ q < s.length ∧ s.getD q 0 = c
    · have hmin : ∃ q, p ≤ q ∧ q < s.length ∧ s.getD q 0 = c ∧ ∀ k, p ≤ k → k < q → s.getD k 0 ≠ c := by
        have hP : ∀ n q, q - p ≤ n → p ≤ q → q < s.length → s.getD q 0 = c → ∃ q, p ≤ q ∧ q < s.length ∧ s.getD q 0 = c ∧ ∀ k, p ≤ k → k < q → s.getD k 0 ≠ c := by
          intro n
          induction n with
          | zero => intro q h1 h2 h3 h4; exact ⟨q, h2, h3, h4, fun k h5 h6 => by omega⟩
          | succ n ih =>
            intro q h1 h2 h3 h4
            by_cases hk : ∃ k, p ≤ k ∧ k < q ∧ s.getD k 0 = c
            · obtain ⟨k, h5, h6, h7⟩ := hk
              exact ih k (by omega) h5 (by omega) h7
            · exact ⟨q, h2, h3, h4, fun k h5 h6 h7 => hk ⟨k, h5, h6, h7⟩⟩
        obtain ⟨q, h1, h2, h3⟩ := hq
        exact hP _ q (Nat.le_refl _) h1 h2 h3
      obtain ⟨q, h1, h2, h3, h4⟩ := hmin
      obtain ⟨F, m, e1, e2, e3, e4⟩ := one_some (by omega) h h1 h2 h3 h4
      exact ⟨m, ⟨F, e1⟩, e3, .inl ⟨q, h1, h2, h3, h4, e2, e4⟩⟩
    · have hno : ∀ k, p ≤ k → k < s.length → s.getD k 0 ≠ c := fun k h1 h2 h3 => hq ⟨k, h1, h2, h3⟩
      obtain ⟨F, m, e1, e2, e3, e4⟩ := one_none (by omega) h hp hno
      exact ⟨m, ⟨F, e1⟩, e3, .inr ⟨hno, e2⟩⟩
  obtain ⟨mr, h1, h2⟩ := choose_mr hst
  refine ⟨mr, fun p hp => (h1 p hp).1, ⟨fun p hp he hok => ?_⟩, fun p => ?_, ?_⟩
  · rcases (h1 p hp).2.2 with ⟨q, a1, a2, a3, a4, a5, a6⟩ | ⟨_, a2⟩
    · exact ⟨q, q + 1, [], a6, a1, by omega, by omega⟩
    · rw [a2] at hok; cases hok
  · by_cases hp : p ≤ s.length
    · exact (h1 p hp).2.1
    · rw [h2 p (by omega)]
  · exact occ_letter (fun p hp => ⟨(h1 p hp).2.1, (h1 p hp).2.2⟩) _ 0 _ (by omega)
theorem places (s : List UInt8) (hs : s.length ≤ 100) : ∃ mr : Nat → MR, (∀ p : Nat, p ≤ s.length → ∃ F, setM F [] s (p : Nat) = some (mr p)) ∧ McOk mr s.length ∧ (∀ p, (mr p).e = 0) ∧ occL mr s.length = (List.range' 0 (s.length + 1)).map fun q : Nat => ([((q : Int), (q : Int))], (0 : Int)) := by
  have hst : ∀ p, p ≤ s.length → ∃ m : MR, (∃ F, setM F [] s (p : Nat) = some m) ∧ m.ok = true ∧ m.e = 0 ∧ m.spans = [((p : Int), (p : Int))] := fun p hp => by
    obtain ⟨F, m, e1, e2, e3, e4⟩ := empty_at (s := s) (by omega) hp
    exact ⟨m, ⟨F, e1⟩, e2, e3, e4⟩
  obtain ⟨mr, h1, h2⟩ := choose_mr hst
  refine ⟨mr, fun p hp => (h1 p hp).1, ⟨fun p hp he hok => ⟨p, p, [], (h1 p hp).2.2.2, Nat.le_refl _, Nat.le_refl _, hp⟩⟩, fun p => ?_, ?_⟩
  · by_cases hp : p ≤ s.length
    · exact (h1 p hp).2.2.1
    · rw [h2 p (by omega)]
  · exact occ_empty (fun p hp => (h1 p hp).2) _ 0 _ (by omega) (by omega) (by omega)
theorem ok_text (b : UInt8) (h : ¬ (b.toNat < 48 ∨ (57 < b.toNat ∧ b.toNat < 65) ∨ (90 < b.toNat ∧ b.toNat < 97) ∨ (122 < b.toNat ∧ b.toNat < 128))) : okB b.toNat = true := by
  unfold okB
  simp only [Bool.or_eq_true, Bool.and_eq_true, decide_eq_true_eq]
  omega
theorem plc_le (s : List UInt8) (c : UInt8) (p : Nat) : (plc s c p).length ≤ s.length := by
  unfold plc
  refine Nat.le_trans (List.length_filter_le _ _) ?_
  rw [List.length_range']; omega
theorem plc_no {s : List UInt8} {c : UInt8} {q : Nat} (hq : q < s.length) (hc : s.getD q 0 ≠ c) : plc s c q = plc s c (q + 1) := by
  have := plc_skip (s := s) (c := c) 1 q (by omega) (fun k h1 h2 => by rw [show k = q by omega]; exact hc)
  exact this
theorem occurBytes_c (b : UInt8) (s0 : List UInt8) (w : World) (hG : GR w w.heap.size) : Pure Try.prog 10 #[Uv b, Sv s0] (fun _ : Unit => .bool true) (fun _ => []) w := by
  have hb := b.toNat_lt
  refine calls_of_ES TB Try.func10 rfl _ Try.ntmps10 rfl (Sat.start w) ?_
  refine .gr ?_; repeat constructor
  refine EL.assign rfl rfl rfl ?_
  refine .gr ?_; repeat constructor
  refine EL.callPw rfl rfl rfl ent27 rfl (fun w hs => awake12_c w (GR.sat hG hs)) ?_
  refine EL.not rfl rfl rfl ?_
  refine .gr ?_; repeat constructor
  refine ES.condF rfl ?_
  obtain ⟨n, hn⟩ : ∃ n, n = min s0.length 100 := ⟨_, rfl⟩
  obtain ⟨s, hs⟩ : ∃ s, s = s0.take n := ⟨_, rfl⟩
  have hsl : s.length ≤ 100 := by rw [hs, List.length_take]; omega
  have hcut : (s0.take n).drop 0 = s := by rw [hs, List.drop_zero]
  have hmin : Iv (min (s0.length : Int) 100) = Iv ((n : Nat) : Int) := congrArg Iv (by omega)
  refine .gr ?_; repeat constructor
  refine EL.move rfl rfl rfl ?_
  refine EL.move rfl rfl rfl ?_
  refine EL.lenS rfl rfl rfl rfl rfl ?_
  (refine EL.ofRV (RV.minI rfl rfl) rfl rfl rfl (by intro c h; cases h) ?_; refine EL.rew (d := 17) (v' := Iv ((n : Nat) : Int)) rfl hmin ?_)
  (refine EL.sliceS (m := 0) (n := n) rfl rfl rfl rfl rfl rfl ⟨_, rfl⟩ (Nat.zero_le _) (by omega) ?_; refine EL.rew (d := 18) (v' := Sv s) rfl (congrArg Sv hcut) ?_)
  refine EL.assign rfl rfl rfl ?_
  refine .gr ?_; repeat constructor
  refine .gr ?_; repeat constructor
  refine EL.move rfl rfl rfl ?_
  (refine EL.buildSlice1 rfl rfl rfl rfl rfl rfl rfl rfl rfl rfl ?_; intro b20)
  refine EL.bytesS (bs := [b]) rfl rfl rfl rfl rfl rfl rfl rfl rfl (by repeat constructor) ?_
  refine EL.assign rfl rfl rfl ?_
  refine .gr ?_; repeat constructor
  refine EL.cutX (X := Unit) (fun _ => [(1, Sv s), (5, Sv [b]), (47, .bool (decide (b.toNat < 48 ∨ (57 < b.toNat ∧ b.toNat < 65) ∨ (90 < b.toNat ∧ b.toNat < 97) ∨ (122 < b.toNat ∧ b.toNat < 128))))]) (fun _ => []) ?_ (fun _ => ?_)
  · refine .gr ?_; repeat constructor
    refine EL.move rfl rfl rfl ?_
    refine EL.lss rfl rfl rfl rfl ?_
    refine EL.move rfl rfl rfl ?_
    first | refine EL.splitD (d := 24) rfl (fun hp24 => ?_) (fun hp24 => ?_) | refine EL.splitN (d := 24) rfl (fun hp24 => ?_) (fun hp24 => ?_) | refine EL.splitB (d := 24) rfl (fun hp24 => ?_) (fun hp24 => ?_)
    · refine EL.pass rfl rfl rfl ?_
      refine EL.pass rfl rfl rfl ?_
      refine EL.pass rfl rfl rfl ?_
      refine EL.pass rfl rfl rfl ?_
      refine EL.pass rfl rfl rfl ?_
      refine EL.pass rfl rfl rfl ?_
      refine EL.pickT rfl rfl rfl rfl ?_
      refine EL.move rfl rfl rfl ?_
      refine EL.pass rfl rfl rfl ?_
      refine EL.pass rfl rfl rfl ?_
      refine EL.pass rfl rfl rfl ?_
      refine EL.pass rfl rfl rfl ?_
      refine EL.pass rfl rfl rfl ?_
      refine EL.pass rfl rfl rfl ?_
      refine EL.pickT rfl rfl rfl rfl ?_
      refine EL.move rfl rfl rfl ?_
      refine EL.pass rfl rfl rfl ?_
      refine EL.pass rfl rfl rfl ?_
      refine EL.pass rfl rfl rfl ?_
      refine EL.pass rfl rfl rfl ?_
      refine EL.pass rfl rfl rfl ?_
      refine EL.pass rfl rfl rfl ?_
      refine EL.pickT rfl rfl rfl rfl ?_
      exact EL.endX () ⟨rfl, rfl, getA rfl (congrArg Value.bool (by rw [Bool.eq_iff_iff]; simp only [decide_eq_true_eq, true_iff, Bool.false_eq_true, false_iff]; omega)), trivial⟩ (.i (by repeat constructor))
    · refine EL.move rfl rfl rfl ?_
      refine EL.gtr rfl rfl rfl rfl ?_
      refine EL.move rfl rfl rfl ?_
      first | refine EL.splitD (d := 27) rfl (fun hp27 => ?_) (fun hp27 => ?_) | refine EL.splitN (d := 27) rfl (fun hp27 => ?_) (fun hp27 => ?_) | refine EL.splitB (d := 27) rfl (fun hp27 => ?_) (fun hp27 => ?_)
      · refine EL.move rfl rfl rfl ?_
        refine EL.lss rfl rfl rfl rfl ?_
        refine EL.pickT rfl rfl rfl rfl ?_
        refine EL.pickF rfl rfl rfl rfl ?_
        refine EL.move rfl rfl rfl ?_
        first | refine EL.splitD (d := 32) rfl (fun hp32 => ?_) (fun hp32 => ?_) | refine EL.splitN (d := 32) rfl (fun hp32 => ?_) (fun hp32 => ?_) | refine EL.splitB (d := 32) rfl (fun hp32 => ?_) (fun hp32 => ?_)
        · refine EL.pass rfl rfl rfl ?_
          refine EL.pass rfl rfl rfl ?_
          refine EL.pass rfl rfl rfl ?_
          refine EL.pass rfl rfl rfl ?_
          refine EL.pass rfl rfl rfl ?_
          refine EL.pass rfl rfl rfl ?_
          refine EL.pickT rfl rfl rfl rfl ?_
          refine EL.move rfl rfl rfl ?_
          refine EL.pass rfl rfl rfl ?_
          refine EL.pass rfl rfl rfl ?_
          refine EL.pass rfl rfl rfl ?_
          refine EL.pass rfl rfl rfl ?_
          refine EL.pass rfl rfl rfl ?_
          refine EL.pass rfl rfl rfl ?_
          refine EL.pickT rfl rfl rfl rfl ?_
          exact EL.endX () ⟨rfl, rfl, getA rfl (congrArg Value.bool (by rw [Bool.eq_iff_iff]; simp only [decide_eq_true_eq, true_iff, Bool.false_eq_true, false_iff]; omega)), trivial⟩ (.i (by repeat constructor))
        · refine EL.move rfl rfl rfl ?_
          refine EL.gtr rfl rfl rfl rfl ?_
          refine EL.move rfl rfl rfl ?_
          first | refine EL.splitD (d := 35) rfl (fun hp35 => ?_) (fun hp35 => ?_) | refine EL.splitN (d := 35) rfl (fun hp35 => ?_) (fun hp35 => ?_) | refine EL.splitB (d := 35) rfl (fun hp35 => ?_) (fun hp35 => ?_)
          · refine EL.move rfl rfl rfl ?_
            refine EL.lss rfl rfl rfl rfl ?_
            refine EL.pickT rfl rfl rfl rfl ?_
            refine EL.pickF rfl rfl rfl rfl ?_
            refine EL.move rfl rfl rfl ?_
            first | refine EL.splitD (d := 40) rfl (fun hp40 => ?_) (fun hp40 => ?_) | refine EL.splitN (d := 40) rfl (fun hp40 => ?_) (fun hp40 => ?_) | refine EL.splitB (d := 40) rfl (fun hp40 => ?_) (fun hp40 => ?_)
            · refine EL.pass rfl rfl rfl ?_
              refine EL.pass rfl rfl rfl ?_
              refine EL.pass rfl rfl rfl ?_
              refine EL.pass rfl rfl rfl ?_
              refine EL.pass rfl rfl rfl ?_
              refine EL.pass rfl rfl rfl ?_
              refine EL.pickT rfl rfl rfl rfl ?_
              exact EL.endX () ⟨rfl, rfl, getA rfl (congrArg Value.bool (by rw [Bool.eq_iff_iff]; simp only [decide_eq_true_eq, true_iff, Bool.false_eq_true, false_iff]; omega)), trivial⟩ (.i (by repeat constructor))
            · refine EL.move rfl rfl rfl ?_
              refine EL.gtr rfl rfl rfl rfl ?_
              refine EL.move rfl rfl rfl ?_
              first | refine EL.splitD (d := 43) rfl (fun hp43 => ?_) (fun hp43 => ?_) | refine EL.splitN (d := 43) rfl (fun hp43 => ?_) (fun hp43 => ?_) | refine EL.splitB (d := 43) rfl (fun hp43 => ?_) (fun hp43 => ?_)
              · refine EL.move rfl rfl rfl ?_
                refine EL.lss rfl rfl rfl rfl ?_
                refine EL.pickT rfl rfl rfl rfl ?_
                refine EL.pickF rfl rfl rfl rfl ?_
                exact EL.endX () ⟨rfl, rfl, getA rfl (congrArg Value.bool (by rw [Bool.eq_iff_iff]; simp only [decide_eq_true_eq, true_iff, Bool.false_eq_true, false_iff]; omega)), trivial⟩ (.i (by repeat constructor))
              · refine EL.pass rfl rfl rfl ?_
                refine EL.pass rfl rfl rfl ?_
                refine EL.pickF rfl rfl rfl rfl ?_
                refine EL.pickF rfl rfl rfl rfl ?_
                exact EL.endX () ⟨rfl, rfl, getA rfl (congrArg Value.bool (by rw [Bool.eq_iff_iff]; simp only [decide_eq_true_eq, true_iff, Bool.false_eq_true, false_iff]; omega)), trivial⟩ (.i (by repeat constructor))
          · refine EL.pass rfl rfl rfl ?_
            refine EL.pass rfl rfl rfl ?_
            refine EL.pickF rfl rfl rfl rfl ?_
            refine EL.pickF rfl rfl rfl rfl ?_
            refine EL.move rfl rfl rfl ?_
            refine EL.move rfl rfl rfl ?_
            refine EL.gtr rfl rfl rfl rfl ?_
            refine EL.move rfl rfl rfl ?_
            first | refine EL.splitD (d := 43) rfl (fun hp43 => ?_) (fun hp43 => ?_) | refine EL.splitN (d := 43) rfl (fun hp43 => ?_) (fun hp43 => ?_) | refine EL.splitB (d := 43) rfl (fun hp43 => ?_) (fun hp43 => ?_)
            · refine EL.move rfl rfl rfl ?_
              refine EL.lss rfl rfl rfl rfl ?_
              refine EL.pickT rfl rfl rfl rfl ?_
              refine EL.pickF rfl rfl rfl rfl ?_
              exact EL.endX () ⟨rfl, rfl, getA rfl (congrArg Value.bool (by rw [Bool.eq_iff_iff]; simp only [decide_eq_true_eq, true_iff, Bool.false_eq_true, false_iff]; omega)), trivial⟩ (.i (by repeat constructor))
            · refine EL.pass rfl rfl rfl ?_
              refine EL.pass rfl rfl rfl ?_
              refine EL.pickF rfl rfl rfl rfl ?_
              refine EL.pickF rfl rfl rfl rfl ?_
              exact EL.endX () ⟨rfl, rfl, getA rfl (congrArg Value.bool (by rw [Bool.eq_iff_iff]; simp only [decide_eq_true_eq, true_iff, Bool.false_eq_true, false_iff]; omega)), trivial⟩ (.i (by repeat constructor))
      · refine EL.pass rfl rfl rfl ?_
        refine EL.pass rfl rfl rfl ?_
        refine EL.pickF rfl rfl rfl rfl ?_
        refine EL.pickF rfl rfl rfl rfl ?_
        refine EL.move rfl rfl rfl ?_
        refine EL.move rfl rfl rfl ?_
        refine EL.gtr rfl rfl rfl rfl ?_
        refine EL.move rfl rfl rfl ?_
        first | refine EL.splitD (d := 35) rfl (fun hp35 => ?_) (fun hp35 => ?_) | refine EL.splitN (d := 35) rfl (fun hp35 => ?_) (fun hp35 => ?_) | refine EL.splitB (d := 35) rfl (fun hp35 => ?_) (fun hp35 => ?_)
        · refine EL.move rfl rfl rfl ?_
          refine EL.lss rfl rfl rfl rfl ?_
          refine EL.pickT rfl rfl rfl rfl ?_
          refine EL.pickF rfl rfl rfl rfl ?_
          refine EL.move rfl rfl rfl ?_
          first | refine EL.splitD (d := 40) rfl (fun hp40 => ?_) (fun hp40 => ?_) | refine EL.splitN (d := 40) rfl (fun hp40 => ?_) (fun hp40 => ?_) | refine EL.splitB (d := 40) rfl (fun hp40 => ?_) (fun hp40 => ?_)
          · refine EL.pass rfl rfl rfl ?_
            refine EL.pass rfl rfl rfl ?_
            refine EL.pass rfl rfl rfl ?_
            refine EL.pass rfl rfl rfl ?_
            refine EL.pass rfl rfl rfl ?_
            refine EL.pass rfl rfl rfl ?_
            refine EL.pickT rfl rfl rfl rfl ?_
            exact EL.endX () ⟨rfl, rfl, getA rfl (congrArg Value.bool (by rw [Bool.eq_iff_iff]; simp only [decide_eq_true_eq, true_iff, Bool.false_eq_true, false_iff]; omega)), trivial⟩ (.i (by repeat constructor))
          · refine EL.move rfl rfl rfl ?_
            refine EL.gtr rfl rfl rfl rfl ?_
            refine EL.move rfl rfl rfl ?_
            first | refine EL.splitD (d := 43) rfl (fun hp43 => ?_) (fun hp43 => ?_) | refine EL.splitN (d := 43) rfl (fun hp43 => ?_) (fun hp43 => ?_) | refine EL.splitB (d := 43) rfl (fun hp43 => ?_) (fun hp43 => ?_)
            · refine EL.move rfl rfl rfl ?_
              refine EL.lss rfl rfl rfl rfl ?_
              refine EL.pickT rfl rfl rfl rfl ?_
              refine EL.pickF rfl rfl rfl rfl ?_
              exact EL.endX () ⟨rfl, rfl, getA rfl (congrArg Value.bool (by rw [Bool.eq_iff_iff]; simp only [decide_eq_true_eq, true_iff, Bool.false_eq_true, false_iff]; omega)), trivial⟩ (.i (by repeat constructor))
            · refine EL.pass rfl rfl rfl ?_
              refine EL.pass rfl rfl rfl ?_
              refine EL.pickF rfl rfl rfl rfl ?_
              refine EL.pickF rfl rfl rfl rfl ?_
              exact EL.endX () ⟨rfl, rfl, getA rfl (congrArg Value.bool (by rw [Bool.eq_iff_iff]; simp only [decide_eq_true_eq, true_iff, Bool.false_eq_true, false_iff]; omega)), trivial⟩ (.i (by repeat constructor))
        · refine EL.pass rfl rfl rfl ?_
          refine EL.pass rfl rfl rfl ?_
          refine EL.pickF rfl rfl rfl rfl ?_
          refine EL.pickF rfl rfl rfl rfl ?_
          refine EL.move rfl rfl rfl ?_
          refine EL.move rfl rfl rfl ?_
          refine EL.gtr rfl rfl rfl rfl ?_
          refine EL.move rfl rfl rfl ?_
          first | refine EL.splitD (d := 43) rfl (fun hp43 => ?_) (fun hp43 => ?_) | refine EL.splitN (d := 43) rfl (fun hp43 => ?_) (fun hp43 => ?_) | refine EL.splitB (d := 43) rfl (fun hp43 => ?_) (fun hp43 => ?_)
          · refine EL.move rfl rfl rfl ?_
            refine EL.lss rfl rfl rfl rfl ?_
            refine EL.pickT rfl rfl rfl rfl ?_
            refine EL.pickF rfl rfl rfl rfl ?_
            exact EL.endX () ⟨rfl, rfl, getA rfl (congrArg Value.bool (by rw [Bool.eq_iff_iff]; simp only [decide_eq_true_eq, true_iff, Bool.false_eq_true, false_iff]; omega)), trivial⟩ (.i (by repeat constructor))
          · refine EL.pass rfl rfl rfl ?_
            refine EL.pass rfl rfl rfl ?_
            refine EL.pickF rfl rfl rfl rfl ?_
            refine EL.pickF rfl rfl rfl rfl ?_
            exact EL.endX () ⟨rfl, rfl, getA rfl (congrArg Value.bool (by rw [Bool.eq_iff_iff]; simp only [decide_eq_true_eq, true_iff, Bool.false_eq_true, false_iff]; omega)), trivial⟩ (.i (by repeat constructor))
  refine ES.cutC (X := { c : UInt8 // okB c.toNat = true }) (fun c => [(1, Sv s), (5, Sv [c.1])]) (fun _ => []) ?_ (fun ⟨c, hc⟩ => ?_)
  · refine ES.condD rfl (fun h => ?_) (fun h => ?_)
    · refine .gr ?_; repeat constructor
      refine EL.assign rfl rfl rfl ?_
      refine .gr ?_; repeat constructor
      exact PX.cutX ⟨120, by decide⟩ ⟨rfl, rfl, trivial⟩ (.i (by repeat constructor))
    · refine .gr ?_; repeat constructor
      exact PX.cutX ⟨b, ok_text b h⟩ ⟨rfl, rfl, trivial⟩ (.i (by repeat constructor))
  obtain ⟨S, ht, he, hbk, _, _⟩ := byte_tree c hc
  obtain ⟨mr, a1, a2, a3, a4⟩ := letters s hsl c hc
  obtain ⟨mq, b1, b2, b3, b4⟩ := places s hsl
  have hL := fun w hG => occList_c [c] s he (by simp) (by unfold meOf; exact hbk) (by omega) mr a1 a2 a3 (by rw [a4]; intro x hx; obtain ⟨q, _, rfl⟩ := List.mem_map.1 hx; rfl) 200 (by rw [a4, List.length_map]; have := plc_le s c 0; omega) w hG
  have hE := fun w hG => occList_c [] s (by decide +kernel) (by simp) (by decide +kernel) (by omega) mq b1 b2 b3 (by rw [b4]; intro x hx; obtain ⟨q, _, rfl⟩ := List.mem_map.1 hx; rfl) 200 (by rw [b4, List.length_map, List.length_range']; omega) w hG
  rw [a4] at hL
  rw [b4] at hE
  dsimp only at hL hE ⊢
  refine .gr ?_; repeat constructor
  refine EL.move rfl rfl rfl ?_
  refine EL.move rfl rfl rfl ?_
  (refine EL.callXw rfl rfl rfl ent28 rfl (fun w hs => hL w (GR.sat hG hs)) ?_; rintro ⟨⟨⟨ad1, cap1⟩, r1⟩, hr1⟩)
  refine EL.move rfl rfl rfl ?_
  refine EL.extract rfl rfl rfl rfl ?_
  refine EL.extract rfl rfl rfl rfl ?_
  refine EL.assign rfl rfl rfl ?_
  refine EL.assign rfl rfl rfl ?_
  refine .gr ?_; repeat constructor
  refine .gr ?_; repeat constructor
  refine EL.move rfl rfl rfl ?_
  (refine EL.callXw rfl rfl rfl ent28 rfl (fun w hs => hE w (GR.sat hG hs)) ?_; rintro ⟨⟨⟨ad2, cap2⟩, r2⟩, hr2⟩)
  refine EL.move rfl rfl rfl ?_
  refine EL.extract rfl rfl rfl rfl ?_
  refine EL.extract rfl rfl rfl rfl ?_
  refine EL.assign rfl rfl rfl ?_
  refine EL.assign rfl rfl rfl ?_
  refine .gr ?_; repeat constructor
  rw [List.map_map] at hr1 hr2
  dsimp only at hr1 hr2 ⊢
  have hl1 : r1.length = (plc s c 0).length := by have := congrArg List.length hr1; simpa using this
  have hl2 : r2.length = s.length + 1 := by have := congrArg List.length hr2; simpa using this
  refine .gr ?_; repeat constructor
  refine EL.move rfl rfl rfl ?_
  refine EL.neqI rfl rfl rfl rfl ?_
  refine EL.move rfl rfl rfl ?_
  refine EL.rew (d := 61) (v' := .bool false) rfl (by first | rfl | (decide) | (simp)) ?_
  refine EL.move rfl rfl rfl ?_
  refine EL.neqI rfl rfl rfl rfl ?_
  refine EL.pickF rfl rfl rfl rfl ?_
  refine EL.move rfl rfl rfl ?_
  refine EL.rew (d := 65) (v' := .bool false) rfl (by first | rfl | (decide) | (simp)) ?_
  refine EL.move rfl rfl rfl ?_
  refine EL.lenL rfl rfl rfl rfl rfl ?_
  refine EL.move rfl rfl rfl ?_
  refine EL.lenS rfl rfl rfl rfl rfl ?_
  refine EL.add1 rfl rfl rfl rfl (by omega) ?_
  refine EL.neqI rfl rfl rfl rfl ?_
  refine EL.pickF rfl rfl rfl rfl ?_
  refine .gr ?_; repeat constructor
  refine ES.condN rfl (fun h => absurd (by rw [hl2]) h) (fun _ => ?_)
  refine .gs ?_; repeat constructor
  refine ES.rebase (fun w1 hw1 => ?_)
  have o1 : Rd w1 w1.heap.size ad1 (r1.map lsV) := Rd.row (sz := 1) hw1 (by repeat constructor) (by decide)
  have o2 : Rd w1 w1.heap.size ad2 (r2.map lsV) := Rd.row (sz := 1) hw1 (by repeat constructor) (by decide)
  have i1 := rd_packM (rs := r1) hw1 (Mem.mem (by repeat constructor))
  have i2 := rd_packM (rs := r2) hw1 (Mem.mem (by repeat constructor))
  have hpl := plc_le s c 0
  refine .gr ?_; repeat constructor
  refine EL.assign rfl rfl rfl ?_
  refine .gr ?_; repeat constructor
  refine EL.assign rfl rfl rfl ?_
  refine .gr ?_; repeat constructor
  refine ES.loop (σ := Nat × Nat) (fun (i, k) => i ≤ s.length + 1 ∧ k ≤ (plc s c 0).length ∧ (plc s c 0).drop k = plc s c i) (fun (i, k) => [(1, Sv s), (5, Sv [c]), (6, .slice ad1 r1.length cap1), (8, .slice ad2 r2.length cap2), (10, Iv (k : Nat)), (11, Iv (i : Nat))]) (fun _ => []) (fun (i, k) => s.length + 1 - i) (0, 0) ⟨Nat.zero_le _, Nat.zero_le _, rfl⟩ ⟨rfl, rfl, rfl, rfl, rfl, rfl, trivial⟩ (.i (by repeat constructor)) ?_
  rintro ⟨i, k⟩ ⟨hi, hk, hd⟩
  dsimp only at hi hk hd ⊢
  refine .gr ?_; repeat constructor
  refine EL.move rfl rfl rfl ?_
  refine EL.move rfl rfl rfl ?_
  refine EL.lenS rfl rfl rfl rfl rfl ?_
  refine EL.leq rfl rfl rfl rfl ?_
  refine .gr ?_; repeat constructor
  refine ES.condD rfl (fun hle => ?_) (fun hgt => ?_)
  rotate_left
  · obtain rfl : i = s.length + 1 := by omega
    rw [plc_end s c (p := s.length + 1) (by omega)] at hd
    have hkl : k = (plc s c 0).length := by
      have := congrArg List.length hd
      rw [List.length_drop, List.length_nil] at this
      omega
    refine .gr ?_; repeat constructor
    refine EL.move rfl rfl rfl ?_
    refine EL.move rfl rfl rfl ?_
    refine EL.lenL rfl rfl rfl rfl rfl ?_
    refine EL.eqlI rfl rfl rfl rfl ?_
    refine EL.assign rfl rfl rfl ?_
    refine .gr ?_; repeat constructor
    exact PX.ret rfl Try.results10 (.cons (.tmp (getA rfl (congrArg Value.bool (decide_eq_true (by omega))))) .nil) (fun w hs => ⟨(), rfl, (hw1.join hs).ent (.nil _)⟩)
  have hin : i ≤ s.length := by omega
  obtain ⟨q, hq⟩ : ∃ q, r2[i]? = some q := ⟨_, List.getElem?_eq_getElem (by omega)⟩
  have hqs : q.2.2 = [((i : Int), (i : Int))] := by
    have := congrArg (fun l => l[i]?) hr2
    simp only [List.getElem?_map, hq, Option.map_some, List.getElem?_range' (show i < s.length + 1 by omega), Function.comp] at this
    simpa using this
  have c2 : (r2.map lsV)[i]? = some (lsV q) := by rw [List.getElem?_map, hq]; rfl
  have g2 := i2 q (List.mem_of_getElem? hq)
  obtain ⟨qa, qc, qs⟩ := q
  dsimp only at hqs g2
  subst hqs
  obtain ⟨bq, oq, rfl, _⟩ := g2 (by simp [spsC, spC])
  obtain ⟨bo, oo, rfl, _⟩ := o2 (fun e => by rw [e] at c2; cases c2)
  refine .gr ?_; repeat constructor
  refine EL.cutX (X := Unit) (fun _ => [(1, Sv s), (5, Sv [c]), (6, .slice ad1 r1.length cap1), (8, .slice (some ⟨bo, oo, none⟩) r2.length cap2), (10, Iv (k : Nat)), (11, Iv (i : Nat)), (96, .bool false)]) (fun _ => []) ?_ (fun _ => ?_)
  · refine .gr ?_; repeat constructor
    refine EL.move rfl rfl rfl ?_
    refine EL.move rfl rfl rfl ?_
    refine EL.ofRV (RV.indexAddrL rfl rfl rfl rfl rfl (by omega)) rfl rfl rfl (by intro c h; cases h) ?_
    refine EL.ofRV (RV.loadOld (j := i * 1) rfl rfl rfl o2 (by rw [Nat.mul_one]; exact c2)) rfl rfl rfl (by intro c h; cases h) ?_
    refine EL.lenL rfl rfl rfl rfl rfl ?_
    refine EL.neqI rfl rfl rfl rfl ?_
    refine EL.move rfl rfl rfl ?_
    refine EL.rew (d := 85) (v' := .bool false) rfl (by first | rfl | (decide) | (simp)) ?_
    refine EL.move rfl rfl rfl ?_
    refine EL.move rfl rfl rfl ?_
    refine EL.ofRV (RV.indexAddrL rfl rfl rfl rfl rfl (by omega)) rfl rfl rfl (by intro c h; cases h) ?_
    refine EL.ofRV (RV.loadOld (j := i * 1) rfl rfl rfl o2 (by rw [Nat.mul_one]; exact c2)) rfl rfl rfl (by intro c h; cases h) ?_
    refine EL.ofRV (RV.indexAddrL (i := 0) rfl rfl rfl rfl rfl (Nat.zero_lt_succ _)) rfl rfl rfl (by intro c h; cases h) ?_
    refine EL.ofRV (RV.loadOldA (j := 0 * 2) (vs := spC ((i : Int), (i : Int))) rfl rfl rfl rfl (by simp [spC]) g2 (fun i u h => by rw [Nat.zero_mul, Nat.zero_add]; exact h)) rfl rfl rfl (by intro c h; cases h) ?_
    refine EL.move rfl rfl rfl ?_
    refine EL.move rfl rfl rfl ?_
    refine EL.build2 rfl rfl rfl rfl rfl rfl rfl rfl rfl rfl ?_
    refine EL.ofRV (RV.neqAgg (b := true) rfl rfl eqg33 (fun w => (run_equal_st2 TB rfl rfl sth33 rfl rfl rfl rfl rfl rfl rfl rfl (i : Int) (i : Int) (i : Int) (i : Int) w).trans (by simp))) rfl rfl rfl (by intro c h; cases h) ?_
    refine EL.pickF rfl rfl rfl rfl ?_
    exact EL.endX () ⟨rfl, rfl, rfl, rfl, rfl, rfl, rfl, trivial⟩ (.i (by repeat constructor))
  refine ES.condF rfl ?_
  refine .gs ?_; repeat constructor
  refine ES.draw (X := Unit) (fun _ => [(1, Sv s), (5, Sv [c]), (6, .slice ad1 r1.length cap1), (8, .slice (some ⟨bo, oo, none⟩) r2.length cap2), (10, Iv (k : Nat)), (11, Iv (i : Nat)), (108, .bool (decide (i < s.length ∧ s.getD i 0 = c)))]) (fun _ => []) [] mixed (.i (by repeat constructor)) ?_ (fun _ => ?_)
  · refine ED.take 0 rfl (by decide +kernel) CutX.no_panic (by decide +kernel) rfl rfl rfl (RV.move rfl) ?_
    refine ED.take 1 rfl (by decide +kernel) CutX.no_panic (by decide +kernel) rfl rfl rfl (RV.move rfl) ?_
    refine ED.take 2 rfl (by decide +kernel) CutX.no_panic (by decide +kernel) rfl rfl rfl (RV.lenS rfl rfl rfl) ?_
    refine ED.take 3 rfl (by decide +kernel) CutX.no_panic (by decide +kernel) rfl rfl rfl (RV.lss rfl rfl) ?_
    refine ED.take 4 rfl (by decide +kernel) CutX.no_panic (by decide +kernel) rfl rfl rfl (RV.move rfl) ?_
    first | refine ED.part (d := 101) rfl (fun hp101 => ?_) (fun hp101 => ?_) | refine ED.partN (d := 101) rfl (fun hp101 => ?_) (fun hp101 => ?_) | refine ED.partB (d := 101) rfl (fun hp101 => ?_) (fun hp101 => ?_)
    · refine ED.take 5 rfl (by decide +kernel) CutX.no_panic (by decide +kernel) rfl rfl rfl (RV.move rfl) ?_
      refine ED.take 6 rfl (by decide +kernel) CutX.no_panic (by decide +kernel) rfl rfl rfl (RV.move rfl) ?_
      refine ED.take 7 rfl (by decide +kernel) CutX.no_panic (by decide +kernel) rfl rfl rfl (RV.indexSN rfl rfl rfl rfl (by omega)) ?_
      refine ED.take 8 rfl (by decide +kernel) CutX.no_panic (by decide +kernel) rfl rfl rfl (RV.move rfl) ?_
      refine ED.take 9 rfl (by decide +kernel) CutX.no_panic (by decide +kernel) rfl rfl rfl (RV.indexSN (i := 0) rfl rfl rfl rfl (Nat.zero_lt_succ _)) ?_
      refine ED.take 10 rfl (by decide +kernel) CutX.no_panic (by decide +kernel) rfl rfl rfl (RV.eqlI rfl rfl) ?_
      refine ED.take 11 rfl (by decide +kernel) CutX.no_panic (by decide +kernel) rfl rfl rfl (RV.pickT rfl rfl) ?_
      refine ED.done (by decide +kernel) ?_
      exact PX.cutX () ⟨rfl, rfl, rfl, rfl, rfl, rfl, getA rfl (congrArg Value.bool (by rw [Bool.eq_iff_iff]; simp only [decide_eq_true_eq, Bool.false_eq_true, false_iff]; first | (intro h; omega) | exact ⟨fun h => ⟨by omega, UInt8.toNat_inj.1 (by exact_mod_cast h)⟩, fun h => by rw [h.2]; rfl⟩)), trivial⟩ (.i (by repeat constructor))
    · refine ED.pass 5 rfl (by decide +kernel) CutX.no_panic (by decide +kernel) rfl rfl rfl ?_
      refine ED.pass 6 rfl (by decide +kernel) CutX.no_panic (by decide +kernel) rfl rfl rfl ?_
      refine ED.pass 7 rfl (by decide +kernel) CutX.no_panic (by decide +kernel) rfl rfl rfl ?_
      refine ED.pass 8 rfl (by decide +kernel) CutX.no_panic (by decide +kernel) rfl rfl rfl ?_
      refine ED.pass 9 rfl (by decide +kernel) CutX.no_panic (by decide +kernel) rfl rfl rfl ?_
      refine ED.pass 10 rfl (by decide +kernel) CutX.no_panic (by decide +kernel) rfl rfl rfl ?_
      refine ED.take 11 rfl (by decide +kernel) CutX.no_panic (by decide +kernel) rfl rfl rfl (RV.pickF rfl rfl) ?_
      refine ED.done (by decide +kernel) ?_
      exact PX.cutX () ⟨rfl, rfl, rfl, rfl, rfl, rfl, getA rfl (congrArg Value.bool (by rw [Bool.eq_iff_iff]; simp only [decide_eq_true_eq, Bool.false_eq_true, false_iff]; first | (intro h; omega) | exact ⟨fun h => ⟨by omega, UInt8.toNat_inj.1 (by exact_mod_cast h)⟩, fun h => by rw [h.2]; rfl⟩)), trivial⟩ (.i (by repeat constructor))
  refine ES.condD rfl (fun hy => ?_) (fun hno => ?_)
  · rw [plc_hit hy.1 hy.2] at hd
    obtain ⟨hk2, hd2⟩ := drop_head hd
    have hkl : k < (plc s c 0).length := (List.getElem?_eq_some_iff.1 hk2).1
    obtain ⟨p, hp⟩ : ∃ p, r1[k]? = some p := ⟨_, List.getElem?_eq_getElem (by omega)⟩
    have hps : p.2.2 = [((i : Int), ((i + 1 : Nat) : Int))] := by
      have := congrArg (fun l => l[k]?) hr1
      simp only [List.getElem?_map, hp, Option.map_some, hk2, Function.comp] at this
      simpa using this
    have c1 : (r1.map lsV)[k]? = some (lsV p) := by rw [List.getElem?_map, hp]; rfl
    have g1 := i1 p (List.mem_of_getElem? hp)
    obtain ⟨pa, pc, ps⟩ := p
    dsimp only at hps g1
    subst hps
    obtain ⟨bp, op, rfl, _⟩ := g1 (by simp [spsC, spC])
    obtain ⟨bu, ou, rfl, _⟩ := o1 (fun e => by rw [e] at c1; cases c1)
    refine .gr ?_; repeat constructor
    refine EL.cutX (X := Unit) (fun _ => [(1, Sv s), (5, Sv [c]), (6, .slice (some ⟨bu, ou, none⟩) r1.length cap1), (8, .slice (some ⟨bo, oo, none⟩) r2.length cap2), (10, Iv (k : Nat)), (11, Iv (i : Nat)), (133, .bool false)]) (fun _ => []) ?_ (fun _ => ?_)
    · refine .gr ?_; repeat constructor
      refine EL.move rfl rfl rfl ?_
      refine EL.move rfl rfl rfl ?_
      refine EL.lenL rfl rfl rfl rfl rfl ?_
      refine EL.geq rfl rfl rfl rfl ?_
      refine EL.move rfl rfl rfl ?_
      refine EL.rew (d := 113) (v' := .bool false) rfl ((by rw [decide_eq_false (by omega)])) ?_
      refine EL.move rfl rfl rfl ?_
      refine EL.move rfl rfl rfl ?_
      refine EL.ofRV (RV.indexAddrL rfl rfl rfl rfl rfl (by omega)) rfl rfl rfl (by intro c h; cases h) ?_
      refine EL.ofRV (RV.loadOld (j := k * 1) rfl rfl rfl o1 (by rw [Nat.mul_one]; exact c1)) rfl rfl rfl (by intro c h; cases h) ?_
      refine EL.lenL rfl rfl rfl rfl rfl ?_
      refine EL.neqI rfl rfl rfl rfl ?_
      refine EL.pickF rfl rfl rfl rfl ?_
      refine EL.move rfl rfl rfl ?_
      refine EL.rew (d := 121) (v' := .bool false) rfl (by first | rfl | (decide) | (simp)) ?_
      refine EL.move rfl rfl rfl ?_
      refine EL.move rfl rfl rfl ?_
      refine EL.ofRV (RV.indexAddrL rfl rfl rfl rfl rfl (by omega)) rfl rfl rfl (by intro c h; cases h) ?_
      refine EL.ofRV (RV.loadOld (j := k * 1) rfl rfl rfl o1 (by rw [Nat.mul_one]; exact c1)) rfl rfl rfl (by intro c h; cases h) ?_
      refine EL.ofRV (RV.indexAddrL (i := 0) rfl rfl rfl rfl rfl (Nat.zero_lt_succ _)) rfl rfl rfl (by intro c h; cases h) ?_
      refine EL.ofRV (RV.loadOldA (j := 0 * 2) (vs := spC ((i : Int), ((i + 1 : Nat) : Int))) rfl rfl rfl rfl (by simp [spC]) g1 (fun i u h => by rw [Nat.zero_mul, Nat.zero_add]; exact h)) rfl rfl rfl (by intro c h; cases h) ?_
      refine EL.move rfl rfl rfl ?_
      refine EL.move rfl rfl rfl ?_
      refine EL.add1 rfl rfl rfl rfl (by omega) ?_
      refine EL.build2 rfl rfl rfl rfl rfl rfl rfl rfl rfl rfl ?_
      refine EL.ofRV (RV.neqAgg (b := true) rfl rfl eqg33 (fun w => (run_equal_st2 TB rfl rfl sth33 rfl rfl rfl rfl rfl rfl rfl rfl (i : Int) ((i + 1 : Nat) : Int) (i : Int) ((i + 1 : Nat) : Int) w).trans (by simp))) rfl rfl rfl (by intro c h; cases h) ?_
      refine EL.pickF rfl rfl rfl rfl ?_
      exact EL.endX () ⟨rfl, rfl, rfl, rfl, rfl, rfl, rfl, trivial⟩ (.i (by repeat constructor))
    refine ES.condF rfl ?_
    refine .gr ?_; repeat constructor
    refine EL.move rfl rfl rfl ?_
    refine EL.add1 rfl rfl rfl rfl (by omega) ?_
    refine EL.assign rfl rfl rfl ?_
    refine .gr ?_; repeat constructor
    refine EL.move rfl rfl rfl ?_
    refine EL.add1 rfl rfl rfl rfl (by omega) ?_
    refine EL.assign rfl rfl rfl ?_
    refine .gr ?_; repeat constructor
    exact PX.loop (i + 1, k + 1) ⟨by omega, by omega, hd2⟩ (by simp only; omega) ⟨rfl, rfl, rfl, rfl, rfl, rfl, trivial⟩ (.i (by repeat constructor))
  · have hd2 : (plc s c 0).drop k = plc s c (i + 1) := by
      rw [hd]
      by_cases h : i < s.length
      · exact plc_no h (fun hc => hno ⟨h, hc⟩)
      · rw [plc_end s c (p := i) (by omega), plc_end s c (p := i + 1) (by omega)]
    refine .gr ?_; repeat constructor
    refine .gr ?_; repeat constructor
    refine EL.move rfl rfl rfl ?_
    refine EL.add1 rfl rfl rfl rfl (by omega) ?_
    refine EL.assign rfl rfl rfl ?_
    refine .gr ?_; repeat constructor
    exact PX.loop (i + 1, k) ⟨by omega, hk, hd2⟩ (by simp only; omega) ⟨rfl, rfl, rfl, rfl, rfl, rfl, trivial⟩ (.i (by repeat constructor))
theorem occurBytes_lifted (os : Os) (started : os.Started) (H : Type) (enc : TypeId × Value → H) :
    ReturnsInHanded {} Try.checked os 10 .any (Rows.occurBytesSpec.pre6 enc Try.prog Try.f10 Rows.occurBytesRow.domain false) (Rows.occurBytesSpec.post enc Try.prog Try.f10 false true false false) := by
  refine returnsInHanded_of_change_shaped (C := Try.checked) own started (by kernel_rfl) Try.func10
    (ChangeSpec.witness6 (enc := enc) (C := Try.checked) false ⟨#[], #[.int .u8 0, .string ⟨#[]⟩], []⟩ 8 (by kernel_rfl) (by kernel_rfl) (by kernel_rfl) (by kernel_rfl)) ?_
  intro W base args ds gs before hval0 hW _ hsz hsh _
  have hk : (DataW.weightsEach Try.prog (Try.f10.params.toList ++ []) (ds ++ gs)).all (· ≤ reachBytes) = true := hsz
  have hval : ∀ (j : Nat) t v, Try.f10.params[j]? = some t → args[j]? = some v → Value.okWide Try.prog W .any base t v := hval0
  have hW1 : DataW.Whole enc Try.prog Try.f10.params.toList Rows.occurBytesSpec.vars false W args.toList ds gs before := hW
  have hW' := hW1
  obtain ⟨p, q, hA0, hV, rfl, hfz, hnd⟩ := hW1
  have hA : DataW.TrodAll enc Try.prog W 0 (fun _ => true) true Try.f10.params.toList args.toList ds p := hA0
  rw [Try.params10] at hA hval hk
  obtain ⟨v0, vs0, d0, ds0, p0, q0, hargs0, rfl, rfl, h0, r0⟩ := trodAll_cons hA
  obtain ⟨v1, vs1, d1, ds1, p1, q1, hargs1, rfl, rfl, h1, r1⟩ := trodAll_cons r0
  obtain ⟨rfl, rfl, rfl⟩ := trodAll_nil r1
  subst hargs1
  obtain rfl : args = #[v0, v1] := by cases args; simp_all
  obtain ⟨rfl, rfl⟩ := trodVars_none hV
  obtain ⟨b0, rfl, rfl⟩ := open_uv Try.underlying5 (hval 0 5 v0 rfl rfl) h0
  obtain ⟨l1, rfl, rfl⟩ := open_sv Try.underlying9 (hval 1 9 v1 rfl rfl) h1
  simp only [List.append_nil, DataW.weightsEach, w_str, w_int, reachBytes, List.nil_append, List.append_nil, List.all_append, List.all_cons, List.all_nil, Bool.and_true, Bool.and_eq_true, decide_eq_true_eq] at hk
  have hl1 : l1.length ≤ 140737488351232 := by first | omega | exact of_decide_eq_true hk | exact of_decide_eq_true hk.1 | exact of_decide_eq_true hk.2 | exact of_decide_eq_true hk.2.1 | exact of_decide_eq_true hk.2.2 | exact of_decide_eq_true hk.2.2.1 | exact of_decide_eq_true hk.2.2.2
  refine (occurBytes_c b0 l1 W (GR.of hsh)).mono fun e W' ⟨_, he, hs⟩ => ⟨_, he, ?_⟩
  exact law_true (s := Rows.occurBytesSpec) laidOut rfl Try.underlying4 (by kernel_rfl) rfl false rfl rfl rfl hW' hs.below
theorem occurBytes_holds : Rows.OccurBytesSaid :=
  OpenClaim.holds_of_wide 10 Try.f10 rfl rfl rfl rfl rfl rfl rfl ⟨rfl, rfl, rfl, rfl, rfl⟩ rfl rfl rfl rfl rfl (by kernel_rfl) Try.func10 (by kernel_rfl)
    (of_decide_eq_true (by kernel_rfl)) (by unfold Func.isWrapper; first | (rw [if_pos (by decide +kernel)]; kernel_rfl) | (rw [if_neg (by decide +kernel)]; exact ⟨rfl, rfl⟩))
    (fun os started H enc _ => occurBytes_lifted os started H enc)
end Go.Proofs.Ytblpgpgbnlhjlaa
