/- Layer 12 in plain Lean: the places of one letter; all places. Layer 12 in plain Lean: all the matches of one letter, of the empty BRE. -/
import Derived.Test.YtblpgpgbnlhjlaaGe
import Derived.Test.YtblpgpgbnlhjlaaKc
namespace Go.Proofs.Ytblpgpgbnlhjlaa
open Go Go.RowKit Sl
set_option maxRecDepth 100000
set_option maxHeartbeats 8000000
set_option linter.unusedVariables false
set_option linter.unusedSimpArgs false
attribute [local irreducible] ES EL PX wps

def okB (n : Nat) : Bool := (decide (48 ≤ n) && decide (n ≤ 57)) || (decide (65 ≤ n) && decide (n ≤ 90)) || (decide (97 ≤ n) && decide (n ≤ 122)) || decide (128 ≤ n)
def testB (n : Nat) : Bool :=
  match (parseM [UInt8.ofNat n]).tree with
  | .cat [.byte S] => decide ((parseM [UInt8.ofNat n]).e = 0) && (measM (parseM [UInt8.ofNat n]).tree).back == false && decide ((measM (parseM [UInt8.ofNat n]).tree).grp = 0) && (List.range 256).all fun d => hasS S d == decide (d = n)
  | _ => false
theorem testB_all : ∀ n : Fin 256, okB n.val = true → testB n.val = true := by decide +kernel
theorem byte_tree (c : UInt8) (h : okB c.toNat = true) : ∃ S, (parseM [c]).tree = .cat [.byte S] ∧ (parseM [c]).e = 0 ∧ (measM (parseM [c]).tree).back = false ∧ (measM (parseM [c]).tree).grp = 0 ∧ ∀ d : UInt8, hasS S d.toNat = true ↔ d = c := by
  have ht := testB_all ⟨c.toNat, c.toNat_lt⟩ h
  unfold testB at ht
  rw [show UInt8.ofNat c.toNat = c by simp] at ht
  split at ht
  · rename_i S hS
    simp only [Bool.and_eq_true, decide_eq_true_eq, beq_iff_eq, List.all_eq_true, List.mem_range] at ht
    obtain ⟨⟨⟨h1, h2⟩, h3⟩, h4⟩ := ht
    refine ⟨S, hS, h1, h2, h3, fun d => ?_⟩
    have h5 := h4 d.toNat d.toNat_lt
    rw [h5, decide_eq_true_eq]
    exact ⟨fun e => UInt8.toNat_inj.1 e, fun e => by rw [e]⟩
  · cases ht
theorem hit_one {s : List UInt8} {S : BS} {c : UInt8} (hS : ∀ d : UInt8, hasS S d.toNat = true ↔ d = c) {i j : Nat} : HitL s [.cat [.byte S]] i j ↔ (i < s.length ∧ s.getD i 0 = c) ∧ j = i + 1 := by
  rw [hitL_one, hit_cat, hitL_one, hit_byte]
  exact and_congr (and_congr Iff.rfl (hS _)) Iff.rfl
theorem one_some {s : List UInt8} (hs : s.length ≤ 1024) {c : UInt8} (h : okB c.toNat = true) {p q : Nat} (hpq : p ≤ q) (hq : q < s.length) (hc : s.getD q 0 = c) (hno : ∀ k, p ≤ k → k < q → s.getD k 0 ≠ c) :
    ∃ F m, setM F [c] s (p : Nat) = some m ∧ m.ok = true ∧ m.e = 0 ∧ m.spans = [((q : Int), ((q + 1 : Nat) : Int))] := by
  obtain ⟨S, ht, he, hb, hg, hS⟩ := byte_tree c h
  have hbest : Best s (.cat [.byte S]) p q (q + 1) := ⟨hpq, by omega, by omega, (hit_one hS).2 ⟨⟨hq, hc⟩, rfl⟩, fun b' h1 _ h3 => by have := ((hit_one hS).1 h3).2; omega, fun a' h1 h2 b' h3 => hno a' h1 h2 ((hit_one hS).1 h3).1.2⟩
  obtain ⟨m, e1, e2, e3, e4⟩ := set_best (g := 0) (z := [((q : Int), ((q + 1 : Nat) : Int))]) hs he hb (by rw [hg]; rfl) (by omega) ht (by simp [costL, RE.cost]) hbest (.cat (.last .byte)) (by omega)
  exact ⟨_, m, e1, e2, e3, e4⟩
theorem one_none {s : List UInt8} (hs : s.length ≤ 1024) {c : UInt8} (h : okB c.toNat = true) {p : Nat} (hp : p ≤ s.length) (hno : ∀ k, p ≤ k → k < s.length → s.getD k 0 ≠ c) :
    ∃ F m, setM F [c] s (p : Nat) = some m ∧ m.ok = false ∧ m.e = 0 ∧ m.spans = [] := by
  obtain ⟨S, ht, he, hb, hg, hS⟩ := byte_tree c h
  obtain ⟨m, e1, e2, e3, e4⟩ := set_no (g := 0) hs hp he hb (by rw [hg]; rfl) (by omega) ht (by simp [costL, RE.cost]) (fun a h1 h2 b h3 => hno a h1 ((hit_one hS).1 h3).1.1 ((hit_one hS).1 h3).1.2)
  exact ⟨_, m, e1, e2, e3, e4⟩
theorem empty_at {s : List UInt8} (hs : s.length ≤ 1024) {p : Nat} (hp : p ≤ s.length) : ∃ F m, setM F [] s (p : Nat) = some m ∧ m.ok = true ∧ m.e = 0 ∧ m.spans = [((p : Int), (p : Int))] := by
  have hh : ∀ i j, HitL s [.cat []] i j ↔ i = j := fun i j => by rw [hitL_one, hit_cat, HitL]
  have hbest : Best s (.cat []) p p p := ⟨Nat.le_refl _, Nat.le_refl _, hp, (hh p p).2 rfl, fun b' h1 _ h3 => by have := (hh _ _).1 h3; omega, fun a' h1 h2 => by omega⟩
  obtain ⟨m, e1, e2, e3, e4⟩ := set_best (t := []) (r := .cat []) (g := 0) (z := [((p : Int), (p : Int))]) hs (by decide +kernel) (by decide +kernel) (by decide +kernel) (by omega) rfl (by simp [costL, RE.cost]) hbest (.cat .nil) (by omega)
  exact ⟨_, m, e1, e2, e3, e4⟩
end Go.Proofs.Ytblpgpgbnlhjlaa
namespace Go.Proofs.Ytblpgpgbnlhjlaa
open Go Go.RowKit Sl
set_option maxRecDepth 100000
set_option maxHeartbeats 8000000
set_option linter.unusedVariables false
set_option linter.unusedSimpArgs false
attribute [local irreducible] ES EL PX wps

theorem choose_mr {n : Nat} {P : Nat → MR → Prop} (H : ∀ p, p ≤ n → ∃ m, P p m) : ∃ mr : Nat → MR, (∀ p, p ≤ n → P p (mr p)) ∧ ∀ p, n < p → mr p = ⟨[], false, 0, 0⟩ := by
  classical
  refine ⟨fun p => if h : p ≤ n then (H p h).choose else ⟨[], false, 0, 0⟩, fun p h => ?_, fun p h => ?_⟩
  · simp only [dif_pos h]; exact (H p h).choose_spec
  · simp only [dif_neg (show ¬ p ≤ n by omega)]
theorem occ_empty {mr : Nat → MR} {n : Nat} (h : ∀ p, p ≤ n → (mr p).ok = true ∧ (mr p).e = 0 ∧ (mr p).spans = [((p : Int), (p : Int))]) : ∀ (f p : Nat) (last : Int), last < p → n + 1 ≤ f + p → p ≤ n + 1 → occGo mr n f p last = (List.range' p (n + 1 - p)).map fun q : Nat => ([((q : Int), (q : Int))], (0 : Int))
  | 0, p, last, _, h2, h3 => by
    rw [show n + 1 - p = 0 by omega]; rfl
  | f + 1, p, last, h1, h2, h3 => by
    rw [occGo]
    split
    · rw [show n + 1 - p = 0 by omega]; rfl
    · rename_i hp
      obtain ⟨e1, e2, e3⟩ := h p (by omega)
      rw [e2, if_neg (by simp), e1, if_neg (by simp), e3]
      dsimp only [List.headD_cons]
      rw [if_neg (by omega), if_pos rfl, Int.toNat_natCast, occ_empty h f (p + 1) p (by omega) (by omega) (by omega), show n + 1 - p = (n + 1 - (p + 1)) + 1 by omega, List.range'_succ, List.map_cons]
def plc (s : List UInt8) (c : UInt8) (p : Nat) : List Nat := (List.range' p (s.length - p)).filter fun q => s.getD q 0 == c
theorem plc_skip {s : List UInt8} {c : UInt8} : ∀ (d p : Nat), p + d ≤ s.length → (∀ k, p ≤ k → k < p + d → s.getD k 0 ≠ c) → plc s c p = plc s c (p + d)
  | 0, _, _, _ => rfl
  | d + 1, p, h, hno => by
    have h1 := plc_skip d (p + 1) (by omega) (fun k h1 h2 => hno k (by omega) (by omega))
    rw [show p + (d + 1) = p + 1 + d by omega, ← h1]
    unfold plc
    rw [show s.length - p = (s.length - (p + 1)) + 1 by omega, List.range'_succ, List.filter_cons, if_neg (by simpa using hno p (Nat.le_refl _) (by omega))]
theorem plc_hit {s : List UInt8} {c : UInt8} {q : Nat} (hq : q < s.length) (hc : s.getD q 0 = c) : plc s c q = q :: plc s c (q + 1) := by
  unfold plc
  rw [show s.length - q = (s.length - (q + 1)) + 1 by omega, List.range'_succ, List.filter_cons, if_pos (by simpa using hc)]
theorem plc_end (s : List UInt8) (c : UInt8) {p : Nat} (h : s.length ≤ p) : plc s c p = [] := by
  unfold plc
  rw [show s.length - p = 0 by omega]; rfl
theorem occ_letter {mr : Nat → MR} {s : List UInt8} {c : UInt8} (h : ∀ p, p ≤ s.length → (mr p).e = 0 ∧ ((∃ q, p ≤ q ∧ q < s.length ∧ s.getD q 0 = c ∧ (∀ k, p ≤ k → k < q → s.getD k 0 ≠ c) ∧ (mr p).ok = true ∧ (mr p).spans = [((q : Int), ((q + 1 : Nat) : Int))]) ∨ ((∀ k, p ≤ k → k < s.length → s.getD k 0 ≠ c) ∧ (mr p).ok = false))) :
    ∀ (f p : Nat) (last : Int), s.length + 1 ≤ f + p → occGo mr s.length f p last = (plc s c p).map fun q : Nat => ([((q : Int), ((q + 1 : Nat) : Int))], (0 : Int))
  | 0, p, last, h2 => by rw [plc_end s c (by omega)]; rfl
  | f + 1, p, last, h2 => by
    rw [occGo]
    split
    · rw [plc_end s c (by omega)]; rfl
    · rename_i hp
      obtain ⟨e2, hh⟩ := h p (by omega)
      rw [e2, if_neg (by simp)]
      rcases hh with ⟨q, h3, h4, h5, h6, e1, e3⟩ | ⟨h3, e1⟩
      · rw [e1, if_neg (by simp), e3]
        dsimp only [List.headD_cons]
        rw [if_neg (by omega), if_neg (by omega), Int.toNat_natCast, occ_letter h f (q + 1) _ (by omega)]
        have := plc_skip (s := s) (c := c) (q - p) p (by omega) (fun k h7 h8 => h6 k h7 (by omega))
        rw [show p + (q - p) = q by omega] at this
        rw [this, plc_hit h4 h5, List.map_cons]
      · rw [e1, if_pos rfl]
        have := plc_skip (s := s) (c := c) (s.length - p) p (by omega) (fun k h7 h8 => h3 k h7 (by omega))
        rw [this, plc_end s c (by omega)]; rfl
end Go.Proofs.Ytblpgpgbnlhjlaa
