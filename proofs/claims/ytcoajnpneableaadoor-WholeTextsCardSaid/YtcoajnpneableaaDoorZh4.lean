/- Texts of this claim, bundled. -/
import Derived.Test.YtcoajnpneableaaDoorZh3
namespace Go.Proofs.YtcoajnpneableaaDoor
open Go Go.RowKit Sl
set_option maxRecDepth 100000
set_option maxHeartbeats 8000000
set_option linter.unusedVariables false
set_option linter.unusedSimpArgs false
attribute [local irreducible] ES EL PX wps
structure TokRead (k : Tok) (bg : Bool) : Prop where
  le : k.kind ≤ 7
  rep : k.kind = 5 → bg = false ∧ 0 ≤ k.lo ∧ k.lo ≤ 255 ∧ -1 ≤ k.hi ∧ k.hi ≤ 255 ∧ (0 ≤ k.hi → k.lo ≤ k.hi)
  back : k.kind = 6 → 1 ≤ k.lo ∧ k.lo ≤ 9
  bad : k.kind = 7 → k.e ≠ 0
theorem tokRead_plain {k : Tok} {bg : Bool} (h : k.kind ≤ 4) : TokRead k bg := ⟨by omega, fun e => by omega, fun e => by omega, fun e => by omega⟩
theorem tokRead_bad {a : Nat} {e : Int} {bg : Bool} (h : e ≠ 0) : TokRead (badT a e) bg := ⟨by simp [badT], fun e => by simp [badT] at e, fun e => by simp [badT] at e, fun _ => h⟩
theorem escT_read (t : List UInt8) (a : Nat) (bg : Bool) : TokRead (escT t a bg).1 bg := by
  unfold escT
  dsimp only
  split
  · exact tokRead_bad (by decide)
  split
  · exact tokRead_plain (by simp)
  split
  · exact tokRead_plain (by simp)
  split
  · split
    · exact tokRead_bad (by decide)
    · rename_i lo hi n hiv
      have := iv_le hiv
      split
      · exact tokRead_bad (by decide)
      · rename_i hb
        exact ⟨by simp, fun _ => ⟨by simpa using hb, by simp only; omega, by simp only; omega, by simp only; omega, by simp only; omega, by simp only; omega⟩, fun e => by simp at e, fun e => by simp at e⟩
  split
  · exact tokRead_bad (by decide)
  split
  · exact tokRead_plain (by simp [oneT, byteT])
  split
  · exact ⟨by simp, fun e => by simp at e, fun _ => by simp only; omega, fun e => by simp at e⟩
  split
  · exact tokRead_bad (by decide)
  · exact tokRead_plain (by simp [oneT, byteT])
theorem readT_read (t : List UInt8) (a : Nat) (f bg : Bool) : TokRead (readT t a f bg).1 bg := by
  unfold readT
  dsimp only
  split
  · exact escT_read t a bg
  split
  · split
    · rename_i h; exact tokRead_bad h
    · exact tokRead_plain (by simp [byteT])
  split
  · exact tokRead_plain (by simp [byteT])
  split
  · rename_i h
    exact ⟨by simp, fun _ => ⟨h.2, by simp, by simp, by simp, by simp, by simp⟩, fun e => by simp at e, fun e => by simp at e⟩
  split
  · exact tokRead_plain (by simp)
  split
  · exact tokRead_plain (by simp)
  · exact tokRead_plain (by simp [oneT, byteT])
def TksOk : List Tok → PS → Prop
  | [], _ => True
  | k :: ks, p => TokOk p k ∧ k.kind ≤ 7 ∧ (k.kind = 7 → k.e ≠ 0) ∧ ((takeM p k).2 = 0 → TksOk ks (takeM p k).1)
theorem takeM_kids {p : PS} {k : Tok} (h7 : k.kind ≤ 7) (h3 : k.kind ≠ 3) (hb : k.kind = 7 → k.e ≠ 0) (he : (takeM p k).2 = 0) : (takeM p k).1.top.kids ≠ [] := by
  rcases (by omega : k.kind = 0 ∨ k.kind = 1 ∨ k.kind = 2 ∨ k.kind = 4 ∨ k.kind = 5 ∨ k.kind = 6 ∨ k.kind = 7) with h0 | h0 | h0 | h0 | h0 | h0 | h0
  · rw [takeM_0 h0]; simp [Frame.put]
  · rw [takeM_1 h0]; simp [Frame.put]
  · rw [takeM_2 h0]; simp [Frame.put]
  · rw [takeM_4 h0] at he ⊢
    split at he
    · cases he
    · rename_i h; simp [Frame.put]
  · rw [takeM_5 h0]; simp
  · rw [takeM_6 h0] at he ⊢
    split at he
    · rename_i h; rw [if_pos h]; simp [Frame.put]
    · cases he
  · rw [takeM_7 (by omega)] at he; exact absurd he (hb h0)
theorem toks_ok (t : List UInt8) : ∀ (n a : Nat) (f b : Bool) (p : PS), (b = false → p.top.kids ≠ []) → TksOk (toksGo t n a f b) p
  | 0, _, _, _, _, _ => trivial
  | n + 1, a, f, b, p, hb => by
    have hr := readT_read t a f b
    rw [toksGo]
    split
    · trivial
    · dsimp only
      have hk : TokOk p (readT t a f b).1 := ⟨fun e => ⟨hb (hr.rep e).1, (hr.rep e).2⟩, hr.back⟩
      split
      · rename_i h7
        exact ⟨hk, hr.le, hr.bad, fun he => trivial⟩
      · rename_i h7
        refine ⟨hk, hr.le, hr.bad, fun he => toks_ok t n _ _ _ _ (fun hbb => ?_)⟩
        simp only [Bool.or_eq_false_iff, decide_eq_false_iff_not] at hbb
        exact takeM_kids hr.le hbb.1 hr.bad he
theorem parse_toks_ok (t : List UInt8) : TksOk (toksM t) ps0 := toks_ok t t.length 0 true true ps0 (fun h => by cases h)
end Go.Proofs.YtcoajnpneableaaDoor
namespace Go.Proofs.YtcoajnpneableaaDoor
open Go Go.RowKit Sl
set_option maxRecDepth 100000
set_option maxHeartbeats 8000000
set_option linter.unusedVariables false
set_option linter.unusedSimpArgs false
attribute [local irreducible] ES EL PX wps
theorem take2 {t : List UInt8} {a : Nat} (h : a + 2 ≤ t.length) : (t.drop a).take 2 = [t.getD a 0, t.getD (a + 1) 0] := by
  rw [List.drop_eq_getElem_cons (show a < t.length by omega), List.drop_eq_getElem_cons (show a + 1 < t.length by omega)]
  rw [List.take_succ_cons, List.take_succ_cons, List.take_zero, List.getD_eq_getElem?_getD, List.getElem?_eq_getElem (show a < t.length by omega), List.getD_eq_getElem?_getD, List.getElem?_eq_getElem (show a + 1 < t.length by omega)]
  rfl
theorem see2_iff (t : List UInt8) (a : Nat) (x y : UInt8) : see2 t a x y = true ↔ a + 2 ≤ t.length ∧ t.getD a 0 = x ∧ t.getD (a + 1) 0 = y := by
  unfold see2
  rw [Bool.and_eq_true, decide_eq_true_eq, decide_eq_true_eq]
  constructor
  · rintro ⟨h1, h2⟩
    rw [take2 h1] at h2
    simp only [List.cons.injEq, and_true] at h2
    exact ⟨h1, h2⟩
  · rintro ⟨h1, h2⟩
    rw [take2 h1, h2.1, h2.2]
    exact ⟨h1, rfl⟩
def pg (t : List UInt8) (m a : Nat) (f b : Bool) (P : PS) : Parsed := parseGo (toksGo t m a f b) P
theorem pg_end {t : List UInt8} {a : Nat} (h : t.length ≤ a) (m : Nat) (f b : Bool) (P : PS) : pg t m a f b P = endM P := by
  cases m with
  | zero => rfl
  | succ m => unfold pg; rw [toksGo, if_pos h]; rfl
theorem pg_bad {t : List UInt8} {m a a' : Nat} {f b : Bool} {e : Int} (h : a < t.length) (hk : readT t a f b = (badT a e, a')) (he : e ≠ 0) (P : PS) : pg t (m + 1) a f b P = ⟨.cat [], e, a⟩ := by
  unfold pg
  rw [toksGo, if_neg (by omega), hk]
  dsimp only
  rw [if_pos (show (badT a e).kind = 7 from rfl), parseGo, takeM_7 (show 7 ≤ (badT a e).kind from Nat.le_refl 7), if_pos (show (badT a e).e ≠ 0 from he)]
  rfl
theorem pg_tok {t : List UInt8} {m a a' : Nat} {f b : Bool} {k : Tok} (h : a < t.length) (hk : readT t a f b = (k, a')) (h7 : k.kind ≠ 7) (P : PS) :
    pg t (m + 1) a f b P = if (takeM P k).2 ≠ 0 then ⟨.cat [], (takeM P k).2, k.at_⟩ else pg t m a' (decide (k.kind = 3)) (decide (k.kind = 3) || decide (k.kind = 1)) (takeM P k).1 := by
  unfold pg
  rw [toksGo, if_neg (by omega), hk]
  dsimp only
  rw [if_neg h7, parseGo]
def isBol : RE → Bool
  | .bol => true
  | _ => false
def Aft (t : List UInt8) (m a : Nat) (f b : Bool) (P : PS) (ks : List RE) (x : RE × DR) : Prop :=
  (x.2.e ≠ 0 ∧ pg t m a f b P = ⟨.cat [], x.2.e, x.2.place⟩) ∨
  (x.2.e = 0 ∧ ∃ m' P', DRel (ks ++ [x.1]) x.2 P' ∧ P'.rest = P.rest ∧ P'.top.group = P.top.group ∧ P'.top.at_ = P.top.at_ ∧ t.length ≤ m' + x.2.at_ ∧ a < x.2.at_ ∧ x.2.at_ ≤ t.length ∧ pg t m a f b P = pg t m' x.2.at_ false (isBol x.1) P')
theorem put_rel {ks : List RE} {r : DR} {P : PS} (h : DRel ks r P) (p : RE) (n a : Nat) (hn : n = posR p) : DRel (ks ++ [p]) { r.to a with size := r.size + n } { P with top := P.top.put p n, size := P.size + n } := by
  refine ⟨?_, ?_, h.groups, h.shut, ?_, ?_, h.e⟩
  · show P.top.kids ++ [p] = _
    rw [h.kids]
  · show P.top.sizes ++ [n] = _
    rw [h.sizes, List.map_append, hn]
    rfl
  · show ((P.size + n : Nat) : Int) = r.size + n
    have := h.size
    omega
  · show (P.top.sizes ++ [n]).sum + (P.rest.map Frame.tot).sum ≤ P.size + n
    have := h.tot
    rw [List.sum_append, List.sum_singleton]
    omega
theorem leaf_one {t : List UInt8} {m a a' : Nat} {f b : Bool} {k : Tok} {ks : List RE} {r : DR} {P : PS} {p : RE} (h : DRel ks r P) (ha : r.at_ = a) (hlt : a < t.length) (hm : t.length ≤ m + a) (hk : readT t a f b = (k, a')) (hat : k.at_ = a) (h7 : k.kind ≠ 7) (h3 : k.kind ≠ 3) (h1 : k.kind ≠ 1)
    (hp : posR p = 1) (hb : isBol p = false) (ht : takeM P k = ({ P with top := P.top.put p 1, size := P.size + 1 }, growE (P.size + 1))) : Aft t m a f b P ks (p, (r.to a').grown 1 a) := by
  obtain ⟨m, rfl⟩ : ∃ n, m = n + 1 := ⟨m - 1, by omega⟩
  have hn := readT_at t a f b hlt (by rw [hk]; exact h7)
  rw [hk] at hn
  have hs : (r.size + 1).toNat = P.size + 1 := by have := h.size; omega
  have he : (r.to a').e = 0 := h.e
  rcases grown_two he 1 a with ⟨g1, g2⟩ | ⟨g1, g2⟩
  · right
    have g1' : growE (P.size + 1) = 0 := by rw [← hs]; exact g1
    rw [g2]
    refine ⟨h.e, m, { P with top := P.top.put p 1, size := P.size + 1 }, put_rel h p 1 a' hp.symm, rfl, rfl, rfl, by show t.length ≤ m + a'; omega, hn.1, hn.2, ?_⟩
    rw [pg_tok hlt hk h7 P, ht, g1', if_neg (by simp), decide_eq_false h3, decide_eq_false h1]
    show _ = pg t m a' false (isBol p) _
    rw [hb]
    rfl
  · left
    have g1' : growE (P.size + 1) = 13 := by rw [← hs]; exact g1
    rw [g2]
    refine ⟨by simp, ?_⟩
    rw [pg_tok hlt hk h7 P, ht, g1', if_pos (by simp), hat]
theorem bad_aft {t : List UInt8} {m a a' : Nat} {f b : Bool} {e : Int} {ks : List RE} {r : DR} {P : PS} {p : RE} (h : DRel ks r P) (hlt : a < t.length) (hm : t.length ≤ m + a) (hk : readT t a f b = (badT a e, a')) (he : e ≠ 0) : Aft t m a f b P ks (p, r.fail e a) := by
  obtain ⟨m, rfl⟩ : ∃ n, m = n + 1 := ⟨m - 1, by omega⟩
  left
  rw [fail_ok h.e]
  exact ⟨he, pg_bad hlt hk he P⟩
theorem to_fail {r : DR} (h : r.e = 0) (a' : Nat) (e : Int) (a : Nat) : ((r.to a').fail e a) = { r.to a' with e := e, place := a } := fail_ok (r := r.to a') h e a
theorem grown_bad {r : DR} (h : r.e ≠ 0) (n : Int) (a : Nat) : r.grown n a = { r with size := r.size + n } := by
  unfold DR.grown
  split
  · exact if_neg h
  · rfl
theorem esc_aft {t : List UInt8} {m a : Nat} {f b : Bool} {ks : List RE} {r : DR} {P : PS} (h : DRel ks r P) (ha : r.at_ = a) (hlt : a < t.length) (hm : t.length ≤ m + a) (hb : (t.getD a 0).toNat = 92)
    (hsh : see2 t a 92 41 = false) (hop : see2 t a 92 40 = false) (hiv : see2 t a 92 123 = false) (hiw : see2 t a 92 125 = false) : Aft t m a f b P ks (dEsc t r) := by
  have hr : readT t a f b = escT t a b := by unfold readT; rw [if_pos hb]
  have hb' : t.getD a 0 = 92 := UInt8.toNat_inj.1 hb
  unfold dEsc
  rw [ha]
  by_cases hl : a + 1 = t.length
  · rw [if_pos hl]
    exact bad_aft h hlt hm (by rw [hr, escT, if_pos hl]) (by decide)
  have hno : ∀ y : UInt8, see2 t a 92 y = false → (t.getD (a + 1) 0).toNat ≠ y.toNat := fun y hy e => by
    have := (see2_iff t a 92 y).2 ⟨by omega, hb', UInt8.toNat_inj.1 e⟩
    rw [hy] at this
    cases this
  have n1 : (t.getD (a + 1) 0).toNat ≠ 40 := hno 40 hop
  have n2 : (t.getD (a + 1) 0).toNat ≠ 41 := hno 41 hsh
  have n3 : (t.getD (a + 1) 0).toNat ≠ 123 := hno 123 hiv
  have n4 : (t.getD (a + 1) 0).toNat ≠ 125 := hno 125 hiw
  rw [if_neg hl]
  dsimp only
  by_cases c1 : (t.getD (a + 1) 0).toNat = 110
  · rw [if_pos c1]
    exact leaf_one h ha hlt hm (k := oneT a 10) (a' := a + 2) (by rw [hr, escT, if_neg hl]; dsimp only; rw [if_neg n1, if_neg n2, if_neg n3, if_neg n4, if_pos c1]) rfl (show (0 : Nat) ≠ 7 by decide) (show (0 : Nat) ≠ 3 by decide) (show (0 : Nat) ≠ 1 by decide) rfl rfl (takeM_0 rfl)
  · rw [if_neg c1]
    by_cases c2 : 49 ≤ (t.getD (a + 1) 0).toNat ∧ (t.getD (a + 1) 0).toNat ≤ 57
    · rw [if_pos c2]
      have hk : readT t a f b = (⟨6, a, zeroS, (((t.getD (a + 1) 0).toNat - 48 : Nat) : Int), 0, 0⟩, a + 2) := by rw [hr, escT, if_neg hl]; dsimp only; rw [if_neg n1, if_neg n2, if_neg n3, if_neg n4, if_neg c1, if_pos c2]
      by_cases hc : r.closed.getD ((t.getD (a + 1) 0).toNat - 48) false = true
      · have hc' : (r.to (a + 2)).closed.getD ((t.getD (a + 1) 0).toNat - 48) false = true := hc
        rw [if_pos hc']
        exact leaf_one h ha hlt hm hk rfl (show (6 : Nat) ≠ 7 by decide) (show (6 : Nat) ≠ 3 by decide) (show (6 : Nat) ≠ 1 by decide) rfl rfl (by
          rw [takeM_6 rfl]
          have : P.shut.getD ((((t.getD (a + 1) 0).toNat - 48 : Nat) : Int)).toNat false = true := by rw [h.shut]; exact hc
          rw [if_pos this]
          rfl)
      · have hc' : ¬ (r.to (a + 2)).closed.getD ((t.getD (a + 1) 0).toNat - 48) false = true := hc
        rw [if_neg hc', to_fail h.e, grown_bad (by simp)]
        obtain ⟨m, rfl⟩ : ∃ n, m = n + 1 := ⟨m - 1, by omega⟩
        left
        refine ⟨by simp, ?_⟩
        rw [pg_tok hlt hk (show (6 : Nat) ≠ 7 by decide) P, takeM_6 rfl]
        have : ¬ P.shut.getD ((((t.getD (a + 1) 0).toNat - 48 : Nat) : Int)).toNat false = true := by rw [h.shut]; exact hc
        rw [if_neg this, if_pos (by simp)]
    · rw [if_neg c2]
      by_cases c3 : isAln (t.getD (a + 1) 0) = true
      · rw [if_pos c3, to_fail h.e, grown_bad (by simp)]
        obtain ⟨m, rfl⟩ : ∃ n, m = n + 1 := ⟨m - 1, by omega⟩
        left
        refine ⟨by simp, ?_⟩
        exact pg_bad hlt (e := 12) (by rw [hr, escT, if_neg hl]; dsimp only; rw [if_neg n1, if_neg n2, if_neg n3, if_neg n4, if_neg c1, if_neg c2, if_pos c3]) (by decide) P
      · rw [if_neg c3]
        exact leaf_one h ha hlt hm (k := oneT a (t.getD (a + 1) 0)) (a' := a + 2) (by rw [hr, escT, if_neg hl]; dsimp only; rw [if_neg n1, if_neg n2, if_neg n3, if_neg n4, if_neg c1, if_neg c2, if_neg c3]) rfl (show (0 : Nat) ≠ 7 by decide) (show (0 : Nat) ≠ 3 by decide) (show (0 : Nat) ≠ 1 by decide) rfl rfl (takeM_0 rfl)
theorem leaf_anchor {t : List UInt8} {m a : Nat} {f b : Bool} {k : Tok} {ks : List RE} {r : DR} {P : PS} {p : RE} (h : DRel ks r P) (hlt : a < t.length) (hm : t.length ≤ m + a) (hk : readT t a f b = (k, a + 1)) (h7 : k.kind ≠ 7) (h3 : k.kind ≠ 3) (h1 : decide (k.kind = 1) = isBol p)
    (hp : posR p = 0) (ht : takeM P k = ({ P with top := P.top.put p 0 }, 0)) : Aft t m a f b P ks (p, r.to (a + 1)) := by
  obtain ⟨m, rfl⟩ : ∃ n, m = n + 1 := ⟨m - 1, by omega⟩
  right
  have hq := put_rel h p 0 (a + 1) hp.symm
  have e1 : { r.to (a + 1) with size := r.size + ((0 : Nat) : Int) } = r.to (a + 1) := by
    rw [show r.size + ((0 : Nat) : Int) = r.size by omega]
    rfl
  rw [e1] at hq
  refine ⟨h.e, m, { P with top := P.top.put p 0 }, hq, rfl, rfl, rfl, by show t.length ≤ m + (a + 1); omega, Nat.lt_succ_self a, hlt, ?_⟩
  rw [pg_tok hlt hk h7 P, ht, if_neg (by simp), decide_eq_false h3, h1]
  rfl
theorem leaf_aft {t : List UInt8} {m a : Nat} {b : Bool} {ks : List RE} {r : DR} {P : PS} (h : DRel ks r P) (ha : r.at_ = a) (hlt : a < t.length) (hm : t.length ≤ m + a)
    (hsh : see2 t a 92 41 = false) (hop : see2 t a 92 40 = false) (hbg : b = false → (t.getD a 0).toNat ≠ 42 ∧ see2 t a 92 123 = false) : Aft t m a (decide (ks = [])) b P ks (dLeaf t r (decide (ks = []))) := by
  unfold dLeaf
  rw [ha]
  dsimp only
  have hq : ∀ y : UInt8, see2 t a 92 y = true → a + 2 ≤ t.length ∧ (t.getD a 0).toNat = 92 ∧ (t.getD (a + 1) 0).toNat = y.toNat := fun y hy => by
    obtain ⟨h1, h2, h3⟩ := (see2_iff t a 92 y).1 hy
    rw [h2, h3]
    exact ⟨h1, rfl, rfl⟩
  by_cases c0 : see2 t a 92 123 = true ∨ see2 t a 92 125 = true
  · rw [if_pos c0]
    refine bad_aft h hlt hm (a' := a) ?_ (by decide)
    rcases c0 with c | c
    · obtain ⟨h1, h2, h3⟩ := hq 123 c
      have h3' : (t.getD (a + 1) 0).toNat = 123 := h3
      have hbt : b = true := by
        cases b with
        | true => rfl
        | false => rw [(hbg rfl).2] at c; cases c
      unfold readT escT
      rw [if_pos h2, if_neg (by omega)]
      dsimp only
      rw [if_neg (by omega), if_neg (by omega), if_pos h3', hbt]
      cases ivM t (a + 2) with
      | none => rfl
      | some x => rfl
    · obtain ⟨h1, h2, h3⟩ := hq 125 c
      have h3' : (t.getD (a + 1) 0).toNat = 125 := h3
      unfold readT escT
      rw [if_pos h2, if_neg (by omega)]
      dsimp only
      rw [if_neg (by omega), if_neg (by omega), if_neg (by omega), if_pos h3']
  rw [if_neg c0]
  have c1 : see2 t a 92 123 = false := by cases hx : see2 t a 92 123 with | false => rfl | true => exact absurd (.inl hx) c0
  have c2 : see2 t a 92 125 = false := by cases hx : see2 t a 92 125 with | false => rfl | true => exact absurd (.inr hx) c0
  by_cases h92 : (t.getD a 0).toNat = 92
  · rw [if_pos h92]
    exact esc_aft h ha hlt hm h92 hsh hop c1 c2
  rw [if_neg h92]
  by_cases h91 : (t.getD a 0).toNat = 91
  · rw [if_pos h91]
    by_cases he : (brackM t a).e ≠ 0
    · rw [if_pos he]
      exact bad_aft h hlt hm (a' := a) (by unfold readT; rw [if_neg h92, if_pos h91, if_pos he]) he
    · rw [if_neg he]
      exact leaf_one h ha hlt hm (k := byteT a (brackM t a).set) (by unfold readT; rw [if_neg h92, if_pos h91, if_neg he]) rfl (show (0 : Nat) ≠ 7 by decide) (show (0 : Nat) ≠ 3 by decide) (show (0 : Nat) ≠ 1 by decide) rfl rfl (takeM_0 rfl)
  rw [if_neg h91]
  by_cases h94 : (t.getD a 0).toNat = 94 ∧ decide (ks = []) = true
  · rw [if_pos h94]
    exact leaf_anchor h hlt hm (k := ⟨1, a, zeroS, 0, 0, 0⟩) (by unfold readT; rw [if_neg h92, if_neg h91, if_neg (by omega), if_neg (fun x => by omega), if_pos h94]) (show (1 : Nat) ≠ 7 by decide) (show (1 : Nat) ≠ 3 by decide) rfl rfl (takeM_1 rfl)
  rw [if_neg h94]
  have heol : eolM t a = true ↔ (a + 1 = t.length ∨ see2 t (a + 1) 92 41 = true) := by
    unfold eolM see2
    simp only [Bool.or_eq_true, Bool.and_eq_true, decide_eq_true_eq]
    constructor
    · rintro (h | h)
      · exact .inl h
      · exact .inr ⟨by omega, h.2⟩
    · rintro (h | h)
      · exact .inl h
      · exact .inr ⟨by omega, h.2⟩
  by_cases h36 : (t.getD a 0).toNat = 36 ∧ (a + 1 = t.length ∨ see2 t (a + 1) 92 41 = true)
  · rw [if_pos h36]
    exact leaf_anchor h hlt hm (k := ⟨2, a, zeroS, 0, 0, 0⟩) (by unfold readT; rw [if_neg h92, if_neg h91, if_neg (by omega), if_neg (fun x => by omega), if_neg (fun x => by omega), if_pos ⟨h36.1, heol.2 h36.2⟩]) (show (2 : Nat) ≠ 7 by decide) (show (2 : Nat) ≠ 3 by decide) rfl rfl (takeM_2 rfl)
  rw [if_neg h36]
  by_cases h46 : (t.getD a 0).toNat = 46
  · rw [if_pos h46]
    exact leaf_one h ha hlt hm (k := byteT a (notS zeroS)) (a' := a + 1) (by unfold readT; rw [if_neg h92, if_neg h91, if_pos h46]) rfl (show (0 : Nat) ≠ 7 by decide) (show (0 : Nat) ≠ 3 by decide) (show (0 : Nat) ≠ 1 by decide) rfl rfl (takeM_0 rfl)
  rw [if_neg h46]
  have hstar : ¬ ((t.getD a 0).toNat = 42 ∧ b = false) := fun x => (hbg x.2).1 x.1
  exact leaf_one h ha hlt hm (k := oneT a (t.getD a 0)) (a' := a + 1) (by unfold readT; rw [if_neg h92, if_neg h91, if_neg h46, if_neg hstar, if_neg h94, if_neg (fun x => h36 ⟨x.1, heol.1 x.2⟩)]) rfl (show (0 : Nat) ≠ 7 by decide) (show (0 : Nat) ≠ 3 by decide) (show (0 : Nat) ≠ 1 by decide) rfl rfl (takeM_0 rfl)
end Go.Proofs.YtcoajnpneableaaDoor
namespace Go.Proofs.YtcoajnpneableaaDoor
open Go Go.RowKit Sl
set_option maxRecDepth 100000
set_option maxHeartbeats 8000000
set_option linter.unusedVariables false
set_option linter.unusedSimpArgs false
attribute [local irreducible] ES EL PX wps
theorem reps_bad (t : List UInt8) (n : Nat) (p : RE) {r : DR} (h : r.e ≠ 0) : dReps t n p r = (p, r) := by
  cases n with
  | zero => rfl
  | succ n => rw [dReps, if_pos h]
theorem row_bad (t : List UInt8) (n : Nat) (i : Bool) (op : Nat) (ks : List RE) {r : DR} (h : r.e ≠ 0) : dRow t n i op ks r = (.cat ks, r) := by
  cases n with
  | zero => rfl
  | succ n => rw [dRow, if_pos h]
structure NoRep (t : List UInt8) (a : Nat) : Prop where
  star : a < t.length → (t.getD a 0).toNat ≠ 42
  iv : see2 t a 92 123 = false
def repS (P : PS) (lo : Nat) (hi : Int) : PS :=
  { P with top := { P.top with kids := P.top.kids.dropLast ++ [.rep lo hi (P.top.kids.getLastD .bol)], sizes := P.top.sizes.dropLast ++ [P.top.sizes.getLastD 0 * timesM lo hi] }, size := P.size - P.top.sizes.getLastD 0 + P.top.sizes.getLastD 0 * timesM lo hi }
theorem rep_rel {ks : List RE} {p : RE} {r : DR} {P : PS} (h : DRel (ks ++ [p]) r P) (lo : Nat) (hi : Int) (a : Nat) :
    DRel (ks ++ [.rep lo hi p]) { r.to a with size := r.size + ((posR (.rep lo hi p) : Int) - posR p) } (repS P lo hi) ∧ ((repS P lo hi).size : Int) = r.size + ((posR (.rep lo hi p) : Int) - posR p) := by
  have hl : P.top.sizes.getLastD 0 = posR p := by rw [h.sizes, List.map_append]; simp
  have hk : P.top.kids.getLastD .bol = p := by rw [h.kids]; simp
  have ht := h.tot
  rw [h.sizes, List.map_append, List.sum_append] at ht
  simp only [List.map_cons, List.map_nil, List.sum_singleton] at ht
  have hs := h.size
  have hsz : ((repS P lo hi).size : Int) = r.size + ((posR (.rep lo hi p) : Int) - posR p) := by
    show ((P.size - P.top.sizes.getLastD 0 + P.top.sizes.getLastD 0 * timesM lo hi : Nat) : Int) = _
    rw [hl, posR]
    omega
  refine ⟨⟨?_, ?_, h.groups, h.shut, hsz, ?_, h.e⟩, hsz⟩
  · show P.top.kids.dropLast ++ [_] = _
    rw [hk, h.kids]
    simp
  · show P.top.sizes.dropLast ++ [_] = _
    rw [hl, h.sizes, List.map_append, List.map_append]
    simp [posR]
  · show (P.top.sizes.dropLast ++ [P.top.sizes.getLastD 0 * timesM lo hi]).sum + (P.rest.map Frame.tot).sum ≤ P.size - P.top.sizes.getLastD 0 + P.top.sizes.getLastD 0 * timesM lo hi
    rw [hl, List.sum_append, List.sum_singleton, h.sizes, List.map_append]
    simp only [List.map_cons, List.map_nil, List.dropLast_concat]
    omega
def Beh (t : List UInt8) (m a : Nat) (f b : Bool) (P : PS) (ks : List RE) (x : RE × DR) : Prop :=
  (x.2.e ≠ 0 ∧ pg t m a f b P = ⟨.cat [], x.2.e, x.2.place⟩) ∨
  (x.2.e = 0 ∧ ∃ m' P', DRel (ks ++ [x.1]) x.2 P' ∧ P'.rest = P.rest ∧ P'.top.group = P.top.group ∧ P'.top.at_ = P.top.at_ ∧ t.length ≤ m' + x.2.at_ ∧ a ≤ x.2.at_ ∧ x.2.at_ ≤ t.length ∧ NoRep t x.2.at_ ∧ pg t m a f b P = pg t m' x.2.at_ false false P')
theorem reps_one {t : List UInt8} {m a a' lo : Nat} {hi : Int} {ks : List RE} {p : RE} {r : DR} {P : PS} (n : Nat) (ih : ∀ (p : RE) (r : DR) (P : PS) (m : Nat), DRel (ks ++ [p]) r P → r.at_ ≤ t.length → t.length ≤ m + r.at_ → t.length ≤ n + r.at_ → Beh t m r.at_ false false P ks (dReps t n p r))
    (h : DRel (ks ++ [p]) r P) (ha : r.at_ = a) (hlt : a < t.length) (hm : t.length ≤ m + a) (hn : t.length ≤ n + 1 + a) (hk : readT t a false false = (⟨5, a, zeroS, (lo : Int), hi, 0⟩, a')) :
    Beh t m a false false P ks (dReps t n (.rep lo hi p) ((r.to a').grown ((posR (.rep lo hi p) : Int) - posR p) a)) := by
  obtain ⟨m, rfl⟩ : ∃ n, m = n + 1 := ⟨m - 1, by omega⟩
  have hat := readT_at t a false false hlt (by rw [hk]; show (5 : Nat) ≠ 7; decide)
  rw [hk] at hat
  obtain ⟨hr, hs⟩ := rep_rel h lo hi a'
  have ht : takeM P ⟨5, a, zeroS, (lo : Int), hi, 0⟩ = (repS P lo hi, growE (repS P lo hi).size) := by
    rw [takeM_5 rfl]
    rfl
  have hs' : (r.size + ((posR (.rep lo hi p) : Int) - posR p)).toNat = (repS P lo hi).size := by omega
  have he : (r.to a').e = 0 := h.e
  have hst := pg_tok (m := m) hlt hk (show (5 : Nat) ≠ 7 by decide) P
  rw [ht] at hst
  rcases grown_two he ((posR (.rep lo hi p) : Int) - posR p) a with ⟨g1, g2⟩ | ⟨g1, g2⟩
  · have g1' : growE (repS P lo hi).size = 0 := by rw [← hs']; exact g1
    rw [g1', if_neg (by simp)] at hst
    rw [g2]
    have := ih (.rep lo hi p) _ _ m hr hat.2 (by show t.length ≤ m + a'; have := hat.1; omega) (by show t.length ≤ n + a'; have := hat.1; omega)
    rcases this with ⟨e1, e2⟩ | ⟨e1, m', P', e2, e3, e4, e5, e6, e7, e8, e9, e10⟩
    · exact .inl ⟨e1, hst.trans e2⟩
    · exact .inr ⟨e1, m', P', e2, e3, e4, e5, e6, Nat.le_trans (Nat.le_of_lt hat.1) e7, e8, e9, hst.trans e10⟩
  · have g1' : growE (repS P lo hi).size = 13 := by rw [← hs']; exact g1
    rw [g1', if_pos (by simp)] at hst
    rw [g2, reps_bad _ _ _ (by simp)]
    exact .inl ⟨by simp, hst⟩
theorem reps_aft {t : List UInt8} {ks : List RE} : ∀ (n : Nat) (p : RE) (r : DR) (P : PS) (m : Nat), DRel (ks ++ [p]) r P → r.at_ ≤ t.length → t.length ≤ m + r.at_ → t.length ≤ n + r.at_ → Beh t m r.at_ false false P ks (dReps t n p r)
  | 0, p, r, P, m, h, hat, hm, hn => by
    refine .inr ⟨h.e, m, P, h, rfl, rfl, rfl, hm, Nat.le_refl _, hat, ⟨fun hl => ?_, ?_⟩, rfl⟩
    · show _
      have hl' : r.at_ < t.length := hl
      omega
    · cases hx : see2 t r.at_ 92 123 with
      | false => exact hx
      | true => have := ((see2_iff ..).1 hx).1; omega
  | n + 1, p, r, P, m, h, hat, hm, hn => by
    rw [dReps, if_neg (by rw [h.e]; simp)]
    by_cases c1 : (decide (r.at_ < t.length) && decide ((t.getD r.at_ 0).toNat = 42)) = true
    · rw [if_pos c1]
      rw [Bool.and_eq_true, decide_eq_true_eq, decide_eq_true_eq] at c1
      exact reps_one (lo := 0) n (fun p r P m => reps_aft n p r P m) h rfl c1.1 hm hn (by unfold readT; rw [if_neg (by omega), if_neg (by omega), if_neg (by omega), if_pos ⟨c1.2, rfl⟩]; rfl)
    · rw [if_neg c1]
      by_cases c2 : see2 t r.at_ 92 123 = true
      · rw [if_pos c2]
        obtain ⟨h1, h2, h3⟩ := (see2_iff ..).1 c2
        have h2' : (t.getD r.at_ 0).toNat = 92 := by rw [h2]; rfl
        have h3' : (t.getD (r.at_ + 1) 0).toNat = 123 := by rw [h3]; rfl
        have hrd : readT t r.at_ false false = escT t r.at_ false := by unfold readT; rw [if_pos h2']
        cases hv : ivM t (r.at_ + 2) with
        | none =>
          obtain ⟨m, rfl⟩ : ∃ n, m = n + 1 := ⟨m - 1, by omega⟩
          dsimp only
          rw [to_fail h.e]
          refine .inl ⟨by simp, ?_⟩
          exact pg_bad (by omega) (e := 9) (a' := r.at_) (by rw [hrd, escT, if_neg (by omega)]; dsimp only; rw [if_neg (by omega), if_neg (by omega), if_pos h3', hv]) (by decide) P
        | some x =>
          obtain ⟨lo, hi, a'⟩ := x
          exact reps_one n (fun p r P m => reps_aft n p r P m) h rfl (by omega) hm hn (by rw [hrd, escT, if_neg (by omega)]; dsimp only; rw [if_neg (by omega), if_neg (by omega), if_pos h3', hv]; rfl)
      · rw [if_neg c2]
        refine .inr ⟨h.e, m, P, h, rfl, rfl, rfl, hm, Nat.le_refl _, hat, ⟨fun hl e => c1 ?_, by simpa using c2⟩, rfl⟩
        rw [Bool.and_eq_true, decide_eq_true_eq, decide_eq_true_eq]
        exact ⟨hl, e⟩
def closeS (P : PS) (fr : Frame) (rest : List Frame) : PS := { P with top := fr.put (.group P.top.group (.cat P.top.kids)) P.top.sizes.sum, rest := rest, shut := P.shut.set P.top.group true }
def RowD (t : List UInt8) (m a : Nat) (f b : Bool) (in_ : Bool) (P : PS) (x : RE × DR) : Prop :=
  (x.2.e ≠ 0 ∧ pg t m a f b P = ⟨.cat [], x.2.e, x.2.place⟩) ∨
  (x.2.e = 0 ∧ in_ = false ∧ pg t m a f b P = ⟨x.1, 0, 0⟩) ∨
  (x.2.e = 0 ∧ in_ = true ∧ ∃ ks' m' P', x.1 = .cat ks' ∧ DRel ks' x.2 P' ∧ P'.rest = P.rest ∧ P'.top.group = P.top.group ∧ t.length ≤ m' + x.2.at_ ∧ a + 2 ≤ x.2.at_ ∧ x.2.at_ ≤ t.length ∧
    ∀ fr rest, P.rest = fr :: rest → pg t m a f b P = pg t m' x.2.at_ false false (closeS P' fr rest))
theorem RowD.trans {t : List UInt8} {m a m' a' : Nat} {f b f' b' in_ : Bool} {P P' : PS} {x : RE × DR} (h : RowD t m' a' f' b' in_ P' x) (hp : pg t m a f b P = pg t m' a' f' b' P') (ha : a ≤ a') (hr : P'.rest = P.rest) (hg : P'.top.group = P.top.group) : RowD t m a f b in_ P x := by
  rcases h with ⟨h1, h2⟩ | ⟨h1, h2, h3⟩ | ⟨h1, h2, ks', m2, P2, h3, h4, h5, h6, h7, h8, h9, h10⟩
  · exact .inl ⟨h1, hp.trans h2⟩
  · exact .inr (.inl ⟨h1, h2, hp.trans h3⟩)
  · exact .inr (.inr ⟨h1, h2, ks', m2, P2, h3, h4, h5.trans hr, h6.trans hg, h7, by omega, h9, fun fr rest hf => hp.trans (h10 fr rest (hr.trans hf))⟩)
theorem close_rel {ks ks' : List RE} {r r' : DR} {P P' : PS} {a : Nat} (h : DRel ks r P) (h' : DRel ks' r' P') (g : Nat) (hg : P'.top.group = g) (hr : P'.rest = P.top :: P.rest) : DRel (ks ++ [.group g (.cat ks')]) { r' with closed := r'.closed.set g true } (closeS P' P.top P.rest) := by
  have ht := h'.tot
  rw [hr, List.map_cons, List.sum_cons] at ht
  have hs : P'.top.sizes.sum = posR (.group g (.cat ks')) := by rw [posR, posR_cat, h'.sizes]
  refine ⟨?_, ?_, h'.groups, ?_, h'.size, ?_, h'.e⟩
  · show P.top.kids ++ [_] = _
    rw [h.kids, hg, h'.kids]
  · show P.top.sizes ++ [_] = _
    rw [h.sizes, hs, List.map_append]
    rfl
  · show P'.shut.set P'.top.group true = _
    rw [hg, h'.shut]
  · show (P.top.sizes ++ [P'.top.sizes.sum]).sum + (P.rest.map Frame.tot).sum ≤ P'.size
    rw [List.sum_append, List.sum_singleton]
    have : P.top.tot = P.top.sizes.sum := rfl
    omega
theorem esc_eol (t : List UInt8) (r : DR) : (dEsc t r).1 ≠ .eol := by
  unfold dEsc
  dsimp only
  repeat (first | (split) | (intro h; cases h))
theorem leaf_eol (t : List UInt8) (r : DR) (f : Bool) (h : (dLeaf t r f).1 = .eol) : (dLeaf t r f).2.at_ = t.length ∨ see2 t (dLeaf t r f).2.at_ 92 41 = true := by
  unfold dLeaf at h ⊢
  dsimp only at h ⊢
  split at h <;> rename_i c1
  · cases h
  rw [if_neg c1]
  split at h <;> rename_i c2
  · exact absurd h (esc_eol t r)
  rw [if_neg c2]
  split at h <;> rename_i c3
  · split at h <;> cases h
  rw [if_neg c3]
  split at h <;> rename_i c4
  · cases h
  rw [if_neg c4]
  split at h <;> rename_i c5
  · rw [if_pos c5]
    exact c5.2
  rw [if_neg c5]
  split at h <;> cases h
theorem anch_is {p : RE} (h : isAnch p = true) : p = .bol ∨ p = .eol := by cases p <;> simp [isAnch] at h ⊢
theorem bol_no {p : RE} (h : isAnch p = false) : isBol p = false := by cases p <;> simp [isAnch, isBol] at h ⊢
end Go.Proofs.YtcoajnpneableaaDoor
namespace Go.Proofs.YtcoajnpneableaaDoor
open Go Go.RowKit Sl
set_option maxRecDepth 100000
set_option maxHeartbeats 8000000
set_option linter.unusedVariables false
set_option linter.unusedSimpArgs false
attribute [local irreducible] ES EL PX wps
def dPart (t : List UInt8) (n : Nat) (r : DR) (first : Bool) : RE × DR :=
  if see2 t r.at_ 92 40 = true then
    (if r.groups = 9 then (.cat [], r.fail 4 r.at_)
    else (.group (r.groups + 1) (dRow t n true r.at_ [] { r with groups := r.groups + 1, at_ := r.at_ + 2 }).1, { (dRow t n true r.at_ [] { r with groups := r.groups + 1, at_ := r.at_ + 2 }).2 with closed := (dRow t n true r.at_ [] { r with groups := r.groups + 1, at_ := r.at_ + 2 }).2.closed.set (r.groups + 1) true }))
  else dLeaf t r first
def dFull (t : List UInt8) (x : RE × DR) : RE × DR := if isAnch x.1 = true then x else dReps t t.length x.1 x.2
theorem dRow_step (t : List UInt8) (n : Nat) (in_ : Bool) (op : Nat) (ks : List RE) (r : DR) : dRow t (n + 1) in_ op ks r =
    if r.e ≠ 0 then (.cat ks, r)
    else if r.at_ = t.length then (.cat ks, if in_ = true then r.fail 10 op else r)
    else if see2 t r.at_ 92 41 = true then (.cat ks, (if in_ = true then r else r.fail 10 r.at_).to (r.at_ + 2))
    else dRow t n in_ op (ks ++ [(dFull t (dPart t n r (decide (ks = [])))).1]) (dFull t (dPart t n r (decide (ks = [])))).2 := by
  rw [dRow]
  rfl
theorem full_bad {t : List UInt8} {x : RE × DR} (h : x.2.e ≠ 0) : (dFull t x).2 = x.2 := by
  unfold dFull
  split
  · rfl
  · rw [reps_bad _ _ _ h]
abbrev RowIH (t : List UInt8) (n : Nat) : Prop := ∀ (in_ : Bool) (op : Nat) (ks : List RE) (r : DR) (P : PS) (m : Nat) (b : Bool), DRel ks r P → r.at_ ≤ t.length → t.length ≤ m + r.at_ → t.length < n + r.at_ → (b = false → NoRep t r.at_) →
  (in_ = true → P.rest ≠ [] ∧ P.top.at_ = op) → (in_ = false → P.rest = []) → RowD t m r.at_ (decide (ks = [])) b in_ P (dRow t n in_ op ks r)
theorem group_aft {t : List UInt8} {n m : Nat} {b : Bool} {ks : List RE} {r : DR} {P : PS} (ih : RowIH t n) (h : DRel ks r P) (hlt : r.at_ < t.length) (hm : t.length ≤ m + r.at_) (hn : t.length < n + 1 + r.at_) (hop : see2 t r.at_ 92 40 = true) : Aft t m r.at_ (decide (ks = [])) b P ks (dPart t n r (decide (ks = []))) := by
  obtain ⟨h1, h2, h3⟩ := (see2_iff ..).1 hop
  have h2' : (t.getD r.at_ 0).toNat = 92 := by rw [h2]; rfl
  have h3' : (t.getD (r.at_ + 1) 0).toNat = 40 := by rw [h3]; rfl
  have hk : readT t r.at_ (decide (ks = [])) b = (⟨3, r.at_, zeroS, 0, 0, 0⟩, r.at_ + 2) := by unfold readT; rw [if_pos h2', escT, if_neg (by omega)]; dsimp only; rw [if_pos h3']
  obtain ⟨m, rfl⟩ : ∃ n, m = n + 1 := ⟨m - 1, by omega⟩
  have hst := pg_tok (m := m) hlt hk (show (3 : Nat) ≠ 7 by decide) P
  rw [takeM_3 rfl] at hst
  unfold dPart
  rw [if_pos hop]
  by_cases h9 : r.groups = 9
  · rw [if_pos h9, fail_ok h.e]
    rw [if_pos (h.groups.trans h9), if_pos (by simp)] at hst
    exact .inl ⟨by simp, hst⟩
  rw [if_neg h9]
  rw [if_neg (fun e => h9 (h.groups.symm.trans e)), if_neg (by simp)] at hst
  have hrel : DRel [] { r with groups := r.groups + 1, at_ := r.at_ + 2 } { P with top := ⟨[], [], P.groups + 1, r.at_⟩, rest := P.top :: P.rest, groups := P.groups + 1 } := by
    refine ⟨rfl, rfl, ?_, h.shut, h.size, ?_, h.e⟩
    · show P.groups + 1 = r.groups + 1
      rw [h.groups]
    · show ([] : List Nat).sum + ((P.top :: P.rest).map Frame.tot).sum ≤ P.size
      have := h.tot
      rw [List.map_cons, List.sum_cons, List.sum_nil, Nat.zero_add]
      exact this
  have hrow := ih true r.at_ [] { r with groups := r.groups + 1, at_ := r.at_ + 2 } _ m true hrel h1 (by show t.length ≤ m + (r.at_ + 2); omega) (by show t.length < n + (r.at_ + 2); omega) (fun e => by cases e) (fun _ => ⟨by simp, rfl⟩) (fun e => by cases e)
  generalize dRow t n true r.at_ [] { r with groups := r.groups + 1, at_ := r.at_ + 2 } = y at hrow ⊢
  have hst' : pg t (m + 1) r.at_ (decide (ks = [])) b P = pg t m (r.at_ + 2) true true { P with top := ⟨[], [], P.groups + 1, r.at_⟩, rest := P.top :: P.rest, groups := P.groups + 1 } := hst
  have hrow' : RowD t m (r.at_ + 2) true true true { P with top := ⟨[], [], P.groups + 1, r.at_⟩, rest := P.top :: P.rest, groups := P.groups + 1 } y := hrow
  rcases hrow' with ⟨e1, e2⟩ | ⟨_, e2, _⟩ | ⟨e1, _, ks', m', P', e3, e4, e5, e6, e7, e8, e9, e10⟩
  · exact .inl ⟨e1, hst'.trans e2⟩
  · cases e2
  · have hg : P'.top.group = r.groups + 1 := e6.trans (by show P.groups + 1 = _; rw [h.groups])
    have hc := close_rel (a := 0) h e4 (r.groups + 1) hg e5
    rw [← e3] at hc
    refine .inr ⟨e1, m', closeS P' P.top P.rest, hc, rfl, rfl, rfl, e7, by show r.at_ < y.2.at_; omega, e9, ?_⟩
    exact hst'.trans (e10 P.top P.rest rfl)
theorem part_aft {t : List UInt8} {n m : Nat} {b : Bool} {ks : List RE} {r : DR} {P : PS} (ih : RowIH t n) (h : DRel ks r P) (hlt : r.at_ < t.length) (hm : t.length ≤ m + r.at_) (hn : t.length < n + 1 + r.at_) (hsh : see2 t r.at_ 92 41 = false) (hnr : b = false → NoRep t r.at_) :
    Aft t m r.at_ (decide (ks = [])) b P ks (dPart t n r (decide (ks = []))) ∧ ((dPart t n r (decide (ks = []))).1 = .eol → (dPart t n r (decide (ks = []))).2.at_ = t.length ∨ see2 t (dPart t n r (decide (ks = []))).2.at_ 92 41 = true) := by
  by_cases hop : see2 t r.at_ 92 40 = true
  · refine ⟨group_aft ih h hlt hm hn hop, fun he => ?_⟩
    unfold dPart at he
    rw [if_pos hop] at he
    split at he <;> cases he
  · have hd : dPart t n r (decide (ks = [])) = dLeaf t r (decide (ks = [])) := by unfold dPart; rw [if_neg hop]
    rw [hd]
    exact ⟨leaf_aft h rfl hlt hm hsh (by simpa using hop) (fun e => ⟨(hnr e).star hlt, (hnr e).iv⟩), leaf_eol t r _⟩
theorem norep_eol {t : List UInt8} {a : Nat} (h : a = t.length ∨ see2 t a 92 41 = true) : NoRep t a := by
  rcases h with h | h
  · refine ⟨fun hl => by omega, ?_⟩
    cases hx : see2 t a 92 123 with
    | false => rfl
    | true => have := ((see2_iff ..).1 hx).1; omega
  · obtain ⟨h1, h2, h3⟩ := (see2_iff ..).1 h
    refine ⟨fun _ => by rw [h2]; decide, ?_⟩
    cases hx : see2 t a 92 123 with
    | false => rfl
    | true =>
      have := ((see2_iff ..).1 hx).2.2
      rw [h3] at this
      exact absurd this (by decide)
theorem row_aft {t : List UInt8} : ∀ n, RowIH t n
  | 0 => fun in_ op ks r P m b h hat hm hn => by omega
  | n + 1 => fun in_ op ks r P m b h hat hm hn hnr hin hout => by
    have ih := row_aft (t := t) n
    rw [dRow_step, if_neg (by rw [h.e]; simp)]
    by_cases hend : r.at_ = t.length
    · rw [if_pos hend]
      have hp := pg_end (show t.length ≤ r.at_ by omega) m (decide (ks = [])) b P
      cases in_ with
      | false =>
        refine .inr (.inl ⟨h.e, rfl, hp.trans ?_⟩)
        unfold endM
        rw [hout rfl, h.kids]
      | true =>
        obtain ⟨h1, h2⟩ := hin rfl
        rw [if_pos rfl, fail_ok h.e]
        refine .inl ⟨by simp, hp.trans ?_⟩
        unfold endM
        cases hr : P.rest with
        | nil => exact absurd hr h1
        | cons f fs => dsimp only; rw [h2]
    rw [if_neg hend]
    have hlt : r.at_ < t.length := by omega
    by_cases hsh : see2 t r.at_ 92 41 = true
    · rw [if_pos hsh]
      obtain ⟨h1, h2, h3⟩ := (see2_iff ..).1 hsh
      have h2' : (t.getD r.at_ 0).toNat = 92 := by rw [h2]; rfl
      have h3' : (t.getD (r.at_ + 1) 0).toNat = 41 := by rw [h3]; rfl
      have hk : readT t r.at_ (decide (ks = [])) b = (⟨4, r.at_, zeroS, 0, 0, 0⟩, r.at_ + 2) := by unfold readT; rw [if_pos h2', escT, if_neg (by omega)]; dsimp only; rw [if_neg (by omega), if_pos h3']
      obtain ⟨m, rfl⟩ : ∃ n, m = n + 1 := ⟨m - 1, by omega⟩
      have hst := pg_tok (m := m) hlt hk (show (4 : Nat) ≠ 7 by decide) P
      rw [takeM_4 rfl] at hst
      cases in_ with
      | false =>
        rw [hout rfl] at hst
        dsimp only at hst
        rw [if_pos (by simp)] at hst
        rw [if_neg (by simp), fail_ok h.e]
        exact .inl ⟨by show (10 : Int) ≠ 0; decide, hst⟩
      | true =>
        rw [if_pos rfl]
        refine .inr (.inr ⟨h.e, rfl, ks, m, P, rfl, ⟨h.kids, h.sizes, h.groups, h.shut, h.size, h.tot, h.e⟩, rfl, rfl, by show t.length ≤ m + (r.at_ + 2); omega, Nat.le_refl _, h1, fun fr rest hr => ?_⟩)
        rw [hr] at hst
        dsimp only at hst
        rw [if_neg (by simp)] at hst
        exact hst
    rw [if_neg hsh]
    have hsh' : see2 t r.at_ 92 41 = false := by simpa using hsh
    obtain ⟨hA, hE⟩ := part_aft (b := b) ih h hlt hm (by omega) hsh' hnr
    generalize dPart t n r (decide (ks = [])) = x at hA hE ⊢
    rcases hA with ⟨e1, e2⟩ | ⟨e1, m', P', e2, e3, e4, e5, e6, e7, e8, e9⟩
    · rw [full_bad e1, row_bad _ _ _ _ _ e1]
      exact .inl ⟨e1, e2⟩
    · have hd : decide (ks ++ [x.1] = []) = false := by simp
      have hinn : in_ = true → P'.rest ≠ [] ∧ P'.top.at_ = op := fun e => ⟨by rw [e3]; exact (hin e).1, e5.trans (hin e).2⟩
      have hon : in_ = false → P'.rest = [] := fun e => e3.trans (hout e)
      cases ha : isAnch x.1 with
      | true =>
        have hf : dFull t x = x := by unfold dFull; rw [if_pos ha]
        rw [hf]
        have := ih in_ op (ks ++ [x.1]) x.2 P' m' (isBol x.1) e2 e8 e6 (by omega) (fun hb => by
          rcases anch_is ha with e | e
          · rw [e] at hb; cases hb
          · exact norep_eol (hE e)) hinn hon
        rw [hd] at this
        exact this.trans e9 (by omega) e3 e4
      | false =>
        have hf : dFull t x = dReps t t.length x.1 x.2 := by unfold dFull; rw [if_neg (by rw [ha]; simp)]
        rw [hf]
        rw [bol_no ha] at e9
        rcases reps_aft t.length x.1 x.2 P' m' e2 e8 e6 (by omega) with ⟨f1, f2⟩ | ⟨f1, m2, P2, f2, f3, f4, f5, f6, f7, f8, f9, f10⟩
        · rw [row_bad _ _ _ _ _ f1]
          exact .inl ⟨f1, e9.trans f2⟩
        · have := ih in_ op _ _ P2 m2 false f2 f8 f6 (by omega) (fun _ => f9) (fun e => ⟨by rw [f3]; exact (hinn e).1, f5.trans (hinn e).2⟩) (fun e => f3.trans (hon e))
          have hd2 : decide (ks ++ [(dReps t t.length x.1 x.2).1] = []) = false := by simp
          rw [hd2] at this
          exact this.trans (e9.trans f10) (by omega) (f3.trans e3) (f4.trans e4)
theorem doc_is (t : List UInt8) : docM t = parseM t := by
  unfold docM parseM
  by_cases h : 512 < t.length
  · rw [if_pos h, if_pos h]
  rw [if_neg h, if_neg h]
  have h0 : DRel [] dr0 ps0 := ⟨rfl, rfl, rfl, rfl, rfl, by decide, rfl⟩
  have hr := row_aft (t := t) (t.length + 1) false 0 [] dr0 ps0 t.length true h0 (Nat.zero_le _) (by show t.length ≤ t.length + 0; omega) (by show t.length < t.length + 1 + 0; omega) (fun e => by cases e) (fun e => by cases e) (fun _ => rfl)
  have hpg : parseGo (toksM t) ps0 = pg t t.length 0 true true ps0 := rfl
  dsimp only
  rw [hpg]
  rcases hr with ⟨e1, e2⟩ | ⟨e1, _, e2⟩ | ⟨_, e2, _⟩
  · rw [if_pos e1]
    exact e2.symm
  · rw [if_neg (by rw [e1]; simp)]
    exact e2.symm
  · cases e2
end Go.Proofs.YtcoajnpneableaaDoor
namespace Go.Proofs.YtcoajnpneableaaDoor
open Go Go.RowKit Sl
set_option maxRecDepth 100000
set_option maxHeartbeats 8000000
set_option linter.unusedVariables false
set_option linter.unusedSimpArgs false
attribute [local irreducible] ES EL PX wps
attribute [local irreducible] fillS memGo
theorem memGo_y (p : Nat → Bool) (i : Nat) (h : p i = true) : memGo p i ++ [UInt8.ofNat i] = memGo p (i + 1) := by rw [memGo, if_pos h]
theorem memGo_n (p : Nat → Bool) (i : Nat) (h : p i = false) : memGo p i = memGo p (i + 1) := by rw [memGo, if_neg (by rw [h]; simp)]
theorem memGo_0 (p : Nat → Bool) : memGo p 0 = [] := by rw [memGo]
end Go.Proofs.YtcoajnpneableaaDoor
namespace Go.Proofs.YtcoajnpneableaaDoor
open Go Go.RowKit Sl
set_option maxRecDepth 100000
set_option maxHeartbeats 8000000
set_option linter.unusedVariables false
set_option linter.unusedSimpArgs false
attribute [local irreducible] ES EL PX wps
attribute [local irreducible] fillS memGo
end Go.Proofs.YtcoajnpneableaaDoor
namespace Go.Proofs.YtcoajnpneableaaDoor
open Go Go.RowKit Sl
set_option maxRecDepth 100000
set_option maxHeartbeats 8000000
set_option linter.unusedVariables false
set_option linter.unusedSimpArgs false
attribute [local irreducible] ES EL PX wps
theorem has_of (k : Nat) (hk : k < 256) : ∀ (l : List UInt8) (s : BS), hasS (l.foldl (fun s b => addS s b.toNat) s) k = (hasS s k || l.any fun b => b.toNat == k)
  | [], s => by simp
  | b :: l, s => by
    rw [List.foldl_cons, has_of k hk l, has_add _ _ _ b.toNat_lt hk, List.any_cons, Bool.or_assoc]
    congr 2
    rw [Bool.eq_iff_iff]
    simp only [decide_eq_true_eq, beq_iff_eq]
    omega
theorem has_ofS (l : List UInt8) (k : Nat) (hk : k < 256) : hasS (ofS l) k = l.any fun b => b.toNat == k := by
  rw [ofS, has_of k hk, has_zero, Bool.false_or]
attribute [local irreducible] fillS memGo
end Go.Proofs.YtcoajnpneableaaDoor
namespace Go.Proofs.YtcoajnpneableaaDoor
open Go Go.RowKit Sl
set_option maxRecDepth 100000
set_option maxHeartbeats 8000000
set_option linter.unusedVariables false
set_option linter.unusedSimpArgs false
attribute [local irreducible] ES EL PX wps
def spc (b : UInt8) : Bool := decide (b = 93 ∨ b = 94 ∨ b = 45 ∨ b = 91)
def flushM (out run : List UInt8) : List UInt8 := if 2 < run.length then out ++ [run.getD 0 0, 45, run.getD (run.length - 1) 0] else out ++ run
def textStep (st : List UInt8 × List UInt8) (b : UInt8) : List UInt8 × List UInt8 :=
  if spc b = true then (flushM st.1 st.2 ++ [91, 46, b, 46, 93], [])
  else if 0 < st.2.length ∧ st.2.getD (st.2.length - 1) 0 + 1 ≠ b then (flushM st.1 st.2, [b])
  else (st.1, st.2 ++ [b])
def textS (s : BS) : List UInt8 :=
  if s = zeroS then [91, 94, 0, 45, 255, 93]
  else flushM ((membersM s).foldl textStep ([91], [])).1 ((membersM s).foldl textStep ([91], [])).2 ++ [93]
inductive Piece
  | sp (b : UInt8)
  | one (c : UInt8)
  | rng (c d : UInt8)
def Piece.txt : Piece → List UInt8
  | .sp b => [91, 46, b, 46, 93]
  | .one c => [c]
  | .rng c d => [c, 45, d]
def Piece.set : Piece → BS
  | .sp b => ofS [b]
  | .one c => ofS [c]
  | .rng c d => (spanM c d).1
def Piece.ok : Piece → Prop
  | .sp _ => True
  | .one c => spc c = false
  | .rng c d => spc c = false ∧ spc d = false ∧ c.toNat ≤ d.toNat
abbrev txts (ps : List Piece) : List UInt8 := ps.flatMap Piece.txt
theorem spc_no {c : UInt8} (h : spc c = false) : c ≠ 93 ∧ c ≠ 94 ∧ c ≠ 45 ∧ c ≠ 91 := by
  unfold spc at h
  rw [decide_eq_false_iff_not] at h
  simpa [not_or] using h
theorem Piece.head {p : Piece} (h : p.ok) : ∃ c r, p.txt = c :: r ∧ c ≠ 93 ∧ c ≠ 94 ∧ c ≠ 45 := by
  cases p with
  | sp b => exact ⟨91, _, rfl, by decide, by decide, by decide⟩
  | one c => exact ⟨c, _, rfl, (spc_no h).1, (spc_no h).2.1, (spc_no h).2.2.1⟩
  | rng c d => exact ⟨c, _, rfl, (spc_no h.1).1, (spc_no h.1).2.1, (spc_no h.1).2.2.1⟩
theorem rest_head {ps : List Piece} (h : ∀ p ∈ ps, p.ok) : ∃ c r, txts ps ++ [93] = c :: r ∧ c ≠ 45 ∧ c ≠ 94 := by
  cases ps with
  | nil => exact ⟨93, [], rfl, by decide, by decide⟩
  | cons p ps =>
    obtain ⟨c, r, h1, h2, h3, h4⟩ := Piece.head (h p (List.mem_cons_self ..))
    exact ⟨c, r ++ (txts ps ++ [93]), by simp [txts, h1], h4, h3⟩
theorem getD_at (pre rest : List UInt8) (i : Nat) : (pre ++ rest).getD (pre.length + i) 0 = rest.getD i 0 := by
  rw [List.getD_eq_getElem?_getD, List.getElem?_append_right (by omega), Nat.add_sub_cancel_left, ← List.getD_eq_getElem?_getD]
theorem getD_at0 (pre rest : List UInt8) : (pre ++ rest).getD pre.length 0 = rest.getD 0 0 := getD_at pre rest 0
theorem dash_no {pre rest : List UInt8} {c : UInt8} {r : List UInt8} (h : rest = c :: r) (hc : c ≠ 45) : dashM (pre ++ rest) pre.length = false := by
  unfold dashM
  rw [getD_at0, h]
  have : ¬ ((c.toNat : Int) = 45) := fun e => hc (UInt8.toNat_inj.1 (by show c.toNat = 45; omega))
  simp [this]
theorem item_one (pre rest : List UInt8) (c : UInt8) (hc : c ≠ 91) : itemM (pre ++ c :: rest) pre.length = ⟨ofS [c], c, true, pre.length + 1, 0⟩ := by
  have h : ¬ ((c.toNat : Int) = 91) := fun e => hc (UInt8.toNat_inj.1 (by show c.toNat = 91; omega))
  have hi : itC (pre ++ c :: rest) pre.length = true := by
    unfold itC
    rw [getD_at0]
    simp [h]
  unfold itemM
  rw [if_pos hi, getD_at0]
  rfl
theorem item_sp (pre rest : List UInt8) (b : UInt8) : itemM (pre ++ [91, 46, b, 46, 93] ++ rest) pre.length = ⟨ofS [b], b, true, pre.length + 5, 0⟩ := by
  rw [List.append_assoc]
  have g1 : (pre ++ ([91, 46, b, 46, 93] ++ rest)).getD (pre.length + 1) 0 = 46 := getD_at pre _ 1
  have hlen : (pre ++ ([91, 46, b, 46, 93] ++ rest)).length = pre.length + (5 + rest.length) := by simp; omega
  have hi : itC (pre ++ ([91, 46, b, 46, 93] ++ rest)) pre.length = false := by
    unfold itC
    rw [getD_at0, g1, hlen]
    have : idxB [46, 61, 58] 46 = 0 := by decide
    rw [this]
    simp
    omega
  have hd : ∀ i, (pre ++ ([91, 46, b, 46, 93] ++ rest)).drop (pre.length + i) = ([91, 46, b, 46, 93] ++ rest).drop i := fun i => by
    rw [List.drop_append]
    simp
  have hk : nmK (pre ++ ([91, 46, b, 46, 93] ++ rest)) pre.length = 0 := by
    unfold nmK
    rw [if_pos (by rw [hlen]; omega), g1, show pre.length + 2 + 1 = pre.length + 3 from rfl, hd]
    simp [Lib.index]
  have hn : nmN (pre ++ ([91, 46, b, 46, 93] ++ rest)) pre.length = [b] := by
    unfold nmN
    rw [if_neg (by rw [hk]; decide), hk, hd]
    simp
  have ha : nmA (pre ++ ([91, 46, b, 46, 93] ++ rest)) pre.length = pre.length + 5 := by
    unfold nmA
    rw [if_neg (by rw [hk]; decide), hk]
    simp
  unfold itemM
  rw [if_neg (by rw [hi]; simp), if_neg (by unfold nmE; rw [if_neg (by rw [hk]; decide)]; simp), g1, hn, ha, if_neg (by decide), if_neg (by simp)]
  rfl
theorem span_piece {pre rest : List UInt8} {p : Piece} (hp : p.ok) {c : UInt8} {r : List UInt8} (hr : rest = c :: r) (hc : c ≠ 45) : spanT (pre ++ p.txt ++ rest) pre.length = ⟨p.set, (pre ++ p.txt).length, 0⟩ := by
  cases p with
  | sp b =>
    have hi := item_sp pre rest b
    have hd := dash_no (pre := pre ++ [91, 46, b, 46, 93]) hr hc
    have e : (pre ++ [91, 46, b, 46, 93]).length = pre.length + 5 := by simp
    rw [e] at hd
    show spanT (pre ++ [91, 46, b, 46, 93] ++ rest) pre.length = ⟨ofS [b], (pre ++ [91, 46, b, 46, 93]).length, 0⟩
    unfold spanT
    rw [hi]
    dsimp only
    rw [if_pos (.inr hd), e]
  | one d =>
    have hd := dash_no (pre := pre ++ [d]) hr hc
    have e : (pre ++ [d]).length = pre.length + 1 := by simp
    rw [e] at hd
    have hi := item_one pre rest d (spc_no hp).2.2.2
    show spanT (pre ++ [d] ++ rest) pre.length = ⟨ofS [d], (pre ++ [d]).length, 0⟩
    rw [show pre ++ [d] ++ rest = pre ++ d :: rest by simp] at hd ⊢
    unfold spanT
    rw [hi]
    dsimp only
    rw [if_pos (.inr hd), e]
  | rng d e =>
    obtain ⟨h1, h2, h3⟩ := hp
    have hi := item_one pre (45 :: e :: rest) d (spc_no h1).2.2.2
    have hj := item_one (pre ++ [d, 45]) rest e (spc_no h2).2.2.2
    have hd := dash_no (pre := pre ++ [d, 45, e]) hr hc
    have e1 : (pre ++ [d, 45]).length = pre.length + 2 := by simp
    have e2 : (pre ++ [d, 45, e]).length = pre.length + 3 := by simp
    have e3 : pre ++ [d, 45] ++ e :: rest = pre ++ d :: 45 :: e :: rest := by simp
    have e4 : pre ++ [d, 45, e] ++ rest = pre ++ d :: 45 :: e :: rest := by simp
    rw [e1, e3] at hj
    rw [e2, e4] at hd
    have hdash : dashM (pre ++ d :: 45 :: e :: rest) (pre.length + 1) = true := by
      unfold dashM
      rw [getD_at pre _ 1, show pre.length + 1 + 1 = pre.length + 2 from rfl, getD_at pre _ 2]
      have : ¬ ((e.toNat : Int) = 93) := fun x => (spc_no h2).1 (UInt8.toNat_inj.1 (by show e.toNat = 93; omega))
      simp [this]
      omega
    show spanT (pre ++ [d, 45, e] ++ rest) pre.length = ⟨(spanM d e).1, (pre ++ [d, 45, e]).length, 0⟩
    rw [e4]
    unfold spanT
    rw [hi]
    dsimp only
    rw [hj]
    dsimp only
    rw [if_neg (by rw [hdash]; simp), if_neg (by simp; omega), if_neg (by simp), if_neg (by simp), if_neg (by simp), if_neg (by rw [hd]; simp), e2]
    have : (spanM d e).2 = 0 := by unfold spanM; rw [if_neg (by omega)]
    rw [this]
theorem has_fold (k : Nat) : ∀ (ps : List Piece) (s : BS), hasS (ps.foldl (fun s p => orS s p.set) s) k = (hasS s k || ps.any fun p => hasS p.set k)
  | [], s => by simp
  | p :: ps, s => by rw [List.foldl_cons, has_fold k ps, has_or, List.any_cons, Bool.or_assoc]
theorem txt_pos {p : Piece} (h : p.ok) : 1 ≤ p.txt.length := by cases p <;> simp [Piece.txt]
theorem txts_len : ∀ (ps : List Piece), (∀ p ∈ ps, p.ok) → ps.length ≤ (txts ps).length
  | [], _ => Nat.zero_le _
  | p :: ps, h => by
    have h1 := txts_len ps (fun q hq => h q (List.mem_cons_of_mem _ hq))
    have h2 := txt_pos (h p (List.mem_cons_self ..))
    simp only [txts, List.flatMap_cons, List.length_append, List.length_cons] at h1 ⊢
    omega
def flushP (run : List UInt8) : List Piece := if 2 < run.length then [.rng (run.getD 0 0) (run.getD (run.length - 1) 0)] else run.map .one
structure Run (run : List UInt8) (n : Nat) : Prop where
  plain : ∀ c ∈ run, spc c = false
  step : ∀ i, i < run.length → (run.getD i 0).toNat = (run.getD 0 0).toNat + i
  lt : ∀ c ∈ run, c.toNat < n
theorem getD_mem {l : List UInt8} {i : Nat} (h : i < l.length) : l.getD i 0 ∈ l := by
  rw [List.getD_eq_getElem?_getD, List.getElem?_eq_getElem h]
  exact List.getElem_mem _
theorem Run.nil (n : Nat) : Run [] n := ⟨(fun c h => by cases h), (fun i h => by simp at h), (fun c h => by cases h)⟩
theorem Run.mono {run : List UInt8} {n : Nat} (h : Run run n) : Run run (n + 1) := ⟨h.plain, h.step, fun c hc => Nat.lt_succ_of_lt (h.lt c hc)⟩
theorem Run.flush_ok {run : List UInt8} {n : Nat} (h : Run run n) : ∀ p ∈ flushP run, p.ok := by
  unfold flushP
  split
  · intro p hp
    rw [List.mem_singleton] at hp
    subst hp
    refine ⟨h.plain _ (getD_mem (by omega)), h.plain _ (getD_mem (by omega)), ?_⟩
    have := h.step (run.length - 1) (by omega)
    omega
  · intro p hp
    obtain ⟨c, hc, rfl⟩ := List.mem_map.1 hp
    exact h.plain c hc
theorem flush_txt (out run : List UInt8) : flushM out run = out ++ txts (flushP run) := by
  unfold flushM flushP
  split
  · rfl
  · congr 1
    induction run with
    | nil => rfl
    | cons c r ih =>
      rename_i h
      by_cases hr : 2 < r.length
      · simp at h; omega
      · have := ih hr
        simp only [txts, List.map_cons, List.flatMap_cons] at this ⊢
        rw [← this]
        rfl
theorem has_one (c : UInt8) (k : Nat) (hk : k < 256) : hasS (ofS [c]) k = decide (c.toNat = k) := by
  rw [has_ofS _ _ hk, Bool.eq_iff_iff]
  simp
theorem Run.flush_has {run : List UInt8} {n : Nat} (h : Run run n) {k : Nat} (hk : k < 256) : ((flushP run).any fun p => hasS p.set k) = run.any fun c => decide (c.toNat = k) := by
  unfold flushP
  split
  · rename_i h2
    have hl := h.step (run.length - 1) (by omega)
    have hs : hasS (spanM (run.getD 0 0) (run.getD (run.length - 1) 0)).1 k = (decide ((run.getD 0 0).toNat ≤ k) && decide (k ≤ (run.getD (run.length - 1) 0).toNat)) := by
      unfold spanM
      rw [if_neg (by omega)]
      show hasS (fillS _ 256) k = _
      rw [has_fill _ k hk 256 (Nat.le_refl _), decide_eq_true hk, Bool.and_true]
    rw [List.any_cons, List.any_nil, Bool.or_false]
    show hasS (spanM _ _).1 k = _
    rw [hs, Bool.eq_iff_iff]
    simp only [Bool.and_eq_true, decide_eq_true_eq, List.any_eq_true]
    constructor
    · rintro ⟨h3, h4⟩
      have hi : k - (run.getD 0 0).toNat < run.length := by omega
      exact ⟨run.getD (k - (run.getD 0 0).toNat) 0, getD_mem hi, by rw [h.step _ hi]; omega⟩
    · rintro ⟨c, hc, rfl⟩
      obtain ⟨i, hi, rfl⟩ := List.mem_iff_getElem.1 hc
      have := h.step i hi
      rw [List.getD_eq_getElem?_getD, List.getElem?_eq_getElem hi, Option.getD_some] at this
      omega
  · rw [List.any_map]
    apply List.any_congr
    · rfl
    · exact fun c => has_one c k hk
structure TxI (p : Nat → Bool) (n : Nat) (st : List UInt8 × List UInt8) (ps : List Piece) : Prop where
  out : st.1 = 91 :: txts ps
  ok : ∀ q ∈ ps, q.ok
  run : Run st.2 n
  has : ∀ k, k < 256 → ((ps.any fun q => hasS q.set k) || st.2.any fun c => decide (c.toNat = k)) = (p k && decide (k < n))
theorem tx_go (p : Nat → Bool) : ∀ n, n ≤ 256 → ∃ ps, TxI p n ((memGo p n).foldl textStep ([91], [])) ps
  | 0, _ => by
    rw [memGo_0]
    exact ⟨[], rfl, (fun q h => by cases h), Run.nil 0, fun k _ => by simp⟩
  | n + 1, hn => by
    obtain ⟨ps, hI⟩ := tx_go p n (by omega)
    cases hp : p n with
    | false =>
      rw [← memGo_n p n hp]
      refine ⟨ps, hI.out, hI.ok, hI.run.mono, fun k hk => ?_⟩
      rw [hI.has k hk]
      by_cases e : k = n
      · subst e; simp [hp]
      · rw [decide_eq_decide.2 (show k < n ↔ k < n + 1 by omega)]
    | true =>
      rw [← memGo_y p n hp, List.foldl_append]
      obtain ⟨st, hst⟩ : ∃ st, st = (memGo p n).foldl textStep ([91], []) := ⟨_, rfl⟩
      rw [← hst] at hI ⊢
      obtain ⟨b, hb⟩ : ∃ b, b = UInt8.ofNat n := ⟨_, rfl⟩
      have hbn : b.toNat = n := by rw [hb]; simp; omega
      rw [← hb]
      show ∃ ps, TxI p (n + 1) (textStep st b) ps
      have hk2 : ∀ k, k < 256 → (p k && decide (k < n + 1)) = ((p k && decide (k < n)) || decide (b.toNat = k)) := fun k _ => by
        rw [hbn]
        by_cases e : n = k
        · subst e; simp [hp]
        · rw [decide_eq_false e, Bool.or_false, decide_eq_decide.2 (show k < n + 1 ↔ k < n by omega)]
      have hfl : ∀ k, k < 256 → ((ps ++ flushP st.2).any fun q => hasS q.set k) = (p k && decide (k < n)) := fun k hk => by
        rw [List.any_append, hI.run.flush_has hk, hI.has k hk]
      have hfo : ∀ q ∈ ps ++ flushP st.2, q.ok := fun q hq => (List.mem_append.1 hq).elim (hI.ok q) (hI.run.flush_ok q)
      have hft : flushM st.1 st.2 = 91 :: txts (ps ++ flushP st.2) := by
        rw [flush_txt, hI.out]
        simp [txts]
      unfold textStep
      by_cases hs : spc b = true
      · rw [if_pos hs]
        refine ⟨ps ++ flushP st.2 ++ [.sp b], ?_, ?_, Run.nil _, fun k hk => ?_⟩
        · show flushM st.1 st.2 ++ _ = _
          rw [hft]
          simp [txts, Piece.txt]
        · intro q hq
          rcases List.mem_append.1 hq with h | h
          · exact hfo q h
          · rw [List.mem_singleton] at h; subst h; exact trivial
        · rw [List.any_append, hfl k hk, hk2 k hk]
          show ((_ || ([Piece.sp b].any fun q => hasS q.set k)) || (([] : List UInt8).any fun c => decide (c.toNat = k))) = _
          rw [List.any_cons, List.any_nil, List.any_nil, Bool.or_false, Bool.or_false]
          show (_ || hasS (ofS [b]) k) = _
          rw [has_one b k hk]
      · have hs' : spc b = false := by simpa using hs
        rw [if_neg hs]
        by_cases hc : 0 < st.2.length ∧ st.2.getD (st.2.length - 1) 0 + 1 ≠ b
        · rw [if_pos hc]
          refine ⟨ps ++ flushP st.2, hft, hfo, ⟨fun c h => ?_, fun i h => ?_, fun c h => ?_⟩, fun k hk => ?_⟩
          · rw [List.mem_singleton] at h; subst h; exact hs'
          · have : i = 0 := by simpa using h
            subst this; rfl
          · rw [List.mem_singleton] at h; subst h; omega
          · rw [hfl k hk, hk2 k hk]
            simp
        · rw [if_neg hc]
          refine ⟨ps, hI.out, hI.ok, ⟨fun c h => ?_, fun i h => ?_, fun c h => ?_⟩, fun k hk => ?_⟩
          · rcases List.mem_append.1 h with h | h
            · exact hI.run.plain c h
            · rw [List.mem_singleton] at h; subst h; exact hs'
          · have h' : i < (st.2 ++ [b]).length := h
            rw [List.length_append, List.length_singleton] at h'
            show ((st.2 ++ [b]).getD i 0).toNat = ((st.2 ++ [b]).getD 0 0).toNat + i
            by_cases h0 : st.2.length = 0
            · have h1 : st.2 = [] := List.length_eq_zero_iff.1 h0
              obtain rfl : i = 0 := by omega
              rfl
            · have e0 : (st.2 ++ [b]).getD 0 0 = st.2.getD 0 0 := by
                rw [List.getD_eq_getElem?_getD, List.getElem?_append_left (by omega), ← List.getD_eq_getElem?_getD]
              rw [e0]
              by_cases hi : i < st.2.length
              · rw [List.getD_eq_getElem?_getD, List.getElem?_append_left hi, ← List.getD_eq_getElem?_getD]
                exact hI.run.step i hi
              · obtain rfl : i = st.2.length := by omega
                rw [show (st.2 ++ [b]).getD st.2.length 0 = b from getD_at0 st.2 [b]]
                have hlast := hI.run.step (st.2.length - 1) (by omega)
                have hb2 : st.2.getD (st.2.length - 1) 0 + 1 = b := by
                  by_cases e : st.2.getD (st.2.length - 1) 0 + 1 = b
                  · exact e
                  · exact absurd ⟨by omega, e⟩ hc
                have hlt := hI.run.lt _ (getD_mem (show st.2.length - 1 < st.2.length by omega))
                have h3 : b.toNat = (st.2.getD (st.2.length - 1) 0).toNat + 1 := by
                  rw [← hb2, UInt8.toNat_add]
                  show ((st.2.getD (st.2.length - 1) 0).toNat + 1) % 256 = _
                  omega
                omega
          · rcases List.mem_append.1 h with h | h
            · exact Nat.lt_succ_of_lt (hI.run.lt c h)
            · rw [List.mem_singleton] at h; subst h; omega
          · show ((ps.any fun q => hasS q.set k) || (st.2 ++ [b]).any fun c => decide (c.toNat = k)) = _
            rw [List.any_append, ← Bool.or_assoc, hI.has k hk, hk2 k hk]
            simp
theorem text_pieces (s : BS) (h : s ≠ zeroS) : ∃ ps, textS s = 91 :: (txts ps ++ [93]) ∧ (∀ p ∈ ps, p.ok) ∧ ps ≠ [] ∧ ps.foldl (fun s p => orS s p.set) zeroS = s := by
  obtain ⟨ps, hI⟩ := tx_go (hasS s) 256 (Nat.le_refl _)
  have hset : (ps ++ flushP ((membersM s).foldl textStep ([91], [])).2).foldl (fun s p => orS s p.set) zeroS = s := bs_ext _ _ fun k hk => by
    rw [has_fold, has_zero, Bool.false_or, List.any_append]
    have h1 := hI.run.flush_has hk
    have h2 := hI.has k hk
    rw [decide_eq_true hk, Bool.and_true] at h2
    unfold membersM
    rw [h1]
    exact h2
  refine ⟨ps ++ flushP ((membersM s).foldl textStep ([91], [])).2, ?_, fun q hq => (List.mem_append.1 hq).elim (hI.ok q) (hI.run.flush_ok q), ?_, hset⟩
  · unfold textS
    rw [if_neg h, flush_txt]
    have : ((membersM s).foldl textStep ([91], [])).1 = 91 :: txts ps := hI.out
    rw [this]
    simp [txts]
  · intro e
    rw [e] at hset
    exact h hset.symm
end Go.Proofs.YtcoajnpneableaaDoor
namespace Go.Proofs.YtcoajnpneableaaDoor
open Go Go.RowKit Sl
set_option maxRecDepth 100000
set_option maxHeartbeats 8000000
set_option linter.unusedVariables false
set_option linter.unusedSimpArgs false
attribute [local irreducible] ES EL PX wps
def itoaM (n : Nat) : List UInt8 :=
  if n < 10 then [UInt8.ofNat (48 + n)]
  else if n < 100 then [UInt8.ofNat (48 + n / 10), UInt8.ofNat (48 + n % 10)]
  else [UInt8.ofNat (48 + n / 100), UInt8.ofNat (48 + n / 10 % 10), UInt8.ofNat (48 + n % 10)]
def timesT (lo : Nat) (hi : Int) : List UInt8 :=
  if lo = 0 ∧ hi < 0 then [42]
  else if hi < 0 then 92 :: 123 :: (itoaM lo ++ [44, 92, 125])
  else if (lo : Int) = hi then 92 :: 123 :: (itoaM lo ++ [92, 125])
  else 92 :: 123 :: (itoaM lo ++ 44 :: (itoaM hi.toNat ++ [92, 125]))
def plainB (b : UInt8) : Bool := decide (b ≠ 46 ∧ b ≠ 91 ∧ b ≠ 93 ∧ b ≠ 42 ∧ b ≠ 94 ∧ b ≠ 36 ∧ b ≠ 92)
def byteC (b : UInt8) : List UInt8 := if b = 10 then [92, 110] else if plainB b = true then [b] else [92, b]
def setT (s : BS) : List UInt8 :=
  if (membersM s).length = 256 then [46]
  else if (membersM s).length = 1 then byteC ((membersM s).getD 0 0)
  else textS s
mutual
def canR : RE → List UInt8
  | .cat ks => canL ks
  | .byte s => setT s
  | .bol => [94]
  | .eol => [36]
  | .group _ k => 92 :: 40 :: (canR k ++ [92, 41])
  | .rep lo hi k => canR k ++ timesT lo hi
  | .back n => 92 :: itoaM n
def canL : List RE → List UInt8
  | [] => []
  | k :: ks => canR k ++ canL ks
end
theorem canL_app : ∀ a b : List RE, canL (a ++ b) = canL a ++ canL b
  | [], b => rfl
  | k :: a, b => by rw [List.cons_append, canL, canL, canL_app a b, List.append_assoc]
theorem dig_of (d : Nat) (h : d < 10) : isDig (UInt8.ofNat (48 + d)) = true ∧ (UInt8.ofNat (48 + d)).toNat - 48 = d := by
  have e : (UInt8.ofNat (48 + d)).toNat = 48 + d := by rw [UInt8.toNat_ofNat']; omega
  unfold isDig
  rw [e]
  exact ⟨decide_eq_true (by omega), by omega⟩
theorem num_step {pre rest : List UInt8} {d n k : Nat} (hd : d < 10) (hn : 10 * n + d ≤ 256) : numGo (pre ++ UInt8.ofNat (48 + d) :: rest) (k + 1) n pre.length = numGo (pre ++ [UInt8.ofNat (48 + d)] ++ rest) k (10 * n + d) (pre ++ [UInt8.ofNat (48 + d)]).length := by
  obtain ⟨h1, h2⟩ := dig_of d hd
  rw [numGo, getD_at0, if_pos ⟨by simp, h1⟩]
  show numGo _ k (min (10 * n + ((UInt8.ofNat (48 + d)).toNat - 48)) 256) (pre.length + 1) = _
  rw [h2, Nat.min_eq_left hn, List.append_assoc, List.length_append]
  rfl
theorem num_stop {pre rest : List UInt8} {c : UInt8} (hc : isDig c = false) : ∀ (k n : Nat), numGo (pre ++ c :: rest) k n pre.length = (n, pre.length)
  | 0, _ => rfl
  | k + 1, n => by
    rw [numGo, getD_at0, if_neg]
    rintro ⟨_, h⟩
    have h : isDig c = true := h
    rw [hc] at h; cases h
theorem num_read (pre rest : List UInt8) (c : UInt8) (n : Nat) (hn : n ≤ 255) (hc : isDig c = false) : numM (pre ++ (itoaM n ++ c :: rest)) pre.length = ((n : Int), (pre ++ itoaM n).length) := by
  have key : ∀ (k : Nat), (itoaM n).length ≤ k → numGo (pre ++ (itoaM n ++ c :: rest)) k 0 pre.length = (n, (pre ++ itoaM n).length) := by
    intro k hk
    unfold itoaM at hk ⊢
    split
    · rename_i h1
      rw [if_pos h1] at hk
      obtain ⟨k, rfl⟩ : ∃ j, k = j + 1 := ⟨k - 1, by simp at hk; omega⟩
      rw [List.cons_append, num_step h1 (by omega), List.nil_append, num_stop hc]
      simp
    · rename_i h1
      rw [if_neg h1] at hk
      split
      · rename_i h2
        rw [if_pos h2] at hk
        obtain ⟨k, rfl⟩ : ∃ j, k = j + 2 := ⟨k - 2, by simp at hk; omega⟩
        rw [List.cons_append, num_step (by omega) (by omega), List.cons_append, num_step (by omega) (by omega), List.nil_append, num_stop hc]
        have : 10 * (10 * 0 + n / 10) + n % 10 = n := by omega
        rw [this]
        simp
      · rename_i h2
        rw [if_neg h2] at hk
        obtain ⟨k, rfl⟩ : ∃ j, k = j + 3 := ⟨k - 3, by simp at hk; omega⟩
        rw [List.cons_append, num_step (by omega) (by omega), List.cons_append, num_step (by omega) (by omega), List.cons_append, num_step (by omega) (by omega), List.nil_append, num_stop hc]
        have : 10 * (10 * (10 * 0 + n / 100) + n / 10 % 10) + n % 10 = n := by omega
        rw [this]
        simp
  have hpos : 1 ≤ (itoaM n).length := by unfold itoaM; split <;> (try split) <;> simp
  unfold numM
  rw [key _ (by simp only [List.length_append, List.length_cons]; omega)]
  dsimp only
  rw [if_neg (by rw [List.length_append]; omega)]
theorem num_none (pre rest : List UInt8) (c : UInt8) (hc : isDig c = false) : numM (pre ++ c :: rest) pre.length = (-1, pre.length) := by
  unfold numM
  rw [num_stop hc]
  dsimp only
  rw [if_pos rfl]
theorem see_here (pre rest : List UInt8) (x y : UInt8) : see2 (pre ++ x :: y :: rest) pre.length x y = true := by
  rw [see2_iff]
  exact ⟨by simp, getD_at0 pre _, getD_at pre _ 1⟩
theorem see_no {pre rest : List UInt8} {c : UInt8} {r : List UInt8} {x : UInt8} (y : UInt8) (h : rest = c :: r) (hc : c ≠ x) : see2 (pre ++ rest) pre.length x y = false := by
  cases hs : see2 (pre ++ rest) pre.length x y with
  | false => rfl
  | true =>
    have := ((see2_iff ..).1 hs).2.1
    rw [getD_at0, h] at this
    exact absurd this hc
theorem see_no2 {pre rest : List UInt8} {c d : UInt8} {r : List UInt8} (x : UInt8) {y : UInt8} (h : rest = c :: d :: r) (hc : d ≠ y) : see2 (pre ++ rest) pre.length x y = false := by
  cases hs : see2 (pre ++ rest) pre.length x y with
  | false => rfl
  | true =>
    have := ((see2_iff ..).1 hs).2.2
    rw [getD_at, h] at this
    exact absurd this hc
theorem see_nil {pre : List UInt8} (x y : UInt8) : see2 (pre ++ []) pre.length x y = false := by
  cases hs : see2 (pre ++ []) pre.length x y with
  | false => rfl
  | true =>
    have := ((see2_iff ..).1 hs).1
    rw [List.append_nil] at this
    omega
theorem take_here (pre rest : List UInt8) (x y : UInt8) : ((pre ++ x :: y :: rest).drop pre.length).take 2 = [x, y] := by
  rw [List.drop_left]; rfl
theorem iv_one {t : List UInt8} {a n p : Nat} (h1 : numM t a = ((n : Int), p)) (hc : t.getD p 0 ≠ 44) (hn : n ≤ 255) (h3 : p + 2 ≤ t.length) (h4 : (t.drop p).take 2 = [92, 125]) : ivM t a = some (n, (n : Int), p + 2) := by
  unfold ivM
  dsimp only
  have hh : (if p < t.length ∧ t.getD p 0 = 44 then numM t (p + 1) else ((n : Int), p)) = ((n : Int), p) := if_neg (fun h => hc h.2)
  simp only [h1, hh]
  rw [if_neg (by omega), if_neg (by rintro (h | h) <;> first | omega | exact h h4), Int.toNat_natCast]
theorem iv_two {t : List UInt8} {a n p q : Nat} {m : Int} (h1 : numM t a = ((n : Int), p)) (hp : p < t.length) (hc : t.getD p 0 = 44) (h2 : numM t (p + 1) = (m, q)) (hn : n ≤ 255) (hm1 : -1 ≤ m) (hm2 : m ≤ 255) (hm3 : 0 ≤ m → (n : Int) ≤ m) (h3 : q + 2 ≤ t.length) (h4 : (t.drop q).take 2 = [92, 125]) : ivM t a = some (n, m, q + 2) := by
  unfold ivM
  dsimp only
  have hh : (if p < t.length ∧ t.getD p 0 = 44 then numM t (p + 1) else ((n : Int), p)) = (m, q) := by rw [if_pos ⟨hp, hc⟩, h2]
  simp only [h1, hh]
  rw [if_neg (by omega), if_neg (by rintro (h | h) <;> first | omega | exact h h4), Int.toNat_natCast]
theorem iv_read (pre rest : List UInt8) (lo : Nat) (hi : Int) (h0 : ¬ (lo = 0 ∧ hi < 0)) (hlo : lo ≤ 255) (h1 : -1 ≤ hi) (h2 : hi ≤ 255) (h3 : 0 ≤ hi → (lo : Int) ≤ hi) :
    ∃ q, timesT lo hi = 92 :: 123 :: q ∧ ivM (pre ++ (92 :: 123 :: q ++ rest)) (pre.length + 2) = some (lo, hi, (pre ++ (92 :: 123 :: q)).length) := by
  have d92 : isDig 92 = false := by decide
  have d44 : isDig 44 = false := by decide
  have l2 : pre.length + 2 = (pre ++ [92, 123]).length := by simp
  unfold timesT
  rw [if_neg h0]
  by_cases hn : hi < 0
  · rw [if_pos hn]
    refine ⟨_, rfl, ?_⟩
    have hhi : hi = -1 := by omega
    have e1 : pre ++ (92 :: 123 :: (itoaM lo ++ [44, 92, 125]) ++ rest) = (pre ++ [92, 123]) ++ (itoaM lo ++ 44 :: (92 :: 125 :: rest)) := by simp
    have e2 : (pre ++ [92, 123]) ++ (itoaM lo ++ 44 :: (92 :: 125 :: rest)) = (pre ++ [92, 123] ++ itoaM lo) ++ 44 :: (92 :: 125 :: rest) := by simp
    have e3 : (pre ++ [92, 123] ++ itoaM lo) ++ 44 :: (92 :: 125 :: rest) = (pre ++ [92, 123] ++ itoaM lo ++ [44]) ++ 92 :: 125 :: rest := by simp
    have e4 : (pre ++ [92, 123] ++ itoaM lo).length + 1 = (pre ++ [92, 123] ++ itoaM lo ++ [44]).length := by simp; try omega
    have n1 := num_read (pre ++ [92, 123]) (92 :: 125 :: rest) 44 lo hlo d44
    have n2 := num_none (pre ++ [92, 123] ++ itoaM lo ++ [44]) (125 :: rest) 92 d92
    have hd := take_here (pre ++ [92, 123] ++ itoaM lo ++ [44]) rest 92 125
    rw [← e3, ← e2, ← e1] at n2 hd
    rw [← e1] at n1
    rw [l2, iv_two (p := (pre ++ [92, 123] ++ itoaM lo).length) (m := -1) n1 (by simp <;> omega) (by rw [e1, e2]; exact getD_at0 _ _) (by rw [e4]; exact n2) hlo (by omega) (by omega) (by omega) (by simp <;> omega) hd, hhi]
    simp
    try omega
  · rw [if_neg hn]
    have hle := h3 (by omega)
    by_cases he : (lo : Int) = hi
    · rw [if_pos he]
      refine ⟨_, rfl, ?_⟩
      have e1 : pre ++ (92 :: 123 :: (itoaM lo ++ [92, 125]) ++ rest) = (pre ++ [92, 123]) ++ (itoaM lo ++ 92 :: (125 :: rest)) := by simp
      have e2 : (pre ++ [92, 123]) ++ (itoaM lo ++ 92 :: (125 :: rest)) = (pre ++ [92, 123] ++ itoaM lo) ++ 92 :: 125 :: rest := by simp
      have n1 := num_read (pre ++ [92, 123]) (125 :: rest) 92 lo hlo d92
      have hd := take_here (pre ++ [92, 123] ++ itoaM lo) rest 92 125
      rw [← e2, ← e1] at hd
      rw [← e1] at n1
      rw [l2, iv_one (p := (pre ++ [92, 123] ++ itoaM lo).length) n1 (by rw [e1, e2, getD_at0]; show (92 : UInt8) ≠ 44; decide) hlo (by simp <;> omega) hd, he]
      simp
      try omega
    · rw [if_neg he]
      refine ⟨_, rfl, ?_⟩
      have e1 : pre ++ (92 :: 123 :: (itoaM lo ++ 44 :: (itoaM hi.toNat ++ [92, 125])) ++ rest) = (pre ++ [92, 123]) ++ (itoaM lo ++ 44 :: (itoaM hi.toNat ++ 92 :: (125 :: rest))) := by simp
      have e2 : (pre ++ [92, 123]) ++ (itoaM lo ++ 44 :: (itoaM hi.toNat ++ 92 :: (125 :: rest))) = (pre ++ [92, 123] ++ itoaM lo) ++ 44 :: (itoaM hi.toNat ++ 92 :: (125 :: rest)) := by simp
      have e3 : (pre ++ [92, 123] ++ itoaM lo) ++ 44 :: (itoaM hi.toNat ++ 92 :: (125 :: rest)) = (pre ++ [92, 123] ++ itoaM lo ++ [44]) ++ (itoaM hi.toNat ++ 92 :: (125 :: rest)) := by simp
      have e5 : (pre ++ [92, 123] ++ itoaM lo ++ [44]) ++ (itoaM hi.toNat ++ 92 :: (125 :: rest)) = (pre ++ [92, 123] ++ itoaM lo ++ [44] ++ itoaM hi.toNat) ++ 92 :: 125 :: rest := by simp
      have e4 : (pre ++ [92, 123] ++ itoaM lo).length + 1 = (pre ++ [92, 123] ++ itoaM lo ++ [44]).length := by simp; try omega
      have n1 := num_read (pre ++ [92, 123]) (itoaM hi.toNat ++ 92 :: (125 :: rest)) 44 lo hlo d44
      have n2 := num_read (pre ++ [92, 123] ++ itoaM lo ++ [44]) (125 :: rest) 92 hi.toNat (by omega) d92
      have hd := take_here (pre ++ [92, 123] ++ itoaM lo ++ [44] ++ itoaM hi.toNat) rest 92 125
      rw [← e5, ← e3, ← e2, ← e1] at hd
      rw [← e3, ← e2, ← e1] at n2
      rw [← e1] at n1
      have hh : ((hi.toNat : Nat) : Int) = hi := by omega
      rw [l2, iv_two (p := (pre ++ [92, 123] ++ itoaM lo).length) (m := (hi.toNat : Int)) n1 (by simp <;> omega) (by rw [e1, e2]; exact getD_at0 _ _) (by rw [e4]; exact n2) hlo (by omega) (by omega) (by omega) (by simp <;> omega) hd, hh]
      simp
      try omega
theorem go_pieces2 (rest : List UInt8) : ∀ (ps : List Piece) (pre : List UInt8) (n : Nat) (first : Bool) (s : BS), (∀ p ∈ ps, p.ok) → (first = true → ps ≠ []) → ps.length < n →
    brGo (pre ++ (txts ps ++ 93 :: rest)) n pre.length first s = ⟨ps.foldl (fun s p => orS s p.set) s, (pre ++ (txts ps ++ [93])).length, 0⟩
  | [], pre, n + 1, first, s, _, hf, _ => by
    have hff : first = false := by cases first <;> simp at hf ⊢
    have g0 : (pre ++ ([] ++ 93 :: rest)).getD pre.length 0 = (93 : UInt8) := getD_at0 pre _
    show brGo (pre ++ ([] ++ 93 :: rest)) (n + 1) pre.length first s = ⟨s, (pre ++ ([] ++ [93])).length, 0⟩
    unfold brGo
    rw [if_neg (by simp), if_pos (by unfold brEnd; rw [g0, hff]; rfl)]
    simp
  | p :: ps, pre, n + 1, first, s, ho, _, hn => by
    obtain ⟨c, r, h1, h2, h3, h4⟩ := Piece.head (ho p (List.mem_cons_self ..))
    have hrh : ∃ c' r', txts ps ++ 93 :: rest = c' :: r' ∧ c' ≠ 45 := by
      obtain ⟨c', r', q1, q2, _⟩ := rest_head (fun q hq => ho q (List.mem_cons_of_mem _ hq))
      exact ⟨c', r' ++ rest, by rw [show txts ps ++ 93 :: rest = (txts ps ++ [93]) ++ rest by simp, q1]; rfl, q2⟩
    obtain ⟨c', r', h5, h6⟩ := hrh
    have et : pre ++ (txts (p :: ps) ++ 93 :: rest) = pre ++ p.txt ++ (txts ps ++ 93 :: rest) := by simp [txts]
    have et2 : pre ++ (txts (p :: ps) ++ [93]) = pre ++ p.txt ++ (txts ps ++ [93]) := by simp [txts]
    have hsp := span_piece (pre := pre) (ho p (List.mem_cons_self ..)) h5 h6
    have g0 : (pre ++ p.txt ++ (txts ps ++ 93 :: rest)).getD pre.length 0 = c := by rw [List.append_assoc, getD_at0, h1]; rfl
    rw [et, et2]
    unfold brGo
    have hne : brEnd (pre ++ p.txt ++ (txts ps ++ 93 :: rest)) pre.length first = false := by
      unfold brEnd
      rw [g0]
      have : ¬ ((c.toNat : Int) = 93) := fun x => h2 (UInt8.toNat_inj.1 (by show c.toNat = 93; omega))
      simp [this]
    rw [if_neg (by simp [h1]), if_neg (by rw [hne]; simp), hsp]
    dsimp only
    rw [if_neg (by simp)]
    have ih := go_pieces2 rest ps (pre ++ p.txt) n false (orS s p.set) (fun q hq => ho q (List.mem_cons_of_mem _ hq)) (fun h => by cases h) (by simpa using hn)
    rw [ih]
    rfl
  | _, _, 0, _, _, _, _, h => by omega
theorem zero_read (pre rest : List UInt8) : brackM (pre ++ ([91, 94, 0, 45, 255, 93] ++ rest)) pre.length = ⟨zeroS, (pre ++ [91, 94, 0, 45, 255, 93]).length, 0⟩ := by
  have hg := go_pieces2 rest [.rng 0 255] (pre ++ [91, 94]) ((pre ++ ([91, 94, 0, 45, 255, 93] ++ rest)).length + 1 - (pre.length + 2)) true zeroS (fun p hp => by simp at hp; subst hp; exact ⟨by decide, by decide, by decide⟩) (fun _ => by simp) (by simp <;> omega)
  have e1 : pre ++ [91, 94] ++ (txts [.rng 0 255] ++ 93 :: rest) = pre ++ ([91, 94, 0, 45, 255, 93] ++ rest) := by simp [txts, Piece.txt]
  have e2 : (pre ++ [91, 94] ++ (txts [.rng 0 255] ++ [93])).length = (pre ++ [91, 94, 0, 45, 255, 93]).length := by simp [txts, Piece.txt]
  have e3 : (pre ++ [91, 94]).length = pre.length + 2 := by simp
  rw [e1, e2, e3] at hg
  have hf : [Piece.rng 0 255].foldl (fun s p => orS s p.set) zeroS = notS zeroS := by kernel_rfl
  have hn : notS (notS zeroS) = zeroS := by kernel_rfl
  unfold brackM
  have g0 : (pre ++ ([91, 94, 0, 45, 255, 93] ++ rest)).getD pre.length 0 = (91 : UInt8) := getD_at0 pre _
  have g1 : (pre ++ ([91, 94, 0, 45, 255, 93] ++ rest)).getD (pre.length + 1) 0 = (94 : UInt8) := getD_at pre _ 1
  rw [if_neg (by unfold brBad; rw [g0]; simp; omega), if_pos (by unfold brNot; rw [g1]; simp; omega)]
  unfold brFrom
  rw [hg]
  dsimp only
  rw [if_pos rfl, hf, hn]
theorem text_here (pre rest : List UInt8) (s : BS) : brackM (pre ++ (textS s ++ rest)) pre.length = ⟨s, (pre ++ textS s).length, 0⟩ := by
  by_cases h : s = zeroS
  · subst h
    rw [textS, if_pos rfl]
    exact zero_read pre rest
  obtain ⟨ps, h1, h2, h3, h4⟩ := text_pieces s h
  rw [h1]
  obtain ⟨c, r, q1, q2, q3⟩ := rest_head h2
  have hl := txts_len ps h2
  have hL : (pre ++ (91 :: (txts ps ++ [93]) ++ rest)).length = pre.length + ((txts ps).length + 2 + rest.length) := by
    generalize txts ps = l
    rw [List.length_append, List.length_append, List.length_cons, List.length_append]
    rfl
  have hg := go_pieces2 rest ps (pre ++ [91]) ((pre ++ (91 :: (txts ps ++ [93]) ++ rest)).length + 1 - (pre.length + 1)) true zeroS h2 (fun _ => h3) (by rw [hL]; omega)
  have e1 : pre ++ [91] ++ (txts ps ++ 93 :: rest) = pre ++ (91 :: (txts ps ++ [93]) ++ rest) := by simp
  have e2 : pre ++ [91] ++ (txts ps ++ [93]) = pre ++ 91 :: (txts ps ++ [93]) := by simp
  have e3 : (pre ++ [91]).length = pre.length + 1 := by simp
  rw [e1, e2, e3, h4] at hg
  have g0 : (pre ++ (91 :: (txts ps ++ [93]) ++ rest)).getD pre.length 0 = (91 : UInt8) := getD_at0 pre _
  have g1 : (pre ++ (91 :: (txts ps ++ [93]) ++ rest)).getD (pre.length + 1) 0 = c := by rw [getD_at, List.cons_append, q1]; rfl
  have hc : ¬ ((c.toNat : Int) = 94) := fun x => q3 (UInt8.toNat_inj.1 (by show c.toNat = 94; omega))
  unfold brackM
  rw [if_neg (by unfold brBad; rw [g0]; simp; omega), if_neg (by unfold brNot; rw [g1]; simp [hc])]
  exact hg
end Go.Proofs.YtcoajnpneableaaDoor
namespace Go.Proofs.YtcoajnpneableaaDoor
open Go Go.RowKit Sl
set_option maxRecDepth 100000
set_option maxHeartbeats 8000000
set_option linter.unusedVariables false
set_option linter.unusedSimpArgs false
attribute [local irreducible] ES EL PX wps
inductive LeafC (t : List UInt8) (r : DR) (first : Bool) : RE × DR → Prop
  | byte (s : BS) (a : Nat) (hs : r.size + 1 ≤ 256) (h1 : r.at_ < a) (h2 : a ≤ t.length) : LeafC t r first (.byte s, { r.to a with size := r.size + 1 })
  | back (k a : Nat) (hk : 1 ≤ k ∧ k ≤ 9) (hc : r.closed.getD k false = true) (hs : r.size + 1 ≤ 256) (h1 : r.at_ < a) (h2 : a ≤ t.length) : LeafC t r first (.back k, { r.to a with size := r.size + 1 })
  | bol (a : Nat) (hf : first = true) (h1 : r.at_ < a) (h2 : a ≤ t.length) : LeafC t r first (.bol, r.to a)
  | eol (a : Nat) (h1 : r.at_ < a) (h2 : a ≤ t.length) (h3 : a = t.length ∨ see2 t a 92 41 = true) : LeafC t r first (.eol, r.to a)
theorem grown_ok {r : DR} (h : r.e = 0) {n : Int} {a : Nat} (hg : (r.grown n a).e = 0) : r.size + n ≤ 256 ∧ r.grown n a = { r with size := r.size + n } := by
  unfold DR.grown at hg ⊢
  by_cases hb : 256 < r.size + n
  · rw [if_pos hb, fail_ok (r := { r with size := r.size + n }) h] at hg
    exact absurd hg (by show ¬ (13 : Int) = 0; decide)
  · rw [if_neg hb]
    exact ⟨by omega, rfl⟩
theorem fail_no {r : DR} (h : r.e = 0) {e : Int} (he : e ≠ 0) (a : Nat) : (r.fail e a).e ≠ 0 := by rw [fail_ok h]; exact he
theorem grown_keeps {r : DR} (h : r.e ≠ 0) (n : Int) (a : Nat) : (r.grown n a).e ≠ 0 := by rw [grown_bad h]; exact h
theorem lone_c {t : List UInt8} {r : DR} {first : Bool} (h : r.e = 0) (s : BS) {a b : Nat} (hg : ((r.to a).grown 1 b).e = 0) (h1 : r.at_ < a) (h2 : a ≤ t.length) : LeafC t r first (.byte s, (r.to a).grown 1 b) := by
  obtain ⟨g1, g2⟩ := grown_ok (r := r.to a) h hg
  rw [g2]
  exact .byte s a g1 h1 h2
theorem esc_cases (t : List UInt8) (r : DR) (first : Bool) (h : r.e = 0) (hlt : r.at_ < t.length) (he : (dEsc t r).2.e = 0) : LeafC t r first (dEsc t r) := by
  unfold dEsc at he ⊢
  by_cases c0 : r.at_ + 1 = t.length
  · rw [if_pos c0] at he
    exact absurd he (fail_no h (by decide) _)
  rw [if_neg c0] at he ⊢
  dsimp only at he ⊢
  by_cases c1 : (t.getD (r.at_ + 1) 0).toNat = 110
  · rw [if_pos c1] at he ⊢
    exact lone_c h _ he (by omega) (by omega)
  rw [if_neg c1] at he ⊢
  by_cases c2 : 49 ≤ (t.getD (r.at_ + 1) 0).toNat ∧ (t.getD (r.at_ + 1) 0).toNat ≤ 57
  · rw [if_pos c2] at he ⊢
    by_cases c3 : (r.to (r.at_ + 2)).closed.getD ((t.getD (r.at_ + 1) 0).toNat - 48) false = true
    · rw [if_pos c3] at he ⊢
      obtain ⟨g1, g2⟩ := grown_ok (r := r.to (r.at_ + 2)) h he
      rw [g2]
      exact .back _ _ (by omega) c3 g1 (by omega) (by omega)
    · rw [if_neg c3] at he
      exact absurd he (grown_keeps (fail_no (r := r.to (r.at_ + 2)) h (by decide) _) _ _)
  rw [if_neg c2] at he ⊢
  by_cases c3 : isAln (t.getD (r.at_ + 1) 0) = true
  · rw [if_pos c3] at he
    exact absurd he (grown_keeps (fail_no (r := r.to (r.at_ + 2)) h (by decide) _) _ _)
  rw [if_neg c3] at he ⊢
  exact lone_c h _ he (by omega) (by omega)
theorem leaf_cases (t : List UInt8) (r : DR) (first : Bool) (h : r.e = 0) (hlt : r.at_ < t.length) (he : (dLeaf t r first).2.e = 0) : LeafC t r first (dLeaf t r first) := by
  unfold dLeaf at he ⊢
  dsimp only at he ⊢
  by_cases c0 : see2 t r.at_ 92 123 = true ∨ see2 t r.at_ 92 125 = true
  · rw [if_pos c0] at he
    exact absurd he (fail_no h (by decide) _)
  rw [if_neg c0] at he ⊢
  by_cases c1 : (t.getD r.at_ 0).toNat = 92
  · rw [if_pos c1] at he ⊢
    exact esc_cases t r first h hlt he
  rw [if_neg c1] at he ⊢
  by_cases c2 : (t.getD r.at_ 0).toNat = 91
  · rw [if_pos c2] at he ⊢
    by_cases c3 : (brackM t r.at_).e ≠ 0
    · rw [if_pos c3] at he
      exact absurd he (fail_no h c3 _)
    rw [if_neg c3] at he ⊢
    have := brack_next t r.at_ (by simpa using c3)
    exact lone_c h _ he (by omega) this.2
  rw [if_neg c2] at he ⊢
  by_cases c3 : (t.getD r.at_ 0).toNat = 94 ∧ first = true
  · rw [if_pos c3]
    exact .bol _ c3.2 (by omega) (by omega)
  rw [if_neg c3] at he ⊢
  by_cases c4 : (t.getD r.at_ 0).toNat = 36 ∧ (r.at_ + 1 = t.length ∨ see2 t (r.at_ + 1) 92 41 = true)
  · rw [if_pos c4]
    exact .eol _ (by omega) (by omega) c4.2
  rw [if_neg c4] at he ⊢
  by_cases c5 : (t.getD r.at_ 0).toNat = 46
  · rw [if_pos c5] at he ⊢
    exact lone_c h _ he (by omega) (by omega)
  rw [if_neg c5] at he ⊢
  exact lone_c h _ he (by omega) (by omega)
end Go.Proofs.YtcoajnpneableaaDoor
namespace Go.Proofs.YtcoajnpneableaaDoor.Sl
open Go Go.RowKit
set_option linter.unusedVariables false
set_option linter.unusedSimpArgs false
section words2
variable {C : Cx} {E : Env} {H : List HA} {d ty t t' : Nat} {pos : String} {af : Array Edge} {g : Option (Nat × Bool)} {x y : Operand} {m n : Int}
theorem wrap64_eq (k : Int) (b : UInt64) (h : ∃ q : Int, k = (b.toNat : Int) + 18446744073709551616 * q) : IntKind.u64.wrap k = (b.toNat : Int) := by
  obtain ⟨q, rfl⟩ := h
  have := b.toNat_lt
  simp [IntKind.wrap, IntKind.signed, IntKind.bits]
  omega
theorem RV.mulW {a b : UInt64} (hx : E.ev x = some (.int .u64 m)) (hy : E.ev y = some (.int .u64 n)) (hm : m = (a.toNat : Int)) (hn : n = (b.toNat : Int)) : RunV C E H ⟨some d, .binOp .mul t x y t', ty, pos, af, g⟩ (Wv (a * b)) := fun ac w ha => by
  subst hm; subst hn
  have h : IntKind.u64.wrap ((a.toNat : Int) * (b.toNat : Int)) = ((a * b).toNat : Int) := by
    rw [show ((a.toNat : Int) * (b.toNat : Int)) = ((a.toNat * b.toNat : Nat) : Int) by push_cast; rfl, wrapW_mod, UInt64.toNat_mul]
  simp [execOp, ha.1.ev hx, ha.1.ev hy, eqGuard, binOp, Op.intArith, Result.andThen, h]
theorem RV.subW {a b : UInt64} (hx : E.ev x = some (.int .u64 m)) (hy : E.ev y = some (.int .u64 n)) (hm : m = (a.toNat : Int)) (hn : n = (b.toNat : Int)) : RunV C E H ⟨some d, .binOp .sub t x y t', ty, pos, af, g⟩ (Wv (a - b)) := fun ac w ha => by
  subst hm; subst hn
  have h : IntKind.u64.wrap ((a.toNat : Int) - (b.toNat : Int)) = ((a - b).toNat : Int) := by
    refine wrap64_eq _ _ ?_
    have ha' := a.toNat_lt
    have hb' := b.toNat_lt
    rw [UInt64.toNat_sub]
    by_cases hab : b.toNat ≤ a.toNat
    · exact ⟨0, by omega⟩
    · exact ⟨-1, by omega⟩
  simp [execOp, ha.1.ev hx, ha.1.ev hy, eqGuard, binOp, Op.intArith, Result.andThen, h]
theorem RV.negW {a : UInt64} (hx : E.ev x = some (.int .u64 m)) (hm : m = (a.toNat : Int)) : RunV C E H ⟨some d, .unOp .neg t x, ty, pos, af, g⟩ (Wv (0 - a)) := fun ac w ha => by
  subst hm
  have h : IntKind.u64.wrap (0 - (a.toNat : Int)) = ((0 - a).toNat : Int) := by
    refine wrap64_eq _ _ ?_
    have ha' := a.toNat_lt
    rw [UInt64.toNat_sub]
    by_cases h0 : a.toNat = 0
    · exact ⟨0, by rw [h0]; simp⟩
    · exact ⟨-1, by simp; omega⟩
  generalize 0 - a = b at *
  have h2 : (Op.unary .neg (Wv a)).run C.P w = .ok (Wv b) w := by
    show (Op.intArith .sub .u64 0 (a.toNat : Int)).run C.P w = _
    simp only [Op.intArith, h]
    rfl
  simp only [execOp, ha.1.ev hx, Sem.run_bind, h2, Result.andThen, Sem.run_pure]
end words2
end Go.Proofs.YtcoajnpneableaaDoor.Sl
namespace Go.Proofs.YtcoajnpneableaaDoor
open Go Go.RowKit Sl
set_option maxRecDepth 100000
set_option maxHeartbeats 8000000
set_option linter.unusedVariables false
set_option linter.unusedSimpArgs false
attribute [local irreducible] ES EL PX wps
def bitsN (x : Nat) : List Nat := (List.range 64).filter (x.testBit ·)
theorem filter_first (p : Nat → Bool) (k : Nat) (hlo : ∀ j, j < k → p j = false) (hk : p k = true) : ∀ n, k < n → (List.range n).filter p = k :: (List.range n).filter (fun j => p j && decide (j ≠ k))
  | 0, h => by omega
  | n + 1, h => by
    rw [List.range_succ, List.filter_append, List.filter_append]
    rcases Nat.lt_or_ge k n with h1 | h1
    · rw [filter_first p k hlo hk n h1]
      have : [n].filter p = [n].filter (fun j => p j && decide (j ≠ k)) := by
        simp [List.filter_cons, show n ≠ k by omega]
      rw [this, List.cons_append]
    · obtain rfl : k = n := by omega
      have e1 : (List.range k).filter p = [] := by
        rw [List.filter_eq_nil_iff]
        intro j hj
        rw [hlo j (List.mem_range.1 hj)]; simp
      have e2 : (List.range k).filter (fun j => p j && decide (j ≠ k)) = [] := by
        rw [List.filter_eq_nil_iff]
        intro j hj
        rw [hlo j (List.mem_range.1 hj)]; simp
      rw [e1, e2]
      simp [List.filter_cons, hk]
theorem low_bits (k m j : Nat) : (2 ^ k * (2 * m + 1)).testBit j = (decide (k ≤ j) && (2 * m + 1).testBit (j - k)) := by
  rw [Nat.mul_comm, Nat.testBit_mul_two_pow]
theorem bits_step (x : Nat) (h0 : 0 < x) (h : x < 2 ^ 64) : bitsN x = Lib.ctz 64 x :: bitsN (x &&& (x - 1)) ∧ Lib.ctz 64 x < 64 := by
  obtain ⟨m, hx, hk⟩ := Lib.ctzFrom_spec 64 x h0 h
  have hc : Lib.ctz 64 x = Lib.ctzFrom 64 x := by unfold Lib.ctz; rw [if_neg (by omega)]
  rw [hc]
  generalize Lib.ctzFrom 64 x = k at hx hk
  refine ⟨?_, hk⟩
  have hp : 0 < 2 ^ k := Nat.two_pow_pos k
  have hx1 : x - 1 = 2 ^ k * (2 * m) + (2 ^ k - 1) := by
    rw [hx, Nat.mul_add]; omega
  have hb : ∀ j, x.testBit j = (decide (k ≤ j) && (2 * m + 1).testBit (j - k)) := fun j => by rw [hx]; exact low_bits k m j
  have hb1 : ∀ j, (x - 1).testBit j = if j < k then (2 ^ k - 1).testBit j else (2 * m).testBit (j - k) := fun j => by
    rw [hx1]; exact Nat.testBit_two_pow_mul_add _ (by omega) j
  have hlo : ∀ j, j < k → x.testBit j = false := fun j hj => by rw [hb, decide_eq_false (by omega)]; rfl
  have hkk : x.testBit k = true := by rw [hb, Nat.sub_self, decide_eq_true (Nat.le_refl k)]; simp
  have hand : ∀ j, (x &&& (x - 1)).testBit j = (x.testBit j && decide (j ≠ k)) := fun j => by
    rw [Nat.testBit_and, hb1]
    rcases Nat.lt_trichotomy j k with h1 | h1 | h1
    · rw [hlo j h1]; rfl
    · subst h1
      rw [if_neg (by omega), Nat.sub_self, hkk]
      simp
    · rw [if_neg (by omega), hb, decide_eq_true (show k ≤ j by omega), decide_eq_true (show j ≠ k by omega)]
      obtain ⟨i, hi⟩ : ∃ i, j - k = i + 1 := ⟨j - k - 1, by omega⟩
      rw [hi, Nat.testBit_succ, Nat.testBit_succ, show (2 * m + 1) / 2 = m by omega, show 2 * m / 2 = m by omega]
      cases m.testBit i <;> rfl
  unfold bitsN
  rw [filter_first (x.testBit ·) k hlo hkk 64 hk]
  congr 1
  exact List.filter_congr (fun j _ => (hand j).symm)
theorem bits_zero : bitsN 0 = [] := by
  unfold bitsN
  rw [List.filter_eq_nil_iff]
  intro j _
  simp
def memI (s : BS) (i : Nat) : List Nat := (bitsN (s.get i).toNat).map (64 * i + ·)
def memF (s : BS) (i : Nat) : List Nat := (List.range i).flatMap (memI s)
theorem memF_step (s : BS) (i : Nat) : memF s (i + 1) = memF s i ++ memI s i := by
  unfold memF
  rw [List.range_succ, List.flatMap_append]; simp
theorem memF_filter (s : BS) : ∀ n, n ≤ 4 → (List.range (64 * n)).filter (hasS s) = memF s n
  | 0, _ => rfl
  | n + 1, h => by
    rw [show 64 * (n + 1) = 64 * n + 64 by omega, List.range_add, List.filter_append, memF_filter s n (by omega), memF_step]
    congr 1
    unfold memI bitsN
    rw [List.filter_map]
    congr 1
    refine List.filter_congr fun j hj => ?_
    have hj' := List.mem_range.1 hj
    simp only [Function.comp]
    rw [hasS_bit, show (64 * n + j) / 64 = n by omega, show (64 * n + j) % 64 = j by omega]
theorem memGo_filter (p : Nat → Bool) : ∀ n, memGo p n = ((List.range n).filter p).map UInt8.ofNat
  | 0 => by simp [memGo]
  | n + 1 => by
    rw [memGo, List.range_succ, List.filter_append, List.map_append, ← memGo_filter p n]
    by_cases h : p n = true
    · rw [if_pos h]; simp [List.filter_cons, h]
    · rw [if_neg h]; simp [List.filter_cons, h]
theorem members_eq (s : BS) : membersM s = (memF s 4).map UInt8.ofNat := by
  unfold membersM
  rw [memGo_filter, ← memF_filter s 4 (Nat.le_refl _)]
def tzM (x : UInt64) : Nat := Lib.ctz 64 x.toNat
def tabV : List Value := Lib.deBruijn64tab.map fun n : Nat => Value.int .u8 ((n : Nat) : Int)
def TabR (w : World) (B : Nat) : Prop := Rd w B (some ⟨0, 0, none⟩) tabV
theorem shr_lit' (x : UInt64) (s : Nat) (hs : s < 64) : (x >>> UInt64.ofNat s).toNat = x.toNat / 2 ^ s := by
  rw [UInt64.toNat_shiftRight, UInt64.toNat_ofNat', Nat.mod_eq_of_lt (show s < 2 ^ 64 by omega), Nat.mod_eq_of_lt hs, Nat.shiftRight_eq_div_pow]
theorem neg_lit (x : UInt64) (h : x.toNat ≠ 0) : (0 - x).toNat = 18446744073709551616 - x.toNat := by
  have := x.toNat_lt
  rw [UInt64.toNat_sub]
  simp
  omega
theorem lit_mul : (285870213051353865 : UInt64).toNat = 285870213051353865 := rfl
theorem lit_58 : (2 : Nat) ^ 58 = 288230376151711744 := rfl
theorem lit_64 : (18446744073709551616 : Nat) = 2 ^ 64 := rfl
theorem tz_e (x : UInt64) (h : x.toNat ≠ 0) : (((x &&& (0 - x)) * 285870213051353865) >>> UInt64.ofNat 58).toNat = (x.toNat &&& (18446744073709551616 - x.toNat)) * 285870213051353865 % 18446744073709551616 / 288230376151711744 := by
  rw [shr_lit' _ _ (by omega), UInt64.toNat_mul, UInt64.toNat_and, neg_lit x h, lit_mul, lit_58, lit_64]
theorem tz_e2 (x : UInt64) (h : x.toNat ≠ 0) : (x.toNat &&& (18446744073709551616 - x.toNat)) = 2 ^ Lib.ctz 64 x.toNat := by
  have hlt := x.toNat_lt
  exact (Lib.lowest_bit 64 x.toNat h hlt).1
theorem tab_at (k n : Nat) (h : n < 64) (h4 : Lib.deBruijn64tab.getD n 0 = k) : tabV[n]? = some (.int .u8 (k : Nat)) := by
  unfold tabV
  have hl : Lib.deBruijn64tab.length = 64 := by decide
  rw [List.getElem?_map, List.getElem?_eq_getElem (by omega)]
  rw [List.getD_eq_getElem?_getD, List.getElem?_eq_getElem (by omega)] at h4
  simp only [Option.getD_some] at h4
  simp only [Option.map_some, h4]
theorem tz_index (x : UInt64) (h : x.toNat ≠ 0) : (((x &&& (0 - x)) * 285870213051353865) >>> UInt64.ofNat 58).toNat < 64 ∧ tabV[(((x &&& (0 - x)) * 285870213051353865) >>> UInt64.ofNat 58).toNat]? = some (.int .u8 (tzM x : Nat)) ∧ tzM x < 64 := by
  have hlt := x.toNat_lt
  have h2 := (Lib.lowest_bit 64 x.toNat h hlt).2
  have e := tz_e x h
  rw [tz_e2 x h] at e
  obtain ⟨n, hn⟩ : ∃ n, n = (((x &&& (0 - x)) * 285870213051353865) >>> UInt64.ofNat 58).toNat := ⟨_, rfl⟩
  obtain ⟨h3, h4⟩ := Lib.deBruijn64_at _ h2
  rw [← e, ← hn] at h3 h4
  rw [← hn]
  exact ⟨h3, tab_at _ _ h3 h4, h2⟩
theorem tz_c (x : UInt64) (h0 : x.toNat ≠ 0) (w : World) (hT : TabR w w.heap.size) : Pure Tryd.prog 49 #[Wv x] (fun _ : Unit => Iv (tzM x : Nat)) (fun _ => []) w := by
  obtain ⟨h1, h2, h3⟩ := tz_index x h0
  refine calls_of_ES TB Tryd.func49 rfl _ Tryd.ntmps49 rfl (Sat.start w) ?_
  refine .go ?_; repeat constructor
  refine EL.assign rfl rfl rfl ?_
  refine .go ?_; repeat constructor
  refine EL.move rfl rfl rfl ?_
  refine EL.eqlI rfl rfl rfl rfl ?_
  refine .go ?_; repeat constructor
  refine ES.condK false rfl (decide_eq_false (by omega)) ?_
  refine .go ?_; repeat constructor
  refine EL.move rfl rfl rfl ?_
  refine EL.move rfl rfl rfl ?_
  refine EL.ofRV (RV.negW rfl rfl) rfl rfl rfl (by intro c h; cases h) ?_
  refine EL.ofRV (RV.andW rfl rfl rfl rfl) rfl rfl rfl (by intro c h; cases h) ?_
  refine EL.ofRV (RV.mulW (b := 285870213051353865) rfl rfl rfl rfl) rfl rfl rfl (by intro c h; cases h) ?_
  refine EL.ofRV (RV.shrW (s := 58) rfl rfl rfl (by omega)) rfl rfl rfl (by intro c h; cases h) ?_
  refine EL.indexAddrA1 rfl rfl rfl rfl rfl rfl rfl rfl h1 ?_
  refine EL.loadOld (off := 0) rfl (by rw [Nat.zero_add]; rfl) rfl rfl rfl hT h2 ?_
  refine EL.convN rfl rfl rfl rfl rfl rfl (by simp only [kmax]; omega) ?_
  refine EL.assign rfl rfl rfl ?_
  refine .go ?_; repeat constructor
  exact PX.ret rfl Tryd.results49 (.cons (.tmp rfl) .nil) (fun w hs => ⟨(), rfl, hs.ent (.nil _)⟩)
abbrev ym (s : BS) : List (List Value) := (membersM s).map fun b => [Uv b]
theorem ym_at (s : BS) (i : Nat) (hi : i < 4) (pre rest : List Nat) (k : Nat) (h : bitsN (s.get i).toNat = pre ++ k :: rest) : (ym s)[(memF s i).length + pre.length]? = some [Uv (UInt8.ofNat (64 * i + k))] := by
  have hF : ∃ post, memF s 4 = memF s i ++ (memI s i ++ post) := by
    have h1 : ∀ n, i < n → ∃ post, memF s n = memF s i ++ (memI s i ++ post) := by
      intro n
      induction n with
      | zero => intro h; omega
      | succ n ih =>
        intro h
        rcases Nat.lt_or_ge i n with h1 | h1
        · obtain ⟨post, hp⟩ := ih h1
          exact ⟨post ++ memI s n, by rw [memF_step, hp]; simp⟩
        · obtain rfl : i = n := by omega
          exact ⟨[], by rw [memF_step]; simp⟩
    exact h1 4 hi
  obtain ⟨post, hp⟩ := hF
  unfold ym
  rw [members_eq, hp, memI, h]
  simp
theorem mem1_iter (gs : Nat) (s : BS) (W0 : World) (B0 : Nat) (hT : TabR W0 B0) : Iter Tryd.prog 48 #[Pv gs 0] (ym s) [SB gs s] W0 B0 := by
  intro l I Ix hY A R W hI hs
  replace hs : Sat W0 B0 (SB gs s :: A :: R) W := hs
  refine calls_of_ES TB Tryd.func48 rfl _ Tryd.ntmps48 rfl hs ?_
  refine .go ?_; repeat constructor
  (apply EL.loadAggB; exact rfl; exact rfl; exact rfl; exact rfl; exact rfl; (case hm => repeat constructor); exact rfl)
  refine EL.move rfl rfl rfl ?_
  refine .go ?_; repeat constructor
  refine ES.loop (σ := Nat × HA) (fun (i, A) => i ≤ 4 ∧ I (memF s i).length A) (fun (i, A) => [(0, .func (.yield l) #[] #[]), (5, Bs s), (6, Iv i)])
    (fun (i, A) => SB gs s :: A :: R) (fun (i, A) => 4 - i) (0, A) ⟨Nat.zero_le _, hI⟩ ⟨rfl, rfl, rfl, trivial⟩ (.i (by repeat constructor)) ?_
  rintro ⟨i, A⟩ ⟨hi, hI⟩
  dsimp only at hi hI ⊢
  refine .go ?_; repeat constructor
  refine EL.lss rfl rfl rfl rfl ?_
  refine .go ?_; repeat constructor
  refine ES.condD rfl (fun hlt => ?_) (fun hge => ?_)
  · have hlt' : i < 4 := by omega
    have hbl : (memF s (i + 1)).length = (memF s i).length + (bitsN (s.get i).toNat).length := by rw [memF_step, List.length_append]; simp [memI]
    refine .go ?_; repeat constructor
    refine EL.move rfl rfl rfl ?_
    refine EL.indexBS rfl rfl rfl rfl rfl rfl rfl rfl rfl hlt' ?_
    refine EL.assign rfl rfl rfl ?_
    refine EL.assign rfl rfl rfl ?_
    refine .go ?_; repeat constructor
    refine ES.loop (σ := List Nat × UInt64 × HA) (fun (pre, x, A) => bitsN (s.get i).toNat = pre ++ bitsN x.toNat ∧ I ((memF s i).length + pre.length) A) (fun (pre, x, A) => [(0, .func (.yield l) #[] #[]), (3, Iv i), (4, Wv x), (5, Bs s), (6, Iv i)])
      (fun (pre, x, A) => SB gs s :: A :: R) (fun (pre, x, A) => (bitsN x.toNat).length) ([], s.get i, A) ⟨rfl, hI⟩ ⟨rfl, rfl, rfl, rfl, rfl, trivial⟩ (.i (by repeat constructor)) ?_
    rintro ⟨pre, x, A⟩ ⟨hpre, hI⟩
    dsimp only at hpre hI ⊢
    refine .go ?_; repeat constructor
    refine EL.move rfl rfl rfl ?_
    refine EL.neqI rfl rfl rfl rfl ?_
    refine .go ?_; repeat constructor
    refine ES.condN rfl (fun hne => ?_) (fun he => ?_)
    · have hx0 : x.toNat ≠ 0 := by omega
      have hxl := x.toNat_lt
      obtain ⟨hb, hk⟩ := bits_step x.toNat (by omega) hxl
      have hx1 : (x &&& (x - 1)).toNat = x.toNat &&& (x.toNat - 1) := by
        rw [UInt64.toNat_and, UInt64.toNat_sub_of_le _ _ (by rw [UInt64.le_iff_toNat_le]; show 1 ≤ x.toNat; omega)]; rfl
      rw [← hx1] at hb
      rw [hb] at hpre
      have hk' : tzM x < 64 := hk
      have hat := ym_at s i hlt' pre _ (tzM x) hpre
      have hk8 : (UInt8.ofNat (64 * i + tzM x)).toNat = 64 * i + tzM x := by simp; omega
      refine .go ?_; repeat constructor
      refine EL.move rfl rfl rfl ?_
      refine EL.move rfl rfl rfl ?_
      refine EL.mulN (m := 64) rfl rfl rfl rfl rfl (by omega) ?_
      refine EL.move rfl rfl rfl ?_
      refine EL.callPw rfl rfl rfl ent49 rfl (fun w hs => tz_c x hx0 w (Rd.sat hT hs)) ?_
      refine EL.addN rfl rfl rfl rfl rfl (by omega) ?_
      refine EL.convI ((UInt8.ofNat (64 * i + tzM x)).toNat : Int) rfl rfl rfl rfl rfl rfl (by rw [hk8]; exact wrap_u8 _ (by omega)) ?_
      refine EL.yield rfl rfl rfl rfl hY hI hat (by repeat constructor) (fun A' hI' => ?_) (fun A' hX' => ?_)
      · refine EL.not rfl rfl rfl ?_
        refine .go ?_; repeat constructor
        refine ES.condF rfl ?_
        refine .go ?_; repeat constructor
        refine EL.move rfl rfl rfl ?_
        refine EL.move rfl rfl rfl ?_
        refine EL.ofRV (RV.subW (b := 1) rfl rfl rfl rfl) rfl rfl rfl (by intro c h; cases h) ?_
        refine EL.ofRV (RV.andW rfl rfl rfl rfl) rfl rfl rfl (by intro c h; cases h) ?_
        refine EL.assign rfl rfl rfl ?_
        refine .go ?_; repeat constructor
        refine PX.loop (pre ++ [tzM x], x &&& (x - 1), A') ⟨by simp only; rw [hpre]; simp [tzM], by simp only [List.length_append, List.length_singleton]; exact hI'⟩ (by simp only; rw [hb, List.length_cons]; omega) ⟨rfl, rfl, rfl, rfl, rfl, trivial⟩ (.i (by repeat constructor))
      · refine EL.not rfl rfl rfl ?_
        refine .go ?_; repeat constructor
        refine ES.condT rfl ?_
        refine .go ?_; repeat constructor
        exact PX.ret rfl Tryd.results48 .nil (fun w hs => ⟨⟨_, rfl⟩, .inr ⟨_, A', hX', hs.ent (.i (by repeat constructor))⟩⟩)
    · have hx0 : x.toNat = 0 := by omega
      rw [hx0, bits_zero, List.append_nil] at hpre
      refine .go ?_; repeat constructor
      refine EL.add1 rfl rfl rfl rfl (by omega) ?_
      refine EL.move rfl rfl rfl ?_
      refine .go ?_; repeat constructor
      exact PX.loop (i + 1, A) ⟨by simp only; omega, by simp only; rw [hbl, hpre]; exact hI⟩ (by simp only; omega) ⟨rfl, rfl, rfl, trivial⟩ (.i (by repeat constructor))
  · obtain rfl : i = 4 := by omega
    have hlen : (ym s).length = (memF s 4).length := by simp [ym, members_eq]
    refine .go ?_; repeat constructor
    exact PX.end rfl Tryd.results48 .nil (fun w hs => ⟨⟨_, rfl⟩, .inl ⟨A, by rw [hlen]; exact hI, hs.ent (.i (by repeat constructor))⟩⟩)
theorem members_c (s : BS) (w : World) : Pure Tryd.prog 35 #[Bs s] (fun g : Nat => .func (.func 48) #[] #[Pv g 0]) (fun g => [SB g s]) w := by
  refine calls_of_ES TB Tryd.func35 rfl _ Tryd.ntmps35 rfl (Sat.start w) ?_
  refine .go ?_; repeat constructor
  (refine EL.box rfl rfl rfl ?_; intro g1)
  refine EL.assign rfl rfl rfl ?_
  refine .go ?_; repeat constructor
  refine EL.makeFunc rfl rfl rfl ?_
  refine EL.assign rfl rfl rfl ?_
  refine .go ?_; repeat constructor
  exact PX.ret rfl Tryd.results35 (.cons (.tmp rfl) .nil) (fun w hs => ⟨g1, rfl, hs.ent (.i (by repeat constructor))⟩)
end Go.Proofs.YtcoajnpneableaaDoor
namespace Go.Proofs.YtcoajnpneableaaDoor
open Go Go.RowKit Sl
set_option maxRecDepth 100000
set_option maxHeartbeats 8000000
set_option linter.unusedVariables false
set_option linter.unusedSimpArgs false
attribute [local irreducible] ES EL PX wps
theorem and_split (n a m r M : Nat) (ha : a < 2 ^ n) (hm : m < 2 ^ n) : (a + 2 ^ n * r) &&& (m + 2 ^ n * M) = (a &&& m) + 2 ^ n * (r &&& M) := by
  have hl : (a &&& m) < 2 ^ n := Nat.lt_of_le_of_lt Nat.and_le_left ha
  apply Nat.eq_of_testBit_eq
  intro i
  rw [Nat.testBit_and, Nat.add_comm a, Nat.add_comm m, Nat.add_comm (a &&& m), Nat.testBit_two_pow_mul_add _ ha, Nat.testBit_two_pow_mul_add _ hm, Nat.testBit_two_pow_mul_add _ hl]
  split <;> simp
def mk (c : Nat) : Nat → Nat
  | 0 => 0
  | k + 1 => c + 256 * mk c k
def F1 (k x : Nat) : Nat := ((x / 2) &&& mk 85 k) + (x &&& mk 85 k)
def F2 (k x : Nat) : Nat := ((x / 4) &&& mk 51 k) + (x &&& mk 51 k)
def F3 (k x : Nat) : Nat := (x / 16 + x) &&& mk 15 k
def f1 (a : Nat) : Nat := ((a / 2) &&& 85) + (a &&& 85)
def f2 (a : Nat) : Nat := ((a / 4) &&& 51) + (a &&& 51)
def pop8 (b : Nat) : Nat := (f2 (f1 b) + f2 (f1 b) / 16) % 16
theorem low_and (n t u m : Nat) (ht : t < 2 ^ n) (hm : m < 2 ^ n) : (t + 2 ^ n * u) &&& m = t &&& m := by
  have := and_split n t m u 0 ht hm
  simpa using this
theorem F1_step (k x : Nat) : F1 (k + 1) x = f1 (x % 256) + 256 * F1 k (x / 256) := by
  have h1 : x = x % 256 + 2 ^ 8 * (x / 256) := by omega
  have h2 : x / 2 = (x % 256 / 2 + 2 ^ 7 * (x / 256 % 2)) + 2 ^ 8 * (x / 256 / 2) := by omega
  have h3 : (x / 2) &&& mk 85 (k + 1) = ((x % 256 / 2) &&& 85) + 256 * ((x / 256 / 2) &&& mk 85 k) := by
    conv => lhs; rw [h2]
    show _ &&& (85 + 2 ^ 8 * mk 85 k) = _
    rw [and_split 8 _ _ _ _ (by omega) (by omega), low_and 7 _ _ _ (by omega) (by omega)]
  have h4 : x &&& mk 85 (k + 1) = ((x % 256) &&& 85) + 256 * ((x / 256) &&& mk 85 k) := by
    conv => lhs; rw [h1]
    show _ &&& (85 + 2 ^ 8 * mk 85 k) = _
    rw [and_split 8 _ _ _ _ (by omega) (by omega)]
  simp only [F1, f1]
  rw [h3, h4]; omega
theorem F2_step (k x : Nat) : F2 (k + 1) x = f2 (x % 256) + 256 * F2 k (x / 256) := by
  have h1 : x = x % 256 + 2 ^ 8 * (x / 256) := by omega
  have h2 : x / 4 = (x % 256 / 4 + 2 ^ 6 * (x / 256 % 4)) + 2 ^ 8 * (x / 256 / 4) := by omega
  have h3 : (x / 4) &&& mk 51 (k + 1) = ((x % 256 / 4) &&& 51) + 256 * ((x / 256 / 4) &&& mk 51 k) := by
    conv => lhs; rw [h2]
    show _ &&& (51 + 2 ^ 8 * mk 51 k) = _
    rw [and_split 8 _ _ _ _ (by omega) (by omega), low_and 6 _ _ _ (by omega) (by omega)]
  have h4 : x &&& mk 51 (k + 1) = ((x % 256) &&& 51) + 256 * ((x / 256) &&& mk 51 k) := by
    conv => lhs; rw [h1]
    show _ &&& (51 + 2 ^ 8 * mk 51 k) = _
    rw [and_split 8 _ _ _ _ (by omega) (by omega)]
  simp only [F2, f2]
  rw [h3, h4]; omega
theorem F3_step (k a r : Nat) (ha : a ≤ 68) (hr : r % 16 ≤ 4) : F3 (k + 1) (a + 256 * r) = (a + a / 16) % 16 + 256 * F3 k r := by
  have h1 : (a + 256 * r) / 16 + (a + 256 * r) = (a / 16 + a + 16 * (r % 16)) + 2 ^ 8 * (r / 16 + r) := by omega
  simp only [F3]
  rw [h1]
  show _ &&& (15 + 2 ^ 8 * mk 15 k) = _
  rw [and_split 8 _ _ _ _ (by omega) (by omega)]
  have h2 : (a / 16 + a + 16 * (r % 16)) &&& 15 = (a + a / 16) % 16 := by
    have := Nat.and_two_pow_sub_one_eq_mod (a / 16 + a + 16 * (r % 16)) 4
    rw [show (2 : Nat) ^ 4 - 1 = 15 from rfl] at this
    rw [this]; omega
  rw [h2]
theorem f_small : ∀ b : Fin 256, f1 b.val < 256 ∧ f2 (f1 b.val) ≤ 68 ∧ f2 (f1 b.val) % 16 ≤ 4 ∧ pop8 b.val ≤ 8 := by decide +kernel
def Y (k x : Nat) : Nat := F2 k (F1 k x)
theorem Y_step (k x : Nat) : Y (k + 1) x = f2 (f1 (x % 256)) + 256 * Y k (x / 256) := by
  have h := (f_small ⟨x % 256, by omega⟩).1
  simp only at h
  simp only [Y]
  rw [F2_step, F1_step, show (f1 (x % 256) + 256 * F1 k (x / 256)) % 256 = f1 (x % 256) by omega, show (f1 (x % 256) + 256 * F1 k (x / 256)) / 256 = F1 k (x / 256) by omega]
theorem Y_low (k x : Nat) : Y k x % 16 ≤ 4 := by
  cases k with
  | zero => simp [Y, F2, mk]
  | succ k =>
    have h := (f_small ⟨x % 256, by omega⟩).2.2.1
    simp only at h
    rw [Y_step]; omega
def G (k x : Nat) : Nat := F3 k (Y k x)
theorem G_step (k x : Nat) : G (k + 1) x = pop8 (x % 256) + 256 * G k (x / 256) := by
  have h := (f_small ⟨x % 256, by omega⟩).2.1
  simp only at h
  simp only [G]
  rw [Y_step, F3_step _ _ _ h (Y_low _ _)]; rfl
theorem G_zero (x : Nat) : G 0 x = 0 := by simp [G, F3, mk]
def sum8 : Nat → Nat → Nat
  | 0, _ => 0
  | k + 1, x => pop8 (x % 256) + sum8 k (x / 256)
theorem div_split (a b m : Nat) (h : a < m) : (a + m * b) / m = b := by
  rw [Nat.add_mul_div_left _ _ (by omega), Nat.div_eq_of_lt h, Nat.zero_add]
theorem G_sum (x : Nat) : (let y := G 8 x; let y4 := y + y / 256; let y5 := y4 + y4 / 65536; let y6 := y5 + y5 / 4294967296; y6 % 128 = sum8 8 x ∧ y6 < 18446744073709551616 ∧ y5 < 18446744073709551616 ∧ y4 < 18446744073709551616) := by
  have p : ∀ b, pop8 (b % 256) ≤ 8 := fun b => (f_small ⟨b % 256, by omega⟩).2.2.2
  have h := p x
  have h1 := p (x / 256)
  have h2 := p (x / 256 / 256)
  have h3 := p (x / 256 / 256 / 256)
  have h4 := p (x / 256 / 256 / 256 / 256)
  have h5 := p (x / 256 / 256 / 256 / 256 / 256)
  have h6 := p (x / 256 / 256 / 256 / 256 / 256 / 256)
  have h7 := p (x / 256 / 256 / 256 / 256 / 256 / 256 / 256)
  simp only [G_step, G_zero, sum8]
  generalize pop8 (x % 256) = p0 at *
  generalize pop8 (x / 256 % 256) = p1 at *
  generalize pop8 (x / 256 / 256 % 256) = p2 at *
  generalize pop8 (x / 256 / 256 / 256 % 256) = p3 at *
  generalize pop8 (x / 256 / 256 / 256 / 256 % 256) = p4 at *
  generalize pop8 (x / 256 / 256 / 256 / 256 / 256 % 256) = p5 at *
  generalize pop8 (x / 256 / 256 / 256 / 256 / 256 / 256 % 256) = p6 at *
  generalize pop8 (x / 256 / 256 / 256 / 256 / 256 / 256 / 256 % 256) = p7 at *
  clear p
  have e4 : (p0 + 256 * (p1 + 256 * (p2 + 256 * (p3 + 256 * (p4 + 256 * (p5 + 256 * (p6 + 256 * (p7 + 256 * 0)))))))) / 256 = p1 + 256 * (p2 + 256 * (p3 + 256 * (p4 + 256 * (p5 + 256 * (p6 + 256 * (p7 + 256 * 0)))))) := by
    rw [div_split _ _ _ (by omega)]
  rw [e4]
  clear e4
  obtain ⟨q4, hq4⟩ : ∃ q, q = p0 + 256 * (p1 + 256 * (p2 + 256 * (p3 + 256 * (p4 + 256 * (p5 + 256 * (p6 + 256 * (p7 + 256 * 0))))))) + (p1 + 256 * (p2 + 256 * (p3 + 256 * (p4 + 256 * (p5 + 256 * (p6 + 256 * (p7 + 256 * 0))))))) := ⟨_, rfl⟩
  rw [← hq4]
  have e5 : q4 / 65536 = (p2 + p3) + 256 * ((p3 + p4) + 256 * ((p4 + p5) + 256 * ((p5 + p6) + 256 * ((p6 + p7) + 256 * p7)))) := by
    rw [show q4 = ((p0 + p1) + 256 * (p1 + p2)) + 65536 * ((p2 + p3) + 256 * ((p3 + p4) + 256 * ((p4 + p5) + 256 * ((p5 + p6) + 256 * ((p6 + p7) + 256 * p7))))) by omega, div_split _ _ _ (by omega)]
  rw [e5]
  clear e5
  obtain ⟨q5, hq5⟩ : ∃ q, q = q4 + ((p2 + p3) + 256 * ((p3 + p4) + 256 * ((p4 + p5) + 256 * ((p5 + p6) + 256 * ((p6 + p7) + 256 * p7))))) := ⟨_, rfl⟩
  rw [← hq5]
  have e6 : q5 / 4294967296 = (p4 + p5 + p6 + p7) + 256 * ((p5 + p6 + p7) + 256 * ((p6 + p7) + 256 * p7)) := by
    rw [show q5 = ((p0 + p1 + p2 + p3) + 256 * ((p1 + p2 + p3 + p4) + 256 * ((p2 + p3 + p4 + p5) + 256 * (p3 + p4 + p5 + p6)))) + 4294967296 * ((p4 + p5 + p6 + p7) + 256 * ((p5 + p6 + p7) + 256 * ((p6 + p7) + 256 * p7))) by omega, div_split _ _ _ (by omega)]
  rw [e6]
  clear e6
  have hy : q5 + ((p4 + p5 + p6 + p7) + 256 * ((p5 + p6 + p7) + 256 * ((p6 + p7) + 256 * p7))) = (p0 + p1 + p2 + p3 + p4 + p5 + p6 + p7) + 128 * (2 * ((p1 + p2 + p3 + p4 + p5 + p6 + p7) + 256 * ((p2 + p3 + p4 + p5 + p6 + p7) + 256 * ((p3 + p4 + p5 + p6 + p7) + 256 * ((p4 + p5 + p6 + p7) + 256 * ((p5 + p6 + p7) + 256 * ((p6 + p7) + 256 * p7))))))) := by omega
  refine ⟨?_, by omega, by omega, by omega⟩
  rw [hy, Nat.add_mul_mod_self_left, Nat.mod_eq_of_lt (by omega)]
  omega
theorem and_lit (x : UInt64) (c : UInt64) (n : Nat) (h : c.toNat = n) : (x &&& c).toNat = x.toNat &&& n := by rw [UInt64.toNat_and, h]
theorem shr_lit (x : UInt64) (s : Nat) (hs : s < 64) : (x >>> UInt64.ofNat s).toNat = x.toNat / 2 ^ s := by
  rw [UInt64.toNat_shiftRight, UInt64.toNat_ofNat_of_lt' (by simp only [UInt64.size]; omega), Nat.mod_eq_of_lt hs, Nat.shiftRight_eq_div_pow]
theorem add_small (x y : UInt64) (h : x.toNat + y.toNat < 18446744073709551616) : (x + y).toNat = x.toNat + y.toNat := by
  rw [UInt64.toNat_add]; exact Nat.mod_eq_of_lt h
theorem F1_le (k x : Nat) : F1 k x ≤ 2 * mk 85 k := by
  have h1 : (x / 2) &&& mk 85 k ≤ mk 85 k := Nat.and_le_right
  have h2 : x &&& mk 85 k ≤ mk 85 k := Nat.and_le_right
  simp only [F1]; omega
theorem F2_le (k x : Nat) : F2 k x ≤ 2 * mk 51 k := by
  have h1 : (x / 4) &&& mk 51 k ≤ mk 51 k := Nat.and_le_right
  have h2 : x &&& mk 51 k ≤ mk 51 k := Nat.and_le_right
  simp only [F2]; omega
theorem oc1_eq (x : UInt64) : (oc1 x).toNat = F1 8 x.toNat := by
  have hle := F1_le 8 x.toNat
  rw [show mk 85 8 = 6148914691236517205 from rfl] at hle
  have h1 : ((x >>> UInt64.ofNat 1) &&& 6148914691236517205).toNat = (x.toNat / 2) &&& mk 85 8 := by rw [and_lit _ _ (mk 85 8) rfl, shr_lit x 1 (by omega)]
  have h2 : (x &&& 6148914691236517205).toNat = x.toNat &&& mk 85 8 := and_lit _ _ _ rfl
  unfold oc1
  rw [add_small _ _ (by rw [h1, h2]; show F1 8 x.toNat < _; omega), h1, h2]; rfl
theorem oc2_eq (x : UInt64) : (oc2 x).toNat = F2 8 x.toNat := by
  have hle := F2_le 8 x.toNat
  rw [show mk 51 8 = 3689348814741910323 from rfl] at hle
  have h1 : ((x >>> UInt64.ofNat 2) &&& 3689348814741910323).toNat = (x.toNat / 4) &&& mk 51 8 := by rw [and_lit _ _ (mk 51 8) rfl, shr_lit x 2 (by omega)]
  have h2 : (x &&& 3689348814741910323).toNat = x.toNat &&& mk 51 8 := and_lit _ _ _ rfl
  unfold oc2
  rw [add_small _ _ (by rw [h1, h2]; show F2 8 x.toNat < _; omega), h1, h2]; rfl
theorem oc3_eq (x : UInt64) (hx : x.toNat ≤ 7378697629483820646) : (oc3 x).toNat = F3 8 x.toNat := by
  have h1 : (x >>> UInt64.ofNat 4).toNat = x.toNat / 16 := shr_lit x 4 (by omega)
  unfold oc3
  rw [and_lit _ _ (mk 15 8) rfl, add_small _ _ (by rw [h1]; omega), h1]; rfl
theorem ocM_sum (x : UInt64) : ocM x = sum8 8 x.toNat := by
  have hle := F2_le 8 (F1 8 x.toNat)
  rw [show mk 51 8 = 3689348814741910323 from rfl] at hle
  have h3 : (oc3 (oc2 (oc1 x))).toNat = G 8 x.toNat := by rw [oc3_eq _ (by rw [oc2_eq, oc1_eq]; omega), oc2_eq, oc1_eq]; rfl
  obtain ⟨g0, g6, g5, g4⟩ := G_sum x.toNat
  have h4 : (oc4 (oc3 (oc2 (oc1 x)))).toNat = G 8 x.toNat + G 8 x.toNat / 256 := by
    unfold oc4
    rw [add_small _ _ (by rw [shr_lit _ 8 (by omega), h3]; exact g4), shr_lit _ 8 (by omega), h3]
  have h5 : (oc5 (oc4 (oc3 (oc2 (oc1 x))))).toNat = (G 8 x.toNat + G 8 x.toNat / 256) + (G 8 x.toNat + G 8 x.toNat / 256) / 65536 := by
    unfold oc5
    rw [add_small _ _ (by rw [shr_lit _ 16 (by omega), h4]; exact g5), shr_lit _ 16 (by omega), h4]
  have h6 : (oc6 (oc5 (oc4 (oc3 (oc2 (oc1 x)))))).toNat = ((G 8 x.toNat + G 8 x.toNat / 256) + (G 8 x.toNat + G 8 x.toNat / 256) / 65536) + ((G 8 x.toNat + G 8 x.toNat / 256) + (G 8 x.toNat + G 8 x.toNat / 256) / 65536) / 4294967296 := by
    unfold oc6
    rw [add_small _ _ (by rw [shr_lit _ 32 (by omega), h5]; exact g6), shr_lit _ 32 (by omega), h5]
  unfold ocM
  rw [and_lit _ _ 127 rfl, h6, show (127 : Nat) = 2 ^ 7 - 1 from rfl, Nat.and_two_pow_sub_one_eq_mod]
  exact g0
end Go.Proofs.YtcoajnpneableaaDoor
namespace Go.Proofs.YtcoajnpneableaaDoor
open Go Go.RowKit Sl
set_option maxRecDepth 100000
set_option maxHeartbeats 8000000
set_option linter.unusedVariables false
set_option linter.unusedSimpArgs false
attribute [local irreducible] ES EL PX wps
def cntN (n x : Nat) : Nat := ((List.range n).filter (x.testBit ·)).length
theorem pop_cnt : ∀ b : Fin 256, pop8 b.val = cntN 8 b.val := by decide +kernel
theorem cnt_split (n x : Nat) : cntN (8 + n) x = cntN 8 (x % 256) + cntN n (x / 256) := by
  unfold cntN
  rw [List.range_add, List.filter_append, List.length_append]
  congr 1
  · congr 1
    refine List.filter_congr fun j hj => ?_
    have hj' := List.mem_range.1 hj
    rw [show (256 : Nat) = 2 ^ 8 from rfl, Nat.testBit_mod_two_pow, decide_eq_true hj', Bool.true_and]
  · rw [List.filter_map, List.length_map]
    congr 1
    refine List.filter_congr fun j hj => ?_
    simp only [Function.comp]
    rw [show (256 : Nat) = 2 ^ 8 from rfl, Nat.testBit_div_two_pow, Nat.add_comm]
theorem sum8_cnt : ∀ k x, sum8 k x = cntN (8 * k) x
  | 0, x => rfl
  | k + 1, x => by
    have h := pop_cnt ⟨x % 256, Nat.mod_lt _ (by omega)⟩
    simp only at h
    rw [show 8 * (k + 1) = 8 + 8 * k by omega, cnt_split, ← sum8_cnt k (x / 256), ← h]
    rfl
theorem oc_bits (x : UInt64) : ocM x = (bitsN x.toNat).length := by rw [ocM_sum, sum8_cnt]; rfl
theorem countGo_mem (s : BS) : ∀ n, countGo s n = (memF s n).length
  | 0 => rfl
  | n + 1 => by
    rw [countGo, countGo_mem s n, memF_step, List.length_append, oc_bits]
    simp [memI]
theorem count_members (s : BS) : countS s = (membersM s).length := by
  rw [countS, countGo_mem, members_eq, List.length_map]
theorem mem_members (s : BS) (b : UInt8) : b ∈ membersM s ↔ hasS s b.toNat = true := by
  unfold membersM
  rw [memGo_filter, List.mem_map]
  constructor
  · rintro ⟨k, hk, rfl⟩
    obtain ⟨h1, h2⟩ := List.mem_filter.1 hk
    have := List.mem_range.1 h1
    have e : (UInt8.ofNat k).toNat = k := by simp; omega
    rw [e]; exact h2
  · intro h
    exact ⟨b.toNat, List.mem_filter.2 ⟨List.mem_range.2 b.toNat_lt, h⟩, by simp⟩
theorem count_m (s : BS) (w : World) : Pure Tryd.prog 34 #[Bs s] (fun _ : Unit => Iv ((membersM s).length : Nat)) (fun _ => []) w := by
  rw [← count_members]; exact count_c s w
end Go.Proofs.YtcoajnpneableaaDoor
namespace Go.Proofs.YtcoajnpneableaaDoor
open Go Go.RowKit Sl
set_option maxRecDepth 100000
set_option maxHeartbeats 8000000
set_option linter.unusedVariables false
set_option linter.unusedSimpArgs false
attribute [local irreducible] ES EL PX wps
theorem one_member {s : BS} (h : (membersM s).length = 1) : ∃ b, membersM s = [b] ∧ s = ofS [b] := by
  obtain ⟨b, hb⟩ := List.length_eq_one_iff.1 h
  refine ⟨b, hb, bs_ext _ _ fun k hk => ?_⟩
  have e : (UInt8.ofNat k).toNat = k := by rw [UInt8.toNat_ofNat']; omega
  have hm := mem_members s (UInt8.ofNat k)
  rw [hb, e] at hm
  rw [has_one b k hk, Bool.eq_iff_iff, decide_eq_true_eq, ← hm]
  simp only [List.mem_singleton]
  constructor
  · intro h2; rw [← h2, e]
  · intro h2; rw [← h2, UInt8.ofNat_toNat]
theorem memGo_less (p : Nat → Bool) (k : Nat) (hp : p k = false) : ∀ n, k < n → (memGo p n).length < n
  | 0, h => by omega
  | n + 1, h => by
    rw [memGo]
    by_cases hk : k = n
    · subst hk
      have := memGo_le p k
      rw [hp, if_neg (by simp)]
      omega
    · have := memGo_less p k hp n (by omega)
      split
      · rw [List.length_append, List.length_singleton]; omega
      · omega
theorem members_all (s : BS) (h : (membersM s).length = 256) (k : Nat) (hk : k < 256) : hasS s k = true := by
  cases hx : hasS s k with
  | true => rfl
  | false =>
    have := memGo_less (hasS s) k hx 256 hk
    unfold membersM at h
    omega
theorem all_members {s : BS} (h : (membersM s).length = 256) : s = notS zeroS := by
  refine bs_ext _ _ fun k hk => ?_
  rw [has_not, has_zero]
  have := members_all s h k hk
  rw [this]; rfl
theorem plain_no {b : UInt8} (h : plainB b = true) : b ≠ 46 ∧ b ≠ 91 ∧ b ≠ 93 ∧ b ≠ 42 ∧ b ≠ 94 ∧ b ≠ 36 ∧ b ≠ 92 := of_decide_eq_true h
theorem plain_is {b : UInt8} (h : ¬ plainB b = true) : b = 46 ∨ b = 91 ∨ b = 93 ∨ b = 42 ∨ b = 94 ∨ b = 36 ∨ b = 92 := by
  have h : ¬ (b ≠ 46 ∧ b ≠ 91 ∧ b ≠ 93 ∧ b ≠ 42 ∧ b ≠ 94 ∧ b ≠ 36 ∧ b ≠ 92) := fun e => h (decide_eq_true e)
  by_cases h1 : b = 46 <;> by_cases h2 : b = 91 <;> by_cases h3 : b = 93 <;> by_cases h4 : b = 42 <;> by_cases h5 : b = 94 <;> by_cases h6 : b = 36 <;> by_cases h7 : b = 92 <;> simp_all
theorem toNat_ne {b : UInt8} {n : Nat} (hn : n < 256) (h : b ≠ UInt8.ofNat n) : b.toNat ≠ n := fun e => h (by rw [← e, UInt8.ofNat_toNat])
def NoHead (l : List UInt8) : Prop := l = [] ∨ ∃ c r, l = c :: r ∧ c ≠ 42 ∧ (c = 92 → ∃ d r', r = d :: r' ∧ d ≠ 123)
theorem NoHead.app {l : List UInt8} (h : NoHead l) (hne : l ≠ []) (rest : List UInt8) : NoHead (l ++ rest) := by
  rcases h with h | ⟨c, r, rfl, h1, h2⟩
  · exact absurd h hne
  · refine .inr ⟨c, r ++ rest, rfl, h1, fun e => ?_⟩
    obtain ⟨d, r', rfl, h3⟩ := h2 e
    exact ⟨d, r' ++ rest, rfl, h3⟩
structure LeafH (l : List UInt8) : Prop where
  head : NoHead l
  ne : l ≠ []
  par : ∀ pre rest, see2 (pre ++ (l ++ rest)) pre.length 92 41 = false ∧ see2 (pre ++ (l ++ rest)) pre.length 92 40 = false
theorem leafH_plain {c : UInt8} (r : List UInt8) (h1 : c ≠ 42) (h2 : c ≠ 92) : LeafH (c :: r) :=
  ⟨.inr ⟨c, r, rfl, h1, fun e => absurd e h2⟩, by simp, fun pre rest => ⟨see_no 41 (List.cons_append ..) h2, see_no 40 (List.cons_append ..) h2⟩⟩
theorem leafH_esc {d : UInt8} (r : List UInt8) (h1 : d ≠ 123) (h2 : d ≠ 41) (h3 : d ≠ 40) : LeafH (92 :: d :: r) :=
  ⟨.inr ⟨92, d :: r, rfl, by decide, fun _ => ⟨d, r, rfl, h1⟩⟩, by simp, fun pre rest => ⟨see_no2 92 (by rw [List.cons_append, List.cons_append]) h2, see_no2 92 (by rw [List.cons_append, List.cons_append]) h3⟩⟩
theorem byteC_h (b : UInt8) : LeafH (byteC b) := by
  unfold byteC
  by_cases h0 : b = 10
  · rw [if_pos h0]
    exact leafH_esc [] (by decide) (by decide) (by decide)
  rw [if_neg h0]
  by_cases h1 : plainB b = true
  · rw [if_pos h1]
    have := plain_no h1
    exact leafH_plain [] this.2.2.2.1 this.2.2.2.2.2.2
  rw [if_neg h1]
  rcases plain_is h1 with rfl | rfl | rfl | rfl | rfl | rfl | rfl <;> exact leafH_esc [] (by decide) (by decide) (by decide)
theorem textS_head (s : BS) : ∃ r, textS s = 91 :: r := by
  by_cases h : s = zeroS
  · subst h; rw [textS, if_pos rfl]; exact ⟨_, rfl⟩
  · obtain ⟨ps, h1, _⟩ := text_pieces s h
    exact ⟨_, h1⟩
theorem setT_h (s : BS) : LeafH (setT s) := by
  unfold setT
  split
  · exact leafH_plain [] (by decide) (by decide)
  split
  · exact byteC_h _
  · obtain ⟨r, h⟩ := textS_head s
    rw [h]
    exact leafH_plain r (by decide) (by decide)
theorem itoa_head (k : Nat) (hk : 1 ≤ k ∧ k ≤ 9) : itoaM k = [UInt8.ofNat (48 + k)] ∧ (UInt8.ofNat (48 + k)).toNat = 48 + k := by
  unfold itoaM
  rw [if_pos (by omega), UInt8.toNat_ofNat']
  exact ⟨rfl, by omega⟩
theorem back_h (k : Nat) (hk : 1 ≤ k ∧ k ≤ 9) : LeafH (canR (.back k)) := by
  obtain ⟨h1, h2⟩ := itoa_head k hk
  rw [canR, h1]
  refine leafH_esc [] ?_ ?_ ?_ <;> (intro e; rw [e] at h2; revert h2; simp; omega)
theorem grown_is {r : DR} (h : r.e = 0) {n : Int} (hs : r.size + n ≤ 256) (a : Nat) : r.grown n a = { r with size := r.size + n } := by
  unfold DR.grown
  rw [if_neg (by omega)]
theorem grown_here {r : DR} (h : r.e = 0) (hs : r.size + 1 ≤ 256) (a b : Nat) : (({ r with at_ := b } : DR).to a).grown 1 b = { r with at_ := a, size := r.size + 1 } := grown_is (r := { r with at_ := a }) h hs b
theorem grown_hereN {r : DR} (h : r.e = 0) {n : Int} (hs : r.size + n ≤ 256) (a b b' : Nat) : (({ r with at_ := b } : DR).to a).grown n b' = { r with at_ := a, size := r.size + n } := grown_is (r := { r with at_ := a }) h hs b'
theorem read_byteC (pre rest : List UInt8) (b : UInt8) (r : DR) (h : r.e = 0) (hs : r.size + 1 ≤ 256) (first : Bool) : dLeaf (pre ++ (byteC b ++ rest)) { r with at_ := pre.length } first = (.byte (ofS [b]), { r with at_ := (pre ++ byteC b).length, size := r.size + 1 }) := by
  unfold byteC
  by_cases h0 : b = 10
  · subst h0
    rw [if_pos rfl]
    unfold dLeaf dEsc
    dsimp only
    have g0 : (pre ++ ([92, 110] ++ rest)).getD pre.length 0 = (92 : UInt8) := getD_at0 pre _
    have g1 : (pre ++ ([92, 110] ++ rest)).getD (pre.length + 1) 0 = (110 : UInt8) := getD_at pre _ 1
    rw [if_neg (by rw [see_no2 (rest := [92, 110] ++ rest) 92 rfl (by decide), see_no2 (rest := [92, 110] ++ rest) 92 rfl (by decide)]; simp), if_pos (by rw [g0]; rfl), if_neg (by simp), if_pos (by rw [g1]; rfl)]
    rw [grown_here h hs]
    try simp
  rw [if_neg h0]
  by_cases h1 : plainB b = true
  · obtain ⟨n1, n2, n3, n4, n5, n6, n7⟩ := plain_no h1
    rw [if_pos h1]
    unfold dLeaf
    dsimp only
    have g0 : (pre ++ ([b] ++ rest)).getD pre.length 0 = b := getD_at0 pre _
    rw [if_neg (by rw [see_no (rest := [b] ++ rest) 123 rfl n7, see_no (rest := [b] ++ rest) 125 rfl n7]; simp), g0, if_neg (toNat_ne (n := 92) (by omega) n7), if_neg (toNat_ne (n := 91) (by omega) n2), if_neg (fun e => toNat_ne (n := 94) (by omega) n5 e.1), if_neg (fun e => toNat_ne (n := 36) (by omega) n6 e.1), if_neg (toNat_ne (n := 46) (by omega) n1)]
    rw [grown_here h hs]
    try simp
  rw [if_neg h1]
  have key : ∀ c : UInt8, c ≠ 123 → c ≠ 125 → c.toNat ≠ 110 → ¬ (49 ≤ c.toNat ∧ c.toNat ≤ 57) → ¬ isAln c = true → dLeaf (pre ++ ([92, c] ++ rest)) { r with at_ := pre.length } first = (.byte (ofS [c]), { r with at_ := (pre ++ [92, c]).length, size := r.size + 1 }) := by
    intro c k1 k2 k3 k4 k5
    unfold dLeaf dEsc
    dsimp only
    have g0 : (pre ++ ([92, c] ++ rest)).getD pre.length 0 = (92 : UInt8) := getD_at0 pre _
    have g1 : (pre ++ ([92, c] ++ rest)).getD (pre.length + 1) 0 = c := getD_at pre _ 1
    rw [if_neg (by rw [see_no2 (rest := [92, c] ++ rest) 92 rfl k1, see_no2 (rest := [92, c] ++ rest) 92 rfl k2]; simp), if_pos (by rw [g0]; rfl), if_neg (by simp), g1, if_neg k3, if_neg k4, if_neg k5]
    rw [grown_here h hs]
    try simp
  rcases plain_is h1 with rfl | rfl | rfl | rfl | rfl | rfl | rfl <;> exact key _ (by decide) (by decide) (by decide) (by decide) (by decide)
theorem read_set (pre rest : List UInt8) (s : BS) (r : DR) (h : r.e = 0) (hs : r.size + 1 ≤ 256) (first : Bool) : dLeaf (pre ++ (setT s ++ rest)) { r with at_ := pre.length } first = (.byte s, { r with at_ := (pre ++ setT s).length, size := r.size + 1 }) := by
  by_cases h0 : (membersM s).length = 256
  · have e : setT s = [46] := by unfold setT; rw [if_pos h0]
    rw [e, all_members h0]
    unfold dLeaf
    dsimp only
    have g0 : (pre ++ ([46] ++ rest)).getD pre.length 0 = (46 : UInt8) := getD_at0 pre _
    rw [if_neg (by rw [see_no (rest := [46] ++ rest) 123 rfl (by decide), see_no (rest := [46] ++ rest) 125 rfl (by decide)]; simp), g0, if_neg (by decide), if_neg (by decide), if_neg (by simp), if_neg (by simp), if_pos (by decide)]
    rw [grown_here h hs]
    try simp
  by_cases h1 : (membersM s).length = 1
  · obtain ⟨b, hb, he⟩ := one_member h1
    have e : setT s = byteC b := by unfold setT; rw [if_neg h0, if_pos h1, hb]; rfl
    rw [e, he]
    exact read_byteC pre rest b r h hs first
  · have e : setT s = textS s := by unfold setT; rw [if_neg h0, if_neg h1]
    rw [e]
    have hb := text_here pre rest s
    obtain ⟨q, hq⟩ := textS_head s
    unfold dLeaf
    dsimp only
    have g0 : (pre ++ (textS s ++ rest)).getD pre.length 0 = (91 : UInt8) := by rw [getD_at0, hq]; rfl
    rw [if_neg (by rw [see_no (rest := textS s ++ rest) 123 (by rw [hq]; rfl) (by decide), see_no (rest := textS s ++ rest) 125 (by rw [hq]; rfl) (by decide)]; simp), g0, if_neg (by decide), if_pos (by decide), hb, if_neg (by simp)]
    rw [grown_here h hs]
    try simp
theorem read_back (pre rest : List UInt8) (k : Nat) (hk : 1 ≤ k ∧ k ≤ 9) (r : DR) (h : r.e = 0) (hc : r.closed.getD k false = true) (hs : r.size + 1 ≤ 256) (first : Bool) : dLeaf (pre ++ (canR (.back k) ++ rest)) { r with at_ := pre.length } first = (.back k, { r with at_ := (pre ++ canR (.back k)).length, size := r.size + 1 }) := by
  obtain ⟨h1, h2⟩ := itoa_head k hk
  rw [canR, h1]
  generalize UInt8.ofNat (48 + k) = c at h2
  unfold dLeaf dEsc
  dsimp only
  have g0 : (pre ++ ([92, c] ++ rest)).getD pre.length 0 = (92 : UInt8) := getD_at0 pre _
  have g1 : (pre ++ ([92, c] ++ rest)).getD (pre.length + 1) 0 = c := getD_at pre _ 1
  have k1 : c ≠ 123 := fun e => by rw [e] at h2; revert h2; simp; omega
  have k2 : c ≠ 125 := fun e => by rw [e] at h2; revert h2; simp; omega
  rw [if_neg (by rw [see_no2 (rest := [92, c] ++ rest) 92 rfl k1, see_no2 (rest := [92, c] ++ rest) 92 rfl k2]; simp), if_pos (by rw [g0]; rfl), if_neg (by simp), g1, if_neg (by omega), if_pos (by omega), show c.toNat - 48 = k by omega, if_pos (show (({ r with at_ := pre.length } : DR).to (pre.length + 2)).closed.getD k false = true from hc)]
  rw [grown_here h hs]
  try simp
theorem read_bol (pre rest : List UInt8) (r : DR) : dLeaf (pre ++ ([94] ++ rest)) { r with at_ := pre.length } true = (.bol, { r with at_ := (pre ++ [94]).length }) := by
  unfold dLeaf
  dsimp only
  have g0 : (pre ++ ([94] ++ rest)).getD pre.length 0 = (94 : UInt8) := getD_at0 pre _
  rw [if_neg (by rw [see_no (rest := [94] ++ rest) 123 rfl (by decide), see_no (rest := [94] ++ rest) 125 rfl (by decide)]; simp), g0, if_neg (by decide), if_neg (by decide), if_pos (by simp)]
  simp [DR.to]
theorem read_eol (pre rest : List UInt8) (r : DR) (first : Bool) (hr : rest = [] ∨ ∃ q, rest = 92 :: 41 :: q) : dLeaf (pre ++ ([36] ++ rest)) { r with at_ := pre.length } first = (.eol, { r with at_ := (pre ++ [36]).length }) := by
  unfold dLeaf
  dsimp only
  have g0 : (pre ++ ([36] ++ rest)).getD pre.length 0 = (36 : UInt8) := getD_at0 pre _
  have hx : pre.length + 1 = (pre ++ ([36] ++ rest)).length ∨ see2 (pre ++ ([36] ++ rest)) (pre.length + 1) 92 41 = true := by
    rcases hr with rfl | ⟨q, rfl⟩
    · left; simp
    · right
      have := see_here (pre ++ [36]) q 92 41
      simpa using this
  rw [if_neg (by rw [see_no (rest := [36] ++ rest) 123 rfl (by decide), see_no (rest := [36] ++ rest) 125 rfl (by decide)]; simp), g0, if_neg (by decide), if_neg (by decide), if_neg (by simp), if_pos ⟨by decide, hx⟩]
  simp [DR.to]
theorem read_leaf {t : List UInt8} {r : DR} {first : Bool} {x : RE × DR} (hc : LeafC t r first x) (h : r.e = 0) (pre rest : List UInt8) (hr : x.1 = .eol → rest = [] ∨ ∃ q, rest = 92 :: 41 :: q) :
    LeafH (canR x.1) ∧ dLeaf (pre ++ (canR x.1 ++ rest)) { r with at_ := pre.length } first = (x.1, { x.2 with at_ := (pre ++ canR x.1).length }) := by
  cases hc with
  | byte s a hs h1 h2 => exact ⟨setT_h s, by rw [canR]; exact read_set pre rest s r h hs first⟩
  | back k a hk hc hs h1 h2 => exact ⟨back_h k hk, read_back pre rest k hk r h hc hs first⟩
  | bol a hf h1 h2 => subst hf; exact ⟨leafH_plain [] (by decide) (by decide), by rw [canR]; exact read_bol pre rest r⟩
  | eol a h1 h2 h3 => exact ⟨leafH_plain [] (by decide) (by decide), by rw [canR]; exact read_eol pre rest r first (hr rfl)⟩
theorem norep_no {pre rest : List UInt8} (h : NoHead rest) : NoRep (pre ++ rest) pre.length := by
  refine ⟨fun hl => ?_, ?_⟩
  · rcases h with rfl | ⟨c, r, rfl, h1, _⟩
    · simp at hl
    · rw [getD_at0]
      exact toNat_ne (n := 42) (by omega) h1
  · rcases h with rfl | ⟨c, r, rfl, h1, h2⟩
    · exact see_nil _ _
    · by_cases hc : c = 92
      · obtain ⟨d, r', rfl, hd⟩ := h2 hc
        exact see_no2 92 rfl hd
      · exact see_no 123 rfl hc
theorem reps_stop {t : List UInt8} (m : Nat) (p : RE) (r : DR) (h : NoRep t r.at_) : dReps t m p r = (p, r) := by
  cases m with
  | zero => rfl
  | succ m =>
    rw [dReps]
    by_cases he : r.e ≠ 0
    · rw [if_pos he]
    rw [if_neg he, if_neg, if_neg (by rw [h.iv]; simp)]
    rw [Bool.and_eq_true, decide_eq_true_eq, decide_eq_true_eq]
    rintro ⟨h1, h2⟩
    exact h.star h1 h2
theorem read_reps {t : List UInt8} : ∀ (n : Nat) (p : RE) (r : DR), r.e = 0 → (dReps t n p r).2.e = 0 → r.at_ ≤ t.length → r.at_ ≤ (dReps t n p r).2.at_ ∧ (dReps t n p r).2.at_ ≤ t.length ∧ ∃ c, canR (dReps t n p r).1 = canR p ++ c ∧
    ∀ (pre rest : List UInt8) (m : Nat), NoHead rest → c.length ≤ m → dReps (pre ++ (c ++ rest)) m p { r with at_ := pre.length } = ((dReps t n p r).1, { (dReps t n p r).2 with at_ := (pre ++ c).length })
  | 0, p, r, h, he, hat => ⟨Nat.le_refl _, hat, [], by rw [dReps, List.append_nil], fun pre rest m hn _ => by rw [reps_stop (t := pre ++ ([] ++ rest)) m p _ (norep_no hn), List.append_nil]; rfl⟩
  | n + 1, p, r, h, he, hat => by
    have stop : dReps t (n + 1) p r = (p, r) → r.at_ ≤ (dReps t (n + 1) p r).2.at_ ∧ (dReps t (n + 1) p r).2.at_ ≤ t.length ∧ ∃ c, canR (dReps t (n + 1) p r).1 = canR p ++ c ∧
      ∀ (pre rest : List UInt8) (m : Nat), NoHead rest → c.length ≤ m → dReps (pre ++ (c ++ rest)) m p { r with at_ := pre.length } = ((dReps t (n + 1) p r).1, { (dReps t (n + 1) p r).2 with at_ := (pre ++ c).length }) := fun e => by
        rw [e]
        exact ⟨Nat.le_refl _, hat, [], by rw [List.append_nil], fun pre rest m hn _ => by rw [reps_stop (t := pre ++ ([] ++ rest)) m p _ (norep_no hn), List.append_nil]⟩
    have go : ∀ (lo : Nat) (hi : Int) (a b : Nat), lo ≤ 255 → -1 ≤ hi → hi ≤ 255 → (0 ≤ hi → (lo : Int) ≤ hi) → r.at_ ≤ a → a ≤ t.length → dReps t (n + 1) p r = dReps t n (.rep lo hi p) ((r.to a).grown ((posR (.rep lo hi p) : Int) - posR p) b) →
      r.at_ ≤ (dReps t (n + 1) p r).2.at_ ∧ (dReps t (n + 1) p r).2.at_ ≤ t.length ∧ ∃ c, canR (dReps t (n + 1) p r).1 = canR p ++ c ∧
      ∀ (pre rest : List UInt8) (m : Nat), NoHead rest → c.length ≤ m → dReps (pre ++ (c ++ rest)) m p { r with at_ := pre.length } = ((dReps t (n + 1) p r).1, { (dReps t (n + 1) p r).2 with at_ := (pre ++ c).length }) := by
      intro lo hi a b l1 l2 l3 l4 ha1 ha2 e
      have hg : ((r.to a).grown ((posR (.rep lo hi p) : Int) - posR p) b).e = 0 := by
        by_cases hx : ((r.to a).grown ((posR (.rep lo hi p) : Int) - posR p) b).e = 0
        · exact hx
        · rw [e, reps_bad _ _ _ hx] at he
          exact absurd he hx
      obtain ⟨g1, g2⟩ := grown_ok (r := r.to a) h hg
      have g1 : r.size + ((posR (.rep lo hi p) : Int) - posR p) ≤ 256 := g1
      rw [g2] at e
      rw [e] at he ⊢
      obtain ⟨i1, i2, c, i3, i4⟩ := read_reps n (.rep lo hi p) { r.to a with size := r.size + ((posR (.rep lo hi p) : Int) - posR p) } h he ha2
      refine ⟨Nat.le_trans ha1 i1, i2, timesT lo hi ++ c, i3.trans (by rw [canR, List.append_assoc]), fun pre rest m hn hm => ?_⟩
      have hI := i4 (pre ++ timesT lo hi) rest
      have eT : pre ++ (timesT lo hi ++ c ++ rest) = pre ++ timesT lo hi ++ (c ++ rest) := by simp
      have eL : pre ++ (timesT lo hi ++ c) = pre ++ timesT lo hi ++ c := by simp
      rw [eL]
      by_cases hs : lo = 0 ∧ hi < 0
      · have hT : timesT lo hi = [42] := by unfold timesT; rw [if_pos hs]
        have hhi : hi = -1 := by omega
        obtain ⟨rfl, _⟩ := hs
        subst hhi
        rw [hT, List.length_append] at hm
        obtain ⟨m, rfl⟩ : ∃ j, m = j + 1 := ⟨m - 1, by simp at hm; omega⟩
        have hI := hI m hn (by simp at hm; omega)
        rw [hT] at hI eT ⊢
        rw [dReps, if_neg (by simp [h])]
        dsimp only
        have g0 : (pre ++ ([42] ++ c ++ rest)).getD pre.length 0 = (42 : UInt8) := getD_at0 pre _
        have e5 : pre.length + 1 = (pre ++ [42]).length := by simp
        rw [if_pos (by rw [g0]; simp), grown_hereN h g1, eT, e5]
        exact hI
      · obtain ⟨q, hq, hv⟩ := iv_read pre (c ++ rest) lo hi hs l1 l2 l3 l4
        have hlen : (timesT lo hi).length = q.length + 2 := by rw [hq]; simp
        rw [List.length_append, hlen] at hm
        obtain ⟨m, rfl⟩ : ∃ j, m = j + 1 := ⟨m - 1, by omega⟩
        have hI := hI m hn (by omega)
        rw [hq] at hI eT ⊢
        rw [dReps, if_neg (by simp [h])]
        dsimp only
        have g0 : (pre ++ (92 :: 123 :: q ++ c ++ rest)).getD pre.length 0 = (92 : UInt8) := getD_at0 pre _
        have e6 : pre ++ (92 :: 123 :: q ++ c ++ rest) = pre ++ (92 :: 123 :: q ++ (c ++ rest)) := by simp
        have hsee : see2 (pre ++ (92 :: 123 :: q ++ c ++ rest)) pre.length 92 123 = true := see_here pre _ 92 123
        rw [if_neg (by rw [g0]; simp), if_pos hsee, e6, hv]
        dsimp only
        rw [grown_hereN h g1, ← e6, eT]
        exact hI
    by_cases c1 : (decide (r.at_ < t.length) && decide ((t.getD r.at_ 0).toNat = 42)) = true
    · have hlt : r.at_ < t.length := by rw [Bool.and_eq_true, decide_eq_true_eq] at c1; exact c1.1
      exact go 0 (-1) (r.at_ + 1) r.at_ (by omega) (by omega) (by omega) (by omega) (by omega) (by omega) (by rw [dReps, if_neg (by simp [h]), if_pos c1])
    by_cases c2 : see2 t r.at_ 92 123 = true
    · cases hv : ivM t (r.at_ + 2) with
      | none =>
        exfalso
        rw [dReps, if_neg (by simp [h]), if_neg c1, if_pos c2, hv] at he
        have he : ((r.to (ivA t (r.at_ + 2))).fail 9 r.at_).e = 0 := he
        exact fail_no (r := r.to (ivA t (r.at_ + 2))) h (by decide) _ he
      | some y =>
        obtain ⟨lo, hi, a⟩ := y
        have hl := iv_le hv
        exact go lo hi a r.at_ hl.1 hl.2.1 hl.2.2.1 hl.2.2.2.1 (by omega) (by omega) (by rw [dReps, if_neg (by simp [h]), if_neg c1, if_pos c2, hv])
    · exact stop (by rw [dReps, if_neg (by simp [h]), if_neg c1, if_neg c2])
end Go.Proofs.YtcoajnpneableaaDoor
namespace Go.Proofs.YtcoajnpneableaaDoor
open Go Go.RowKit Sl
set_option maxRecDepth 100000
set_option maxHeartbeats 8000000
set_option linter.unusedVariables false
set_option linter.unusedSimpArgs false
attribute [local irreducible] ES EL PX wps
def TermOk (in_ : Bool) (rest : List UInt8) : Prop := if in_ = true then ∃ q, rest = 92 :: 41 :: q else rest = []
structure PartH (l : List UInt8) : Prop where
  head : NoHead l
  ne : l ≠ []
  par : ∀ pre rest, see2 (pre ++ (l ++ rest)) pre.length 92 41 = false
def RowRead (t : List UInt8) (n : Nat) : Prop := ∀ (in_ : Bool) (op : Nat) (ks : List RE) (r : DR), r.e = 0 → r.at_ ≤ t.length → t.length < n + r.at_ → (dRow t n in_ op ks r).2.e = 0 →
  r.at_ ≤ (dRow t n in_ op ks r).2.at_ ∧ (dRow t n in_ op ks r).2.at_ ≤ t.length ∧ ∃ ks2, (dRow t n in_ op ks r).1 = .cat (ks ++ ks2) ∧ (∀ rest, TermOk in_ rest → NoHead (canL ks2 ++ rest) ∨ ks = []) ∧
    ∀ (pre rest : List UInt8) (m op2 : Nat), TermOk in_ rest → (canL ks2).length + rest.length < m → dRow (pre ++ (canL ks2 ++ rest)) m in_ op2 ks { r with at_ := pre.length } = ((dRow t n in_ op ks r).1, { (dRow t n in_ op ks r).2 with at_ := (pre ++ canL ks2).length + (if in_ = true then 2 else 0) })
theorem term_head {in_ : Bool} {rest : List UInt8} (h : TermOk in_ rest) : NoHead rest := by
  unfold TermOk at h
  split at h
  · obtain ⟨q, rfl⟩ := h
    exact .inr ⟨92, 41 :: q, rfl, by decide, fun _ => ⟨41, q, rfl, by decide⟩⟩
  · exact .inl h
theorem part_read {t : List UInt8} {n : Nat} (ih : RowRead t n) {r : DR} (first : Bool) (h : r.e = 0) (hat : r.at_ < t.length) (hn : t.length < n + 1 + r.at_) (he : (dPart t n r first).2.e = 0) :
    r.at_ < (dPart t n r first).2.at_ ∧ (dPart t n r first).2.at_ ≤ t.length ∧ ((dPart t n r first).1 = .eol → (dPart t n r first).2.at_ = t.length ∨ see2 t (dPart t n r first).2.at_ 92 41 = true) ∧ PartH (canR (dPart t n r first).1) ∧
    ∀ (pre rest : List UInt8) (m : Nat), ((dPart t n r first).1 = .eol → rest = [] ∨ ∃ q, rest = 92 :: 41 :: q) → (canR (dPart t n r first).1).length + rest.length ≤ m →
      dPart (pre ++ (canR (dPart t n r first).1 ++ rest)) m { r with at_ := pre.length } first = ((dPart t n r first).1, { (dPart t n r first).2 with at_ := (pre ++ canR (dPart t n r first).1).length }) := by
  by_cases c0 : see2 t r.at_ 92 40 = true
  · have h2 := ((see2_iff ..).1 c0).1
    by_cases c1 : r.groups = 9
    · have hd : dPart t n r first = (.cat [], r.fail 4 r.at_) := by unfold dPart; rw [if_pos c0, if_pos c1]
      rw [hd] at he
      exact absurd he (fail_no h (by decide) _)
    obtain ⟨r1, hr1⟩ : ∃ r1 : DR, r1 = { r with groups := r.groups + 1, at_ := r.at_ + 2 } := ⟨_, rfl⟩
    have hd : dPart t n r first = (.group (r.groups + 1) (dRow t n true r.at_ [] r1).1, { (dRow t n true r.at_ [] r1).2 with closed := (dRow t n true r.at_ [] r1).2.closed.set (r.groups + 1) true }) := by unfold dPart; rw [if_pos c0, if_neg c1, hr1]
    have h1e : r1.e = 0 := by rw [hr1]; exact h
    have h1a : r1.at_ = r.at_ + 2 := by rw [hr1]
    have he1 : (dRow t n true r.at_ [] r1).2.e = 0 := by rw [hd] at he; exact he
    obtain ⟨i1, i2, ks3, i3, _, i5⟩ := ih true r.at_ [] r1 h1e (by omega) (by omega) he1
    rw [hd]
    generalize dRow t n true r.at_ [] r1 = x at i1 i2 i3 i5
    obtain ⟨x1, x2⟩ := x
    rw [List.nil_append] at i3
    dsimp only at i1 i2 i3 i5 ⊢
    subst i3
    have hc : canR (.group (r.groups + 1) (.cat ks3)) = 92 :: 40 :: (canL ks3 ++ [92, 41]) := by rw [canR, canR]
    refine ⟨by omega, i2, (fun e => by cases e), ⟨?_, ?_, ?_⟩, ?_⟩
    · rw [hc]
      exact .inr ⟨92, _, rfl, by decide, fun _ => ⟨40, _, rfl, by decide⟩⟩
    · rw [hc]; simp
    · intro pre rest
      rw [hc]
      exact see_no2 92 (c := 92) (d := 40) (by rw [List.cons_append, List.cons_append]) (by decide)
    · intro pre rest m _ hm
      rw [hc] at hm ⊢
      have eT : pre ++ (92 :: 40 :: (canL ks3 ++ [92, 41]) ++ rest) = (pre ++ [92, 40]) ++ (canL ks3 ++ (92 :: 41 :: rest)) := by simp
      have hsee : see2 (pre ++ (92 :: 40 :: (canL ks3 ++ [92, 41]) ++ rest)) pre.length 92 40 = true := see_here pre _ 92 40
      have hI := i5 (pre ++ [92, 40]) (92 :: 41 :: rest) m pre.length (by unfold TermOk; rw [if_pos rfl]; exact ⟨rest, rfl⟩) (by simp only [List.length_cons, List.length_append, List.length_nil] at hm ⊢; omega)
      rw [← eT] at hI
      unfold dPart
      rw [if_pos hsee, if_neg c1]
      have e1 : ({ ({ r with at_ := pre.length } : DR) with groups := r.groups + 1, at_ := pre.length + 2 } : DR) = { r1 with at_ := (pre ++ [92, 40]).length } := by rw [hr1]; simp
      show ((RE.group (r.groups + 1) (dRow (pre ++ (92 :: 40 :: (canL ks3 ++ [92, 41]) ++ rest)) m true pre.length [] { ({ r with at_ := pre.length } : DR) with groups := r.groups + 1, at_ := pre.length + 2 }).1 : RE), _) = _
      rw [e1, hI]
      dsimp only
      congr 1
      simp only [DR.mk.injEq, and_true, true_and, if_true]
      simp
      omega
  · have hd : dPart t n r first = dLeaf t r first := by unfold dPart; rw [if_neg c0]
    rw [hd] at he ⊢
    have hc := leaf_cases t r first h hat he
    generalize dLeaf t r first = y at hc he
    have hl := fun pre rest hr => read_leaf hc h pre rest hr
    have hH : LeafH (canR y.1) := (hl [] [] (fun _ => .inl rfl)).1
    refine ⟨?_, ?_, ?_, ⟨hH.head, hH.ne, fun pre rest => (hH.par pre rest).1⟩, ?_⟩
    · cases hc <;> assumption
    · cases hc <;> assumption
    · intro e
      cases hc with
      | byte => cases e
      | back => cases e
      | bol => cases e
      | eol a h1 h2 h3 => exact h3
    · intro pre rest m hr hm
      unfold dPart
      rw [if_neg (by rw [(hH.par pre rest).2]; simp)]
      exact (hl pre rest hr).2
theorem row_read (t : List UInt8) : ∀ n, RowRead t n
  | 0 => fun in_ op ks r h hat hn he => by omega
  | n + 1 => fun in_ op ks r h hat hn he => by
    rw [dRow_step, if_neg (by simp [h])] at he ⊢
    by_cases c0 : r.at_ = t.length
    · rw [if_pos c0] at he ⊢
      cases in_ with
      | true => exact absurd he (fail_no h (by decide) _)
      | false =>
        refine ⟨Nat.le_refl _, hat, [], by rw [List.append_nil]; first | done | rfl, fun rest ht => .inl (term_head ht), fun pre rest m op2 ht hm => ?_⟩
        have hr : rest = [] := by unfold TermOk at ht; rw [if_neg (by simp)] at ht; exact ht
        subst hr
        obtain ⟨m, rfl⟩ : ∃ k, m = k + 1 := ⟨m - 1, by omega⟩
        rw [dRow_step, if_neg (by simp [h]), if_pos (by simp [canL])]
        simp [canL]
    rw [if_neg c0] at he ⊢
    by_cases c1 : see2 t r.at_ 92 41 = true
    · rw [if_pos c1] at he ⊢
      have h2 := ((see2_iff ..).1 c1).1
      cases in_ with
      | false => exact absurd he (show (r.fail 10 r.at_).e ≠ 0 from fail_no h (by decide) _)
      | true =>
        refine ⟨by show r.at_ ≤ r.at_ + 2; omega, h2, [], by rw [List.append_nil], fun rest ht => .inl (term_head ht), fun pre rest m op2 ht hm => ?_⟩
        obtain ⟨q, hr⟩ : ∃ q, rest = 92 :: 41 :: q := by unfold TermOk at ht; rw [if_pos rfl] at ht; exact ht
        subst hr
        obtain ⟨m, rfl⟩ : ∃ k, m = k + 1 := ⟨m - 1, by omega⟩
        have hsee : see2 (pre ++ (canL [] ++ 92 :: 41 :: q)) pre.length 92 41 = true := see_here pre q 92 41
        rw [dRow_step, if_neg (by simp [h]), if_neg (by simp [canL]), if_pos hsee]
        simp [canL, DR.to]
    rw [if_neg c1] at he ⊢
    have e1 : (dFull t (dPart t n r (decide (ks = [])))).2.e = 0 := by
      by_cases hx : (dFull t (dPart t n r (decide (ks = [])))).2.e = 0
      · exact hx
      · rw [row_bad _ _ _ _ _ hx] at he; exact absurd he hx
    have e0 : (dPart t n r (decide (ks = []))).2.e = 0 := by
      by_cases hx : (dPart t n r (decide (ks = []))).2.e = 0
      · exact hx
      · rw [full_bad hx] at e1; exact absurd e1 hx
    have ih := row_read t n
    obtain ⟨p1, p2, p3, p4, p5⟩ := part_read ih (decide (ks = [])) h (by omega) hn e0
    generalize dPart t n r (decide (ks = [])) = y at *
    -- what repeats it
    have hfull : y.2.at_ ≤ (dFull t y).2.at_ ∧ (dFull t y).2.at_ ≤ t.length ∧ ∃ c, canR (dFull t y).1 = canR y.1 ++ c ∧ (isAnch y.1 = true → dFull t y = y ∧ c = []) ∧ ∀ (pre rest : List UInt8), NoHead rest →
        dFull (pre ++ (c ++ rest)) (y.1, { y.2 with at_ := pre.length }) = ((dFull t y).1, { (dFull t y).2 with at_ := (pre ++ c).length }) := by
      by_cases ha : isAnch y.1 = true
      · have hf : dFull t y = y := by unfold dFull; rw [if_pos ha]
        rw [hf]
        refine ⟨Nat.le_refl _, p2, [], by rw [List.append_nil], fun _ => ⟨rfl, rfl⟩, fun pre rest _ => ?_⟩
        unfold dFull
        rw [if_pos ha, List.append_nil]
      · have hf : dFull t y = dReps t t.length y.1 y.2 := by unfold dFull; rw [if_neg ha]
        rw [hf] at e1 ⊢
        obtain ⟨q1, q2, c, q3, q4⟩ := read_reps t.length y.1 y.2 e0 e1 p2
        refine ⟨q1, q2, c, q3, fun hh => absurd hh ha, fun pre rest hr => ?_⟩
        unfold dFull
        rw [if_neg ha]
        exact q4 pre rest _ hr (by simp only [List.length_append]; omega)
    obtain ⟨f1, f2, c, f3, f4, f5⟩ := hfull
    have hz : y.1 = .eol → isAnch y.1 = true := fun e => by rw [e]; rfl
    generalize hzz : dFull t y = z at *
    obtain ⟨k1, k2, ks2, k3, k4, k5⟩ := ih in_ op (ks ++ [z.1]) z.2 e1 f2 (by omega) he
    have hks2 : y.1 = .eol → ks2 = [] := fun e => by
      have ha := (f4 (hz e)).1
      obtain ⟨k, rfl⟩ : ∃ k, n = k + 1 := ⟨n - 1, by omega⟩
      have hx : (dRow t (k + 1) in_ op (ks ++ [z.1]) z.2).1 = .cat (ks ++ [z.1]) := by
        rw [dRow_step, if_neg (by simp [e1])]
        rcases p3 e with hh | hh
        · rw [if_pos (by rw [ha]; exact hh)]
        · by_cases hb : z.2.at_ = t.length
          · rw [if_pos hb]
          · rw [if_neg hb, if_pos (by rw [ha]; exact hh)]
      rw [k3] at hx
      have := RE.cat.inj hx
      simpa using this
    refine ⟨by omega, k2, z.1 :: ks2, by rw [k3, List.append_assoc]; rfl, fun rest ht => .inl ?_, fun pre rest m op2 ht hm => ?_⟩
    · rw [canL, f3, List.append_assoc, List.append_assoc]
      exact p4.head.app p4.ne _
    · obtain ⟨m, rfl⟩ : ∃ k, m = k + 1 := ⟨m - 1, by omega⟩
      rw [canL, f3] at hm ⊢
      have hpos : 0 < (canR y.1).length := List.length_pos_iff.2 p4.ne
      have eT : pre ++ (canR y.1 ++ c ++ canL ks2 ++ rest) = pre ++ (canR y.1 ++ (c ++ (canL ks2 ++ rest))) := by simp
      have eT2 : pre ++ (canR y.1 ++ (c ++ (canL ks2 ++ rest))) = (pre ++ canR y.1) ++ (c ++ (canL ks2 ++ rest)) := by simp
      have eT3 : (pre ++ canR y.1) ++ (c ++ (canL ks2 ++ rest)) = (pre ++ canR y.1 ++ c) ++ (canL ks2 ++ rest) := by simp
      have hrest : y.1 = .eol → c ++ (canL ks2 ++ rest) = [] ∨ ∃ q, c ++ (canL ks2 ++ rest) = 92 :: 41 :: q := fun e => by
        rw [(f4 (hz e)).2, hks2 e]
        unfold TermOk at ht
        cases in_ with
        | true => right; simpa [canL] using ht
        | false => left; simpa [canL] using ht
      have hP := p5 pre (c ++ (canL ks2 ++ rest)) m hrest (by simp only [List.length_append] at hm ⊢; omega)
      have hn2 : NoHead (canL ks2 ++ rest) := by
        rcases k4 rest ht with hh | hh
        · exact hh
        · simp at hh
      have hF := f5 (pre ++ canR y.1) (canL ks2 ++ rest) hn2
      have hR := k5 (pre ++ canR y.1 ++ c) rest m op2 ht (by simp only [List.length_append] at hm; omega)
      rw [dRow_step, if_neg (by simp [h]), if_neg (by simp only [List.length_append]; omega), eT, if_neg (by rw [p4.par]; simp), hP, eT2, hF, eT3, hR]
      simp
theorem can_doc (t : List UInt8) (he : (docM t).e = 0) (hl : (canR (docM t).tree).length ≤ 512) : docM (canR (docM t).tree) = ⟨(docM t).tree, 0, 0⟩ := by
  have hd : docM t = if 512 < t.length then ⟨.cat [], 2, 0⟩ else if (dRow t (t.length + 1) false 0 [] dr0).2.e ≠ 0 then ⟨.cat [], (dRow t (t.length + 1) false 0 [] dr0).2.e, (dRow t (t.length + 1) false 0 [] dr0).2.place⟩ else ⟨(dRow t (t.length + 1) false 0 [] dr0).1, 0, 0⟩ := rfl
  by_cases c0 : 512 < t.length
  · rw [if_pos c0] at hd
    rw [hd] at he
    exact absurd he (by show ¬ (2 : Int) = 0; decide)
  rw [if_neg c0] at hd
  by_cases c1 : (dRow t (t.length + 1) false 0 [] dr0).2.e ≠ 0
  · rw [if_pos c1] at hd
    rw [hd] at he
    exact absurd he c1
  rw [if_neg c1] at hd
  have c1 := Classical.not_not.1 c1
  obtain ⟨_, _, ks2, k3, _, k5⟩ := row_read t (t.length + 1) false 0 [] dr0 rfl (Nat.zero_le _) (by show t.length < t.length + 1 + 0; omega) c1
  generalize dRow t (t.length + 1) false 0 [] dr0 = x at *
  rw [hd] at hl ⊢
  dsimp only at hl ⊢
  rw [List.nil_append] at k3
  have hc : canR x.1 = canL ks2 := by rw [k3, canR]
  have hk := k5 [] [] ((canL ks2).length + 1) 0 (by unfold TermOk; rw [if_neg (by simp)]) (by simp)
  rw [hc] at hl ⊢
  have hd2 : docM (canL ks2) = if 512 < (canL ks2).length then ⟨.cat [], 2, 0⟩ else if (dRow (canL ks2) ((canL ks2).length + 1) false 0 [] dr0).2.e ≠ 0 then ⟨.cat [], (dRow (canL ks2) ((canL ks2).length + 1) false 0 [] dr0).2.e, (dRow (canL ks2) ((canL ks2).length + 1) false 0 [] dr0).2.place⟩ else ⟨(dRow (canL ks2) ((canL ks2).length + 1) false 0 [] dr0).1, 0, 0⟩ := rfl
  have hk2 : dRow (canL ks2) ((canL ks2).length + 1) false 0 [] dr0 = (x.1, { x.2 with at_ := (canL ks2).length }) := by
    rw [List.nil_append, List.append_nil] at hk
    exact hk
  rw [hd2, if_neg (by omega), hk2, if_neg (by rw [show ({ x.2 with at_ := (canL ks2).length } : DR).e = x.2.e from rfl, c1]; simp)]
theorem can_read (t : List UInt8) (he : (parseM t).e = 0) (hl : (canR (parseM t).tree).length ≤ 512) : parseM (canR (parseM t).tree) = ⟨(parseM t).tree, 0, 0⟩ := by
  rw [← doc_is, ← doc_is] at *
  exact can_doc t he hl
end Go.Proofs.YtcoajnpneableaaDoor
namespace Go.Proofs.YtcoajnpneableaaDoor.Sl
open Go Go.RowKit
set_option linter.unusedVariables false
set_option linter.unusedSimpArgs false
theorem Rd.take {w : World} {B : Nat} {ad : Option Addr} {cs : List Value} (h : Rd w B ad cs) (k : Nat) : Rd w B ad (cs.take k) := by
  intro hne
  obtain ⟨g, off, h1, h2, h3⟩ := h (by intro e; subst e; simp at hne)
  refine ⟨g, off, h1, h2, fun j v hj => h3 j v ?_⟩
  rw [List.getElem?_take] at hj
  split at hj
  · exact hj
  · cases hj
section cutabove
variable {C : Cx} {all : Array Oper} {ops : List Oper} {Q : Qt} {E : Env} {H : List HA} {d ty t : Nat} {pos : String} {af : Array Edge} {gd : Option (Nat × Bool)} {x y : Operand}
end cutabove
end Go.Proofs.YtcoajnpneableaaDoor.Sl
namespace Go.Proofs.YtcoajnpneableaaDoor.Sl
open Go Go.RowKit
set_option linter.unusedVariables false
set_option linter.unusedSimpArgs false
variable {C : Cx} {Q : Qt} {E : Env} {H : List HA}
theorem run_append_none {P : Program} (w : World) (t ty e : TypeId) (i : TypeInfo) (ht : P.underlying t = some (.slice e)) (hi : P.info? e = some i) (base : Option Addr) (sLen sCap : Nat) (hle : sLen ≤ sCap) (ad2 : Option Addr) (c : Nat) :
    (Builtin.append_ #[t, t] ty #[.slice base sLen sCap, .slice ad2 0 c]).run P w = .ok (.slice base sLen sCap) w := by
  cases base <;> cases ad2 <;> simp [Builtin.append_, run_underlying ht, sizeOf, typeInfo, hi, hle, Builtin.lenOf, Builtin.firstCells, loadCells, loadCellsFrom, storeCells, Result.andThen]
section appendrd
variable {all : Array Oper} {ops : List Oper} {d ty t : Nat} {pos : String} {af : Array Edge} {gd : Option (Nat × Bool)} {x y : Operand}
end appendrd
end Go.Proofs.YtcoajnpneableaaDoor.Sl
namespace Go.Proofs.YtcoajnpneableaaDoor.Sl
open Go Go.RowKit Go.Lib
set_option linter.unusedVariables false
set_option linter.unusedSimpArgs false
theorem run_appendB1 {P : Program} (w : World) (t ty e : TypeId) (i : TypeInfo) (ht : P.underlying t = some (.slice e)) (hi : P.info? e = some i) (hz : i.zero = some (.int .u8 0)) (hsize : i.size = 1) (hby : i.bytes = 1)
    (v : Value) (n : Nat) (xs : List Value) (hown : ownsB w e v n xs) (a : Addr) (c : Nat) (u : Value) (hu : w.cell? a = some u) (h1 : u.oneCell' = true) (hbytes : n + 1 ≤ 140737488355328) :
    ∃ ad' cap' w', (Builtin.append_ #[t, t] ty #[v, .slice (some a) 1 c]).run P w = .ok (.slice ad' (n + 1) cap') w' ∧ ownsB w' e (.slice ad' (n + 1) cap') (n + 1) (xs ++ [u]) ∧ w.grownBy w' v.ownBlock ∧
      (∀ k, Value.ownBlock (.slice ad' (n + 1) cap') = some k → (some k = v.ownBlock ∨ w.heap.size ≤ k) ∧ k < w'.heap.size) := by
  have h63 : n + 1 ≤ maxLen := by unfold maxLen; omega
  have hnews : ∀ j u', [u][j]? = some u' → w.cell? (a.add j) = some u' := by
    intro j u' hj
    match j with
    | 0 =>
      have e : u = u' := by simpa using hj
      rw [← e, ← hu]; simp [Addr.add]
    | j + 1 => simp at hj
  have h1' : ∀ u' ∈ [u], u'.oneCell' = true := by simpa using h1
  have fin : ∀ (v' : Value) (w' : World), (Builtin.append_ #[t, t] ty #[v, .slice (some a) 1 c]).run P w = .ok v' w' → w'.ownsRowF 0 e 1 v' (n + 1) (xs ++ [u]) → w.grownBy w' v.ownBlock → (∀ k, v'.ownBlock = some k → (some k = v.ownBlock ∨ w.heap.size ≤ k)) →
      ∃ ad' cap' w', (Builtin.append_ #[t, t] ty #[v, .slice (some a) 1 c]).run P w = .ok (.slice ad' (n + 1) cap') w' ∧ ownsB w' e (.slice ad' (n + 1) cap') (n + 1) (xs ++ [u]) ∧ w.grownBy w' v.ownBlock ∧
      (∀ k, Value.ownBlock (.slice ad' (n + 1) cap') = some k → (some k = v.ownBlock ∨ w.heap.size ≤ k) ∧ k < w'.heap.size) := by
    intro v' w' hr ho hg hat
    obtain ⟨ad', cap', rfl⟩ : ∃ ad' cap', v' = .slice ad' (n + 1) cap' := by
      rcases ho.2 with ⟨h', h0⟩ | ⟨g', cap', cur, fz, hv, _⟩
      · omega
      · exact ⟨_, cap', hv⟩
    exact ⟨ad', cap', w', hr, ⟨ho, fun h => by omega⟩, hg, fun k hk => ⟨hat k hk, (ho.lt k hk).2⟩⟩
  rcases hown.1.2 with ⟨rfl, rfl⟩ | ⟨g, cap, cur, fz, rfl, hbg, hg, hfz, hnc, hcm, hcs, htake⟩
  · obtain rfl : xs = [] := List.eq_nil_of_length_eq_zero (by simpa using hown.1.1)
    obtain ⟨v', w', r1, r2, r3, r4⟩ := run_append_ownF (P := P) w w.heap.size t ty e i (.int .u8 0) 1 1 ht hi hz hsize hby rfl (by omega) (.slice none 0 0) 0 [] (World.ownsRowF_nil _ _ _ _) a 1 c [u] (by simp) hnews h1' h63 (by omega) (Nat.le_refl _)
    exact fin v' w' r1 (ownsRowF_zero r2) r3 (fun k hk => .inr (r2.lt k hk).1)
  · have hxl : xs.length = n := by simpa using hown.1.1
    have hlen : (xs ++ [u]).length = (n + 1) * 1 := by simp [hxl]
    by_cases hroom : n + 1 ≤ cap
    · have hcs' : cur.size = cap := by simpa using hcs
      have hr := run_append_roomF (P := P) w t ty e i ht hi g n cap cur fz hg (by simpa [hsize] using hfz) a 1 c [u] (by simp [hsize]) hnews h1' hroom (by simp [hsize]; omega)
      refine fin _ _ hr ⟨hlen, .inr ⟨g, cap, _, fz, rfl, Nat.zero_le _, setRow_heap w g cur _ e _ hg, by omega, hroom, hcm, ?_, ?_⟩⟩ ⟨rfl, rfl, rfl, by simp, fun k _ hk => setRow_other w g k _ (fun e => hk (by simp [Value.ownBlock, e]))⟩ (fun k hk => .inl (by rw [← hk]; rfl))
      · simp [hsize]
        omega
      · have ht' : cur.toList.take n = xs := by simpa using htake
        simp only [hsize, Nat.mul_one]
        rw [ht', ← Nat.mul_one (n + 1), ← hlen]
        exact List.take_left
    · have holds : ∀ j u, xs[j]? = some u → w.cell? ((⟨g, 0, none⟩ : Addr).add j) = some u := hown.1.cells (g := g) rfl
      have hr := run_append_grow (P := P) w t ty e i (.int .u8 0) ht hi hz ⟨g, 0, none⟩ n cap xs (by rw [hsize]; simpa using hxl) holds a 1 c [u] (by simp [hsize]) hnews (by omega) (by simp only [maxLen] at h63; omega) (by rw [hby]; exact growslice_fits (by omega) (by omega))
      have hge := grownCap_ge w (n + 1) cap e
      have hcm2 : grownCap w (n + 1) cap e ≤ maxLen := grownCap_le_maxLen w (n + 1) cap e h63
      refine fin _ _ hr ⟨hlen, .inr ⟨w.heap.size, _, _, (0, 0), rfl, Nat.zero_le _, heap_alloc_new w.drew _, Nat.zero_le _, hge, hcm2, ?_, ?_⟩⟩ ⟨rfl, rfl, rfl, by simp, fun k hk _ => alloc_old w.drew _ k hk⟩ (fun k hk => .inr (by simp only [Value.ownBlock, Option.some.injEq] at hk; omega))
      · have hz1 : (Value.int IntKind.u8 0).cells.size = 1 := rfl
        simp only [Array.size_append, List.size_toArray, size_zeroCells, hz1, hxl, List.length_cons, List.length_nil]
        omega
      · simp only [Array.toList_append, List.append_assoc]
        rw [← List.append_assoc, ← hlen]
        exact List.take_left
section buffers
variable {C : Cx} {all : Array Oper} {ops : List Oper} {Q : Qt} {E : Env} {H R : List HA} {d ty t : Nat} {pos : String} {af : Array Edge} {gd : Option (Nat × Bool)} {x y : Operand}
theorem EL.appendB1 {ti te : TI} {el : TypeId} {ad : Option Addr} {n cap g1 : Nat} {cs : List Value} {u : Value} (hg : guardOk all E gd = some true) (hx : E.ev x = some (.slice ad n cap)) (hy : E.ev y = some (.slice (some ⟨g1, 0, none⟩) 1 1)) (ht : C.T.f t = some ti) (hu : ti.u = .slice el) (hte : C.T.f el = some te)
    (hz1 : te.zero = .int .u8 0) (hs1 : te.size = 1) (hb1 : te.bytes = 1) (hd : Nat.blt d C.n = true) (hm : Mem H (HA.row (.slice (some ⟨g1, 0, none⟩) 1 1) el 1 1 [u])) (h1 : u.oneCell' = true) (p : Pick H (HA.buf (.slice ad n cap) el n cs) R) (hb : n + 1 ≤ 140737488355328)
    (k : ∀ ad' cap', EL C all ops Q ((d, .slice ad' (n + 1) cap') :: E) (HA.buf (.slice ad' (n + 1) cap') el (n + 1) (cs ++ [u]) :: R)) :
    EL C all (⟨some d, .call { callee := .builtin .append, args := #[x, y], argTypes := #[t, t] }, ty, pos, af, gd⟩ :: ops) Q E H := by
  intro a w ha
  simp only [wpListIn, guardOk_wanted (o := ⟨some d, .call { callee := .builtin .append, args := #[x, y], argTypes := #[t, t] }, ty, pos, af, gd⟩) hg ha.1, if_true]
  refine ⟨fun _ _ => trivial, ?_⟩
  rw [sem_plain (by simp)]
  have hT := (C.T.ok t ti ht).u
  rw [hu] at hT
  obtain ⟨i, hi, hz, hs, hby⟩ := (C.T.ok el te hte).info
  rw [hz1] at hz; rw [hs1] at hs; rw [hb1] at hby
  have hcell : w.cell? ⟨g1, 0, none⟩ = some u := row_cell (ha.2.all _ hm.mem) 0 u rfl
  have hs1' := ha.2.perm p.perm
  obtain ⟨ad', cap', w', hr, hown', hgr, hat⟩ := run_appendB1 (P := C.P) w t ty el i hT hi hz hs hby (.slice ad n cap) n cs hs1'.head ⟨g1, 0, none⟩ 1 u hcell h1 hb
  have hrun : (execOp a.eval ⟨some d, .call { callee := .builtin .append, args := #[x, y], argTypes := #[t, t] }, ty, pos, af, gd⟩).run C.P w = .ok (.value (.slice ad' (n + 1) cap')) w' := by
    simp only [execOp, ha.1.ev hx, ha.1.ev hy, resolve, invoke, builtin, Sem.run_bind, Sem.run_pure, List.map_toArray, List.map_cons, List.map_nil, hr, Result.andThen]
  rw [hrun]
  refine k ad' cap' _ _ ⟨ha.1.put (by simpa using hd) _, ?_⟩
  refine hs1'.turned hgr (fun k hk => by simp [HA.buf, hk]) hown' (fun g hg => ?_) ?_
  · have hg' : Value.ownBlock (.slice ad' (n + 1) cap') = some g := by simpa [HA.buf] using hg
    obtain ⟨h1, h2⟩ := hat g hg'
    refine ⟨h2, ?_⟩
    rcases h1 with h1 | h1
    · left; simp [HA.buf, ← h1]
    · exact .inr h1
  · show (Value.ownBlock (.slice ad' (n + 1) cap')).toList.Nodup
    cases Value.ownBlock (.slice ad' (n + 1) cap') <;> simp
end buffers
end Go.Proofs.YtcoajnpneableaaDoor.Sl
namespace Go.Proofs.YtcoajnpneableaaDoor.Sl
open Go Go.RowKit
set_option linter.unusedVariables false
set_option linter.unusedSimpArgs false
section appendrow
variable {C : Cx} {all : Array Oper} {ops : List Oper} {Q : Qt} {E : Env} {H R : List HA} {d ty t : Nat} {pos : String} {af : Array Edge} {gd : Option (Nat × Bool)} {x y : Operand}
theorem EL.appendW {ti te : TI} {el : TypeId} {ad ad2 : Option Addr} {n cap m c : Nat} {cs news : List Value} (hg : guardOk all E gd = some true) (hx : E.ev x = some (.slice ad n cap)) (hy : E.ev y = some (.slice ad2 m c)) (ht : C.T.f t = some ti) (hu : ti.u = .slice el) (hte : C.T.f el = some te)
    (hz1 : te.zero.cells.size = te.size) (hpos : Nat.blt 0 te.size = true) (hd : Nat.blt d C.n = true) (p : Pick H (HA.row (.slice ad n cap) el te.size n cs) R) (hrd : ∀ w, Sat C.w0 C.B H w → Rd w w.heap.size ad2 news) (hl : news.length = m * te.size) (h1 : ∀ u ∈ news, u.oneCell' = true)
    (h63 : n + m ≤ maxLen) (hbytes : (n + m) * te.bytes ≤ 140737488355328)
    (k : ∀ ad' cap', EL C all ops Q ((d, .slice ad' (n + m) cap') :: E) (HA.row (.slice ad' (n + m) cap') el te.size (n + m) (cs ++ news) :: R)) :
    EL C all (⟨some d, .call { callee := .builtin .append, args := #[x, y], argTypes := #[t, t] }, ty, pos, af, gd⟩ :: ops) Q E H := by
  rcases Nat.eq_zero_or_pos m with rfl | hm
  · obtain rfl : news = [] := List.eq_nil_of_length_eq_zero (by simpa using hl)
    refine EL.val (.slice ad n cap) hg rfl hd (by simp) (fun a w ha => ?_) ?_
    · have hT := (C.T.ok t ti ht).u
      rw [hu] at hT
      obtain ⟨i, hi, hz, hs, hb⟩ := (C.T.ok el te hte).info
      have hf := row_form (ha.2.perm p.perm).head
      have hr := run_append_none (P := C.P) w t ty el i hT hi ad n cap hf.2.1 ad2 c
      simp [execOp, ha.1.ev hx, ha.1.ev hy, resolve, invoke, builtin, hr, Result.andThen]
    · intro a w ha
      have h2 := k ad cap a w
      simp only [Nat.add_zero, List.append_nil] at h2
      exact h2 ⟨ha.1, ha.2.perm p.perm⟩
  · have hpz : 0 < te.size := by simpa using hpos
    have hne : news ≠ [] := by
      intro e; subst e
      have := Nat.mul_pos hm hpz
      simp at hl; omega
    intro a w ha
    obtain ⟨g, off, rfl, hgB, _⟩ := hrd w ha.2 hne
    exact (EL.append hg hx hy ht hu hte hz1 hpos hd p hl hm (fun w hs j u hj => by
      obtain ⟨g', off', h1', h2', h3'⟩ := hrd w hs hne
      cases h1'
      rw [add_n]; exact h3' j u hj) h1 h63 hbytes (fun g' cap' => k _ cap')) a w ha
end appendrow
end Go.Proofs.YtcoajnpneableaaDoor.Sl
namespace Go.Proofs.YtcoajnpneableaaDoor
open Go Go.RowKit Sl
set_option maxRecDepth 100000
set_option maxHeartbeats 8000000
set_option linter.unusedVariables false
set_option linter.unusedSimpArgs false
attribute [local irreducible] ES EL PX wps
section
variable {C : Cx} {all : Array Oper} {ops : List Oper} {Q : Qt} {E : Env} {H R : List HA} {d ty t t' : Nat} {pos : String} {af : Array Edge} {gd : Option (Nat × Bool)} {x y : Operand}
theorem EL.callK {X : Type} {fo : Operand} {ar : Array Operand} {tys : Array TypeId} {f : FuncId} {cap argv : Array Value} {vs : List Value} {Hq : List HA} {val : X → Value} {HX : X → List HA} (hg : guardOk all E gd = some true) (hf : E.ev fo = some (.func (.func f) #[] cap)) (ha : E.evl ar.toList = some vs) (hargv : vs.toArray ++ cap = argv)
    (he : Enters C.P f) (hd : Nat.blt d C.n = true) (hc : Mut C.P f argv Hq val HX) (tk : Takes H Hq R)
    (k : ∀ x, EL C all ops Q ((d, val x) :: E) (HX x ++ R)) : EL C all (⟨some d, .call { callee := .value fo, args := ar, argTypes := tys }, ty, pos, af, gd⟩ :: ops) Q E H :=
  EL.call val (fun x => HX x ++ R) hg hf ha hargv he hd (fun w hs => hc _ _ R w (hs.perm tk.perm)) k
theorem wrap_u8 (b : UInt8) : IntKind.u8.wrap ((b.toNat : Int) + 1) = ((b + 1).toNat : Int) := by
  rw [UInt8.toNat_add]
  simp [IntKind.wrap, IntKind.signed, IntKind.bits]
theorem RV.addOneB {b : UInt8} (hx : E.ev x = some (Uv b)) (hy : E.ev y = some (.int .u8 1)) : RunV C E H ⟨some d, .binOp .add t x y t', ty, pos, af, gd⟩ (Uv (b + 1)) :=
  RV.add _ hx hy (wrap_u8 b)
end
abbrev BX (g : Nat) (ad : Option Addr) (cap : Nat) (l : List UInt8) : List HA := [HA.blk g (.cells #[.slice ad l.length cap] 59), HA.row (.slice ad l.length cap) 5 1 l.length (l.map Uv)]
theorem BX_of {g : Nat} {ad : Option Addr} {cap n : Nat} {l : List UInt8} {cs : List Value} (hn : l.length = n) (hc : l.map Uv = cs) : BX g ad cap l = [HA.blk g (.cells #[.slice ad n cap] 59), HA.row (.slice ad n cap) 5 1 n cs] := by
  subst hn hc
  rfl
theorem flush_len (out run : List UInt8) : (flushM out run).length ≤ out.length + run.length := by
  unfold flushM
  split
  · simp; omega
  · simp
theorem flush_c (g4 g3 : Nat) (ra : Option Addr) (rc : Nat) (run : List UInt8) (oa : Option Addr) (oc : Nat) (out : List UInt8) (hr : run.length ≤ 65536) (ho : out.length ≤ 65536) :
    Mut Tryd.prog 51 #[Pv g4 0, Pv g3 0] (BX g4 ra rc run ++ BX g3 oa oc out) (fun _ : Option Addr × Nat => .tuple #[]) (fun x => [HA.blk g4 (.cells #[.slice none 0 0] 59), HA.row (.slice none 0 0) 5 1 0 []] ++ BX g3 x.1 x.2 (flushM out run)) := by
  intro w0 B R w h
  replace h : Sat w0 B (HA.blk g4 (.cells #[.slice ra run.length rc] 59) :: HA.row (.slice ra run.length rc) 5 1 run.length (run.map Uv) :: HA.blk g3 (.cells #[.slice oa out.length oc] 59) :: HA.row (.slice oa out.length oc) 5 1 out.length (out.map Uv) :: R) w := h
  refine calls_of_ES TB Tryd.func51 rfl _ Tryd.ntmps51 rfl h ?_
  refine .gr ?_; repeat constructor
  (apply EL.loadB; exact rfl; exact rfl; exact rfl; exact rfl; exact rfl; (case hm => repeat constructor); exact rfl)
  refine EL.lenL rfl rfl rfl rfl rfl ?_
  refine EL.gtr rfl rfl rfl rfl ?_
  refine .gr ?_; repeat constructor
  refine ES.condD rfl (fun hgt => ?_) (fun hle => ?_)
  · have hgt' : 2 < run.length := by omega
    have hf : flushM out run = out ++ [run.getD 0 0, 45, run.getD (run.length - 1) 0] := if_pos hgt'
    refine ES.rowForm (ad := ra) (len := run.length) (cap := rc) (n := run.length) (sz := 1) (cs := run.map Uv) (by repeat constructor) (fun hfm => ?_)
    obtain ⟨gr, rfl⟩ := hfm.2.2.2.2 (by omega)
    refine ES.draw (X := Nat) (fun _ => [(0, Pv g4 0), (1, Pv g3 0)]) (fun b => HA.blk g4 (.cells #[.slice (some ⟨b, 0, none⟩) 3 3] 59) :: HA.row (.slice (some ⟨b, 0, none⟩) 3 3) 5 1 3 [Uv (run.getD 0 0), Uv 45, Uv (run.getD (run.length - 1) 0)] :: HA.blk g3 (.cells #[.slice oa out.length oc] 59) :: HA.row (.slice oa out.length oc) 5 1 out.length (out.map Uv) :: R)
      (HA.blk g4 (.cells #[.slice (some ⟨gr, 0, none⟩) run.length rc] 59) :: HA.row (.slice (some ⟨gr, 0, none⟩) run.length rc) 5 1 run.length (run.map Uv) :: []) mixed (.i (by repeat constructor)) ?_ (fun b => ?_)
    · refine ED.take 0 rfl (by decide +kernel) CutX.no_panic (by decide +kernel) rfl rfl rfl (RV.loadB rfl rfl rfl (by repeat constructor) rfl) ?_
      refine ED.take 1 rfl (by decide +kernel) CutX.no_panic (by decide +kernel) rfl rfl rfl (RV.indexAddrL1 (i := 0) rfl rfl rfl rfl rfl rfl (by omega)) ?_
      refine ED.take 2 rfl (by decide +kernel) CutX.no_panic (by decide +kernel) rfl rfl rfl (RV.loadRm Uv 0 (l := run) rfl rfl rfl (by repeat constructor) (by omega)) ?_
      refine ED.take 3 rfl (by decide +kernel) CutX.no_panic (by decide +kernel) rfl rfl rfl (RV.loadB rfl rfl rfl (by repeat constructor) rfl) ?_
      refine ED.take 4 rfl (by decide +kernel) CutX.no_panic (by decide +kernel) rfl rfl rfl (RV.loadB rfl rfl rfl (by repeat constructor) rfl) ?_
      refine ED.take 5 rfl (by decide +kernel) CutX.no_panic (by decide +kernel) rfl rfl rfl (RV.lenL rfl rfl rfl) ?_
      refine ED.take 6 rfl (by decide +kernel) CutX.no_panic (by decide +kernel) rfl rfl rfl (RV.sub1 rfl rfl (by omega) (by omega)) ?_
      refine ED.take 7 rfl (by decide +kernel) CutX.no_panic (by decide +kernel) rfl rfl rfl (RV.indexAddrL1 (i := run.length - 1) rfl rfl rfl rfl rfl rfl (by omega)) ?_
      refine ED.take 8 rfl (by decide +kernel) CutX.no_panic (by decide +kernel) rfl rfl rfl (RV.loadRm Uv 0 (l := run) rfl rfl rfl (by repeat constructor) (by omega)) ?_
      refine ED.loud 9 rfl (by decide +kernel) ?_
      (refine EL.buildSliceS [Uv (run.getD 0 0), .int .u8 45, Uv (run.getD (run.length - 1) 0)] rfl rfl rfl rfl rfl rfl rfl rfl rfl rfl (by intro u hu; simp only [List.mem_cons, List.not_mem_nil, or_false] at hu; rcases hu with rfl | rfl | rfl <;> rfl) ?_; intro b14)
      refine ED.next (.i (by repeat constructor)) ?_
      refine ED.last 10 rfl (by decide +kernel) (by decide +kernel) (by decide +kernel) ?_
      (apply EL.storeB; exact rfl; exact rfl; exact rfl; exact rfl; exact rfl; exact rfl; (case p => repeat constructor); exact (by first | decide | exact Nat.le_of_ble_eq_true rfl | simp))
      refine EL.endQ ?_
      exact PX.cutX b14 ⟨rfl, rfl, trivial⟩ (.i (by repeat constructor))
    refine .gs ?_; repeat constructor
    refine .gr ?_; repeat constructor
    (apply EL.loadB; exact rfl; exact rfl; exact rfl; exact rfl; exact rfl; (case hm => repeat constructor); exact rfl)
    (apply EL.loadB; exact rfl; exact rfl; exact rfl; exact rfl; exact rfl; (case hm => repeat constructor); exact rfl)
    (refine EL.append (m := 3) (news := [Uv (run.getD 0 0), Uv 45, Uv (run.getD (run.length - 1) 0)]) rfl rfl rfl rfl rfl rfl rfl rfl rfl (by repeat constructor) (by rfl) (by omega) (fun w hs => row_news hs (by repeat constructor)) (by intro u hu; simp only [List.mem_cons, List.not_mem_nil, or_false] at hu; rcases hu with rfl | rfl | rfl <;> rfl) (by unfold maxLen; omega) (by first | omega | (show 1 * _ ≤ _; omega) | (show 8 * _ ≤ _; omega) | (show 16 * _ ≤ _; omega) | (show 24 * _ ≤ _; omega) | (show _ * 1 ≤ _; omega) | (show _ * 8 ≤ _; omega) | (show _ * 16 ≤ _; omega) | (show _ * 24 ≤ _; omega) | exact Nat.le_trans (Nat.mul_le_mul_right _ (show _ ≤ 1073741824 by omega)) (by decide)) ?_; intro a17 c17)
    (apply EL.storeB; exact rfl; exact rfl; exact rfl; exact rfl; exact rfl; exact rfl; (case p => repeat constructor); exact (by first | decide | exact Nat.le_of_ble_eq_true rfl | simp))
    refine .gr ?_; repeat constructor
    (apply EL.storeB; exact rfl; exact rfl; exact rfl; exact rfl; exact rfl; exact rfl; (case p => repeat constructor); exact (by first | decide | exact Nat.le_of_ble_eq_true rfl | simp))
    refine .gr ?_; repeat constructor
    refine PX.end rfl Tryd.results51 .nil (fun w hs => ⟨(some ⟨a17, 0, none⟩, c17), rfl, ?_⟩)
    rw [hf]
    refine (hs.nilRow 5 1).ent ?_
    dsimp only
    rw [BX_of (l := out ++ [run.getD 0 0, 45, run.getD (run.length - 1) 0]) (n := out.length + 3) (by simp) (List.map_append ..)]
    exact (.i (by repeat constructor))
  · have hf : flushM out run = out ++ run := if_neg (by omega)
    refine .gr ?_; repeat constructor
    (apply EL.loadB; exact rfl; exact rfl; exact rfl; exact rfl; exact rfl; (case hm => repeat constructor); exact rfl)
    (apply EL.loadB; exact rfl; exact rfl; exact rfl; exact rfl; exact rfl; (case hm => repeat constructor); exact rfl)
    (refine EL.appendW rfl rfl rfl rfl rfl rfl rfl rfl rfl (by repeat constructor) (fun w hs => Rd.row (n := run.length) (cap := rc) (sz := 1) hs (by repeat constructor) (by decide)) (by simp; exact (Nat.mul_one _).symm) (by intro u hu; obtain ⟨_, _, rfl⟩ := List.mem_map.1 hu; rfl) (by unfold maxLen; omega) (by first | omega | (show 1 * _ ≤ _; omega) | (show 8 * _ ≤ _; omega) | (show 16 * _ ≤ _; omega) | (show 24 * _ ≤ _; omega) | (show _ * 1 ≤ _; omega) | (show _ * 8 ≤ _; omega) | (show _ * 16 ≤ _; omega) | (show _ * 24 ≤ _; omega) | exact Nat.le_trans (Nat.mul_le_mul_right _ (show _ ≤ 1073741824 by omega)) (by decide)) ?_; intro a17 c17)
    (apply EL.storeB; exact rfl; exact rfl; exact rfl; exact rfl; exact rfl; exact rfl; (case p => repeat constructor); exact (by first | decide | exact Nat.le_of_ble_eq_true rfl | simp))
    refine .gr ?_; repeat constructor
    (apply EL.storeB; exact rfl; exact rfl; exact rfl; exact rfl; exact rfl; exact rfl; (case p => repeat constructor); exact (by first | decide | exact Nat.le_of_ble_eq_true rfl | simp))
    refine .gr ?_; repeat constructor
    refine PX.end rfl Tryd.results51 .nil (fun w hs => ⟨(a17, c17), rfl, ?_⟩)
    rw [hf]
    refine (hs.nilRow 5 1).ent ?_
    dsimp only
    rw [BX_of (l := out ++ run) List.length_append List.map_append]
    exact (.i (by repeat constructor))
theorem special_c (b : UInt8) (w : World) : Pure Tryd.prog 52 #[Uv b] (fun _ : Unit => .bool (spc b)) (fun _ => []) w := by
  have hspc : spc b = decide (0 ≤ idxB [93, 94, 45, 91] b) := by
    unfold spc
    rw [decide_eq_decide, idxB_nonneg]
    simp
  refine calls_of_ES TB Tryd.func52 rfl _ Tryd.ntmps52 rfl (Sat.start w) ?_
  refine .gr ?_; repeat constructor
  refine EL.assign rfl rfl rfl ?_
  refine .gr ?_; repeat constructor
  refine EL.move rfl rfl rfl ?_
  refine EL.callP rfl rfl rfl ent36 rfl (index_c [93, 94, 45, 91] b) ?_
  refine EL.geq rfl rfl rfl rfl ?_
  refine EL.assign rfl rfl rfl ?_
  refine .gr ?_; repeat constructor
  exact PX.ret rfl Tryd.results52 (.cons (.tmp rfl) .nil) (fun w hs => ⟨(), by rw [hspc]; rfl, hs.ent (.nil _)⟩)
structure TSt where
  oa : Option Addr
  oc : Nat
  out : List UInt8
  ra : Option Addr
  rc : Nat
  run : List UInt8
theorem step_len (st : List UInt8 × List UInt8) (b : UInt8) : (textStep st b).1.length + (textStep st b).2.length ≤ st.1.length + st.2.length + 5 := by
  have := flush_len st.1 st.2
  unfold textStep
  split
  · simp; omega
  · split
    · simp; omega
    · simp; omega
theorem fold_len : ∀ (l : List UInt8) (st : List UInt8 × List UInt8), (l.foldl textStep st).1.length + (l.foldl textStep st).2.length ≤ st.1.length + st.2.length + 5 * l.length
  | [], st => by simp
  | b :: l, st => by
    have h1 := fold_len l (textStep st b)
    have h2 := step_len st b
    rw [List.foldl_cons, List.length_cons]
    omega
abbrev FX (g5 g4 g3 : Nat) : HA := HA.blk g5 (.cells #[.func (.func 51) #[] #[Pv g4 0, Pv g3 0]] 1)
abbrev THi (g5 g4 g3 : Nat) (z : TSt) : List HA := BX g4 z.ra z.rc z.run ++ BX g3 z.oa z.oc z.out ++ [FX g5 g4 g3]
theorem text_c (s : BS) (w : World) (hT : TabR w w.heap.size) : Pure Tryd.prog 37 #[Bs s] (fun _ : Unit => Sv (textS s)) (fun _ => []) w := by
  have hml : (membersM s).length ≤ 256 := memGo_le _ _
  refine calls_of_ESM TB Tryd.func37 rfl _ Tryd.ntmps37 rfl (Sat.start w) ?_
  refine .gr ?_; repeat constructor
  (refine EL.box rfl rfl rfl ?_; intro g1)
  refine EL.assign rfl rfl rfl ?_
  refine .gr ?_; repeat constructor
  (apply EL.loadAggB; exact rfl; exact rfl; exact rfl; exact rfl; exact rfl; (case hm => repeat constructor); exact rfl)
  refine EL.buildZA rfl rfl rfl rfl rfl ?_
  refine EL.eqlBS (w0 := s.a) (w1 := s.b) (w2 := s.c) (w3 := s.d) (v0 := 0) (v1 := 0) (v2 := 0) (v3 := 0) rfl rfl rfl rfl eqg24 rfl rfl rfl rfl rfl ?_
  refine .gr ?_; repeat constructor
  refine ES.condD rfl (fun he => ?_) (fun hne => ?_)
  · have hs : textS s = [91, 94, 0, 45, 255, 93] := if_pos he
    refine .gr ?_; repeat constructor
    refine EL.assign rfl rfl rfl ?_
    refine .gr ?_; repeat constructor
    exact PX.retM [] rfl (.nil _) Tryd.results37 (.cons (.tmp rfl) .nil) (fun w h => ⟨(), by rw [hs]; rfl, h.ent (.nil _)⟩)
  have hs0 : textS s = flushM ((membersM s).foldl textStep ([91], [])).1 ((membersM s).foldl textStep ([91], [])).2 ++ [93] := if_neg hne
  refine .gr ?_; repeat constructor
  (refine EL.buildSlice1 rfl rfl rfl rfl rfl rfl rfl rfl rfl rfl ?_; intro b10)
  (refine EL.alloc rfl rfl rfl ?_; intro g3)
  (apply EL.storeB; exact rfl; exact rfl; exact rfl; exact rfl; exact rfl; exact rfl; (case p => repeat constructor); exact (by first | decide | exact Nat.le_of_ble_eq_true rfl | simp))
  refine .gr ?_; repeat constructor
  (refine EL.alloc rfl rfl rfl ?_; intro g4)
  refine .gr ?_; repeat constructor
  refine EL.makeFunc rfl rfl rfl ?_
  (refine EL.alloc rfl rfl rfl ?_; intro g5)
  (apply EL.storeB; exact rfl; exact rfl; exact rfl; exact rfl; exact rfl; exact rfl; (case p => repeat constructor); exact (by first | decide | exact Nat.le_of_ble_eq_true rfl | simp))
  refine .gr ?_; repeat constructor
  (apply EL.loadAggB; exact rfl; exact rfl; exact rfl; exact rfl; exact rfl; (case hm => repeat constructor); exact rfl)
  (refine EL.callX rfl rfl rfl ent35 rfl (members_c s) ?_; intro gs)
  refine .gr ?_; repeat constructor
  refine ES.nilRow 5 1 ?_
  refine ES.rangeFunc (σ := TSt) (τ := Unit) (fun i z => i ≤ (membersM s).length ∧ (z.out, z.run) = ((membersM s).take i).foldl textStep ([91], [])) (THi g5 g4 g3) (fun _ _ _ => False) (fun _ => []) ⟨some ⟨b10, 0, none⟩, 1, [91], none, 0, []⟩ ⟨Nat.zero_le _, rfl⟩
    rfl rfl ent48 (mem1_iter gs s _ _ hT) (by repeat constructor) (by repeat constructor) (by intro x hx; obtain ⟨_, _, rfl⟩ := List.mem_map.1 hx; rfl) rfl ?_ (fun D z hz => ?_) (fun D c i s' hc => hc.elim)
  · rintro l i ⟨oa, oc, out, ra, rc, run⟩ x R1 ⟨hi, hst⟩ hx
    dsimp only at hst hx
    obtain ⟨b, hb, rfl⟩ : ∃ b, (membersM s)[i]? = some b ∧ x = [Uv b] := by
      unfold ym at hx
      rw [List.getElem?_map] at hx
      obtain ⟨ln, h1, h2⟩ := Option.map_eq_some_iff.1 hx
      exact ⟨ln, h1, h2.symm⟩
    have hlt : i < (membersM s).length := (List.getElem?_eq_some_iff.1 hb).1
    have htk : ((membersM s).take (i + 1)).foldl textStep ([91], []) = textStep (out, run) b := by
      rw [List.take_succ_eq_append_getElem hlt, (List.getElem?_eq_some_iff.1 hb).2, List.foldl_append, ← hst]
      rfl
    have hln := fold_len ((membersM s).take i) ([91], [])
    rw [← hst, List.length_take] at hln
    simp only [List.length_singleton, List.length_nil] at hln
    have hol : out.length ≤ 4096 := by omega
    have hrl : run.length ≤ 4096 := by omega
    have hfl := flush_len out run
    refine .gr ?_; repeat constructor
    refine EL.assign rfl rfl rfl ?_
    refine .gr ?_; repeat constructor
    refine PX.assigned [(6, Uv b), (3, Pv g3 0), (4, Pv g4 0), (5, Pv g5 0)] (BX g4 ra rc run ++ BX g3 oa oc out ++ [FX g5 g4 g3]) ⟨rfl, rfl, rfl, rfl, trivial⟩ (.i (by repeat constructor)) (fun R2 => ?_)
    refine .gr ?_; repeat constructor
    refine EL.move rfl rfl rfl ?_
    refine EL.callP rfl rfl rfl ent52 rfl (special_c b) ?_
    refine .gr ?_; repeat constructor
    refine ES.cond rfl (fun hsp => ?_) (fun hsp => ?_)
    · have hts : textStep (out, run) b = (flushM out run ++ [91, 46, b, 46, 93], []) := if_pos hsp
      refine .gr ?_; repeat constructor
      (apply EL.loadB; exact rfl; exact rfl; exact rfl; exact rfl; exact rfl; (case hm => repeat constructor); exact rfl)
      (refine EL.callK rfl rfl rfl rfl ent51 rfl (flush_c g4 g3 ra rc run oa oc out (by omega) (by omega)) (by repeat constructor) ?_; rintro ⟨oa2, oc2⟩)
      refine .gr ?_; repeat constructor
      (apply EL.loadB; exact rfl; exact rfl; exact rfl; exact rfl; exact rfl; (case hm => repeat constructor); exact rfl)
      refine EL.move rfl rfl rfl ?_
      (refine EL.buildSliceS [.int .u8 91, .int .u8 46, Uv b, .int .u8 46, .int .u8 93] rfl rfl rfl rfl rfl rfl rfl rfl rfl rfl (by intro u hu; simp only [List.mem_cons, List.not_mem_nil, or_false] at hu; rcases hu with rfl | rfl | rfl | rfl | rfl <;> rfl) ?_; intro b21)
      (refine EL.append (m := 5) (news := [Uv 91, Uv 46, Uv b, Uv 46, Uv 93]) rfl rfl rfl rfl rfl rfl rfl rfl rfl (by repeat constructor) (by rfl) (by omega) (fun w hs => row_news hs (by repeat constructor)) (by intro u hu; simp only [List.mem_cons, List.not_mem_nil, or_false] at hu; rcases hu with rfl | rfl | rfl | rfl | rfl <;> rfl) (by unfold maxLen; omega) (by first | omega | (show 1 * _ ≤ _; omega) | (show 8 * _ ≤ _; omega) | (show 16 * _ ≤ _; omega) | (show 24 * _ ≤ _; omega) | (show _ * 1 ≤ _; omega) | (show _ * 8 ≤ _; omega) | (show _ * 16 ≤ _; omega) | (show _ * 24 ≤ _; omega) | exact Nat.le_trans (Nat.mul_le_mul_right _ (show _ ≤ 1073741824 by omega)) (by decide)) ?_; intro a22 c22)
      (apply EL.storeB; exact rfl; exact rfl; exact rfl; exact rfl; exact rfl; exact rfl; (case p => repeat constructor); exact (by first | decide | exact Nat.le_of_ble_eq_true rfl | simp))
      refine .gr ?_; repeat constructor
      refine .gr ?_; repeat constructor
      refine PX.round ⟨some ⟨a22, 0, none⟩, c22, flushM out run ++ [91, 46, b, 46, 93], none, 0, []⟩ ⟨hlt, by rw [htk, hts]⟩ ?_
      unfold THi
      dsimp only
      rw [BX_of (l := flushM out run ++ [91, 46, b, 46, 93]) (n := (flushM out run).length + 5) (by simp) List.map_append]
      exact (.i (by repeat constructor))
    · have hsp' : ¬ spc b = true := by rw [hsp]; simp
      by_cases hr0 : 0 < run.length
      · refine ES.rowForm (ad := ra) (len := run.length) (cap := rc) (n := run.length) (sz := 1) (cs := run.map Uv) (by repeat constructor) (fun hfm => ?_)
        obtain ⟨gr, rfl⟩ := hfm.2.2.2.2 hr0
        refine .gr ?_; repeat constructor
        (apply EL.loadB; exact rfl; exact rfl; exact rfl; exact rfl; exact rfl; (case hm => repeat constructor); exact rfl)
        refine EL.lenL rfl rfl rfl rfl rfl ?_
        refine EL.gtr rfl rfl rfl rfl ?_
        refine EL.move rfl rfl rfl ?_
        refine EL.rew (d := 26) (v' := .bool true) rfl (congrArg Value.bool (decide_eq_true (by omega))) ?_
        (apply EL.loadB; exact rfl; exact rfl; exact rfl; exact rfl; exact rfl; (case hm => repeat constructor); exact rfl)
        (apply EL.loadB; exact rfl; exact rfl; exact rfl; exact rfl; exact rfl; (case hm => repeat constructor); exact rfl)
        refine EL.lenL rfl rfl rfl rfl rfl ?_
        refine EL.sub1 rfl rfl rfl rfl (by omega) (by omega) ?_
        refine EL.indexAddrL1 (i := run.length - 1) rfl rfl rfl rfl rfl rfl rfl rfl (by omega) ?_
        refine EL.loadRm Uv 0 (l := run) rfl rfl rfl rfl rfl (by repeat constructor) (by omega) ?_
        refine EL.ofRV (RV.addOneB (b := run.getD (run.length - 1) 0) rfl rfl) rfl rfl rfl (by intro c h; cases h) ?_
        refine EL.move rfl rfl rfl ?_
        refine EL.neqI rfl rfl rfl rfl ?_
        refine EL.pickT rfl rfl rfl rfl ?_
        refine .gr ?_; repeat constructor
        refine ES.condN rfl (fun hne2 => ?_) (fun heq => ?_)
        · have hts : textStep (out, run) b = (flushM out run, [b]) := by
            show (if spc b = true then _ else if 0 < run.length ∧ run.getD (run.length - 1) 0 + 1 ≠ b then _ else _) = _
            rw [if_neg hsp', if_pos ⟨hr0, fun e => hne2 (by rw [e])⟩]
          refine .gr ?_; repeat constructor
          (apply EL.loadB; exact rfl; exact rfl; exact rfl; exact rfl; exact rfl; (case hm => repeat constructor); exact rfl)
          (refine EL.callK rfl rfl rfl rfl ent51 rfl (flush_c g4 g3 (some ⟨gr, 0, none⟩) rc run oa oc out (by omega) (by omega)) (by repeat constructor) ?_; rintro ⟨oa2, oc2⟩)
          refine .gr ?_; repeat constructor
          (apply EL.loadB; exact rfl; exact rfl; exact rfl; exact rfl; exact rfl; (case hm => repeat constructor); exact rfl)
          refine EL.move rfl rfl rfl ?_
          (refine EL.buildSlice1 rfl rfl rfl rfl rfl rfl rfl rfl rfl rfl ?_; intro b41)
          (refine EL.append1 rfl rfl rfl rfl rfl rfl rfl rfl rfl (by repeat constructor) (by repeat constructor) (by first | (intro u hu; simp [Value.cells] at hu; subst hu; rfl) | exact all1 rfl) (by rfl) (by unfold maxLen; omega) (by first | omega | (show 1 * _ ≤ _; omega) | (show 8 * _ ≤ _; omega) | (show 16 * _ ≤ _; omega) | (show 24 * _ ≤ _; omega) | (show _ * 1 ≤ _; omega) | (show _ * 8 ≤ _; omega) | (show _ * 16 ≤ _; omega) | (show _ * 24 ≤ _; omega) | exact Nat.le_trans (Nat.mul_le_mul_right _ (show _ ≤ 1073741824 by omega)) (by decide)) ?_; intro a42 c42)
          (apply EL.storeB; exact rfl; exact rfl; exact rfl; exact rfl; exact rfl; exact rfl; (case p => repeat constructor); exact (by first | decide | exact Nat.le_of_ble_eq_true rfl | simp))
          refine .gr ?_; repeat constructor
          refine .gr ?_; repeat constructor
          exact PX.round ⟨oa2, oc2, flushM out run, some ⟨a42, 0, none⟩, c42, [b]⟩ ⟨hlt, by rw [htk, hts]⟩ (.i (by repeat constructor))
        · have hts : textStep (out, run) b = (out, run ++ [b]) := by
            show (if spc b = true then _ else if 0 < run.length ∧ run.getD (run.length - 1) 0 + 1 ≠ b then _ else _) = _
            rw [if_neg hsp', if_neg (fun h => h.2 (UInt8.toNat_inj.1 (by omega)))]
          refine .gr ?_; repeat constructor
          (apply EL.loadB; exact rfl; exact rfl; exact rfl; exact rfl; exact rfl; (case hm => repeat constructor); exact rfl)
          refine EL.move rfl rfl rfl ?_
          (refine EL.buildSlice1 rfl rfl rfl rfl rfl rfl rfl rfl rfl rfl ?_; intro b41)
          (refine EL.append1 rfl rfl rfl rfl rfl rfl rfl rfl rfl (by repeat constructor) (by repeat constructor) (by first | (intro u hu; simp [Value.cells] at hu; subst hu; rfl) | exact all1 rfl) (by rfl) (by unfold maxLen; omega) (by first | omega | (show 1 * _ ≤ _; omega) | (show 8 * _ ≤ _; omega) | (show 16 * _ ≤ _; omega) | (show 24 * _ ≤ _; omega) | (show _ * 1 ≤ _; omega) | (show _ * 8 ≤ _; omega) | (show _ * 16 ≤ _; omega) | (show _ * 24 ≤ _; omega) | exact Nat.le_trans (Nat.mul_le_mul_right _ (show _ ≤ 1073741824 by omega)) (by decide)) ?_; intro a42 c42)
          (apply EL.storeB; exact rfl; exact rfl; exact rfl; exact rfl; exact rfl; exact rfl; (case p => repeat constructor); exact (by first | decide | exact Nat.le_of_ble_eq_true rfl | simp))
          refine .gr ?_; repeat constructor
          refine .gr ?_; repeat constructor
          refine PX.round ⟨oa, oc, out, some ⟨a42, 0, none⟩, c42, run ++ [b]⟩ ⟨hlt, by rw [htk, hts]⟩ ?_
          unfold THi
          dsimp only
          rw [BX_of (l := run ++ [b]) (n := run.length + 1) (by simp) List.map_append]
          exact (.i (by repeat constructor))
      · have hr1 : run = [] := List.eq_nil_of_length_eq_zero (by omega)
        have hts : textStep (out, run) b = (out, run ++ [b]) := by
          show (if spc b = true then _ else if 0 < run.length ∧ run.getD (run.length - 1) 0 + 1 ≠ b then _ else _) = _
          rw [if_neg hsp', if_neg (fun h => hr0 h.1)]
        refine .gr ?_; repeat constructor
        (apply EL.loadB; exact rfl; exact rfl; exact rfl; exact rfl; exact rfl; (case hm => repeat constructor); exact rfl)
        refine EL.lenL rfl rfl rfl rfl rfl ?_
        refine EL.gtr rfl rfl rfl rfl ?_
        refine EL.move rfl rfl rfl ?_
        refine EL.rew (d := 26) (v' := .bool false) rfl (congrArg Value.bool (decide_eq_false (by omega))) ?_
        refine EL.pass rfl rfl rfl ?_
        refine EL.pass rfl rfl rfl ?_
        refine EL.pass rfl rfl rfl ?_
        refine EL.pass rfl rfl rfl ?_
        refine EL.pass rfl rfl rfl ?_
        refine EL.pass rfl rfl rfl ?_
        refine EL.pass rfl rfl rfl ?_
        refine EL.pass rfl rfl rfl ?_
        refine EL.pass rfl rfl rfl ?_
        refine EL.pickF rfl rfl rfl rfl ?_
        refine .gr ?_; repeat constructor
        refine ES.condF rfl ?_
        refine .gr ?_; repeat constructor
        (apply EL.loadB; exact rfl; exact rfl; exact rfl; exact rfl; exact rfl; (case hm => repeat constructor); exact rfl)
        refine EL.move rfl rfl rfl ?_
        (refine EL.buildSlice1 rfl rfl rfl rfl rfl rfl rfl rfl rfl rfl ?_; intro b41)
        (refine EL.append1 rfl rfl rfl rfl rfl rfl rfl rfl rfl (by repeat constructor) (by repeat constructor) (by first | (intro u hu; simp [Value.cells] at hu; subst hu; rfl) | exact all1 rfl) (by rfl) (by unfold maxLen; omega) (by first | omega | (show 1 * _ ≤ _; omega) | (show 8 * _ ≤ _; omega) | (show 16 * _ ≤ _; omega) | (show 24 * _ ≤ _; omega) | (show _ * 1 ≤ _; omega) | (show _ * 8 ≤ _; omega) | (show _ * 16 ≤ _; omega) | (show _ * 24 ≤ _; omega) | exact Nat.le_trans (Nat.mul_le_mul_right _ (show _ ≤ 1073741824 by omega)) (by decide)) ?_; intro a42 c42)
        (apply EL.storeB; exact rfl; exact rfl; exact rfl; exact rfl; exact rfl; exact rfl; (case p => repeat constructor); exact (by first | decide | exact Nat.le_of_ble_eq_true rfl | simp))
        refine .gr ?_; repeat constructor
        refine .gr ?_; repeat constructor
        refine PX.round ⟨oa, oc, out, some ⟨a42, 0, none⟩, c42, run ++ [b]⟩ ⟨hlt, by rw [htk, hts]⟩ ?_
        unfold THi
        dsimp only
        rw [BX_of (l := run ++ [b]) (n := run.length + 1) (by simp) List.map_append]
        exact (.i (by repeat constructor))
  · obtain ⟨oa, oc, out, ra, rc, run⟩ := z
    obtain ⟨_, hst⟩ := hz
    have hyl : (ym s).length = (membersM s).length := by unfold ym; rw [List.length_map]
    rw [hyl, List.take_length] at hst
    dsimp only at hst
    rw [← hst] at hs0
    dsimp only at hs0
    have hln := fold_len (membersM s) ([91], [])
    rw [← hst] at hln
    simp only [List.length_singleton, List.length_nil] at hln
    have hfl := flush_len out run
    refine .gr ?_; repeat constructor
    (apply EL.loadB; exact rfl; exact rfl; exact rfl; exact rfl; exact rfl; (case hm => repeat constructor); exact rfl)
    (refine EL.callK rfl rfl rfl rfl ent51 rfl (flush_c g4 g3 ra rc run oa oc out (by omega) (by omega)) (by repeat constructor) ?_; rintro ⟨oa2, oc2⟩)
    refine .gr ?_; repeat constructor
    (apply EL.loadB; exact rfl; exact rfl; exact rfl; exact rfl; exact rfl; (case hm => repeat constructor); exact rfl)
    (refine EL.buildSlice1 rfl rfl rfl rfl rfl rfl rfl rfl rfl rfl ?_; intro b46)
    (refine EL.append1 rfl rfl rfl rfl rfl rfl rfl rfl rfl (by repeat constructor) (by repeat constructor) (by first | (intro u hu; simp [Value.cells] at hu; subst hu; rfl) | exact all1 rfl) (by rfl) (by unfold maxLen; omega) (by first | omega | (show 1 * _ ≤ _; omega) | (show 8 * _ ≤ _; omega) | (show 16 * _ ≤ _; omega) | (show 24 * _ ≤ _; omega) | (show _ * 1 ≤ _; omega) | (show _ * 8 ≤ _; omega) | (show _ * 16 ≤ _; omega) | (show _ * 24 ≤ _; omega) | exact Nat.le_trans (Nat.mul_le_mul_right _ (show _ ≤ 1073741824 by omega)) (by decide)) ?_; intro a47 c47)
    refine EL.bytesS (bs := flushM out run ++ [93]) rfl rfl rfl rfl rfl rfl rfl rfl rfl (by rw [List.map_append]; repeat constructor) ?_
    refine EL.assign rfl rfl rfl ?_
    refine .gr ?_; repeat constructor
    exact PX.retM [D] rfl (by repeat constructor) Tryd.results37 (.cons (.tmp rfl) .nil) (fun w h => ⟨(), by rw [hs0]; rfl, h.ent (.nil _)⟩)
end Go.Proofs.YtcoajnpneableaaDoor
namespace Go.Proofs.YtcoajnpneableaaDoor
open Go Go.RowKit Sl
set_option maxRecDepth 100000
set_option maxHeartbeats 8000000
set_option linter.unusedVariables false
set_option linter.unusedSimpArgs false
attribute [local irreducible] ES EL PX wps
theorem textS_short (s : BS) : (textS s).length ≤ 4096 := by
  have hml : (membersM s).length ≤ 256 := memGo_le _ _
  have h1 := fold_len (membersM s) ([91], [])
  have h2 := flush_len ((membersM s).foldl textStep ([91], [])).1 ((membersM s).foldl textStep ([91], [])).2
  simp only [List.length_singleton, List.length_nil] at h1
  unfold textS
  split
  · simp
  · rw [List.length_append, List.length_singleton]
    omega
theorem byteC_len (b : UInt8) : (byteC b).length ≤ 2 := by
  unfold byteC
  split
  · simp
  · split <;> simp
theorem setT_len (s : BS) : (setT s).length ≤ 4096 := by
  unfold setT
  split
  · simp
  · split
    · exact Nat.le_trans (byteC_len _) (by omega)
    · exact textS_short s
theorem itoaM_len (n : Nat) : (itoaM n).length ≤ 3 := by
  unfold itoaM
  split
  · simp
  · split <;> simp
theorem timesT_len (lo : Nat) (hi : Int) : (timesT lo hi).length ≤ 16 := by
  have h1 := itoaM_len lo
  have h2 := itoaM_len hi.toNat
  unfold timesT
  split
  · simp
  · split
    · simp; omega
    · split
      · simp; omega
      · simp; omega
theorem reps_len {t : List UInt8} : ∀ (n : Nat) (p : RE) (r : DR), r.e = 0 → (dReps t n p r).2.e = 0 → r.at_ ≤ t.length → r.at_ ≤ (dReps t n p r).2.at_ ∧ (dReps t n p r).2.at_ ≤ t.length ∧ (canR (dReps t n p r).1).length + 4096 * r.at_ ≤ (canR p).length + 4096 * (dReps t n p r).2.at_
  | 0, p, r, h, he, hat => ⟨Nat.le_refl _, hat, Nat.le_refl _⟩
  | n + 1, p, r, h, he, hat => by
    have stop : dReps t (n + 1) p r = (p, r) → r.at_ ≤ (dReps t (n + 1) p r).2.at_ ∧ (dReps t (n + 1) p r).2.at_ ≤ t.length ∧ (canR (dReps t (n + 1) p r).1).length + 4096 * r.at_ ≤ (canR p).length + 4096 * (dReps t (n + 1) p r).2.at_ := fun e => by
      rw [e]
      exact ⟨Nat.le_refl _, hat, Nat.le_refl _⟩
    have go : ∀ (lo : Nat) (hi : Int) (a b : Nat), r.at_ < a → a ≤ t.length → dReps t (n + 1) p r = dReps t n (.rep lo hi p) ((r.to a).grown ((posR (.rep lo hi p) : Int) - posR p) b) →
      r.at_ ≤ (dReps t (n + 1) p r).2.at_ ∧ (dReps t (n + 1) p r).2.at_ ≤ t.length ∧ (canR (dReps t (n + 1) p r).1).length + 4096 * r.at_ ≤ (canR p).length + 4096 * (dReps t (n + 1) p r).2.at_ := by
      intro lo hi a b ha1 ha2 e
      have hg : ((r.to a).grown ((posR (.rep lo hi p) : Int) - posR p) b).e = 0 := by
        by_cases hx : ((r.to a).grown ((posR (.rep lo hi p) : Int) - posR p) b).e = 0
        · exact hx
        · rw [e, reps_bad _ _ _ hx] at he
          exact absurd he hx
      obtain ⟨g1, g2⟩ := grown_ok (r := r.to a) h hg
      obtain ⟨r2, hr2⟩ : ∃ r2, r2 = (r.to a).grown ((posR (.rep lo hi p) : Int) - posR p) b := ⟨_, rfl⟩
      have h2a : r2.at_ = a := by rw [hr2, g2]; rfl
      rw [← hr2] at e hg
      rw [e] at he ⊢
      obtain ⟨i1, i2, i3⟩ := reps_len n (.rep lo hi p) r2 hg he (by omega)
      have hc : (canR (.rep lo hi p)).length = (canR p).length + (timesT lo hi).length := by rw [canR, List.length_append]
      have ht := timesT_len lo hi
      exact ⟨by omega, i2, by omega⟩
    by_cases c1 : (decide (r.at_ < t.length) && decide ((t.getD r.at_ 0).toNat = 42)) = true
    · have hlt : r.at_ < t.length := by rw [Bool.and_eq_true, decide_eq_true_eq] at c1; exact c1.1
      exact go 0 (-1) (r.at_ + 1) r.at_ (by omega) (by omega) (by rw [dReps, if_neg (by simp [h]), if_pos c1])
    by_cases c2 : see2 t r.at_ 92 123 = true
    · cases hv : ivM t (r.at_ + 2) with
      | none =>
        exfalso
        rw [dReps, if_neg (by simp [h]), if_neg c1, if_pos c2, hv] at he
        have he : ((r.to (ivA t (r.at_ + 2))).fail 9 r.at_).e = 0 := he
        exact fail_no (r := r.to (ivA t (r.at_ + 2))) h (by decide) _ he
      | some y =>
        obtain ⟨lo, hi, a⟩ := y
        have hl := iv_le hv
        exact go lo hi a r.at_ (by omega) (by omega) (by rw [dReps, if_neg (by simp [h]), if_neg c1, if_pos c2, hv])
    · exact stop (by rw [dReps, if_neg (by simp [h]), if_neg c1, if_neg c2])
def RowLen (t : List UInt8) (n : Nat) : Prop := ∀ (in_ : Bool) (op : Nat) (ks : List RE) (r : DR), r.e = 0 → r.at_ ≤ t.length → t.length < n + r.at_ → (dRow t n in_ op ks r).2.e = 0 →
  r.at_ ≤ (dRow t n in_ op ks r).2.at_ ∧ (dRow t n in_ op ks r).2.at_ ≤ t.length ∧ (canR (dRow t n in_ op ks r).1).length + 4096 * r.at_ ≤ (canL ks).length + 4096 * (dRow t n in_ op ks r).2.at_
theorem part_len {t : List UInt8} {n : Nat} (ih : RowLen t n) {r : DR} (first : Bool) (h : r.e = 0) (hat : r.at_ < t.length) (hn : t.length < n + 1 + r.at_) (he : (dPart t n r first).2.e = 0) :
    r.at_ < (dPart t n r first).2.at_ ∧ (dPart t n r first).2.at_ ≤ t.length ∧ (canR (dPart t n r first).1).length + 4096 * r.at_ ≤ 4096 * (dPart t n r first).2.at_ := by
  by_cases c0 : see2 t r.at_ 92 40 = true
  · have h2 := ((see2_iff ..).1 c0).1
    by_cases c1 : r.groups = 9
    · have hd : dPart t n r first = (.cat [], r.fail 4 r.at_) := by unfold dPart; rw [if_pos c0, if_pos c1]
      rw [hd] at he
      exact absurd he (fail_no h (by decide) _)
    obtain ⟨r1, hr1⟩ : ∃ r1 : DR, r1 = { r with groups := r.groups + 1, at_ := r.at_ + 2 } := ⟨_, rfl⟩
    have hd : dPart t n r first = (.group (r.groups + 1) (dRow t n true r.at_ [] r1).1, { (dRow t n true r.at_ [] r1).2 with closed := (dRow t n true r.at_ [] r1).2.closed.set (r.groups + 1) true }) := by unfold dPart; rw [if_pos c0, if_neg c1, hr1]
    have h1e : r1.e = 0 := by rw [hr1]; exact h
    have h1a : r1.at_ = r.at_ + 2 := by rw [hr1]
    have he1 : (dRow t n true r.at_ [] r1).2.e = 0 := by rw [hd] at he; exact he
    obtain ⟨i1, i2, i3⟩ := ih true r.at_ [] r1 h1e (by omega) (by omega) he1
    rw [hd]
    dsimp only
    have hc : (canR (.group (r.groups + 1) (dRow t n true r.at_ [] r1).1)).length = (canR (dRow t n true r.at_ [] r1).1).length + 4 := by
      rw [canR]; simp
    have hz : (canL []).length = 0 := rfl
    exact ⟨by omega, i2, by omega⟩
  · have hd : dPart t n r first = dLeaf t r first := by unfold dPart; rw [if_neg c0]
    rw [hd] at he ⊢
    have hc := leaf_cases t r first h hat he
    generalize dLeaf t r first = y at hc he
    cases hc with
    | byte s a hs h1 h2 =>
      have hl : (canR (.byte s)).length ≤ 4096 := by rw [canR]; exact setT_len s
      refine ⟨h1, h2, ?_⟩
      show (canR (.byte s)).length + 4096 * r.at_ ≤ 4096 * a
      omega
    | back k a hk hc hs h1 h2 =>
      have hl : (canR (.back k)).length ≤ 4 := by rw [canR]; have := itoaM_len k; simp; omega
      refine ⟨h1, h2, ?_⟩
      show (canR (.back k)).length + 4096 * r.at_ ≤ 4096 * a
      omega
    | bol a hf h1 h2 =>
      refine ⟨h1, h2, ?_⟩
      show 1 + 4096 * r.at_ ≤ 4096 * a
      omega
    | eol a h1 h2 h3 =>
      refine ⟨h1, h2, ?_⟩
      show 1 + 4096 * r.at_ ≤ 4096 * a
      omega
theorem row_len (t : List UInt8) : ∀ n, RowLen t n
  | 0 => fun in_ op ks r h hat hn he => by omega
  | n + 1 => fun in_ op ks r h hat hn he => by
    have hck : (canR (.cat ks)).length = (canL ks).length := by rw [canR]
    rw [dRow_step, if_neg (by simp [h])] at he ⊢
    by_cases c0 : r.at_ = t.length
    · rw [if_pos c0] at he ⊢
      cases in_ with
      | true => exact absurd he (fail_no h (by decide) _)
      | false =>
        refine ⟨Nat.le_refl _, hat, ?_⟩
        show (canR (.cat ks)).length + _ ≤ _
        rw [hck]
        exact Nat.le_refl _
    rw [if_neg c0] at he ⊢
    by_cases c1 : see2 t r.at_ 92 41 = true
    · rw [if_pos c1] at he ⊢
      have h2 := ((see2_iff ..).1 c1).1
      cases in_ with
      | false => exact absurd he (show (r.fail 10 r.at_).e ≠ 0 from fail_no h (by decide) _)
      | true =>
        refine ⟨by show r.at_ ≤ r.at_ + 2; omega, h2, ?_⟩
        show (canR (.cat ks)).length + 4096 * r.at_ ≤ (canL ks).length + 4096 * (r.at_ + 2)
        rw [hck]
        omega
    rw [if_neg c1] at he ⊢
    have e1 : (dFull t (dPart t n r (decide (ks = [])))).2.e = 0 := by
      by_cases hx : (dFull t (dPart t n r (decide (ks = [])))).2.e = 0
      · exact hx
      · rw [row_bad _ _ _ _ _ hx] at he; exact absurd he hx
    have e0 : (dPart t n r (decide (ks = []))).2.e = 0 := by
      by_cases hx : (dPart t n r (decide (ks = []))).2.e = 0
      · exact hx
      · rw [full_bad hx] at e1; exact absurd e1 hx
    have ih := row_len t n
    obtain ⟨p1, p2, p3⟩ := part_len ih (decide (ks = [])) h (by omega) hn e0
    generalize dPart t n r (decide (ks = [])) = y at *
    have hfull : y.2.at_ ≤ (dFull t y).2.at_ ∧ (dFull t y).2.at_ ≤ t.length ∧ (canR (dFull t y).1).length + 4096 * y.2.at_ ≤ (canR y.1).length + 4096 * (dFull t y).2.at_ := by
      by_cases ha : isAnch y.1 = true
      · have hf : dFull t y = y := by unfold dFull; rw [if_pos ha]
        rw [hf]
        exact ⟨Nat.le_refl _, p2, Nat.le_refl _⟩
      · have hf : dFull t y = dReps t t.length y.1 y.2 := by unfold dFull; rw [if_neg ha]
        rw [hf] at e1 ⊢
        exact reps_len t.length y.1 y.2 e0 e1 p2
    obtain ⟨f1, f2, f3⟩ := hfull
    generalize hzz : dFull t y = z at *
    obtain ⟨k1, k2, k3⟩ := ih in_ op (ks ++ [z.1]) z.2 e1 f2 (by omega) he
    have hks : (canL (ks ++ [z.1])).length = (canL ks).length + (canR z.1).length := by rw [canL_app, canL, canL, List.append_nil, List.length_append]
    exact ⟨by omega, k2, by omega⟩
theorem can_short (t : List UInt8) : (canR (parseM t).tree).length ≤ 4096 * t.length := by
  rw [← doc_is]
  have hz : (canR (.cat [])).length = 0 := rfl
  have hd : docM t = if 512 < t.length then ⟨.cat [], 2, 0⟩ else if (dRow t (t.length + 1) false 0 [] dr0).2.e ≠ 0 then ⟨.cat [], (dRow t (t.length + 1) false 0 [] dr0).2.e, (dRow t (t.length + 1) false 0 [] dr0).2.place⟩ else ⟨(dRow t (t.length + 1) false 0 [] dr0).1, 0, 0⟩ := rfl
  by_cases c0 : 512 < t.length
  · rw [if_pos c0] at hd
    rw [hd]
    show (canR (.cat [])).length ≤ _
    omega
  rw [if_neg c0] at hd
  by_cases c1 : (dRow t (t.length + 1) false 0 [] dr0).2.e ≠ 0
  · rw [if_pos c1] at hd
    rw [hd]
    show (canR (.cat [])).length ≤ _
    omega
  rw [if_neg c1] at hd
  have c1 := Classical.not_not.1 c1
  obtain ⟨k1, k2, k3⟩ := row_len t (t.length + 1) false 0 [] dr0 rfl (Nat.zero_le _) (by show t.length < t.length + 1 + 0; omega) c1
  rw [hd]
  dsimp only
  have hc : (canL []).length = 0 := rfl
  omega
theorem parse_small (t : List UInt8) (he : (parseM t).e = 0) : t.length ≤ 512 := by
  rw [← doc_is] at he
  have hd : docM t = if 512 < t.length then ⟨.cat [], 2, 0⟩ else if (dRow t (t.length + 1) false 0 [] dr0).2.e ≠ 0 then ⟨.cat [], (dRow t (t.length + 1) false 0 [] dr0).2.e, (dRow t (t.length + 1) false 0 [] dr0).2.place⟩ else ⟨(dRow t (t.length + 1) false 0 [] dr0).1, 0, 0⟩ := rfl
  by_cases c0 : 512 < t.length
  · rw [if_pos c0] at hd
    rw [hd] at he
    exact absurd he (by show ¬ (2 : Int) = 0; decide)
  omega
theorem can_bound (t : List UInt8) (he : (parseM t).e = 0) : (canR (parseM t).tree).length ≤ 2097152 := by
  have := can_short t
  have := parse_small t he
  omega
end Go.Proofs.YtcoajnpneableaaDoor
namespace Go.Proofs.YtcoajnpneableaaDoor
open Go Go.RowKit Sl
set_option maxRecDepth 100000
set_option maxHeartbeats 8000000
set_option linter.unusedVariables false
set_option linter.unusedSimpArgs false
attribute [local irreducible] ES EL PX wps
abbrev QA := Option Addr × Nat
abbrev HB (g : Nat) (used : Bool) (ad : Option Addr) (cap : Nat) (bs : List UInt8) : List HA := [HA.blk g (.cells #[.pointer (if used then some ⟨g, 0, none⟩ else none), .slice ad bs.length cap] 61), HA.buf (.slice ad bs.length cap) 5 bs.length (bs.map Uv)]
theorem ext_noEscape (g : Nat) (w : World) : (callFunc 46 #[Pv g 0]).run Tryd.prog w = .ok (.value (Pv g 0)) w := by
  rw [run_callFunc_extern (e := Extern.AbiNoEscape.same) Tryd.func46 (by kernel_rfl) (by kernel_rfl) (by kernel_rfl) (by kernel_rfl)]
  rfl
theorem copyCheck_c (g : Nat) (u : Bool) (v : Value) : Mut Tryd.prog 33 #[Pv g 0] [HA.blk g (.cells #[.pointer (if u then some ⟨g, 0, none⟩ else none), v] 61)] (fun _ : Unit => .tuple #[]) (fun _ => [HA.blk g (.cells #[Pv g 0, v] 61)]) := by
  intro w0 B R w h
  replace h : Sat w0 B (HA.blk g (.cells #[.pointer (if u then some ⟨g, 0, none⟩ else none), v] 61) :: R) w := h
  refine calls_of_ES TB Tryd.func33 rfl _ Tryd.ntmps33 rfl h ?_
  cases u
  · refine .go ?_; repeat constructor
    refine EL.move rfl rfl rfl ?_
    refine EL.nilCheck rfl rfl rfl ?_
    refine EL.fieldAddr rfl rfl rfl rfl rfl rfl rfl rfl ?_
    (apply EL.loadB; exact rfl; exact rfl; exact rfl; exact rfl; exact rfl; (case hm => repeat constructor); exact rfl)
    refine EL.eqlPn (a := none) rfl rfl rfl rfl rfl rfl ?_
    refine .go ?_; repeat constructor
    refine ES.condT rfl ?_
    refine .go ?_; repeat constructor
    refine EL.move rfl rfl rfl ?_
    refine EL.move rfl rfl rfl ?_
    refine EL.ofRV (RV.toUnsafe rfl rfl rfl rfl rfl rfl (by decide) (by repeat constructor) (by simp)) rfl rfl rfl (by intro c h; cases h) ?_
    refine EL.callE rfl rfl rfl rfl (ext_noEscape g) ?_
    refine EL.ofRV (RV.fromUnsafe rfl rfl rfl rfl rfl rfl (by repeat constructor) (by kernel_rfl)) rfl rfl rfl (by intro c h; cases h) ?_
    refine EL.nilCheck rfl rfl rfl ?_
    refine EL.fieldAddr rfl rfl rfl rfl rfl rfl rfl rfl ?_
    (apply EL.storeB; exact rfl; exact rfl; exact rfl; exact rfl; exact rfl; exact rfl; (case p => repeat constructor); exact (by first | decide | exact Nat.le_of_ble_eq_true rfl | simp))
    refine .go ?_; repeat constructor
    exact PX.end rfl Tryd.results33 .nil (fun w hs => ⟨(), rfl, hs.ent (.i (by repeat constructor))⟩)
  · refine .go ?_; repeat constructor
    refine EL.move rfl rfl rfl ?_
    refine EL.nilCheck rfl rfl rfl ?_
    refine EL.fieldAddr rfl rfl rfl rfl rfl rfl rfl rfl ?_
    (apply EL.loadB; exact rfl; exact rfl; exact rfl; exact rfl; exact rfl; (case hm => repeat constructor); exact rfl)
    refine EL.eqlPn (a := some ⟨g, 0, none⟩) rfl rfl rfl rfl rfl rfl ?_
    refine .go ?_; repeat constructor
    refine ES.condF rfl ?_
    refine .go ?_; repeat constructor
    refine EL.move rfl rfl rfl ?_
    refine EL.nilCheck rfl rfl rfl ?_
    refine EL.fieldAddr rfl rfl rfl rfl rfl rfl rfl rfl ?_
    (apply EL.loadB; exact rfl; exact rfl; exact rfl; exact rfl; exact rfl; (case hm => repeat constructor); exact rfl)
    refine EL.move rfl rfl rfl ?_
    refine EL.ofRV (RV.neqPs rfl rfl rfl rfl rfl) rfl rfl rfl (by intro c h; cases h) ?_
    refine .go ?_; repeat constructor
    refine ES.condF rfl ?_
    refine .go ?_; repeat constructor
    exact PX.end rfl Tryd.results33 .nil (fun w hs => ⟨(), rfl, hs.ent (.i (by repeat constructor))⟩)
theorem writeString_c (g : Nat) (u : Bool) (ad : Option Addr) (cap : Nat) (bs l : List UInt8) (hb : bs.length + l.length ≤ 140737488355328) : Mut Tryd.prog 23 #[Pv g 0, Sv l] (HB g u ad cap bs) (fun _ : QA => .tuple #[Iv l.length, .nilIface]) (fun x => HB g true x.1 x.2 (bs ++ l)) := by
  intro w0 B R w h
  replace h : Sat w0 B (HA.blk g (.cells #[.pointer (if u then some ⟨g, 0, none⟩ else none), .slice ad bs.length cap] 61) :: HA.buf (.slice ad bs.length cap) 5 bs.length (bs.map Uv) :: R) w := h
  refine calls_of_ES TB Tryd.func23 rfl _ Tryd.ntmps23 rfl h ?_
  refine .go ?_; repeat constructor
  refine EL.assign rfl rfl rfl ?_
  refine EL.assign rfl rfl rfl ?_
  refine .go ?_; repeat constructor
  refine EL.move rfl rfl rfl ?_
  refine EL.callM1 rfl rfl rfl ent33 rfl (copyCheck_c g u (.slice ad bs.length cap)) (by repeat constructor) ?_
  refine .go ?_; repeat constructor
  have e1 : (bs ++ l).length = bs.length + l.length := by simp
  have e2 : (bs ++ l).map Uv = bs.map Uv ++ l.map Uv := by simp
  refine .go ?_; repeat constructor
  refine EL.move rfl rfl rfl ?_
  refine EL.move rfl rfl rfl ?_
  refine EL.nilCheck rfl rfl rfl ?_
  refine EL.fieldAddr rfl rfl rfl rfl rfl rfl rfl rfl ?_
  (apply EL.loadB; exact rfl; exact rfl; exact rfl; exact rfl; exact rfl; (case hm => repeat constructor); exact rfl)
  refine EL.move rfl rfl rfl ?_
  (refine EL.appendB rfl rfl rfl rfl rfl rfl rfl rfl rfl rfl rfl rfl (by repeat constructor) hb ?_; intro ad2 cap2)
  refine EL.nilCheck rfl rfl rfl ?_
  refine EL.fieldAddr rfl rfl rfl rfl rfl rfl rfl rfl ?_
  (apply EL.storeB; exact rfl; exact rfl; exact rfl; exact rfl; exact rfl; exact rfl; (case p => repeat constructor); exact (by first | decide | exact Nat.le_of_ble_eq_true rfl | simp))
  refine .go ?_; repeat constructor
  refine EL.move rfl rfl rfl ?_
  refine EL.lenS rfl rfl rfl rfl rfl ?_
  refine EL.assign rfl rfl rfl ?_
  refine EL.assign rfl rfl rfl ?_
  refine .go ?_; repeat constructor
  exact PX.ret rfl Tryd.results23 (.cons (.tmp rfl) (.cons (.tmp rfl) .nil)) (fun w hs => ⟨(ad2, cap2), rfl, by
    show Sat w0 B (HA.blk g (.cells #[Pv g 0, .slice ad2 (bs ++ l).length cap2] 61) :: HA.buf (.slice ad2 (bs ++ l).length cap2) 5 (bs ++ l).length ((bs ++ l).map Uv) :: R) w
    rw [e1, e2]
    exact hs.ent (.i (by repeat constructor))⟩)
theorem bstring_c (g : Nat) (u : Bool) (ad : Option Addr) (cap : Nat) (bs : List UInt8) (hb : bs.length ≤ 9223372036854775807) : Mut Tryd.prog 13 #[Pv g 0] (HB g u ad cap bs) (fun _ : Unit => Sv bs) (fun _ => HB g u ad cap bs) := by
  intro w0 B R w h
  replace h : Sat w0 B (HA.blk g (.cells #[.pointer (if u then some ⟨g, 0, none⟩ else none), .slice ad bs.length cap] 61) :: HA.buf (.slice ad bs.length cap) 5 bs.length (bs.map Uv) :: R) w := h
  refine calls_of_ES TB Tryd.func13 rfl _ Tryd.ntmps13 rfl h ?_
  refine .go ?_; repeat constructor
  refine EL.assign rfl rfl rfl ?_
  repeat (first | apply EL.nil | apply ES.seq | apply ES.skip)
  refine ES.draw (X := Unit) (fun _ => [(2, Sv bs)]) (fun _ => HA.blk g (.cells #[.pointer (if u then some ⟨g, 0, none⟩ else none), .slice ad bs.length cap] 61) :: HA.buf (.slice ad bs.length cap) 5 bs.length (bs.map Uv) :: R) [HA.blk g (.cells #[.pointer (if u then some ⟨g, 0, none⟩ else none), .slice ad bs.length cap] 61), HA.buf (.slice ad bs.length cap) 5 bs.length (bs.map Uv)] mixed (.i (by repeat constructor)) ?_ (fun _ => ?_)
  · refine ED.take 0 rfl (by decide +kernel) CutX.no_panic (by decide +kernel) rfl rfl rfl (RV.move rfl) ?_
    refine ED.take 1 rfl (by decide +kernel) CutX.no_panic (by decide +kernel) rfl rfl rfl (RV.nilCheck rfl) ?_
    refine ED.take 2 rfl (by decide +kernel) CutX.no_panic (by decide +kernel) rfl rfl rfl (RV.fieldAddr rfl rfl rfl rfl rfl rfl) ?_
    refine ED.take 3 rfl (by decide +kernel) CutX.no_panic (by decide +kernel) rfl rfl rfl (RV.loadB rfl rfl rfl (by repeat constructor) rfl) ?_
    refine ED.take 4 rfl (by decide +kernel) CutX.no_panic (by decide +kernel) rfl rfl rfl (RV.sliceData rfl (by repeat constructor)) ?_
    refine ED.take 5 rfl (by decide +kernel) CutX.no_panic (by decide +kernel) rfl rfl rfl (RV.move rfl) ?_
    refine ED.take 6 rfl (by decide +kernel) CutX.no_panic (by decide +kernel) rfl rfl rfl (RV.nilCheck rfl) ?_
    refine ED.take 7 rfl (by decide +kernel) CutX.no_panic (by decide +kernel) rfl rfl rfl (RV.fieldAddr rfl rfl rfl rfl rfl rfl) ?_
    refine ED.take 8 rfl (by decide +kernel) CutX.no_panic (by decide +kernel) rfl rfl rfl (RV.loadB rfl rfl rfl (by repeat constructor) rfl) ?_
    refine ED.take 9 rfl (by decide +kernel) CutX.no_panic (by decide +kernel) rfl rfl rfl (RV.lenL rfl rfl rfl) ?_
    refine ED.loud 10 rfl (by decide +kernel) ?_
    refine EL.unsafeStr rfl rfl rfl rfl rfl (by kernel_rfl) rfl (by repeat constructor) hb ?_
    refine ED.next (.i (by repeat constructor)) ?_
    refine ED.take 11 rfl (by decide +kernel) CutX.no_panic (by decide +kernel) rfl rfl rfl (RV.assign rfl) ?_
    refine ED.done (by decide +kernel) ?_
    exact PX.cutX () ⟨rfl, trivial⟩ (.i (by repeat constructor))
  refine .go ?_; repeat constructor
  exact PX.ret rfl Tryd.results13 (.cons (.tmp rfl) .nil) (fun w hs => ⟨(), rfl, hs⟩)
end Go.Proofs.YtcoajnpneableaaDoor
