/- Layer 4 (bre): what the tokens keep. -/
import Derived.Test.YtblpgpgbnlhjlaaPj
namespace Go.Proofs.Ytblpgpgbnlhjlaa
open Go Go.RowKit Sl
set_option maxRecDepth 100000
set_option maxHeartbeats 8000000
set_option linter.unusedVariables false
set_option linter.unusedSimpArgs false
attribute [local irreducible] ES EL PX wps

structure TokRead (k : Tok) (bg : Bool) : Prop where
  le : k.kind ≤ 7
  rep : k.kind = 5 → bg = false ∧ 0 ≤ k.lo ∧ k.lo ≤ 255 ∧ -1 ≤ k.hi ∧ k.hi ≤ 255 ∧ (0 ≤ k.hi → k.lo ≤ k.hi)
  back : k.kind = 6 → 1 ≤ k.lo ∧ k.lo ≤ 9
  bad : k.kind = 7 → k.e ≠ 0
theorem tokRead_plain {k : Tok} {bg : Bool} (h : k.kind ≤ 4) : TokRead k bg := ⟨by omega, fun e => by omega, fun e => by omega, fun e => by omega⟩
theorem tokRead_bad {a : Nat} {e : Int} {bg : Bool} (h : e ≠ 0) : TokRead (badT a e) bg := ⟨by simp [badT], fun e => by simp [badT] at e, fun e => by simp [badT] at e, fun _ => h⟩
theorem escT_read (t : List UInt8) (a : Nat) (bg : Bool) : TokRead (escT t a bg).1 bg := by
  unfold escT
  dsimp only
  split
  · exact tokRead_bad (by decide)
  split
  · exact tokRead_plain (by simp)
  split
  · exact tokRead_plain (by simp)
  split
  · split
    · exact tokRead_bad (by decide)
    · rename_i lo hi n hiv
      have := iv_le hiv
      split
      · exact tokRead_bad (by decide)
      · rename_i hb
        exact ⟨by simp, fun _ => ⟨by simpa using hb, by simp only; omega, by simp only; omega, by simp only; omega, by simp only; omega, by simp only; omega⟩, fun e => by simp at e, fun e => by simp at e⟩
  split
  · exact tokRead_bad (by decide)
  split
  · exact tokRead_plain (by simp [oneT, byteT])
  split
  · exact ⟨by simp, fun e => by simp at e, fun _ => by simp only; omega, fun e => by simp at e⟩
  split
  · exact tokRead_bad (by decide)
  · exact tokRead_plain (by simp [oneT, byteT])
theorem readT_read (t : List UInt8) (a : Nat) (f bg : Bool) : TokRead (readT t a f bg).1 bg := by
  unfold readT
  dsimp only
  split
  · exact escT_read t a bg
  split
  · split
    · rename_i h; exact tokRead_bad h
    · exact tokRead_plain (by simp [byteT])
  split
  · exact tokRead_plain (by simp [byteT])
  split
  · rename_i h
    exact ⟨by simp, fun _ => ⟨h.2, by simp, by simp, by simp, by simp, by simp⟩, fun e => by simp at e, fun e => by simp at e⟩
  split
  · exact tokRead_plain (by simp)
  split
  · exact tokRead_plain (by simp)
  · exact tokRead_plain (by simp [oneT, byteT])
/-- All tokens of a list may be taken. -/
def TksOk : List Tok → PS → Prop
  | [], _ => True
  | k :: ks, p => TokOk p k ∧ k.kind ≤ 7 ∧ (k.kind = 7 → k.e ≠ 0) ∧ ((takeM p k).2 = 0 → TksOk ks (takeM p k).1)
theorem takeM_kids {p : PS} {k : Tok} (h7 : k.kind ≤ 7) (h3 : k.kind ≠ 3) (hb : k.kind = 7 → k.e ≠ 0) (he : (takeM p k).2 = 0) : (takeM p k).1.top.kids ≠ [] := by
  rcases (by omega : k.kind = 0 ∨ k.kind = 1 ∨ k.kind = 2 ∨ k.kind = 4 ∨ k.kind = 5 ∨ k.kind = 6 ∨ k.kind = 7) with h0 | h0 | h0 | h0 | h0 | h0 | h0
  · rw [takeM_0 h0]; simp [Frame.put]
  · rw [takeM_1 h0]; simp [Frame.put]
  · rw [takeM_2 h0]; simp [Frame.put]
  · rw [takeM_4 h0] at he ⊢
    split at he
    · cases he
    · rename_i h; simp [Frame.put]
  · rw [takeM_5 h0]; simp
  · rw [takeM_6 h0] at he ⊢
    split at he
    · rename_i h; rw [if_pos h]; simp [Frame.put]
    · cases he
  · rw [takeM_7 (by omega)] at he; exact absurd he (hb h0)
theorem toks_ok (t : List UInt8) : ∀ (n a : Nat) (f b : Bool) (p : PS), (b = false → p.top.kids ≠ []) → TksOk (toksGo t n a f b) p
  | 0, _, _, _, _, _ => trivial
  | n + 1, a, f, b, p, hb => by
    have hr := readT_read t a f b
    rw [toksGo]
    split
    · trivial
    · dsimp only
      have hk : TokOk p (readT t a f b).1 := ⟨fun e => ⟨hb (hr.rep e).1, (hr.rep e).2⟩, hr.back⟩
      split
      · rename_i h7
        exact ⟨hk, hr.le, hr.bad, fun he => trivial⟩
      · rename_i h7
        refine ⟨hk, hr.le, hr.bad, fun he => toks_ok t n _ _ _ _ (fun hbb => ?_)⟩
        simp only [Bool.or_eq_false_iff, decide_eq_false_iff_not] at hbb
        exact takeM_kids hr.le hbb.1 hr.bad he
theorem parse_toks_ok (t : List UInt8) : TksOk (toksM t) ps0 := toks_ok t t.length 0 true true ps0 (fun h => by cases h)
end Go.Proofs.Ytblpgpgbnlhjlaa
