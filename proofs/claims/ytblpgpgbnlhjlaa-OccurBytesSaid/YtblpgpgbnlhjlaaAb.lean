/- Layer 4 in plain Lean: the tree that is parsed keeps its bounds. -/
import Derived.Test.YtblpgpgbnlhjlaaAa
namespace Go.Proofs.Ytblpgpgbnlhjlaa
open Go Go.RowKit Sl
set_option maxRecDepth 100000
set_option maxHeartbeats 8000000
set_option linter.unusedVariables false
set_option linter.unusedSimpArgs false
attribute [local irreducible] ES EL PX wps

def kidsFine (p : PS) : Prop := ∀ f ∈ p.top :: p.rest, ∀ k ∈ f.kids, k.fine
theorem put_fine {p : PS} {r : RE} {n : Nat} {sz : Nat} (h : kidsFine p) (hr : r.fine) : kidsFine { p with top := p.top.put r n, size := sz } := by
  intro f hf k hk
  rcases List.mem_cons.1 hf with rfl | hf
  · simp only [put_kids, List.mem_append, List.mem_singleton] at hk
    rcases hk with hk | rfl
    · exact h p.top (by simp) k hk
    · exact hr
  · exact h f (by simp [hf]) k hk
theorem takeM_fine {p : PS} {N : Nat} (hN : N ≤ 1024) {k : Tok} (hp : POk p N) (hk : TokOk p k) (h6 : k.kind ≤ 6) (he : (takeM p k).2 = 0) (h : kidsFine p) : kidsFine (takeM p k).1 := by
  rcases (by omega : k.kind = 0 ∨ k.kind = 1 ∨ k.kind = 2 ∨ k.kind = 3 ∨ k.kind = 4 ∨ k.kind = 5 ∨ k.kind = 6) with h0 | h0 | h0 | h0 | h0 | h0 | h0
  · rw [takeM_0 h0]
    exact put_fine h (by simp [RE.fine])
  · rw [takeM_1 h0]
    exact put_fine h (by simp [RE.fine])
  · rw [takeM_2 h0]
    exact put_fine h (by simp [RE.fine])
  · rw [takeM_3 h0] at he ⊢
    split at he
    · cases he
    · rename_i hg
      rw [if_neg hg]
      intro f hf
      rcases List.mem_cons.1 hf with rfl | hf
      · simp
      · exact h f hf
  · rw [takeM_4 h0] at he ⊢
    obtain ⟨top, rest, groups, shut, size⟩ := p
    cases rest with
    | nil => cases he
    | cons f r =>
      dsimp only
      have hn := hp.ok.num top (by simp)
      have hkl := hp.kids top (by simp)
      intro f' hf k' hk'
      rcases List.mem_cons.1 hf with rfl | hf
      · simp only [put_kids, List.mem_append, List.mem_singleton] at hk'
        rcases hk' with hk' | rfl
        · exact h f (by simp) k' hk'
        · refine ⟨hn, by omega, (fineL_iff _).2 (fun k2 hk2 => h top (by simp) k2 hk2)⟩
      · exact h f' (by simp [hf]) k' hk'
  · rw [takeM_5 h0] at he ⊢
    obtain ⟨hne, q1, q2, q3, q4, q5⟩ := hk.rep h0
    dsimp only
    have hl := dropLast_last p.top.kids .bol hne
    intro f hf k' hk'
    rcases List.mem_cons.1 hf with rfl | hf
    · simp only [List.mem_append, List.mem_singleton] at hk'
      rcases hk' with hk' | rfl
      · exact h p.top (by simp) k' (by rw [hl]; exact List.mem_append_left _ hk')
      · have hlast : p.top.kids.getLastD .bol ∈ p.top.kids := by
          have hm : p.top.kids.getLastD .bol ∈ p.top.kids.dropLast ++ [p.top.kids.getLastD .bol] := List.mem_append_right _ List.mem_cons_self
          rwa [← hl] at hm
        refine ⟨by omega, q3, q4, fun hh => ?_, h p.top (by simp) _ hlast⟩
        have := q5 hh
        omega
    · exact h f (by simp [hf]) k' hk'
  · rw [takeM_6 h0] at he ⊢
    split at he
    · rename_i hs
      rw [if_pos hs]
      have := hk.back h0
      exact put_fine h ⟨by omega, by omega⟩
    · cases he
theorem parseGo_fine : ∀ (ks : List Tok) (p : PS) (N : Nat), N + ks.length ≤ 1024 → POk p N → TksOk ks p → kidsFine p → (parseGo ks p).tree.fine
  | [], p, N, hN, hp, _, h => by
    rw [parseGo]
    unfold endM
    split
    · exact ⟨by have := hp.kids p.top (by simp); omega, (fineL_iff _).2 (fun k hk => h p.top (by simp) k hk)⟩
    · exact ⟨by simp, trivial⟩
  | k :: ks, p, N, hN, hp, hk, h => by
    rw [parseGo]
    simp only [List.length_cons] at hN
    obtain ⟨h1, h2, h3, h4⟩ := hk
    split
    · exact ⟨by simp, trivial⟩
    · rename_i he
      have he := Classical.not_not.1 he
      have h6 : k.kind ≤ 6 := by
        rcases Nat.lt_or_ge k.kind 7 with hh | hh
        · omega
        · rw [takeM_7 hh] at he; exact absurd he (h3 (by omega))
      exact parseGo_fine ks _ (N + 1) (by omega) (takeM_ok hp h1 he h6) (h4 he) (takeM_fine (by omega) hp h1 h6 he h)
theorem parse_fine (t : List UInt8) : (parseM t).tree.fine := by
  unfold parseM
  split
  · exact ⟨by simp, trivial⟩
  · rename_i ht
    have := toks_len t t.length 0 true true
    exact parseGo_fine _ _ 0 (by unfold toksM; omega) ps0_pok (parse_toks_ok t) (by intro f hf k hk; simp [ps0] at hf; subst hf; simp at hk)
end Go.Proofs.Ytblpgpgbnlhjlaa
