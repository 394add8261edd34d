/- Layers 3 and 4 in plain Lean: reading behind a front that is laid ahead of a text is reading the text, with its places moved. -/
import Derived.Test.YtblpgpgbnlhjlaaPl
namespace Go.Proofs.Ytblpgpgbnlhjlaa
open Go Go.RowKit Sl
set_option maxRecDepth 100000
set_option maxHeartbeats 8000000
set_option linter.unusedVariables false
set_option linter.unusedSimpArgs false
attribute [local irreducible] ES EL PX wps

section shift
variable (p u : List UInt8)
theorem sh_get (a : Nat) : (p ++ u).getD (p.length + a) 0 = u.getD a 0 := by
  simp [List.getD_eq_getElem?_getD, List.getElem?_append_right]
theorem sh_drop (a : Nat) : (p ++ u).drop (p.length + a) = u.drop a := by
  rw [List.drop_append, List.drop_of_length_le (by omega), List.nil_append]
  congr 1; omega
theorem sh_len : (p ++ u).length = p.length + u.length := List.length_append
theorem sh_nmK (a : Nat) : nmK (p ++ u) (p.length + a) = nmK u a := by
  unfold nmK
  rw [Nat.add_assoc, Nat.add_assoc p.length, sh_len, sh_drop, show p.length + a + 1 = p.length + (a + 1) by omega, sh_get]
  by_cases h : a + 2 < u.length
  · rw [if_pos h, if_pos (by omega)]
  · rw [if_neg h, if_neg (by omega)]
theorem sh_nmN (a : Nat) : nmN (p ++ u) (p.length + a) = nmN u a := by
  unfold nmN
  rw [sh_nmK, Nat.add_assoc, sh_drop]
theorem sh_nmA (a : Nat) : nmA (p ++ u) (p.length + a) = p.length + nmA u a := by
  unfold nmA
  rw [sh_nmK]
  split <;> omega
theorem sh_nmE (a : Nat) : nmE (p ++ u) (p.length + a) = nmE u a := by
  unfold nmE
  rw [sh_nmK]
theorem sh_itC (a : Nat) : itC (p ++ u) (p.length + a) = itC u a := by
  unfold itC
  rw [sh_get, Nat.add_assoc, sh_get, sh_len]
  congr 2
  exact decide_eq_decide.2 (by omega)
theorem sh_item (a : Nat) : itemM (p ++ u) (p.length + a) = { itemM u a with at_ := p.length + (itemM u a).at_ } := by
  unfold itemM
  rw [sh_itC, sh_nmE, sh_nmA, sh_nmN, sh_get, Nat.add_assoc, sh_get]
  split
  · rfl
  · split
    · rfl
    · split
      · rfl
      · split <;> rfl
theorem sh_dash (a : Nat) : dashM (p ++ u) (p.length + a) = dashM u a := by
  unfold dashM
  rw [sh_get, Nat.add_assoc, sh_get, sh_len]
  congr 2
  · exact decide_eq_decide.2 (by omega)
  · exact decide_eq_decide.2 (by omega)
theorem sh_span (a : Nat) : spanT (p ++ u) (p.length + a) = { spanT u a with at_ := p.length + (spanT u a).at_ } := by
  unfold spanT
  rw [sh_item]
  dsimp only
  rw [sh_dash, Nat.add_assoc, sh_item, sh_len]
  dsimp only
  rw [sh_dash]
  have e : (p.length + u.length ≤ p.length + ((itemM u a).at_ + 1)) ↔ (u.length ≤ (itemM u a).at_ + 1) := by omega
  simp only [e]
  split
  · rfl
  · split
    · rfl
    · split
      · rfl
      · split
        · rfl
        · split
          · rfl
          · split <;> rfl
theorem sh_brEnd (a : Nat) (f : Bool) : brEnd (p ++ u) (p.length + a) f = brEnd u a f := by
  unfold brEnd
  rw [sh_get]
theorem sh_brGo : ∀ (n a : Nat) (f : Bool) (s : BS), (brGo (p ++ u) n (p.length + a) f s).set = (brGo u n a f s).set ∧ (brGo (p ++ u) n (p.length + a) f s).e = (brGo u n a f s).e ∧ ((brGo u n a f s).e = 0 → (brGo (p ++ u) n (p.length + a) f s).at_ = p.length + (brGo u n a f s).at_)
  | 0, a, f, s => ⟨rfl, rfl, fun h => by cases h⟩
  | n + 1, a, f, s => by
    rw [brGo, brGo, sh_len, sh_brEnd, sh_span]
    have e : (p.length + u.length ≤ p.length + a) ↔ (u.length ≤ a) := by omega
    simp only [e]
    split
    · exact ⟨rfl, rfl, fun h => by cases h⟩
    · split
      · exact ⟨rfl, rfl, fun _ => rfl⟩
      · split
        · rename_i h; exact ⟨rfl, rfl, fun h' => absurd h' h⟩
        · exact sh_brGo n _ _ _
theorem sh_brFrom (a : Nat) : (brFrom (p ++ u) (p.length + a)).set = (brFrom u a).set ∧ (brFrom (p ++ u) (p.length + a)).e = (brFrom u a).e ∧ ((brFrom u a).e = 0 → (brFrom (p ++ u) (p.length + a)).at_ = p.length + (brFrom u a).at_) := by
  unfold brFrom
  rw [sh_len, show p.length + u.length + 1 - (p.length + a) = u.length + 1 - a by omega]
  exact sh_brGo p u _ a true zeroS
theorem sh_brack (a : Nat) : (brackM (p ++ u) (p.length + a)).set = (brackM u a).set ∧ (brackM (p ++ u) (p.length + a)).e = (brackM u a).e ∧ ((brackM u a).e = 0 → (brackM (p ++ u) (p.length + a)).at_ = p.length + (brackM u a).at_) := by
  have e1 : brBad (p ++ u) (p.length + a) = brBad u a := by
    unfold brBad
    rw [sh_get, sh_len]
    congr 1
    exact decide_eq_decide.2 (by omega)
  have e2 : brNot (p ++ u) (p.length + a) = brNot u a := by
    unfold brNot
    rw [Nat.add_assoc, sh_get, sh_len]
    congr 1
    exact decide_eq_decide.2 (by omega)
  obtain ⟨a1, a2, a3⟩ := sh_brFrom p u (a + 1)
  obtain ⟨b1, b2, b3⟩ := sh_brFrom p u (a + 2)
  unfold brackM
  rw [e1, e2, Nat.add_assoc, Nat.add_assoc]
  split
  · exact ⟨rfl, rfl, fun h => by cases h⟩
  · split
    · refine ⟨?_, b2, b3⟩
      dsimp only
      rw [b1, b2]
    · exact ⟨a1, a2, a3⟩
theorem sh_numGo : ∀ (k n a : Nat), numGo (p ++ u) k n (p.length + a) = ((numGo u k n a).1, p.length + (numGo u k n a).2)
  | 0, n, a => rfl
  | k + 1, n, a => by
    rw [numGo, numGo, sh_get, sh_len]
    have e : (p.length + a < p.length + u.length) ↔ (a < u.length) := by omega
    simp only [e]
    split
    · rw [Nat.add_assoc]; exact sh_numGo k _ _
    · rfl
theorem sh_num (a : Nat) : numM (p ++ u) (p.length + a) = ((numM u a).1, p.length + (numM u a).2) := by
  unfold numM
  rw [sh_len, show p.length + u.length - (p.length + a) = u.length - a by omega, sh_numGo]
  dsimp only
  have e : (p.length + (numGo u (u.length - a) 0 a).2 = p.length + a) ↔ ((numGo u (u.length - a) 0 a).2 = a) := by omega
  simp only [e]
theorem sh_iv (a : Nat) : ivM (p ++ u) (p.length + a) = (ivM u a).map (fun x => (x.1, x.2.1, p.length + x.2.2)) := by
  unfold ivM
  rw [sh_num]
  dsimp only
  rw [sh_get, sh_len, Nat.add_assoc, sh_num]
  have e : (p.length + (numM u a).2 < p.length + u.length) ↔ ((numM u a).2 < u.length) := by omega
  simp only [e]
  have key : ∀ h : Int × Nat, (if (numM u a).1 < 0 ∨ 255 < (numM u a).1 ∨ 255 < h.1 ∨ (0 ≤ h.1 ∧ h.1 < (numM u a).1) then none
      else if p.length + u.length < p.length + h.2 + 2 ∨ ((p ++ u).drop (p.length + h.2)).take 2 ≠ [92, 125] then none else some ((numM u a).1.toNat, h.1, p.length + h.2 + 2)) =
      (if (numM u a).1 < 0 ∨ 255 < (numM u a).1 ∨ 255 < h.1 ∨ (0 ≤ h.1 ∧ h.1 < (numM u a).1) then none
      else if u.length < h.2 + 2 ∨ (u.drop h.2).take 2 ≠ [92, 125] then none else some ((numM u a).1.toNat, h.1, h.2 + 2)).map (fun x => (x.1, x.2.1, p.length + x.2.2)) := by
    intro h
    rw [sh_drop]
    have e2 : (p.length + u.length < p.length + h.2 + 2) ↔ (u.length < h.2 + 2) := by omega
    simp only [e2]
    split
    · rfl
    · split
      · rfl
      · simp only [Option.map_some]; rw [Nat.add_assoc]
  have key2 := key (if (numM u a).2 < u.length ∧ u.getD (numM u a).2 0 = 44 then numM u ((numM u a).2 + 1) else numM u a)
  split
  · rename_i hc; rw [if_pos hc] at key2; exact key2
  · rename_i hc; rw [if_neg hc] at key2; exact key2
def Tok.mv (m : Nat) (k : Tok) : Tok := { k with at_ := m + k.at_ }
abbrev mvP (m : Nat) (x : Tok × Nat) : Tok × Nat := (x.1.mv m, m + x.2)
theorem sh_esc (a : Nat) (bg : Bool) : escT (p ++ u) (p.length + a) bg = mvP p.length (escT u a bg) := by
  unfold escT
  rw [Nat.add_assoc, Nat.add_assoc, sh_get, sh_iv, sh_len]
  have e : (p.length + (a + 1) = p.length + u.length) ↔ (a + 1 = u.length) := by omega
  simp only [e]
  split
  · rfl
  split
  · rfl
  split
  · rfl
  split
  · cases ivM u (a + 2) with
    | none => rfl
    | some x =>
      obtain ⟨lo, hi, n⟩ := x
      simp only [Option.map_some]
      split <;> rfl
  split
  · rfl
  split
  · rfl
  split
  · rfl
  split <;> rfl
theorem sh_eol (a : Nat) : eolM (p ++ u) (p.length + a) = eolM u a := by
  unfold eolM
  rw [Nat.add_assoc, Nat.add_assoc, sh_drop, sh_len]
  congr 1
  · exact decide_eq_decide.2 (by omega)
  · congr 1
    exact decide_eq_decide.2 (by omega)
theorem sh_read (a : Nat) (f bg : Bool) : readT (p ++ u) (p.length + a) f bg = mvP p.length (readT u a f bg) := by
  obtain ⟨h1, h2, h3⟩ := sh_brack p u a
  unfold readT
  rw [sh_get, sh_esc, sh_eol, h2, h1]
  dsimp only
  split
  · rfl
  split
  · split
    · rfl
    · rename_i h
      rw [h3 (by simpa using h)]
      rfl
  split
  · rfl
  split
  · rfl
  split
  · rfl
  split <;> rfl
theorem sh_toks : ∀ (n a : Nat) (f bg : Bool), toksGo (p ++ u) n (p.length + a) f bg = (toksGo u n a f bg).map (Tok.mv p.length)
  | 0, _, _, _ => rfl
  | n + 1, a, f, bg => by
    rw [toksGo, toksGo, sh_len, sh_read]
    have e : (p.length + u.length ≤ p.length + a) ↔ (u.length ≤ a) := by omega
    simp only [e]
    split
    · rfl
    · show (if (readT u a f bg).1.kind = 7 then _ else _) = _
      split
      · rfl
      · rw [List.map_cons, ← sh_toks n]
        rfl
end shift
theorem toks_more (t : List UInt8) : ∀ (n m a : Nat) (f b : Bool), t.length ≤ n + a → t.length ≤ m + a → toksGo t n a f b = toksGo t m a f b
  | 0, m, a, f, b, h1, h2 => by
    cases m with
    | zero => rfl
    | succ m => rw [toksGo, toksGo, if_pos (by omega)]
  | n + 1, 0, a, f, b, h1, h2 => by rw [toksGo, toksGo, if_pos (by omega)]
  | n + 1, m + 1, a, f, b, h1, h2 => by
    rw [toksGo, toksGo]
    split
    · rfl
    · dsimp only
      split
      · rfl
      · rename_i hl h7
        have := readT_at t a f b (by omega) h7
        rw [toks_more t n m _ _ _ (by omega) (by omega)]
/-! the parser behind a first part -/
mutual
/-- A tree without its groups' numbers. -/
def RE.nm : RE → RE
  | .cat ks => .cat (nmL ks)
  | .group _ k => .group 0 k.nm
  | .rep lo hi k => .rep lo hi k.nm
  | .back _ => .back 0
  | r => r
def nmL : List RE → List RE
  | [] => []
  | k :: ks => k.nm :: nmL ks
end
theorem nmL_map : ∀ ks : List RE, nmL ks = ks.map RE.nm
  | [] => rfl
  | k :: ks => by rw [nmL, nmL_map ks]; rfl
/-- Frames alike, but for the groups' numbers. -/
structure FrS (f g : Frame) : Prop where
  kids : f.kids.map RE.nm = g.kids.map RE.nm
  sizes : f.sizes = g.sizes
/-- The outermost frames: the first one has one part more ahead. -/
structure BtS (G : RE) (z : Nat) (f g : Frame) : Prop where
  ex : ∃ f' : Frame, f.kids = G :: f'.kids ∧ f.sizes = z :: f'.sizes ∧ FrS f' g
  len : g.kids.length = g.sizes.length
def AllS (G : RE) (z : Nat) : List Frame → List Frame → Prop
  | [f], [g] => BtS G z f g
  | f :: f' :: fs, g :: g' :: gs => FrS f g ∧ AllS G z (f' :: fs) (g' :: gs)
  | _, _ => False
variable {G : RE} {z : Nat}
theorem FrS.put {f g : Frame} (h : FrS f g) {r r' : RE} (hr : r.nm = r'.nm) (n : Nat) : FrS (f.put r n) (g.put r' n) := ⟨by simp [Frame.put, h.kids, hr], by simp [Frame.put, h.sizes]⟩
theorem BtS.put {f g : Frame} (h : BtS G z f g) {r r' : RE} (hr : r.nm = r'.nm) (n : Nat) : BtS G z (f.put r n) (g.put r' n) := by
  obtain ⟨⟨f', h1, h2, h3⟩, h4⟩ := h
  exact ⟨⟨f'.put r n, by simp [Frame.put, h1], by simp [Frame.put, h2], h3.put hr n⟩, by simp [Frame.put, h4]⟩
theorem AllS.put : ∀ {f g : Frame} {fs gs : List Frame}, AllS G z (f :: fs) (g :: gs) → ∀ {r r' : RE}, r.nm = r'.nm → ∀ n, AllS G z (f.put r n :: fs) (g.put r' n :: gs)
  | f, g, [], [], h, r, r', hr, n => BtS.put h hr n
  | f, g, [], g' :: gs, h, _, _, _, _ => h.elim
  | f, g, f' :: fs, [], h, _, _, _, _ => h.elim
  | f, g, f' :: fs, g' :: gs, h, r, r', hr, n => ⟨h.1.put hr n, h.2⟩
theorem getLastD_map {α β : Type _} (h : α → β) (l : List α) (d : α) : (l.map h).getLastD (h d) = h (l.getLastD d) := by
  simp only [List.getLastD_eq_getLast?, List.getLast?_map]
  cases l.getLast? <;> rfl
def Frame.rp (f : Frame) (lo : Nat) (hi : Int) : Frame := { f with kids := f.kids.dropLast ++ [.rep lo hi (f.kids.getLastD .bol)], sizes := f.sizes.dropLast ++ [f.sizes.getLastD 0 * timesM lo hi] }
theorem FrS.rp {f g : Frame} (h : FrS f g) (lo : Nat) (hi : Int) : FrS (f.rp lo hi) (g.rp lo hi) := by
  refine ⟨?_, by simp [Frame.rp, h.sizes]⟩
  have e := getLastD_map RE.nm f.kids .bol
  have e' := getLastD_map RE.nm g.kids .bol
  simp only [Frame.rp, List.map_append, List.map_dropLast, List.map_cons, List.map_nil, RE.nm, h.kids, ← e, ← e']
theorem map_ne {α β : Type _} {h : α → β} {l l' : List α} (e : l.map h = l'.map h) (hl : l' ≠ []) : l ≠ [] := fun h0 => by
  subst h0
  exact hl (List.map_eq_nil_iff.1 e.symm)
theorem BtS.rp {f g : Frame} (h : BtS G z f g) (hne : g.kids ≠ []) (lo : Nat) (hi : Int) : BtS G z (f.rp lo hi) (g.rp lo hi) := by
  obtain ⟨⟨f', h1, h2, h3⟩, h4⟩ := h
  have hk : f'.kids ≠ [] := map_ne h3.kids hne
  have hs : f'.sizes ≠ [] := by
    rw [h3.sizes]
    intro e
    rw [e] at h4
    exact hne (List.eq_nil_of_length_eq_zero h4)
  refine ⟨⟨f'.rp lo hi, ?_, ?_, h3.rp lo hi⟩, by simp [Frame.rp, h4]⟩
  · simp only [Frame.rp, h1]
    obtain ⟨x, xs, e⟩ := List.exists_cons_of_ne_nil hk
    rw [e]; rfl
  · simp only [Frame.rp, h2]
    obtain ⟨x, xs, e⟩ := List.exists_cons_of_ne_nil hs
    rw [e]; rfl
theorem AllS.rp : ∀ {f g : Frame} {fs gs : List Frame}, AllS G z (f :: fs) (g :: gs) → (gs = [] → g.kids ≠ []) → ∀ (lo : Nat) (hi : Int), AllS G z (f.rp lo hi :: fs) (g.rp lo hi :: gs)
  | f, g, [], [], h, hne, lo, hi => BtS.rp h (hne rfl) lo hi
  | f, g, [], g' :: gs, h, _, _, _ => h.elim
  | f, g, f' :: fs, [], h, _, _, _ => h.elim
  | f, g, f' :: fs, g' :: gs, h, _, lo, hi => ⟨h.1.rp lo hi, h.2⟩
structure TwoS (G : RE) (z : Nat) (p q : PS) : Prop where
  all : AllS G z (p.top :: p.rest) (q.top :: q.rest)
  ne : q.rest = [] → q.top.kids ≠ []
theorem takeM_two {p q : PS} {k : Tok} {m : Nat} (h : TwoS G z p q) (h7 : k.kind ≤ 6) (h1 : (takeM p (k.mv m)).2 = 0) (h2 : (takeM q k).2 = 0) : TwoS G z (takeM p (k.mv m)).1 (takeM q k).1 := by
  rcases (by omega : k.kind = 0 ∨ k.kind = 1 ∨ k.kind = 2 ∨ k.kind = 3 ∨ k.kind = 4 ∨ k.kind = 5 ∨ k.kind = 6) with h0 | h0 | h0 | h0 | h0 | h0 | h0
  · rw [takeM_0 (k := k.mv m) h0, takeM_0 h0]
    exact ⟨h.all.put rfl 1, fun _ => by simp [Frame.put]⟩
  · rw [takeM_1 (k := k.mv m) h0, takeM_1 h0]
    exact ⟨h.all.put rfl 0, fun _ => by simp [Frame.put]⟩
  · rw [takeM_2 (k := k.mv m) h0, takeM_2 h0]
    exact ⟨h.all.put rfl 0, fun _ => by simp [Frame.put]⟩
  · rw [takeM_3 (k := k.mv m) h0] at h1 ⊢
    rw [takeM_3 h0] at h2 ⊢
    split at h1
    · cases h1
    · rename_i g1
      split at h2
      · cases h2
      · rename_i g2
        rw [if_neg g1, if_neg g2]
        exact ⟨⟨⟨rfl, rfl⟩, h.all⟩, fun e => by cases e⟩
  · rw [takeM_4 (k := k.mv m) h0] at h1 ⊢
    rw [takeM_4 h0] at h2 ⊢
    obtain ⟨top, rest, gr, shut, size⟩ := p
    obtain ⟨top2, rest2, gr2, shut2, size2⟩ := q
    cases rest with
    | nil => cases h1
    | cons f r =>
      cases rest2 with
      | nil => cases h2
      | cons f2 r2 =>
        dsimp only
        have ha : FrS top top2 ∧ AllS G z (f :: r) (f2 :: r2) := h.all
        refine ⟨?_, fun _ => by simp [Frame.put]⟩
        show AllS G z (f.put (.group top.group (.cat top.kids)) top.sizes.sum :: r) (f2.put (.group top2.group (.cat top2.kids)) top2.sizes.sum :: r2)
        rw [ha.1.sizes]
        exact ha.2.put (by simp only [RE.nm, nmL_map, ha.1.kids]) _
  · rw [takeM_5 (k := k.mv m) h0, takeM_5 h0]
    exact ⟨h.all.rp h.ne k.lo.toNat k.hi, fun _ => by simp⟩
  · rw [takeM_6 (k := k.mv m) h0] at h1 ⊢
    rw [takeM_6 h0] at h2 ⊢
    split at h1
    · rename_i g1
      split at h2
      · rename_i g2
        rw [if_pos g1, if_pos g2]
        exact ⟨h.all.put rfl 1, fun _ => by simp [Frame.put]⟩
      · cases h2
    · cases h1
theorem parse_two {m : Nat} : ∀ (ks : List Tok) (p q : PS), TwoS G z p q → TksOk ks q → (parseGo (ks.map (Tok.mv m)) p).e = 0 → (parseGo ks q).e = 0 → ∃ k1 k2, (parseGo (ks.map (Tok.mv m)) p).tree = .cat (G :: k1) ∧ (parseGo ks q).tree = .cat k2 ∧ k1.map RE.nm = k2.map RE.nm
  | [], p, q, h, _, h1, h2 => by
    simp only [List.map_nil, parseGo] at h1 h2 ⊢
    obtain ⟨top, rest, gr, shut, size⟩ := p
    obtain ⟨top2, rest2, gr2, shut2, size2⟩ := q
    cases rest with
    | cons f r => cases h1
    | nil =>
      cases rest2 with
      | cons f r => cases h2
      | nil =>
        obtain ⟨⟨f', e1, _, e3⟩, _⟩ := (h.all : BtS G z top top2)
        refine ⟨f'.kids, top2.kids, ?_, rfl, e3.kids⟩
        show RE.cat top.kids = _
        rw [e1]
  | k :: ks, p, q, h, hk, h1, h2 => by
    rw [List.map_cons, parseGo] at h1 ⊢
    rw [parseGo] at h2 ⊢
    by_cases g1 : (takeM p (k.mv m)).2 = 0
    · by_cases g2 : (takeM q k).2 = 0
      · rw [if_neg (fun h => h g1)] at h1 ⊢
        rw [if_neg (fun h => h g2)] at h2 ⊢
        have h6 : k.kind ≤ 6 := by
          rcases Nat.lt_or_ge k.kind 7 with h | h
          · omega
          · rw [takeM_7 h] at g2; exact absurd g2 (hk.2.2.1 (by have := hk.2.1; omega))
        exact parse_two ks _ _ (takeM_two h h6 g1 g2) (hk.2.2.2 g2) h1 h2
      · rw [if_pos g2] at h2; exact absurd h2 g2
    · rw [if_pos g1] at h1; exact absurd h1 g1
/-! \(.\) ahead of a text that begins with an open group -/
abbrev gDot : RE := .group 1 (.cat [.byte (notS zeroS)])
abbrev dotT : List UInt8 := [92, 40, 46, 92, 41]
theorem toks_step {t : List UInt8} {n a a' : Nat} {f b : Bool} {k : Tok} (h : a < t.length) (hr : readT t a f b = (k, a')) (h7 : k.kind ≠ 7) : toksGo t (n + 1) a f b = k :: toksGo t n a' (decide (k.kind = 3)) (decide (k.kind = 3) || decide (k.kind = 1)) := by
  rw [toksGo, if_neg (by omega), hr]
  dsimp only
  rw [if_neg h7]
theorem open_any (v : List UInt8) (n : Nat) (f b : Bool) (hv : v ≠ []) : toksGo (92 :: 40 :: v) (n + 1) 0 f b = ⟨3, 0, zeroS, 0, 0, 0⟩ :: toksGo (92 :: 40 :: v) n 2 true true := by
  have hr : readT (92 :: 40 :: v) 0 f b = (⟨3, 0, zeroS, 0, 0, 0⟩, 2) := by
    unfold readT escT
    obtain ⟨x, xs, e⟩ := List.exists_cons_of_ne_nil hv
    subst e
    simp [List.getD_eq_getElem?_getD]
  exact toks_step (by simp) hr (by decide)
theorem dot_toks (v : List UInt8) (n : Nat) (hv : v ≠ []) : toksGo (dotT ++ v) (n + 3) 0 true true = ⟨3, 0, zeroS, 0, 0, 0⟩ :: byteT 2 (notS zeroS) :: ⟨4, 3, zeroS, 0, 0, 0⟩ :: toksGo (dotT ++ v) n 5 false false := by
  obtain ⟨x, xs, rfl⟩ := List.exists_cons_of_ne_nil hv
  have e1 : readT (dotT ++ (x :: xs)) 0 true true = (⟨3, 0, zeroS, 0, 0, 0⟩, 2) := by
    unfold readT escT; simp [List.getD_eq_getElem?_getD]
  have e2 : readT (dotT ++ (x :: xs)) 2 true true = (byteT 2 (notS zeroS), 3) := by
    unfold readT; simp [List.getD_eq_getElem?_getD]
  have e3 : readT (dotT ++ (x :: xs)) 3 false false = (⟨4, 3, zeroS, 0, 0, 0⟩, 5) := by
    unfold readT escT; simp [List.getD_eq_getElem?_getD]
  have q3 : toksGo (dotT ++ (x :: xs)) (n + 1) 3 false false = ⟨4, 3, zeroS, 0, 0, 0⟩ :: toksGo (dotT ++ (x :: xs)) n 5 false false := toks_step (by simp) e3 (by decide)
  have q2 : toksGo (dotT ++ (x :: xs)) (n + 2) 2 true true = byteT 2 (notS zeroS) :: toksGo (dotT ++ (x :: xs)) (n + 1) 3 false false := toks_step (by simp) e2 (by decide)
  have q1 : toksGo (dotT ++ (x :: xs)) (n + 3) 0 true true = ⟨3, 0, zeroS, 0, 0, 0⟩ :: toksGo (dotT ++ (x :: xs)) (n + 2) 2 true true := toks_step (by simp) e1 (by decide)
  rw [q1, q2, q3]
theorem parse_dot (v : List UInt8) (hv : v ≠ []) (h1 : (parseM (dotT ++ (92 :: 40 :: v))).e = 0) (h2 : (parseM (92 :: 40 :: v)).e = 0) :
    ∃ k1 k2, (parseM (dotT ++ (92 :: 40 :: v))).tree = .cat (gDot :: k1) ∧ (parseM (92 :: 40 :: v)).tree = .cat k2 ∧ k1.map RE.nm = k2.map RE.nm := by
  unfold parseM at h1 h2 ⊢
  split at h1
  · cases h1
  · rename_i g1
    split at h2
    · cases h2
    · rename_i g2
      rw [if_neg g1, if_neg g2]
      unfold toksM at h1 h2 ⊢
      have el : (dotT ++ (92 :: 40 :: v)).length = (v.length + 4) + 3 := by simp
      rw [el, dot_toks _ _ (by simp)] at h1 ⊢
      have es : toksGo (dotT ++ (92 :: 40 :: v)) (v.length + 4) 5 false false = (toksGo (92 :: 40 :: v) (92 :: 40 :: v).length 0 true true).map (Tok.mv 5) := by
        have := sh_toks dotT (92 :: 40 :: v) (v.length + 4) 0 false false
        rw [show dotT.length + 0 = 5 from rfl] at this
        rw [this]
        congr 1
        rw [toks_more _ (v.length + 4) ((v.length + 1) + 1) 0 false false (by simp) (by simp), open_any v _ false false hv, ← open_any v _ true true hv]
        rfl
      rw [es] at h1 ⊢
      have ep : parseGo (⟨3, 0, zeroS, 0, 0, 0⟩ :: byteT 2 (notS zeroS) :: ⟨4, 3, zeroS, 0, 0, 0⟩ :: (toksGo (92 :: 40 :: v) (92 :: 40 :: v).length 0 true true).map (Tok.mv 5)) ps0 = parseGo ((toksGo (92 :: 40 :: v) (92 :: 40 :: v).length 0 true true).map (Tok.mv 5)) ⟨⟨[gDot], [1], 0, 0⟩, [], 1, (List.replicate 10 false).set 1 true, 1⟩ := rfl
      rw [ep] at h1 ⊢
      have hok := parse_toks_ok (92 :: 40 :: v)
      unfold toksM at hok
      have e0 : toksGo (92 :: 40 :: v) (92 :: 40 :: v).length 0 true true = ⟨3, 0, zeroS, 0, 0, 0⟩ :: toksGo (92 :: 40 :: v) (v.length + 1) 2 true true := open_any v (v.length + 1) true true hv
      rw [e0] at h1 h2 hok ⊢
      have q1 : parseGo (List.map (Tok.mv 5) (⟨3, 0, zeroS, 0, 0, 0⟩ :: toksGo (92 :: 40 :: v) (v.length + 1) 2 true true)) ⟨⟨[gDot], [1], 0, 0⟩, [], 1, (List.replicate 10 false).set 1 true, 1⟩ = parseGo (List.map (Tok.mv 5) (toksGo (92 :: 40 :: v) (v.length + 1) 2 true true)) ⟨⟨[], [], 2, 5⟩, [⟨[gDot], [1], 0, 0⟩], 2, (List.replicate 10 false).set 1 true, 1⟩ := rfl
      have q2 : parseGo (⟨3, 0, zeroS, 0, 0, 0⟩ :: toksGo (92 :: 40 :: v) (v.length + 1) 2 true true) ps0 = parseGo (toksGo (92 :: 40 :: v) (v.length + 1) 2 true true) ⟨⟨[], [], 1, 0⟩, [ps0.top], 1, List.replicate 10 false, 0⟩ := rfl
      rw [q1] at h1 ⊢
      rw [q2] at h2 ⊢
      exact parse_two _ _ _ ⟨⟨⟨rfl, rfl⟩, ⟨⟨[], [], 0, 0⟩, rfl, rfl, ⟨rfl, rfl⟩⟩, rfl⟩, fun e => by cases e⟩ (hok.2.2.2 rfl) h1 h2
end Go.Proofs.Ytblpgpgbnlhjlaa
