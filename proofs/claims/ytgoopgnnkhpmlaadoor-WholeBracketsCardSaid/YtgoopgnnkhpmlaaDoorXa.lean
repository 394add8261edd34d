/- Layer 3 (bracket): what Text writes, in plain Lean, and that Parse reads it. -/
import Derived.Test.YtgoopgnnkhpmlaaDoorEb
import Derived.Test.YtgoopgnnkhpmlaaDoorDd
import Derived.Test.YtgoopgnnkhpmlaaDoorDf
namespace Go.Proofs.YtgoopgnnkhpmlaaDoor
open Go Go.RowKit Sl
set_option maxRecDepth 100000
set_option maxHeartbeats 8000000
set_option linter.unusedVariables false
set_option linter.unusedSimpArgs false
attribute [local irreducible] ES EL PX wps

def spc (b : UInt8) : Bool := decide (b = 93 ∨ b = 94 ∨ b = 45 ∨ b = 91)
def flushM (out run : List UInt8) : List UInt8 := if 2 < run.length then out ++ [run.getD 0 0, 45, run.getD (run.length - 1) 0] else out ++ run
def textStep (st : List UInt8 × List UInt8) (b : UInt8) : List UInt8 × List UInt8 :=
  if spc b = true then (flushM st.1 st.2 ++ [91, 46, b, 46, 93], [])
  else if 0 < st.2.length ∧ st.2.getD (st.2.length - 1) 0 + 1 ≠ b then (flushM st.1 st.2, [b])
  else (st.1, st.2 ++ [b])
def textS (s : BS) : List UInt8 :=
  if s = zeroS then [91, 94, 0, 45, 255, 93]
  else flushM ((membersM s).foldl textStep ([91], [])).1 ((membersM s).foldl textStep ([91], [])).2 ++ [93]
/-- A piece of what is written. -/
inductive Piece
  | sp (b : UInt8)
  | one (c : UInt8)
  | rng (c d : UInt8)
def Piece.txt : Piece → List UInt8
  | .sp b => [91, 46, b, 46, 93]
  | .one c => [c]
  | .rng c d => [c, 45, d]
def Piece.set : Piece → BS
  | .sp b => ofS [b]
  | .one c => ofS [c]
  | .rng c d => (spanM c d).1
def Piece.ok : Piece → Prop
  | .sp _ => True
  | .one c => spc c = false
  | .rng c d => spc c = false ∧ spc d = false ∧ c.toNat ≤ d.toNat
abbrev txts (ps : List Piece) : List UInt8 := ps.flatMap Piece.txt
theorem spc_no {c : UInt8} (h : spc c = false) : c ≠ 93 ∧ c ≠ 94 ∧ c ≠ 45 ∧ c ≠ 91 := by
  unfold spc at h
  rw [decide_eq_false_iff_not] at h
  simpa [not_or] using h
theorem Piece.head {p : Piece} (h : p.ok) : ∃ c r, p.txt = c :: r ∧ c ≠ 93 ∧ c ≠ 94 ∧ c ≠ 45 := by
  cases p with
  | sp b => exact ⟨91, _, rfl, by decide, by decide, by decide⟩
  | one c => exact ⟨c, _, rfl, (spc_no h).1, (spc_no h).2.1, (spc_no h).2.2.1⟩
  | rng c d => exact ⟨c, _, rfl, (spc_no h.1).1, (spc_no h.1).2.1, (spc_no h.1).2.2.1⟩
theorem rest_head {ps : List Piece} (h : ∀ p ∈ ps, p.ok) : ∃ c r, txts ps ++ [93] = c :: r ∧ c ≠ 45 ∧ c ≠ 94 := by
  cases ps with
  | nil => exact ⟨93, [], rfl, by decide, by decide⟩
  | cons p ps =>
    obtain ⟨c, r, h1, h2, h3, h4⟩ := Piece.head (h p (List.mem_cons_self ..))
    exact ⟨c, r ++ (txts ps ++ [93]), by simp [txts, h1], h4, h3⟩
theorem getD_at (pre rest : List UInt8) (i : Nat) : (pre ++ rest).getD (pre.length + i) 0 = rest.getD i 0 := by
  rw [List.getD_eq_getElem?_getD, List.getElem?_append_right (by omega), Nat.add_sub_cancel_left, ← List.getD_eq_getElem?_getD]
theorem getD_at0 (pre rest : List UInt8) : (pre ++ rest).getD pre.length 0 = rest.getD 0 0 := getD_at pre rest 0
theorem dash_no {pre rest : List UInt8} {c : UInt8} {r : List UInt8} (h : rest = c :: r) (hc : c ≠ 45) : dashM (pre ++ rest) pre.length = false := by
  unfold dashM
  rw [getD_at0, h]
  have : ¬ ((c.toNat : Int) = 45) := fun e => hc (UInt8.toNat_inj.1 (by show c.toNat = 45; omega))
  simp [this]
/-- An item of one byte. -/
theorem item_one (pre rest : List UInt8) (c : UInt8) (hc : c ≠ 91) : itemM (pre ++ c :: rest) pre.length = ⟨ofS [c], c, true, pre.length + 1, 0⟩ := by
  have h : ¬ ((c.toNat : Int) = 91) := fun e => hc (UInt8.toNat_inj.1 (by show c.toNat = 91; omega))
  have hi : itC (pre ++ c :: rest) pre.length = true := by
    unfold itC
    rw [getD_at0]
    simp [h]
  unfold itemM
  rw [if_pos hi, getD_at0]
  rfl
theorem item_sp (pre rest : List UInt8) (b : UInt8) : itemM (pre ++ [91, 46, b, 46, 93] ++ rest) pre.length = ⟨ofS [b], b, true, pre.length + 5, 0⟩ := by
  rw [List.append_assoc]
  have g1 : (pre ++ ([91, 46, b, 46, 93] ++ rest)).getD (pre.length + 1) 0 = 46 := getD_at pre _ 1
  have hlen : (pre ++ ([91, 46, b, 46, 93] ++ rest)).length = pre.length + (5 + rest.length) := by simp; omega
  have hi : itC (pre ++ ([91, 46, b, 46, 93] ++ rest)) pre.length = false := by
    unfold itC
    rw [getD_at0, g1, hlen]
    have : idxB [46, 61, 58] 46 = 0 := by decide
    rw [this]
    simp
    omega
  have hd : ∀ i, (pre ++ ([91, 46, b, 46, 93] ++ rest)).drop (pre.length + i) = ([91, 46, b, 46, 93] ++ rest).drop i := fun i => by
    rw [List.drop_append]
    simp
  have hk : nmK (pre ++ ([91, 46, b, 46, 93] ++ rest)) pre.length = 0 := by
    unfold nmK
    rw [if_pos (by rw [hlen]; omega), g1, show pre.length + 2 + 1 = pre.length + 3 from rfl, hd]
    simp [Lib.index]
  have hn : nmN (pre ++ ([91, 46, b, 46, 93] ++ rest)) pre.length = [b] := by
    unfold nmN
    rw [if_neg (by rw [hk]; decide), hk, hd]
    simp
  have ha : nmA (pre ++ ([91, 46, b, 46, 93] ++ rest)) pre.length = pre.length + 5 := by
    unfold nmA
    rw [if_neg (by rw [hk]; decide), hk]
    simp
  unfold itemM
  rw [if_neg (by rw [hi]; simp), if_neg (by unfold nmE; rw [if_neg (by rw [hk]; decide)]; simp), g1, hn, ha, if_neg (by decide), if_neg (by simp)]
  rfl
theorem span_piece {pre rest : List UInt8} {p : Piece} (hp : p.ok) {c : UInt8} {r : List UInt8} (hr : rest = c :: r) (hc : c ≠ 45) : spanT (pre ++ p.txt ++ rest) pre.length = ⟨p.set, (pre ++ p.txt).length, 0⟩ := by
  cases p with
  | sp b =>
    have hi := item_sp pre rest b
    have hd := dash_no (pre := pre ++ [91, 46, b, 46, 93]) hr hc
    have e : (pre ++ [91, 46, b, 46, 93]).length = pre.length + 5 := by simp
    rw [e] at hd
    show spanT (pre ++ [91, 46, b, 46, 93] ++ rest) pre.length = ⟨ofS [b], (pre ++ [91, 46, b, 46, 93]).length, 0⟩
    unfold spanT
    rw [hi]
    dsimp only
    rw [if_pos (.inr hd), e]
  | one d =>
    have hd := dash_no (pre := pre ++ [d]) hr hc
    have e : (pre ++ [d]).length = pre.length + 1 := by simp
    rw [e] at hd
    have hi := item_one pre rest d (spc_no hp).2.2.2
    show spanT (pre ++ [d] ++ rest) pre.length = ⟨ofS [d], (pre ++ [d]).length, 0⟩
    rw [show pre ++ [d] ++ rest = pre ++ d :: rest by simp] at hd ⊢
    unfold spanT
    rw [hi]
    dsimp only
    rw [if_pos (.inr hd), e]
  | rng d e =>
    obtain ⟨h1, h2, h3⟩ := hp
    have hi := item_one pre (45 :: e :: rest) d (spc_no h1).2.2.2
    have hj := item_one (pre ++ [d, 45]) rest e (spc_no h2).2.2.2
    have hd := dash_no (pre := pre ++ [d, 45, e]) hr hc
    have e1 : (pre ++ [d, 45]).length = pre.length + 2 := by simp
    have e2 : (pre ++ [d, 45, e]).length = pre.length + 3 := by simp
    have e3 : pre ++ [d, 45] ++ e :: rest = pre ++ d :: 45 :: e :: rest := by simp
    have e4 : pre ++ [d, 45, e] ++ rest = pre ++ d :: 45 :: e :: rest := by simp
    rw [e1, e3] at hj
    rw [e2, e4] at hd
    have hdash : dashM (pre ++ d :: 45 :: e :: rest) (pre.length + 1) = true := by
      unfold dashM
      rw [getD_at pre _ 1, show pre.length + 1 + 1 = pre.length + 2 from rfl, getD_at pre _ 2]
      have : ¬ ((e.toNat : Int) = 93) := fun x => (spc_no h2).1 (UInt8.toNat_inj.1 (by show e.toNat = 93; omega))
      simp [this]
      omega
    show spanT (pre ++ [d, 45, e] ++ rest) pre.length = ⟨(spanM d e).1, (pre ++ [d, 45, e]).length, 0⟩
    rw [e4]
    unfold spanT
    rw [hi]
    dsimp only
    rw [hj]
    dsimp only
    rw [if_neg (by rw [hdash]; simp), if_neg (by simp; omega), if_neg (by simp), if_neg (by simp), if_neg (by simp), if_neg (by rw [hd]; simp), e2]
    have : (spanM d e).2 = 0 := by unfold spanM; rw [if_neg (by omega)]
    rw [this]
/-- Parse reads pieces. -/
theorem go_pieces : ∀ (ps : List Piece) (pre : List UInt8) (n : Nat) (first : Bool) (s : BS), (∀ p ∈ ps, p.ok) → (first = true → ps ≠ []) → ps.length < n →
    brGo (pre ++ (txts ps ++ [93])) n pre.length first s = ⟨ps.foldl (fun s p => orS s p.set) s, (pre ++ (txts ps ++ [93])).length, 0⟩
  | [], pre, n + 1, first, s, _, hf, _ => by
    have hff : first = false := by cases first <;> simp at hf ⊢
    have g0 : (pre ++ ([] ++ [93])).getD pre.length 0 = (93 : UInt8) := getD_at0 pre _
    show brGo (pre ++ ([] ++ [93])) (n + 1) pre.length first s = ⟨s, (pre ++ ([] ++ [93])).length, 0⟩
    unfold brGo
    rw [if_neg (by simp), if_pos (by unfold brEnd; rw [g0, hff]; rfl)]
    simp
  | p :: ps, pre, n + 1, first, s, ho, _, hn => by
    obtain ⟨c, r, h1, h2, h3, h4⟩ := Piece.head (ho p (List.mem_cons_self ..))
    obtain ⟨c', r', h5, h6, _⟩ := rest_head (fun q hq => ho q (List.mem_cons_of_mem _ hq))
    have et : pre ++ (txts (p :: ps) ++ [93]) = pre ++ p.txt ++ (txts ps ++ [93]) := by simp [txts]
    have hsp := span_piece (pre := pre) (ho p (List.mem_cons_self ..)) h5 h6
    have g0 : (pre ++ p.txt ++ (txts ps ++ [93])).getD pre.length 0 = c := by rw [List.append_assoc, getD_at0, h1]; rfl
    rw [et]
    unfold brGo
    have hne : brEnd (pre ++ p.txt ++ (txts ps ++ [93])) pre.length first = false := by
      unfold brEnd
      rw [g0]
      have : ¬ ((c.toNat : Int) = 93) := fun x => h2 (UInt8.toNat_inj.1 (by show c.toNat = 93; omega))
      simp [this]
    rw [if_neg (by simp [h1]), if_neg (by rw [hne]; simp), hsp]
    dsimp only
    rw [if_neg (by simp)]
    have ih := go_pieces ps (pre ++ p.txt) n false (orS s p.set) (fun q hq => ho q (List.mem_cons_of_mem _ hq)) (fun h => by cases h) (by simpa using hn)
    rw [ih]
    rfl
  | _, _, 0, _, _, _, _, h => by omega
theorem has_fold (k : Nat) : ∀ (ps : List Piece) (s : BS), hasS (ps.foldl (fun s p => orS s p.set) s) k = (hasS s k || ps.any fun p => hasS p.set k)
  | [], s => by simp
  | p :: ps, s => by rw [List.foldl_cons, has_fold k ps, has_or, List.any_cons, Bool.or_assoc]
theorem txt_pos {p : Piece} (h : p.ok) : 1 ≤ p.txt.length := by cases p <;> simp [Piece.txt]
theorem txts_len : ∀ (ps : List Piece), (∀ p ∈ ps, p.ok) → ps.length ≤ (txts ps).length
  | [], _ => Nat.zero_le _
  | p :: ps, h => by
    have h1 := txts_len ps (fun q hq => h q (List.mem_cons_of_mem _ hq))
    have h2 := txt_pos (h p (List.mem_cons_self ..))
    simp only [txts, List.flatMap_cons, List.length_append, List.length_cons] at h1 ⊢
    omega
theorem parse_pieces {ps : List Piece} (ho : ∀ p ∈ ps, p.ok) (hne : ps ≠ []) : brackM (91 :: (txts ps ++ [93])) 0 = ⟨ps.foldl (fun s p => orS s p.set) zeroS, (91 :: (txts ps ++ [93])).length, 0⟩ := by
  obtain ⟨c, r, h1, h2, h3⟩ := rest_head ho
  have hl := txts_len ps ho
  have hL : (91 :: (txts ps ++ [93])).length = (txts ps).length + 2 := by rw [List.length_cons, List.length_append]; rfl
  have hg := go_pieces ps [91] ((91 :: (txts ps ++ [93])).length + 1 - 1) true zeroS ho (fun _ => hne) (by rw [hL]; omega)
  have hnot : brNot (91 :: (txts ps ++ [93])) 0 = false := by
    unfold brNot
    have : ¬ ((c.toNat : Int) = 94) := fun x => h3 (UInt8.toNat_inj.1 (by show c.toNat = 94; omega))
    rw [h1]
    simp [this]
  unfold brackM
  rw [if_neg (by unfold brBad; simp; omega), if_neg (by rw [hnot]; simp)]
  exact hg
theorem parse_not {ps : List Piece} (ho : ∀ p ∈ ps, p.ok) (hne : ps ≠ []) : brackM (91 :: 94 :: (txts ps ++ [93])) 0 = ⟨notS (ps.foldl (fun s p => orS s p.set) zeroS), (91 :: 94 :: (txts ps ++ [93])).length, 0⟩ := by
  have hl := txts_len ps ho
  have hL : (91 :: 94 :: (txts ps ++ [93])).length = (txts ps).length + 3 := by rw [List.length_cons, List.length_cons, List.length_append]; rfl
  have hg := go_pieces ps [91, 94] ((91 :: 94 :: (txts ps ++ [93])).length + 1 - 2) true zeroS ho (fun _ => hne) (by rw [hL]; omega)
  have hnot : brNot (91 :: 94 :: (txts ps ++ [93])) 0 = true := by
    unfold brNot
    simp
    omega
  unfold brackM
  rw [if_neg (by unfold brBad; simp; omega), if_pos hnot]
  have hg' : brFrom (91 :: 94 :: (txts ps ++ [93])) (0 + 2) = ⟨ps.foldl (fun s p => orS s p.set) zeroS, (91 :: 94 :: (txts ps ++ [93])).length, 0⟩ := hg
  rw [hg']
  rfl
/-! what Text writes is pieces -/
def flushP (run : List UInt8) : List Piece := if 2 < run.length then [.rng (run.getD 0 0) (run.getD (run.length - 1) 0)] else run.map .one
/-- Bytes that follow one another. -/
structure Run (run : List UInt8) (n : Nat) : Prop where
  plain : ∀ c ∈ run, spc c = false
  step : ∀ i, i < run.length → (run.getD i 0).toNat = (run.getD 0 0).toNat + i
  lt : ∀ c ∈ run, c.toNat < n
theorem getD_mem {l : List UInt8} {i : Nat} (h : i < l.length) : l.getD i 0 ∈ l := by
  rw [List.getD_eq_getElem?_getD, List.getElem?_eq_getElem h]
  exact List.getElem_mem _
theorem Run.nil (n : Nat) : Run [] n := ⟨(fun c h => by cases h), (fun i h => by simp at h), (fun c h => by cases h)⟩
theorem Run.mono {run : List UInt8} {n : Nat} (h : Run run n) : Run run (n + 1) := ⟨h.plain, h.step, fun c hc => Nat.lt_succ_of_lt (h.lt c hc)⟩
theorem Run.flush_ok {run : List UInt8} {n : Nat} (h : Run run n) : ∀ p ∈ flushP run, p.ok := by
  unfold flushP
  split
  · intro p hp
    rw [List.mem_singleton] at hp
    subst hp
    refine ⟨h.plain _ (getD_mem (by omega)), h.plain _ (getD_mem (by omega)), ?_⟩
    have := h.step (run.length - 1) (by omega)
    omega
  · intro p hp
    obtain ⟨c, hc, rfl⟩ := List.mem_map.1 hp
    exact h.plain c hc
theorem flush_txt (out run : List UInt8) : flushM out run = out ++ txts (flushP run) := by
  unfold flushM flushP
  split
  · rfl
  · congr 1
    induction run with
    | nil => rfl
    | cons c r ih =>
      rename_i h
      by_cases hr : 2 < r.length
      · simp at h; omega
      · have := ih hr
        simp only [txts, List.map_cons, List.flatMap_cons] at this ⊢
        rw [← this]
        rfl
theorem has_one (c : UInt8) (k : Nat) (hk : k < 256) : hasS (ofS [c]) k = decide (c.toNat = k) := by
  rw [has_ofS _ _ hk, Bool.eq_iff_iff]
  simp
theorem Run.flush_has {run : List UInt8} {n : Nat} (h : Run run n) {k : Nat} (hk : k < 256) : ((flushP run).any fun p => hasS p.set k) = run.any fun c => decide (c.toNat = k) := by
  unfold flushP
  split
  · rename_i h2
    have hl := h.step (run.length - 1) (by omega)
    have hs : hasS (spanM (run.getD 0 0) (run.getD (run.length - 1) 0)).1 k = (decide ((run.getD 0 0).toNat ≤ k) && decide (k ≤ (run.getD (run.length - 1) 0).toNat)) := by
      unfold spanM
      rw [if_neg (by omega)]
      show hasS (fillS _ 256) k = _
      rw [has_fill _ k hk 256 (Nat.le_refl _), decide_eq_true hk, Bool.and_true]
    rw [List.any_cons, List.any_nil, Bool.or_false]
    show hasS (spanM _ _).1 k = _
    rw [hs, Bool.eq_iff_iff]
    simp only [Bool.and_eq_true, decide_eq_true_eq, List.any_eq_true]
    constructor
    · rintro ⟨h3, h4⟩
      have hi : k - (run.getD 0 0).toNat < run.length := by omega
      exact ⟨run.getD (k - (run.getD 0 0).toNat) 0, getD_mem hi, by rw [h.step _ hi]; omega⟩
    · rintro ⟨c, hc, rfl⟩
      obtain ⟨i, hi, rfl⟩ := List.mem_iff_getElem.1 hc
      have := h.step i hi
      rw [List.getD_eq_getElem?_getD, List.getElem?_eq_getElem hi, Option.getD_some] at this
      omega
  · rw [List.any_map]
    apply List.any_congr
    · rfl
    · exact fun c => has_one c k hk
/-- What stands behind the members below n. -/
structure TxI (p : Nat → Bool) (n : Nat) (st : List UInt8 × List UInt8) (ps : List Piece) : Prop where
  out : st.1 = 91 :: txts ps
  ok : ∀ q ∈ ps, q.ok
  run : Run st.2 n
  has : ∀ k, k < 256 → ((ps.any fun q => hasS q.set k) || st.2.any fun c => decide (c.toNat = k)) = (p k && decide (k < n))
theorem tx_go (p : Nat → Bool) : ∀ n, n ≤ 256 → ∃ ps, TxI p n ((memGo p n).foldl textStep ([91], [])) ps
  | 0, _ => by
    rw [memGo_0]
    exact ⟨[], rfl, (fun q h => by cases h), Run.nil 0, fun k _ => by simp⟩
  | n + 1, hn => by
    obtain ⟨ps, hI⟩ := tx_go p n (by omega)
    cases hp : p n with
    | false =>
      rw [← memGo_n p n hp]
      refine ⟨ps, hI.out, hI.ok, hI.run.mono, fun k hk => ?_⟩
      rw [hI.has k hk]
      by_cases e : k = n
      · subst e; simp [hp]
      · rw [decide_eq_decide.2 (show k < n ↔ k < n + 1 by omega)]
    | true =>
      rw [← memGo_y p n hp, List.foldl_append]
      obtain ⟨st, hst⟩ : ∃ st, st = (memGo p n).foldl textStep ([91], []) := ⟨_, rfl⟩
      rw [← hst] at hI ⊢
      obtain ⟨b, hb⟩ : ∃ b, b = UInt8.ofNat n := ⟨_, rfl⟩
      have hbn : b.toNat = n := by rw [hb]; simp; omega
      rw [← hb]
      show ∃ ps, TxI p (n + 1) (textStep st b) ps
      have hk2 : ∀ k, k < 256 → (p k && decide (k < n + 1)) = ((p k && decide (k < n)) || decide (b.toNat = k)) := fun k _ => by
        rw [hbn]
        by_cases e : n = k
        · subst e; simp [hp]
        · rw [decide_eq_false e, Bool.or_false, decide_eq_decide.2 (show k < n + 1 ↔ k < n by omega)]
      have hfl : ∀ k, k < 256 → ((ps ++ flushP st.2).any fun q => hasS q.set k) = (p k && decide (k < n)) := fun k hk => by
        rw [List.any_append, hI.run.flush_has hk, hI.has k hk]
      have hfo : ∀ q ∈ ps ++ flushP st.2, q.ok := fun q hq => (List.mem_append.1 hq).elim (hI.ok q) (hI.run.flush_ok q)
      have hft : flushM st.1 st.2 = 91 :: txts (ps ++ flushP st.2) := by
        rw [flush_txt, hI.out]
        simp [txts]
      unfold textStep
      by_cases hs : spc b = true
      · rw [if_pos hs]
        refine ⟨ps ++ flushP st.2 ++ [.sp b], ?_, ?_, Run.nil _, fun k hk => ?_⟩
        · show flushM st.1 st.2 ++ _ = _
          rw [hft]
          simp [txts, Piece.txt]
        · intro q hq
          rcases List.mem_append.1 hq with h | h
          · exact hfo q h
          · rw [List.mem_singleton] at h; subst h; exact trivial
        · rw [List.any_append, hfl k hk, hk2 k hk]
          show ((_ || ([Piece.sp b].any fun q => hasS q.set k)) || (([] : List UInt8).any fun c => decide (c.toNat = k))) = _
          rw [List.any_cons, List.any_nil, List.any_nil, Bool.or_false, Bool.or_false]
          show (_ || hasS (ofS [b]) k) = _
          rw [has_one b k hk]
      · have hs' : spc b = false := by simpa using hs
        rw [if_neg hs]
        by_cases hc : 0 < st.2.length ∧ st.2.getD (st.2.length - 1) 0 + 1 ≠ b
        · rw [if_pos hc]
          refine ⟨ps ++ flushP st.2, hft, hfo, ⟨fun c h => ?_, fun i h => ?_, fun c h => ?_⟩, fun k hk => ?_⟩
          · rw [List.mem_singleton] at h; subst h; exact hs'
          · have : i = 0 := by simpa using h
            subst this; rfl
          · rw [List.mem_singleton] at h; subst h; omega
          · rw [hfl k hk, hk2 k hk]
            simp
        · rw [if_neg hc]
          refine ⟨ps, hI.out, hI.ok, ⟨fun c h => ?_, fun i h => ?_, fun c h => ?_⟩, fun k hk => ?_⟩
          · rcases List.mem_append.1 h with h | h
            · exact hI.run.plain c h
            · rw [List.mem_singleton] at h; subst h; exact hs'
          · have h' : i < (st.2 ++ [b]).length := h
            rw [List.length_append, List.length_singleton] at h'
            show ((st.2 ++ [b]).getD i 0).toNat = ((st.2 ++ [b]).getD 0 0).toNat + i
            by_cases h0 : st.2.length = 0
            · have h1 : st.2 = [] := List.length_eq_zero_iff.1 h0
              obtain rfl : i = 0 := by omega
              rfl
            · have e0 : (st.2 ++ [b]).getD 0 0 = st.2.getD 0 0 := by
                rw [List.getD_eq_getElem?_getD, List.getElem?_append_left (by omega), ← List.getD_eq_getElem?_getD]
              rw [e0]
              by_cases hi : i < st.2.length
              · rw [List.getD_eq_getElem?_getD, List.getElem?_append_left hi, ← List.getD_eq_getElem?_getD]
                exact hI.run.step i hi
              · obtain rfl : i = st.2.length := by omega
                rw [show (st.2 ++ [b]).getD st.2.length 0 = b from getD_at0 st.2 [b]]
                have hlast := hI.run.step (st.2.length - 1) (by omega)
                have hb2 : st.2.getD (st.2.length - 1) 0 + 1 = b := by
                  by_cases e : st.2.getD (st.2.length - 1) 0 + 1 = b
                  · exact e
                  · exact absurd ⟨by omega, e⟩ hc
                have hlt := hI.run.lt _ (getD_mem (show st.2.length - 1 < st.2.length by omega))
                have h3 : b.toNat = (st.2.getD (st.2.length - 1) 0).toNat + 1 := by
                  rw [← hb2, UInt8.toNat_add]
                  show ((st.2.getD (st.2.length - 1) 0).toNat + 1) % 256 = _
                  omega
                omega
          · rcases List.mem_append.1 h with h | h
            · exact Nat.lt_succ_of_lt (hI.run.lt c h)
            · rw [List.mem_singleton] at h; subst h; omega
          · show ((ps.any fun q => hasS q.set k) || (st.2 ++ [b]).any fun c => decide (c.toNat = k)) = _
            rw [List.any_append, ← Bool.or_assoc, hI.has k hk, hk2 k hk]
            simp
theorem zero_is {s : BS} (h : ∀ k, k < 256 → hasS s k = false) : s = zeroS := bs_ext _ _ fun k hk => by rw [h k hk, has_zero]
/-- Every set's text is a bracket expression of it. -/
theorem text_pieces (s : BS) (h : s ≠ zeroS) : ∃ ps, textS s = 91 :: (txts ps ++ [93]) ∧ (∀ p ∈ ps, p.ok) ∧ ps ≠ [] ∧ ps.foldl (fun s p => orS s p.set) zeroS = s := by
  obtain ⟨ps, hI⟩ := tx_go (hasS s) 256 (Nat.le_refl _)
  have hset : (ps ++ flushP ((membersM s).foldl textStep ([91], [])).2).foldl (fun s p => orS s p.set) zeroS = s := bs_ext _ _ fun k hk => by
    rw [has_fold, has_zero, Bool.false_or, List.any_append]
    have h1 := hI.run.flush_has hk
    have h2 := hI.has k hk
    rw [decide_eq_true hk, Bool.and_true] at h2
    unfold membersM
    rw [h1]
    exact h2
  refine ⟨ps ++ flushP ((membersM s).foldl textStep ([91], [])).2, ?_, fun q hq => (List.mem_append.1 hq).elim (hI.ok q) (hI.run.flush_ok q), ?_, hset⟩
  · unfold textS
    rw [if_neg h, flush_txt]
    have : ((membersM s).foldl textStep ([91], [])).1 = 91 :: txts ps := hI.out
    rw [this]
    simp [txts]
  · intro e
    rw [e] at hset
    exact h hset.symm
theorem text_read (s : BS) : brackM (textS s) 0 = ⟨s, (textS s).length, 0⟩ := by
  by_cases h : s = zeroS
  · subst h
    rw [textS, if_pos rfl]
    kernel_rfl
  · obtain ⟨ps, h1, h2, h3, h4⟩ := text_pieces s h
    rw [h1, parse_pieces h2 h3, h4]
/-- With a ^ behind the [ it is the opposite's. -/
theorem text_not (s : BS) (h : s ≠ zeroS) : 2 ≤ (textS s).length ∧ (textS s).getD 1 0 ≠ 94 ∧ brackM ([91, 94] ++ (textS s).drop 1) 0 = ⟨notS s, ([91, 94] ++ (textS s).drop 1).length, 0⟩ := by
  obtain ⟨ps, h1, h2, h3, h4⟩ := text_pieces s h
  obtain ⟨c, r, h5, h6, h7⟩ := rest_head h2
  rw [h1]
  refine ⟨by rw [h5]; simp, ?_, ?_⟩
  · rw [h5]; exact h7
  · show brackM (91 :: 94 :: (txts ps ++ [93])) 0 = ⟨notS s, (91 :: 94 :: (txts ps ++ [93])).length, 0⟩
    rw [parse_not h2 h3, h4]
end Go.Proofs.YtgoopgnnkhpmlaaDoor
