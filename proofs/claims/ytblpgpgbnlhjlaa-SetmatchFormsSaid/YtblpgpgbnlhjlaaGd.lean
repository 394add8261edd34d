/- Layer 8 in plain Lean: what setmatch answers, by what trees match. -/
import Derived.Test.YtblpgpgbnlhjlaaGc
import Derived.Test.YtblpgpgbnlhjlaaFh
namespace Go.Proofs.Ytblpgpgbnlhjlaa
open Go Go.RowKit Sl
set_option maxRecDepth 100000
set_option maxHeartbeats 8000000
set_option linter.unusedVariables false
set_option linter.unusedSimpArgs false
attribute [local irreducible] ES EL PX wps

theorem endsM_le {A : AM × Nat} (hr : A.1.Room 0) {s : List UInt8} (hs : s.length ≤ 1024) (i st : Nat) : (endsM A s i st).steps ≤ st + 17609365913600 :=
  floodM_steps (by have := hr.out; omega) (fun l hl => by have := hr.ro l hl; omega) s hs (0, i) A.2 true st
/-- Steps never go down. -/
theorem flood_up {es : List (List Ed)} (hes : EdsOk es) (s : List UInt8) {x0 : Nat × Nat} (h1 : x0.1 < es.length) (h2 : x0.2 ≤ s.length) (goal : Nat) (fwd : Bool) (st : Nat) : st ≤ (floodM es s x0 goal fwd st).steps := by
  obtain ⟨done, hd⟩ := flood_spec hes s h1 h2 goal fwd st
  rw [hd.steps]; omega
theorem dn_head (i : Nat) (f : Nat → Bool) {p : Nat} (hf : f p = true) : ∀ n, i ≤ p → p < i + n → (∀ q, p < q → q < i + n → f q = false) → ((dnL i n).filter f).head? = some p ∧ (dnL i n).find? f = some p
  | 0, h1, h2, _ => by omega
  | n + 1, h1, h2, h3 => by
    rw [dnL, List.filter_cons, List.find?_cons]
    by_cases h : p = i + n
    · subst h
      rw [hf]
      exact ⟨rfl, rfl⟩
    · rw [h3 (i + n) (by omega) (by omega)]
      exact dn_head i f hf n h1 (by omega) (fun q hq1 hq2 => h3 q hq1 (by omega))
/-- The first of the splits. -/
structure First (s : List UInt8) (hd tl : List RE) (i e j : Nat) : Prop where
  ch : costL hd + 1 ≤ 131072
  ct : costL tl + 1 ≤ 131072
  ie : i ≤ e
  ej : e ≤ j
  hh : HitL s hd i e
  ht : HitL s tl e j
  no : ∀ p, e < p → p ≤ j → ¬ (HitL s hd i p ∧ HitL s tl p j)
abbrev floodC : Nat := 17609365913600
theorem cut_first {s : List UInt8} (hs : s.length ≤ 1024) {hd tl : List RE} {i e j st : Nat} (h : First s hd tl i e j) (hj : j ≤ s.length) (hst : st ≤ 576460752303423488) : ∃ st', cutS s hd tl i j st = some (e, st') ∧ st ≤ st' ∧ st' ≤ st + 2 * floodC := by
  have hie := h.ie
  have hej := h.ej
  obtain ⟨hr1, hl1⟩ := make_room hd h.ch
  obtain ⟨hr2, hl2⟩ := make_room tl h.ct
  have hE := fun p (hp : p ≤ s.length) => ends_iff h.ch s (i := i) (j := p) st (by omega) hp
  have hS := fun p (hp : p ≤ s.length) => starts_iff h.ct s (i := p) (j := j) (splE s hd i st).steps hp hj
  have hhead := (dn_head i (fun p => (splE s hd i st).marks.getD p false && (splS s hd tl i j st).marks.getD p false) (p := e) (by
      rw [Bool.and_eq_true]
      exact ⟨(hE e (by omega)).2 h.hh, (hS e (by omega)).2 h.ht⟩) (j + 1 - i) hie (by omega) (fun q h1 h2 => by
      rw [Bool.eq_false_iff]
      intro hq
      rw [Bool.and_eq_true] at hq
      exact h.no q h1 (by omega) ⟨(hE q (by omega)).1 hq.1, (hS q (by omega)).1 hq.2⟩)).1
  have hup1 := flood_up hr1.eo s (x0 := (0, i)) (by omega) (show i ≤ s.length by omega) (makeM hd).2 true st
  have hup2 := flood_up hr2.eb s (x0 := ((makeM tl).2, j)) (by rw [hr2.same]; exact hl2) hj 0 false (splE s hd i st).steps
  have hup1' : st ≤ (splE s hd i st).steps := hup1
  have hup2' : (splE s hd i st).steps ≤ (splS s hd tl i j st).steps := hup2
  have hb1 : (splE s hd i st).steps ≤ st + 17609365913600 := endsM_le hr1 hs i st
  have hb2 : (splS s hd tl i j st).steps ≤ (splE s hd i st).steps + 17609365913600 := startsM_steps hr2 hs j _
  refine ⟨(splS s hd tl i j st).steps, ?_, by omega, by unfold floodC; omega⟩
  unfold cutS
  rw [if_pos ⟨hst, h.ch, h.ct, by omega, hj⟩]
  have hspl : (splL s hd tl i j st).head? = some e := hhead
  cases hx : splL s hd tl i j st with
  | nil => rw [hx] at hspl; cases hspl
  | cons p l => rw [hx] at hspl; cases hspl; rfl
/-- How the first derivation is walked: spans ahead and behind, fuel, cuts. -/
inductive Wk (s : List UInt8) : WT → Nat → Nat → List Spn → List Spn → Nat → Nat → Prop
  | group {n k i j z z' f c} (hn : n < z.length) (h : Wk s (.one k) i j (z.set n ((i : Int), (j : Int))) z' f c) : Wk s (.one (.group n k)) i j z z' (f + 1) c
  | cat {ks i j z z' f c} (h : Wk s (.cat ks) i j z z' f c) : Wk s (.one (.cat ks)) i j z z' (f + 1) c
  | rep {lo hi k i j z z' f c} (h : Wk s (.rep lo hi k 0) i j z z' f c) : Wk s (.one (.rep lo hi k)) i j z z' (f + 1) c
  | byte {S i j z} : Wk s (.one (.byte S)) i j z z 1 0
  | bol {i j z} : Wk s (.one .bol) i j z z 1 0
  | eol {i j z} : Wk s (.one .eol) i j z z 1 0
  | nil {i j z} : Wk s (.cat []) i j z z 1 0
  | last {k i j z z' f c} (h : Wk s (.one k) i j z z' f c) : Wk s (.cat [k]) i j z z' (f + 1) c
  | cons {k k' ks i e j z z1 z2 f c c2} (hf : First s [k] (k' :: ks) i e j) (h1 : Wk s (.one k) i e z z1 f c) (h2 : Wk s (.cat (k' :: ks)) e j z1 z2 f c2) : Wk s (.cat (k :: k' :: ks)) i j z z2 (f + 1) (c + c2 + 1)
  | end0 {lo hi k t j z z' f c} (ht : t < leastM lo k) (h : Wk s (.one k) j j z z' f c) : Wk s (.rep lo hi k t) j j z z' (f + 1) c
  | end1 {lo hi k t j z} (ht : ¬ t < leastM lo k) : Wk s (.rep lo hi k t) j j z z 1 0
  | turn {lo hi k t i e j z z1 z2 f c c2} (hij : i ≠ j) (ht : t ≤ 1000000) (hf : First s [k] [leftM lo hi k (t + 1)] i e j) (h1 : Wk s (.one k) i e z z1 f c) (h2 : Wk s (.rep lo hi k (t + 1)) e j z1 z2 f c2) : Wk s (.rep lo hi k t) i j z z2 (f + 1) (c + c2 + 1)
  | more {wt i j z z' f c} (h : Wk s wt i j z z' f c) : Wk s wt i j z z' (f + 1) c
theorem Wk.fuel {s : List UInt8} {wt : WT} {i j f c : Nat} {z z' : List Spn} (h : Wk s wt i j z z' f c) {f' : Nat} (hf : f ≤ f') : Wk s wt i j z z' f' c := by
  obtain ⟨d, rfl⟩ := Nat.exists_eq_add_of_le hf
  clear hf
  induction d with
  | zero => exact h
  | succ d ih => exact .more ih
theorem Wk.run {s : List UInt8} (hs : s.length ≤ 1024) {wt : WT} {i j f c : Nat} {z z' : List Spn} (h : Wk s wt i j z z' f c) : i ≤ j → j ≤ s.length → ∀ F st, f ≤ F → st + c * (2 * floodC) ≤ 576460752303423488 → ∃ st', walkM s F wt i j ⟨z, st⟩ = some ⟨z', st'⟩ ∧ st ≤ st' ∧ st' ≤ st + c * (2 * floodC) := by
  induction h with
  | group hn h ih =>
    intro h1 h2 F st hF hst
    obtain ⟨F, rfl⟩ : ∃ F', F = F' + 1 := ⟨F - 1, by omega⟩
    rw [walkM, if_pos hn]
    exact ih h1 h2 F st (by omega) hst
  | cat h ih =>
    intro h1 h2 F st hF hst
    obtain ⟨F, rfl⟩ : ∃ F', F = F' + 1 := ⟨F - 1, by omega⟩
    rw [walkM]
    exact ih h1 h2 F st (by omega) hst
  | rep h ih =>
    intro h1 h2 F st hF hst
    obtain ⟨F, rfl⟩ : ∃ F', F = F' + 1 := ⟨F - 1, by omega⟩
    rw [walkM]
    exact ih h1 h2 F st (by omega) hst
  | byte =>
    intro h1 h2 F st hF hst
    obtain ⟨F, rfl⟩ : ∃ F', F = F' + 1 := ⟨F - 1, by omega⟩
    exact ⟨st, by simp [walkM], Nat.le_refl _, by omega⟩
  | bol =>
    intro h1 h2 F st hF hst
    obtain ⟨F, rfl⟩ : ∃ F', F = F' + 1 := ⟨F - 1, by omega⟩
    exact ⟨st, by simp [walkM], Nat.le_refl _, by omega⟩
  | eol =>
    intro h1 h2 F st hF hst
    obtain ⟨F, rfl⟩ : ∃ F', F = F' + 1 := ⟨F - 1, by omega⟩
    exact ⟨st, by simp [walkM], Nat.le_refl _, by omega⟩
  | nil =>
    intro h1 h2 F st hF hst
    obtain ⟨F, rfl⟩ : ∃ F', F = F' + 1 := ⟨F - 1, by omega⟩
    exact ⟨st, by simp [walkM], Nat.le_refl _, by omega⟩
  | last h ih =>
    intro h1 h2 F st hF hst
    obtain ⟨F, rfl⟩ : ∃ F', F = F' + 1 := ⟨F - 1, by omega⟩
    rw [walkM]
    exact ih h1 h2 F st (by omega) hst
  | @cons k k' ks i e j z z1 z2 f c c2 hf _ _ ih1 ih2 =>
    intro h1 h2 F st hF hst
    obtain ⟨F, rfl⟩ : ∃ F', F = F' + 1 := ⟨F - 1, by omega⟩
    have hmul : (c + c2 + 1) * (2 * floodC) = c * (2 * floodC) + c2 * (2 * floodC) + 2 * floodC := by rw [Nat.add_mul, Nat.add_mul, Nat.one_mul]
    rw [hmul] at hst
    have hie := hf.ie
    have hej := hf.ej
    obtain ⟨st1, e1, e2, e3⟩ := cut_first hs hf h2 (st := st) (by omega)
    obtain ⟨st2, e4, e5, e6⟩ := ih1 hie (by omega) F st1 (by omega) (by omega)
    obtain ⟨st3, e7, e8, e9⟩ := ih2 hej h2 F st2 (by omega) (by omega)
    refine ⟨st3, ?_, by omega, by rw [hmul]; omega⟩
    rw [walkM]
    simp only [e1, e4, e7]
  | @end0 lo hi k t j z z' f c ht h ih =>
    intro h1 h2 F st hF hst
    obtain ⟨F, rfl⟩ : ∃ F', F = F' + 1 := ⟨F - 1, by omega⟩
    rw [walkM, if_pos rfl, if_pos ht]
    exact ih h1 h2 F st (by omega) hst
  | @end1 lo hi k t j z ht =>
    intro h1 h2 F st hF hst
    obtain ⟨F, rfl⟩ : ∃ F', F = F' + 1 := ⟨F - 1, by omega⟩
    exact ⟨st, by rw [walkM, if_pos rfl, if_neg ht], Nat.le_refl _, by omega⟩
  | @turn lo hi k t i e j z z1 z2 f c c2 hij ht hf _ _ ih1 ih2 =>
    intro h1 h2 F st hF hst
    obtain ⟨F, rfl⟩ : ∃ F', F = F' + 1 := ⟨F - 1, by omega⟩
    have hmul : (c + c2 + 1) * (2 * floodC) = c * (2 * floodC) + c2 * (2 * floodC) + 2 * floodC := by rw [Nat.add_mul, Nat.add_mul, Nat.one_mul]
    rw [hmul] at hst
    have hie := hf.ie
    have hej := hf.ej
    obtain ⟨st1, e1, e2, e3⟩ := cut_first hs hf h2 (st := st) (by omega)
    obtain ⟨st2, e4, e5, e6⟩ := ih1 hie (by omega) F st1 (by omega) (by omega)
    obtain ⟨st3, e7, e8, e9⟩ := ih2 hej h2 F st2 (by omega) (by omega)
    refine ⟨st3, ?_, by omega, by rw [hmul]; omega⟩
    rw [walkM, if_neg hij, if_neg (by omega)]
    simp only [e1, e4, e7]
  | more h ih =>
    intro h1 h2 F st hF hst
    exact ih h1 h2 F st (by omega) hst
/-- The search's first start and last end. -/
structure Best (s : List UInt8) (r : RE) (i a b : Nat) : Prop where
  ia : i ≤ a
  ab : a ≤ b
  bs : b ≤ s.length
  hit : HitL s [r] a b
  last : ∀ b', b < b' → b' ≤ s.length → ¬ HitL s [r] a b'
  first : ∀ a', i ≤ a' → a' < a → ∀ b', ¬ HitL s [r] a' b'
theorem last_some {s : List UInt8} {r : RE} (hc : costL [r] + 1 ≤ 131072) {i b st : Nat} (hi : i ≤ b) (hb : b ≤ s.length) (hit : HitL s [r] i b) (last : ∀ b', b < b' → b' ≤ s.length → ¬ HitL s [r] i b') : lastT (endsM (makeM [r]) s i st).marks i (s.length + 1 - i) = some b := by
  have hE := fun p (hp : p ≤ s.length) => ends_iff hc s (i := i) (j := p) st (by omega) hp
  exact (dn_head i (fun p => (endsM (makeM [r]) s i st).marks.getD p false) (p := b) ((hE b hb).2 hit) _ hi (by omega) (fun q h1 h2 => by
    rw [Bool.eq_false_iff]
    exact fun hq => last q h1 (by omega) ((hE q (by omega)).1 hq))).2
theorem last_none {s : List UInt8} {r : RE} (hc : costL [r] + 1 ≤ 131072) {i st : Nat} (hi : i ≤ s.length) (no : ∀ b', ¬ HitL s [r] i b') : lastT (endsM (makeM [r]) s i st).marks i (s.length + 1 - i) = none := by
  have hE := fun p (hp : p ≤ s.length) => ends_iff hc s (i := i) (j := p) st hi hp
  refine List.find?_eq_none.2 fun q hq hm => ?_
  have hb := (mem_dnL _).1 hq
  exact no q ((hE q (by omega)).1 hm)
theorem find_best {s : List UInt8} (hs : s.length ≤ 1024) {r : RE} (hc : costL [r] + 1 ≤ 131072) {a b : Nat} : ∀ (n i st : Nat), n + i = s.length + 1 → Best s r i a b → st + n * floodC ≤ 576460752303423488 → ∃ st', findM s (makeM [r]) n i st = some (some (a, b), st') ∧ st ≤ st' ∧ st' ≤ st + n * floodC
  | 0, i, st, hn, h, _ => by have := h.ia; have := h.ab; have := h.bs; omega
  | n + 1, i, st, hn, h, hst => by
    obtain ⟨hr, hlt⟩ := make_room [r] hc
    have hia := h.ia
    have hab := h.ab
    have hbs := h.bs
    have hb : (endsM (makeM [r]) s i st).steps ≤ st + 17609365913600 := endsM_le hr hs i st
    have hup : st ≤ (endsM (makeM [r]) s i st).steps := flood_up hr.eo s (x0 := (0, i)) (by omega) (show i ≤ s.length by omega) (makeM [r]).2 true st
    rw [Nat.succ_mul] at hst ⊢
    unfold floodC at *
    rw [findM, if_pos (by omega)]
    by_cases hi : i = a
    · subst hi
      rw [last_some hc hab hbs h.hit h.last]
      exact ⟨(endsM (makeM [r]) s i st).steps, rfl, hup, Nat.le_trans hb (Nat.add_le_add_left (Nat.le_add_left _ _) _)⟩
    · rw [last_none hc (by omega) (h.first i (Nat.le_refl _) (by omega))]
      obtain ⟨st', e1, e2, e3⟩ := find_best hs hc n (i + 1) (endsM (makeM [r]) s i st).steps (by omega) ⟨by omega, hab, hbs, h.hit, h.last, fun a' h1 h2 => h.first a' (by omega) h2⟩ (by unfold floodC; omega)
      exact ⟨st', e1, by omega, by unfold floodC at e3; omega⟩
theorem find_no {s : List UInt8} (hs : s.length ≤ 1024) {r : RE} (hc : costL [r] + 1 ≤ 131072) : ∀ (n i st : Nat), n + i = s.length + 1 → (∀ a, i ≤ a → a ≤ s.length → ∀ b, ¬ HitL s [r] a b) → st + n * floodC ≤ 576460752303423488 → ∃ st', findM s (makeM [r]) n i st = some (none, st') ∧ st ≤ st' ∧ st' ≤ st + n * floodC
  | 0, i, st, hn, h, _ => ⟨st, rfl, Nat.le_refl _, by omega⟩
  | n + 1, i, st, hn, h, hst => by
    obtain ⟨hr, hlt⟩ := make_room [r] hc
    have hb : (endsM (makeM [r]) s i st).steps ≤ st + 17609365913600 := endsM_le hr hs i st
    have hup : st ≤ (endsM (makeM [r]) s i st).steps := flood_up hr.eo s (x0 := (0, i)) (by omega) (show i ≤ s.length by omega) (makeM [r]).2 true st
    rw [Nat.succ_mul] at hst ⊢
    unfold floodC at *
    rw [findM, if_pos (by omega), last_none hc (by omega) (h i (Nat.le_refl _) (by omega))]
    obtain ⟨st', e1, e2, e3⟩ := find_no hs hc n (i + 1) (endsM (makeM [r]) s i st).steps (by omega) (fun a h1 h2 => h a (by omega) h2) (by unfold floodC; omega)
    exact ⟨st', e1, by omega, by unfold floodC at e3; omega⟩
theorem set_best {t s : List UInt8} (hs : s.length ≤ 1024) {r : RE} {g i a b f c : Nat} {z : List Spn} (he : (parseM t).e = 0) (hb : (measM (parseM t).tree).back = false) (hg : (measM (parseM t).tree).grp = (g : Nat)) (hg9 : g ≤ 9) (ht : (parseM t).tree = r) (hc : costL [r] + 1 ≤ 131072) (hbest : Best s r i a b) (hw : Wk s (.one r) a b ((List.replicate (g + 1) (-1, -1)).set 0 ((a : Int), (b : Int))) z f c) (hcc : c ≤ 4096) :
    ∃ m, setM f t s (i : Nat) = some m ∧ m.ok = true ∧ m.e = 0 ∧ m.spans = z := by
  have hia := hbest.ia
  have hab := hbest.ab
  have hbs := hbest.bs
  unfold setM
  rw [if_neg (fun h => h he), if_neg (by rw [hb]; simp), if_neg (by omega), if_neg (by omega), if_neg (by rw [hg]; omega), hg, ht]
  unfold setGo
  obtain ⟨st1, e1, e2, e3⟩ := find_best hs hc (s.length + 1 - i) i 0 (by omega) hbest (by unfold floodC; omega)
  have hw2 := hw.run hs hab hbs f st1 (Nat.le_refl _) (by unfold floodC at *; omega)
  obtain ⟨st2, e4, _, _⟩ := hw2
  rw [if_pos hc]
  simp only [Int.toNat_natCast, e1, e4]
  exact ⟨_, rfl, rfl, rfl, rfl⟩
theorem set_no {t s : List UInt8} (hs : s.length ≤ 1024) {r : RE} {g i : Nat} (hi : i ≤ s.length) (he : (parseM t).e = 0) (hb : (measM (parseM t).tree).back = false) (hg : (measM (parseM t).tree).grp = (g : Nat)) (hg9 : g ≤ 9) (ht : (parseM t).tree = r) (hc : costL [r] + 1 ≤ 131072) (hno : ∀ a, i ≤ a → a ≤ s.length → ∀ b, ¬ HitL s [r] a b) :
    ∃ m, setM 0 t s (i : Nat) = some m ∧ m.ok = false ∧ m.e = 0 ∧ m.spans = [] := by
  unfold setM
  rw [if_neg (fun h => h he), if_neg (by rw [hb]; simp), if_neg (by omega), if_neg (by omega), if_neg (by rw [hg]; omega), hg, ht]
  unfold setGo
  obtain ⟨st1, e1, e2, e3⟩ := find_no hs hc (s.length + 1 - i) i 0 (by omega) hno (by unfold floodC; omega)
  rw [if_pos hc]
  simp only [Int.toNat_natCast, e1]
  exact ⟨_, rfl, rfl, rfl, rfl⟩
end Go.Proofs.Ytblpgpgbnlhjlaa
