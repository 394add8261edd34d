/- Layer 8 in plain Lean: what setmatch answers, by what trees match. Layer 8 in plain Lean: runs of letters. -/
import Derived.Test.YtblpgpgbnlhjlaaGc
import Derived.Test.YtblpgpgbnlhjlaaFh
namespace Go.Proofs.Ytblpgpgbnlhjlaa
open Go Go.RowKit Sl
set_option maxRecDepth 100000
set_option maxHeartbeats 8000000
set_option linter.unusedVariables false
set_option linter.unusedSimpArgs false
attribute [local irreducible] ES EL PX wps

theorem endsM_le {A : AM × Nat} (hr : A.1.Room 0) {s : List UInt8} (hs : s.length ≤ 1024) (i st : Nat) : (endsM A s i st).steps ≤ st + 17609365913600 :=
  floodM_steps (by have := hr.out; omega) (fun l hl => by have := hr.ro l hl; omega) s hs (0, i) A.2 true st
/-- Steps never go down. -/
theorem flood_up {es : List (List Ed)} (hes : EdsOk es) (s : List UInt8) {x0 : Nat × Nat} (h1 : x0.1 < es.length) (h2 : x0.2 ≤ s.length) (goal : Nat) (fwd : Bool) (st : Nat) : st ≤ (floodM es s x0 goal fwd st).steps := by
  obtain ⟨done, hd⟩ := flood_spec hes s h1 h2 goal fwd st
  rw [hd.steps]; omega
theorem dn_head (i : Nat) (f : Nat → Bool) {p : Nat} (hf : f p = true) : ∀ n, i ≤ p → p < i + n → (∀ q, p < q → q < i + n → f q = false) → ((dnL i n).filter f).head? = some p ∧ (dnL i n).find? f = some p
  | 0, h1, h2, _ => by omega
  | n + 1, h1, h2, h3 => by
    rw [dnL, List.filter_cons, List.find?_cons]
    by_cases h : p = i + n
    · subst h
      rw [hf]
      exact ⟨rfl, rfl⟩
    · rw [h3 (i + n) (by omega) (by omega)]
      exact dn_head i f hf n h1 (by omega) (fun q hq1 hq2 => h3 q hq1 (by omega))
/-- The first of the splits. -/
structure First (s : List UInt8) (hd tl : List RE) (i e j : Nat) : Prop where
  ch : costL hd + 1 ≤ 131072
  ct : costL tl + 1 ≤ 131072
  ie : i ≤ e
  ej : e ≤ j
  hh : HitL s hd i e
  ht : HitL s tl e j
  no : ∀ p, e < p → p ≤ j → ¬ (HitL s hd i p ∧ HitL s tl p j)
abbrev floodC : Nat := 17609365913600
theorem cut_first {s : List UInt8} (hs : s.length ≤ 1024) {hd tl : List RE} {i e j st : Nat} (h : First s hd tl i e j) (hj : j ≤ s.length) (hst : st ≤ 576460752303423488) : ∃ st', cutS s hd tl i j st = some (e, st') ∧ st ≤ st' ∧ st' ≤ st + 2 * floodC := by
  have hie := h.ie
  have hej := h.ej
  obtain ⟨hr1, hl1⟩ := make_room hd h.ch
  obtain ⟨hr2, hl2⟩ := make_room tl h.ct
  have hE := fun p (hp : p ≤ s.length) => ends_iff h.ch s (i := i) (j := p) st (by omega) hp
  have hS := fun p (hp : p ≤ s.length) => starts_iff h.ct s (i := p) (j := j) (splE s hd i st).steps hp hj
  have hhead := (dn_head i (fun p => (splE s hd i st).marks.getD p false && (splS s hd tl i j st).marks.getD p false) (p := e) (by
      rw [Bool.and_eq_true]
      exact ⟨(hE e (by omega)).2 h.hh, (hS e (by omega)).2 h.ht⟩) (j + 1 - i) hie (by omega) (fun q h1 h2 => by
      rw [Bool.eq_false_iff]
      intro hq
      rw [Bool.and_eq_true] at hq
      exact h.no q h1 (by omega) ⟨(hE q (by omega)).1 hq.1, (hS q (by omega)).1 hq.2⟩)).1
  have hup1 := flood_up hr1.eo s (x0 := (0, i)) (by omega) (show i ≤ s.length by omega) (makeM hd).2 true st
  have hup2 := flood_up hr2.eb s (x0 := ((makeM tl).2, j)) (by rw [hr2.same]; exact hl2) hj 0 false (splE s hd i st).steps
  have hup1' : st ≤ (splE s hd i st).steps := hup1
  have hup2' : (splE s hd i st).steps ≤ (splS s hd tl i j st).steps := hup2
  have hb1 : (splE s hd i st).steps ≤ st + 17609365913600 := endsM_le hr1 hs i st
  have hb2 : (splS s hd tl i j st).steps ≤ (splE s hd i st).steps + 17609365913600 := startsM_steps hr2 hs j _
  refine ⟨(splS s hd tl i j st).steps, ?_, by omega, by unfold floodC; omega⟩
  unfold cutS
  rw [if_pos ⟨hst, h.ch, h.ct, by omega, hj⟩]
  have hspl : (splL s hd tl i j st).head? = some e := hhead
  cases hx : splL s hd tl i j st with
  | nil => rw [hx] at hspl; cases hspl
  | cons p l => rw [hx] at hspl; cases hspl; rfl
/-- How the first derivation is walked: spans ahead and behind, fuel, cuts. -/
inductive Wk (s : List UInt8) : WT → Nat → Nat → List Spn → List Spn → Nat → Nat → Prop
  | group {n k i j z z' f c} (hn : n < z.length) (h : Wk s (.one k) i j (z.set n ((i : Int), (j : Int))) z' f c) : Wk s (.one (.group n k)) i j z z' (f + 1) c
  | cat {ks i j z z' f c} (h : Wk s (.cat ks) i j z z' f c) : Wk s (.one (.cat ks)) i j z z' (f + 1) c
  | rep {lo hi k i j z z' f c} (h : Wk s (.rep lo hi k 0) i j z z' f c) : Wk s (.one (.rep lo hi k)) i j z z' (f + 1) c
  | byte {S i j z} : Wk s (.one (.byte S)) i j z z 1 0
  | bol {i j z} : Wk s (.one .bol) i j z z 1 0
  | eol {i j z} : Wk s (.one .eol) i j z z 1 0
  | nil {i j z} : Wk s (.cat []) i j z z 1 0
  | last {k i j z z' f c} (h : Wk s (.one k) i j z z' f c) : Wk s (.cat [k]) i j z z' (f + 1) c
  | cons {k k' ks i e j z z1 z2 f c c2} (hf : First s [k] (k' :: ks) i e j) (h1 : Wk s (.one k) i e z z1 f c) (h2 : Wk s (.cat (k' :: ks)) e j z1 z2 f c2) : Wk s (.cat (k :: k' :: ks)) i j z z2 (f + 1) (c + c2 + 1)
  | end0 {lo hi k t j z z' f c} (ht : t < leastM lo k) (h : Wk s (.one k) j j z z' f c) : Wk s (.rep lo hi k t) j j z z' (f + 1) c
  | end1 {lo hi k t j z} (ht : ¬ t < leastM lo k) : Wk s (.rep lo hi k t) j j z z 1 0
  | turn {lo hi k t i e j z z1 z2 f c c2} (hij : i ≠ j) (ht : t ≤ 1000000) (hf : First s [k] [leftM lo hi k (t + 1)] i e j) (h1 : Wk s (.one k) i e z z1 f c) (h2 : Wk s (.rep lo hi k (t + 1)) e j z1 z2 f c2) : Wk s (.rep lo hi k t) i j z z2 (f + 1) (c + c2 + 1)
  | more {wt i j z z' f c} (h : Wk s wt i j z z' f c) : Wk s wt i j z z' (f + 1) c
theorem Wk.fuel {s : List UInt8} {wt : WT} {i j f c : Nat} {z z' : List Spn} (h : Wk s wt i j z z' f c) {f' : Nat} (hf : f ≤ f') : Wk s wt i j z z' f' c := by
  obtain ⟨d, rfl⟩ := Nat.exists_eq_add_of_le hf
  clear hf
  induction d with
  | zero => exact h
  | succ d ih => exact .more ih
theorem Wk.run {s : List UInt8} (hs : s.length ≤ 1024) {wt : WT} {i j f c : Nat} {z z' : List Spn} (h : Wk s wt i j z z' f c) : i ≤ j → j ≤ s.length → ∀ F st, f ≤ F → st + c * (2 * floodC) ≤ 576460752303423488 → ∃ st', walkM s F wt i j ⟨z, st⟩ = some ⟨z', st'⟩ ∧ st ≤ st' ∧ st' ≤ st + c * (2 * floodC) := by
  induction h with
  | group hn h ih =>
    intro h1 h2 F st hF hst
    obtain ⟨F, rfl⟩ : ∃ F', F = F' + 1 := ⟨F - 1, by omega⟩
    rw [walkM, if_pos hn]
    exact ih h1 h2 F st (by omega) hst
  | cat h ih =>
    intro h1 h2 F st hF hst
    obtain ⟨F, rfl⟩ : ∃ F', F = F' + 1 := ⟨F - 1, by omega⟩
    rw [walkM]
    exact ih h1 h2 F st (by omega) hst
  | rep h ih =>
    intro h1 h2 F st hF hst
    obtain ⟨F, rfl⟩ : ∃ F', F = F' + 1 := ⟨F - 1, by omega⟩
    rw [walkM]
    exact ih h1 h2 F st (by omega) hst
  | byte =>
    intro h1 h2 F st hF hst
    obtain ⟨F, rfl⟩ : ∃ F', F = F' + 1 := ⟨F - 1, by omega⟩
    exact ⟨st, by simp [walkM], Nat.le_refl _, by omega⟩
  | bol =>
    intro h1 h2 F st hF hst
    obtain ⟨F, rfl⟩ : ∃ F', F = F' + 1 := ⟨F - 1, by omega⟩
    exact ⟨st, by simp [walkM], Nat.le_refl _, by omega⟩
  | eol =>
    intro h1 h2 F st hF hst
    obtain ⟨F, rfl⟩ : ∃ F', F = F' + 1 := ⟨F - 1, by omega⟩
    exact ⟨st, by simp [walkM], Nat.le_refl _, by omega⟩
  | nil =>
    intro h1 h2 F st hF hst
    obtain ⟨F, rfl⟩ : ∃ F', F = F' + 1 := ⟨F - 1, by omega⟩
    exact ⟨st, by simp [walkM], Nat.le_refl _, by omega⟩
  | last h ih =>
    intro h1 h2 F st hF hst
    obtain ⟨F, rfl⟩ : ∃ F', F = F' + 1 := ⟨F - 1, by omega⟩
    rw [walkM]
    exact ih h1 h2 F st (by omega) hst
  | @cons k k' ks i e j z z1 z2 f c c2 hf _ _ ih1 ih2 =>
    intro h1 h2 F st hF hst
    obtain ⟨F, rfl⟩ : ∃ F', F = F' + 1 := ⟨F - 1, by omega⟩
    have hmul : (c + c2 + 1) * (2 * floodC) = c * (2 * floodC) + c2 * (2 * floodC) + 2 * floodC := by rw [Nat.add_mul, Nat.add_mul, Nat.one_mul]
    rw [hmul] at hst
    have hie := hf.ie
    have hej := hf.ej
    obtain ⟨st1, e1, e2, e3⟩ := cut_first hs hf h2 (st := st) (by omega)
    obtain ⟨st2, e4, e5, e6⟩ := ih1 hie (by omega) F st1 (by omega) (by omega)
    obtain ⟨st3, e7, e8, e9⟩ := ih2 hej h2 F st2 (by omega) (by omega)
    refine ⟨st3, ?_, by omega, by rw [hmul]; omega⟩
    rw [walkM]
    simp only [e1, e4, e7]
  | @end0 lo hi k t j z z' f c ht h ih =>
    intro h1 h2 F st hF hst
    obtain ⟨F, rfl⟩ : ∃ F', F = F' + 1 := ⟨F - 1, by omega⟩
    rw [walkM, if_pos rfl, if_pos ht]
    exact ih h1 h2 F st (by omega) hst
  | @end1 lo hi k t j z ht =>
    intro h1 h2 F st hF hst
    obtain ⟨F, rfl⟩ : ∃ F', F = F' + 1 := ⟨F - 1, by omega⟩
    exact ⟨st, by rw [walkM, if_pos rfl, if_neg ht], Nat.le_refl _, by omega⟩
  | @turn lo hi k t i e j z z1 z2 f c c2 hij ht hf _ _ ih1 ih2 =>
    intro h1 h2 F st hF hst
    obtain ⟨F, rfl⟩ : ∃ F', F = F' + 1 := ⟨F - 1, by omega⟩
    have hmul : (c + c2 + 1) * (2 * floodC) = c * (2 * floodC) + c2 * (2 * floodC) + 2 * floodC := by rw [Nat.add_mul, Nat.add_mul, Nat.one_mul]
    rw [hmul] at hst
    have hie := hf.ie
    have hej := hf.ej
    obtain ⟨st1, e1, e2, e3⟩ := cut_first hs hf h2 (st := st) (by omega)
    obtain ⟨st2, e4, e5, e6⟩ := ih1 hie (by omega) F st1 (by omega) (by omega)
    obtain ⟨st3, e7, e8, e9⟩ := ih2 hej h2 F st2 (by omega) (by omega)
    refine ⟨st3, ?_, by omega, by rw [hmul]; omega⟩
    rw [walkM, if_neg hij, if_neg (by omega)]
    simp only [e1, e4, e7]
  | more h ih =>
    intro h1 h2 F st hF hst
    exact ih h1 h2 F st (by omega) hst
/-- The search's first start and last end. -/
structure Best (s : List UInt8) (r : RE) (i a b : Nat) : Prop where
  ia : i ≤ a
  ab : a ≤ b
  bs : b ≤ s.length
  hit : HitL s [r] a b
  last : ∀ b', b < b' → b' ≤ s.length → ¬ HitL s [r] a b'
  first : ∀ a', i ≤ a' → a' < a → ∀ b', ¬ HitL s [r] a' b'
theorem last_some {s : List UInt8} {r : RE} (hc : costL [r] + 1 ≤ 131072) {i b st : Nat} (hi : i ≤ b) (hb : b ≤ s.length) (hit : HitL s [r] i b) (last : ∀ b', b < b' → b' ≤ s.length → ¬ HitL s [r] i b') : lastT (endsM (makeM [r]) s i st).marks i (s.length + 1 - i) = some b := by
  have hE := fun p (hp : p ≤ s.length) => ends_iff hc s (i := i) (j := p) st (by omega) hp
  exact (dn_head i (fun p => (endsM (makeM [r]) s i st).marks.getD p false) (p := b) ((hE b hb).2 hit) _ hi (by omega) (fun q h1 h2 => by
    rw [Bool.eq_false_iff]
    exact fun hq => last q h1 (by omega) ((hE q (by omega)).1 hq))).2
theorem last_none {s : List UInt8} {r : RE} (hc : costL [r] + 1 ≤ 131072) {i st : Nat} (hi : i ≤ s.length) (no : ∀ b', ¬ HitL s [r] i b') : lastT (endsM (makeM [r]) s i st).marks i (s.length + 1 - i) = none := by
  have hE := fun p (hp : p ≤ s.length) => ends_iff hc s (i := i) (j := p) st hi hp
  refine List.find?_eq_none.2 fun q hq hm => ?_
  have hb := (mem_dnL _).1 hq
  exact no q ((hE q (by omega)).1 hm)
theorem find_best {s : List UInt8} (hs : s.length ≤ 1024) {r : RE} (hc : costL [r] + 1 ≤ 131072) {a b : Nat} : ∀ (n i st : Nat), n + i = s.length + 1 → Best s r i a b → st + n * floodC ≤ 576460752303423488 → ∃ st', findM s (makeM [r]) n i st = some (some (a, b), st') ∧ st ≤ st' ∧ st' ≤ st + n * floodC
  | 0, i, st, hn, h, _ => by have := h.ia; have := h.ab; have := h.bs; omega
  | n + 1, i, st, hn, h, hst => by
    obtain ⟨hr, hlt⟩ := make_room [r] hc
    have hia := h.ia
    have hab := h.ab
    have hbs := h.bs
    have hb : (endsM (makeM [r]) s i st).steps ≤ st + 17609365913600 := endsM_le hr hs i st
    have hup : st ≤ (endsM (makeM [r]) s i st).steps := flood_up hr.eo s (x0 := (0, i)) (by omega) (show i ≤ s.length by omega) (makeM [r]).2 true st
    rw [Nat.succ_mul] at hst ⊢
    unfold floodC at *
    rw [findM, if_pos (by omega)]
    by_cases hi : i = a
    · subst hi
      rw [last_some hc hab hbs h.hit h.last]
      exact ⟨(endsM (makeM [r]) s i st).steps, rfl, hup, Nat.le_trans hb (Nat.add_le_add_left (Nat.le_add_left _ _) _)⟩
    · rw [last_none hc (by omega) (h.first i (Nat.le_refl _) (by omega))]
      obtain ⟨st', e1, e2, e3⟩ := find_best hs hc n (i + 1) (endsM (makeM [r]) s i st).steps (by omega) ⟨by omega, hab, hbs, h.hit, h.last, fun a' h1 h2 => h.first a' (by omega) h2⟩ (by unfold floodC; omega)
      exact ⟨st', e1, by omega, by unfold floodC at e3; omega⟩
theorem find_no {s : List UInt8} (hs : s.length ≤ 1024) {r : RE} (hc : costL [r] + 1 ≤ 131072) : ∀ (n i st : Nat), n + i = s.length + 1 → (∀ a, i ≤ a → a ≤ s.length → ∀ b, ¬ HitL s [r] a b) → st + n * floodC ≤ 576460752303423488 → ∃ st', findM s (makeM [r]) n i st = some (none, st') ∧ st ≤ st' ∧ st' ≤ st + n * floodC
  | 0, i, st, hn, h, _ => ⟨st, rfl, Nat.le_refl _, by omega⟩
  | n + 1, i, st, hn, h, hst => by
    obtain ⟨hr, hlt⟩ := make_room [r] hc
    have hb : (endsM (makeM [r]) s i st).steps ≤ st + 17609365913600 := endsM_le hr hs i st
    have hup : st ≤ (endsM (makeM [r]) s i st).steps := flood_up hr.eo s (x0 := (0, i)) (by omega) (show i ≤ s.length by omega) (makeM [r]).2 true st
    rw [Nat.succ_mul] at hst ⊢
    unfold floodC at *
    rw [findM, if_pos (by omega), last_none hc (by omega) (h i (Nat.le_refl _) (by omega))]
    obtain ⟨st', e1, e2, e3⟩ := find_no hs hc n (i + 1) (endsM (makeM [r]) s i st).steps (by omega) (fun a h1 h2 => h a (by omega) h2) (by unfold floodC; omega)
    exact ⟨st', e1, by omega, by unfold floodC at e3; omega⟩
theorem set_best {t s : List UInt8} (hs : s.length ≤ 1024) {r : RE} {g i a b f c : Nat} {z : List Spn} (he : (parseM t).e = 0) (hb : (measM (parseM t).tree).back = false) (hg : (measM (parseM t).tree).grp = (g : Nat)) (hg9 : g ≤ 9) (ht : (parseM t).tree = r) (hc : costL [r] + 1 ≤ 131072) (hbest : Best s r i a b) (hw : Wk s (.one r) a b ((List.replicate (g + 1) (-1, -1)).set 0 ((a : Int), (b : Int))) z f c) (hcc : c ≤ 4096) :
    ∃ m, setM f t s (i : Nat) = some m ∧ m.ok = true ∧ m.e = 0 ∧ m.spans = z := by
  have hia := hbest.ia
  have hab := hbest.ab
  have hbs := hbest.bs
  unfold setM
  rw [if_neg (fun h => h he), if_neg (by rw [hb]; simp), if_neg (by omega), if_neg (by omega), if_neg (by rw [hg]; omega), hg, ht]
  unfold setGo
  obtain ⟨st1, e1, e2, e3⟩ := find_best hs hc (s.length + 1 - i) i 0 (by omega) hbest (by unfold floodC; omega)
  have hw2 := hw.run hs hab hbs f st1 (Nat.le_refl _) (by unfold floodC at *; omega)
  obtain ⟨st2, e4, _, _⟩ := hw2
  rw [if_pos hc]
  simp only [Int.toNat_natCast, e1, e4]
  exact ⟨_, rfl, rfl, rfl, rfl⟩
theorem set_no {t s : List UInt8} (hs : s.length ≤ 1024) {r : RE} {g i : Nat} (hi : i ≤ s.length) (he : (parseM t).e = 0) (hb : (measM (parseM t).tree).back = false) (hg : (measM (parseM t).tree).grp = (g : Nat)) (hg9 : g ≤ 9) (ht : (parseM t).tree = r) (hc : costL [r] + 1 ≤ 131072) (hno : ∀ a, i ≤ a → a ≤ s.length → ∀ b, ¬ HitL s [r] a b) :
    ∃ m, setM 0 t s (i : Nat) = some m ∧ m.ok = false ∧ m.e = 0 ∧ m.spans = [] := by
  unfold setM
  rw [if_neg (fun h => h he), if_neg (by rw [hb]; simp), if_neg (by omega), if_neg (by omega), if_neg (by rw [hg]; omega), hg, ht]
  unfold setGo
  obtain ⟨st1, e1, e2, e3⟩ := find_no hs hc (s.length + 1 - i) i 0 (by omega) hno (by unfold floodC; omega)
  rw [if_pos hc]
  simp only [Int.toNat_natCast, e1]
  exact ⟨_, rfl, rfl, rfl, rfl⟩
end Go.Proofs.Ytblpgpgbnlhjlaa
namespace Go.Proofs.Ytblpgpgbnlhjlaa
open Go Go.RowKit Sl
set_option maxRecDepth 100000
set_option maxHeartbeats 8000000
set_option linter.unusedVariables false
set_option linter.unusedSimpArgs false
attribute [local irreducible] ES EL PX wps

abbrev At (s : List UInt8) (S : BS) (k : Nat) : Prop := k < s.length ∧ hasS S (s.getD k 0).toNat = true
theorem hit_byte {s : List UInt8} {S : BS} {i j : Nat} : Hit s (.byte S) i j ↔ At s S i ∧ j = i + 1 := by rw [Hit]
theorem iter_byte {s : List UInt8} {S : BS} : ∀ {c i j : Nat}, Iter (Hit s (.byte S)) c i j ↔ j = i + c ∧ ∀ k, i ≤ k → k < i + c → At s S k
  | 0, i, j => ⟨fun h => ⟨by cases (show i = j from h); rfl, fun k h1 h2 => by omega⟩, fun ⟨h, _⟩ => by show i = j; omega⟩
  | c + 1, i, j => by
    constructor
    · rintro ⟨m, h1, h2⟩
      obtain ⟨h3, rfl⟩ := hit_byte.1 h1
      obtain ⟨h4, h5⟩ := iter_byte.1 h2
      refine ⟨by omega, fun k h6 h7 => ?_⟩
      by_cases h : k = i
      · subst h; exact h3
      · exact h5 k (by omega) (by omega)
    · rintro ⟨h1, h2⟩
      exact ⟨i + 1, hit_byte.2 ⟨h2 i (Nat.le_refl _) (by omega), rfl⟩, iter_byte.2 ⟨by omega, fun k h3 h4 => h2 k (by omega) (by omega)⟩⟩
theorem least0 (k : RE) : leastM 0 k = 0 := by unfold leastM; split <;> simp
theorem repN_inf {k : RE} (h : k.thin = false) (c : Nat) : RepN 0 (-1) k c := ⟨by rw [least0]; omega, by rw [if_neg (by simp [h])]; exact .inl (by decide)⟩
theorem left_inf (k : RE) (t : Nat) : leftM 0 (-1) k t = .rep 0 (-1) k := by
  unfold leftM leftLo
  rw [least0]
  simp
theorem hit_star {s : List UInt8} {S : BS} {i j : Nat} : Hit s (.rep 0 (-1) (.byte S)) i j ↔ i ≤ j ∧ ∀ k, i ≤ k → k < j → At s S k := by
  rw [Hit]
  constructor
  · rintro ⟨c, _, h⟩
    obtain ⟨h1, h2⟩ := iter_byte.1 h
    exact ⟨by omega, fun k h3 h4 => h2 k h3 (by omega)⟩
  · rintro ⟨h1, h2⟩
    exact ⟨j - i, repN_inf (by simp [RE.thin]) _, iter_byte.2 ⟨by omega, fun k h3 h4 => h2 k h3 (by omega)⟩⟩
theorem hitL_one {s : List UInt8} {r : RE} {i j : Nat} : HitL s [r] i j ↔ Hit s r i j := by
  rw [HitL]
  constructor
  · rintro ⟨m, h1, h2⟩
    rw [HitL] at h2
    subst h2; exact h1
  · exact fun h => ⟨j, h, by rw [HitL]⟩
theorem hitL_two {s : List UInt8} {r : RE} {ks : List RE} {i j : Nat} : HitL s (r :: ks) i j ↔ ∃ m, Hit s r i m ∧ HitL s ks m j := by rw [HitL]
theorem hit_group {s : List UInt8} {n : Nat} {r : RE} {i j : Nat} : Hit s (.group n (.cat [r])) i j ↔ Hit s r i j := by rw [Hit, Hit, hitL_one]
theorem hit_cat {s : List UInt8} {ks : List RE} {i j : Nat} : Hit s (.cat ks) i j ↔ HitL s ks i j := by rw [Hit]
theorem hit_rep {s : List UInt8} {lo : Nat} {hi : Int} {k : RE} {i j : Nat} : Hit s (.rep lo hi k) i j ↔ ∃ c, RepN lo hi k c ∧ Iter (Hit s k) c i j := by rw [Hit]
theorem star_wk {s : List UInt8} {S : BS} {z : List Spn} : ∀ (d t i j : Nat), j = i + d → (∀ k, i ≤ k → k < j → At s S k) → t + d ≤ 1000000 → Wk s (.rep 0 (-1) (.byte S) t) i j z z (d + 1) d
  | 0, t, i, j, h, _, _ => by
    have h : j = i := h
    subst h
    exact .end1 (by rw [least0]; omega)
  | d + 1, t, i, j, h, hat, ht => by
    have h2 := star_wk (z := z) d (t + 1) (i + 1) j (by omega) (fun k h1 h2 => hat k (by omega) h2) (by omega)
    have h1 : Wk s (.one (.byte S)) i (i + 1) z z (d + 1) 0 := Wk.byte.fuel (by omega)
    have := Wk.turn (lo := 0) (hi := -1) (by omega) (by omega) ⟨by simp [costL, RE.cost], by rw [left_inf]; simp [costL, RE.cost, RE.thin, least0], by omega, by omega, hitL_one.2 (hit_byte.2 ⟨hat i (Nat.le_refl _) (by omega), rfl⟩), by rw [left_inf]; exact hitL_one.2 (hit_star.2 ⟨by omega, fun k h1 h2 => hat k (by omega) h2⟩), fun p h1 _ h3 => by
      have := (hit_byte.1 (hitL_one.1 h3.1)).2
      omega⟩ h1 h2
    rw [Nat.zero_add] at this
    exact this
theorem gstar_wk {s : List UInt8} {S : BS} {n i j : Nat} {z : List Spn} (hij : i ≤ j) (hd : j - i ≤ 1000000) (hat : ∀ k, i ≤ k → k < j → At s S k) (hn : n < z.length) : Wk s (.one (.group n (.cat [.rep 0 (-1) (.byte S)]))) i j z (z.set n ((i : Int), (j : Int))) (j - i + 5) (j - i) :=
  .group hn (.cat (.last (.rep (star_wk (j - i) 0 i j (by omega) hat (by omega)))))

/-! the three forms -/
def sA : BS := ⟨0, 8589934592, 0, 0⟩
def sB : BS := ⟨0, 17179869184, 0, 0⟩
theorem tree_x : ∃ A, (parseM [92, 40, 97, 42, 92, 41, 92, 40, 97, 42, 92, 41]).tree = .cat [.group 1 (.cat [.rep 0 (-1) (.byte A)]), .group 2 (.cat [.rep 0 (-1) (.byte A)])] ∧ hasS A 97 = true := ⟨sA, by kernel_rfl, by decide +kernel⟩
theorem tree_y : ∃ A, (parseM [92, 40, 97, 92, 123, 49, 44, 50, 92, 125, 92, 41, 42]).tree = .cat [.rep 0 (-1) (.group 1 (.cat [.rep 1 2 (.byte A)]))] ∧ hasS A 97 = true := ⟨sA, by kernel_rfl, by decide +kernel⟩
theorem tree_z : ∃ A B, (parseM [92, 40, 97, 42, 92, 41, 92, 40, 97, 98, 92, 41, 42, 92, 40, 98, 42, 92, 41]).tree = .cat [.group 1 (.cat [.rep 0 (-1) (.byte A)]), .rep 0 (-1) (.group 2 (.cat [.byte A, .byte B])), .group 3 (.cat [.rep 0 (-1) (.byte B)])] ∧ hasS A 97 = true ∧ hasS A 98 = false ∧ hasS B 98 = true := ⟨sA, sB, by kernel_rfl, by decide +kernel, by decide +kernel, by decide +kernel⟩
theorem at_run {A : BS} {a : Nat} (hA : hasS A 97 = true) {k : Nat} (hk : k < a) : At (List.replicate a 97) A k := by
  refine ⟨by simpa using hk, ?_⟩
  rw [List.getD_eq_getElem?_getD, List.getElem?_replicate, if_pos hk]
  exact hA
theorem form_x (a : Nat) (ha : a ≤ 1000) : ∃ F m, setM F [92, 40, 97, 42, 92, 41, 92, 40, 97, 42, 92, 41] (List.replicate a 97) 0 = some m ∧ m.ok = true ∧ m.e = 0 ∧ m.spans = [(0, (a : Int)), (0, (a : Int)), ((a : Int), (a : Int))] := by
  obtain ⟨A, ht, hA⟩ := tree_x
  have hl : (List.replicate a (97 : UInt8)).length = a := List.length_replicate
  have hat : ∀ k, 0 ≤ k → k < a → At (List.replicate a 97) A k := fun k _ h => at_run hA h
  have h1 : ∀ i j, Hit (List.replicate a 97) (.group 1 (.cat [.rep 0 (-1) (.byte A)])) i j ↔ i ≤ j ∧ ∀ k, i ≤ k → k < j → At (List.replicate a 97) A k := fun i j => hit_group.trans hit_star
  have h2 : ∀ i j, Hit (List.replicate a 97) (.group 2 (.cat [.rep 0 (-1) (.byte A)])) i j ↔ i ≤ j ∧ ∀ k, i ≤ k → k < j → At (List.replicate a 97) A k := fun i j => hit_group.trans hit_star
  have hbest : Best (List.replicate a 97) (.cat [.group 1 (.cat [.rep 0 (-1) (.byte A)]), .group 2 (.cat [.rep 0 (-1) (.byte A)])]) 0 0 a :=
    ⟨Nat.le_refl _, Nat.zero_le _, by omega, hitL_one.2 (hit_cat.2 (hitL_two.2 ⟨a, (h1 0 a).2 ⟨Nat.zero_le _, hat⟩, hitL_one.2 ((h2 a a).2 ⟨Nat.le_refl _, fun k h3 h4 => by omega⟩)⟩)), fun b' h3 h4 => by omega, fun a' h3 h4 => by omega⟩
  have w1 := gstar_wk (s := List.replicate a 97) (S := A) (n := 1) (i := 0) (j := a) (z := [(0, (a : Int)), (-1, -1), (-1, -1)]) (Nat.zero_le _) (by omega) hat (by simp)
  have w2 := gstar_wk (s := List.replicate a 97) (S := A) (n := 2) (i := a) (j := a) (z := [(0, (a : Int)), (0, (a : Int)), (-1, -1)]) (Nat.le_refl _) (by omega) (fun k h3 h4 => by omega) (by simp)
  have w := Wk.cat (Wk.cons (ks := []) (f := a + 6) ⟨by simp [costL, RE.cost, RE.thin, least0], by simp [costL, RE.cost, RE.thin, least0], Nat.zero_le _, Nat.le_refl _, hitL_one.2 ((h1 0 a).2 ⟨Nat.zero_le _, hat⟩), hitL_one.2 ((h2 a a).2 ⟨Nat.le_refl _, fun k h3 h4 => by omega⟩), fun p h3 h4 => by omega⟩ (w1.fuel (by omega)) ((Wk.last w2).fuel (by omega)))
  obtain ⟨m, e1, e2, e3, e4⟩ := set_best (g := 2) (i := 0) (by omega) (by decide +kernel) (by decide +kernel) (by decide +kernel) (by omega) ht (by simp [costL, RE.cost, RE.thin, least0]) hbest w (by omega)
  exact ⟨_, m, e1, e2, e3, e4⟩
abbrev G12 (A : BS) : RE := .group 1 (.cat [.rep 1 2 (.byte A)])
theorem left12_1 (S : BS) : leftM 1 2 (.byte S) 1 = .rep 0 1 (.byte S) := by simp [leftM, leftLo, leastM, RE.thin]; decide
theorem left12_2 (S : BS) : leftM 1 2 (.byte S) 2 = .rep 0 0 (.byte S) := by simp [leftM, leftLo, leastM, RE.thin]
theorem hit12 {s : List UInt8} {S : BS} {i j : Nat} : Hit s (.rep 1 2 (.byte S)) i j ↔ (j = i + 1 ∨ j = i + 2) ∧ ∀ k, i ≤ k → k < j → At s S k := by
  rw [hit_rep]
  constructor
  · rintro ⟨c, ⟨h1, h2⟩, h⟩
    obtain ⟨h3, h4⟩ := iter_byte.1 h
    simp [leastM, RE.thin] at h1 h2
    exact ⟨by omega, fun k h5 h6 => h4 k h5 (by omega)⟩
  · rintro ⟨h1, h2⟩
    refine ⟨j - i, ⟨?_, ?_⟩, iter_byte.2 ⟨by omega, fun k h3 h4 => h2 k h3 (by omega)⟩⟩
    · simp [leastM, RE.thin]; omega
    · simp [leastM, RE.thin]; omega
theorem hit01 {s : List UInt8} {S : BS} {i j : Nat} (h : j = i ∨ (j = i + 1 ∧ At s S i)) : Hit s (.rep 0 1 (.byte S)) i j := by
  rw [hit_rep]
  rcases h with rfl | ⟨rfl, h⟩
  · exact ⟨0, ⟨by simp [least0], by simp [least0, RE.thin]⟩, rfl⟩
  · exact ⟨1, ⟨by simp [least0], by simp [least0, RE.thin]⟩, iter_byte.2 ⟨rfl, fun k h1 h2 => by
      obtain rfl : k = i := by omega
      exact h⟩⟩
theorem hit00 {s : List UInt8} {S : BS} {i : Nat} : Hit s (.rep 0 0 (.byte S)) i i := by
  rw [hit_rep]
  exact ⟨0, ⟨by simp [least0], by simp [least0, RE.thin]⟩, rfl⟩
theorem g12_wk {s : List UInt8} {S : BS} {i e : Nat} {z : List Spn} (he : e = i + 1 ∨ e = i + 2) (hat : ∀ k, i ≤ k → k < e → At s S k) (hn : 1 < z.length) : ∃ f c, Wk s (.one (G12 S)) i e z (z.set 1 ((i : Int), (e : Int))) f c ∧ c ≤ 2 := by
  have l1 : leastM 1 (.byte S) = 1 := by simp [leastM, RE.thin]
  rcases he with rfl | rfl
  · have w := Wk.turn (s := s) (lo := 1) (hi := 2) (k := .byte S) (t := 0) (i := i) (e := i + 1) (j := i + 1) (z := z.set 1 ((i : Int), ((i + 1 : Nat) : Int))) (f := 1) (by omega) (by omega) ⟨by simp [costL, RE.cost], by rw [left12_1]; simp [costL, RE.cost, RE.thin, least0], by omega, by omega, hitL_one.2 (hit_byte.2 ⟨hat i (Nat.le_refl _) (by omega), rfl⟩), by rw [left12_1]; exact hitL_one.2 (hit01 (.inl rfl)), fun p h1 h2 h3 => by omega⟩ Wk.byte (Wk.end1 (by rw [l1]; omega))
    exact ⟨_, _, .group hn (.cat (.last (.rep w))), by omega⟩
  · have w2 := Wk.turn (s := s) (lo := 1) (hi := 2) (k := .byte S) (t := 1) (i := i + 1) (e := i + 2) (j := i + 2) (z := z.set 1 ((i : Int), ((i + 2 : Nat) : Int))) (f := 1) (by omega) (by omega) ⟨by simp [costL, RE.cost], by rw [left12_2]; simp [costL, RE.cost, RE.thin, least0], by omega, by omega, hitL_one.2 (hit_byte.2 ⟨hat (i + 1) (by omega) (by omega), rfl⟩), by rw [left12_2]; exact hitL_one.2 hit00, fun p h1 h2 h3 => by omega⟩ Wk.byte (Wk.end1 (by rw [l1]; omega))
    have w := Wk.turn (s := s) (lo := 1) (hi := 2) (k := .byte S) (t := 0) (i := i) (e := i + 1) (j := i + 2) (z := z.set 1 ((i : Int), ((i + 2 : Nat) : Int))) (by omega) (by omega) ⟨by simp [costL, RE.cost], by rw [left12_1]; simp [costL, RE.cost, RE.thin, least0], by omega, by omega, hitL_one.2 (hit_byte.2 ⟨hat i (Nat.le_refl _) (by omega), rfl⟩), by rw [left12_1]; exact hitL_one.2 (hit01 (.inr ⟨rfl, hat (i + 1) (by omega) (by omega)⟩)), fun p h1 h2 h3 => by
      have := (hit_byte.1 (hitL_one.1 h3.1)).2
      omega⟩ (Wk.byte.fuel (by omega)) w2
    exact ⟨_, _, .group hn (.cat (.last (.rep w))), by omega⟩
theorem hitG {s : List UInt8} {S : BS} {i j : Nat} : Hit s (G12 S) i j ↔ (j = i + 1 ∨ j = i + 2) ∧ ∀ k, i ≤ k → k < j → At s S k := hit_group.trans hit12
theorem thinG (S : BS) : (G12 S).thin = false := by simp [RE.thin, thinL]
theorem starG {s : List UInt8} {S : BS} : ∀ (d i j : Nat), j = i + d → (∀ k, i ≤ k → k < j → At s S k) → Iter (Hit s (G12 S)) d i j
  | 0, i, j, h, _ => by show i = j; omega
  | d + 1, i, j, h, hat => ⟨i + 1, hitG.2 ⟨.inl rfl, fun k h1 h2 => hat k h1 (by omega)⟩, starG d (i + 1) j (by omega) (fun k h1 h2 => hat k (by omega) h2)⟩
theorem costG (S : BS) : costL [G12 S] + 1 ≤ 131072 ∧ costL [RE.rep 0 (-1) (G12 S)] + 1 ≤ 131072 := by
  constructor <;> simp [costL, RE.cost, RE.thin, thinL, leastM]
theorem pair_wk {s : List UInt8} {S : BS} {n : Nat} (hat : ∀ k, k < n → At s S k) : ∀ (d t i : Nat) (z : List Spn), i + d = n → t + d ≤ 1000000 → 1 < z.length → ∃ f c, Wk s (.rep 0 (-1) (G12 S) t) i n z (if d = 0 then z else z.set 1 ((n : Int) - 2 + ((d % 2 : Nat) : Int), (n : Int))) f c ∧ c ≤ 3 * d
  | 0, t, i, z, h, _, _ => by
    have h : i = n := h
    subst h
    exact ⟨_, _, .end1 (by rw [least0]; omega), by omega⟩
  | 1, t, i, z, h, ht, hz => by
    subst h
    obtain ⟨f1, c1, w1, hc1⟩ := g12_wk (s := s) (S := S) (i := i) (e := i + 1) (z := z) (.inl rfl) (fun k _ h => hat k h) hz
    have w2 : Wk s (.rep 0 (-1) (G12 S) (t + 1)) (i + 1) (i + 1) (z.set 1 ((i : Int), ((i + 1 : Nat) : Int))) (z.set 1 ((i : Int), ((i + 1 : Nat) : Int))) 1 0 := .end1 (by rw [least0]; omega)
    have w := Wk.turn (lo := 0) (hi := -1) (by omega) (by omega) ⟨(costG S).1, by rw [left_inf]; exact (costG S).2, by omega, by omega, hitL_one.2 (hitG.2 ⟨.inl rfl, fun k _ h => hat k h⟩), by rw [left_inf]; exact hitL_one.2 (hit_rep.2 ⟨0, repN_inf (thinG S) _, rfl⟩), fun p h1 h2 h3 => by omega⟩ (w1.fuel (f' := f1 + 1) (by omega)) (w2.fuel (f' := f1 + 1) (by omega))
    refine ⟨f1 + 1 + 1, c1 + 0 + 1, ?_, ?_⟩
    · rw [if_neg (by omega)]
      have e : (((i + 1 : Nat) : Int) - 2 + ((1 % 2 : Nat) : Int)) = (i : Int) := by omega
      rw [e]
      exact w
    · omega
  | d + 2, t, i, z, h, ht, hz => by
    obtain ⟨f1, c1, w1, hc1⟩ := g12_wk (s := s) (S := S) (i := i) (e := i + 2) (z := z) (.inr rfl) (fun k _ h => hat k (by omega)) hz
    obtain ⟨f2, c2, w2, hc2⟩ := pair_wk hat d (t + 1) (i + 2) (z.set 1 ((i : Int), ((i + 2 : Nat) : Int))) (by omega) (by omega) (by simpa using hz)
    have w := Wk.turn (lo := 0) (hi := -1) (by omega) (by omega) ⟨(costG S).1, by rw [left_inf]; exact (costG S).2, by omega, by omega, hitL_one.2 (hitG.2 ⟨.inr rfl, fun k _ h => hat k (by omega)⟩), by rw [left_inf]; exact hitL_one.2 (hit_rep.2 ⟨d, repN_inf (thinG S) _, starG d _ _ (by omega) (fun k _ h => hat k h)⟩), fun p h1 h2 h3 => by
      have := (hitG.1 (hitL_one.1 h3.1)).1
      omega⟩ (w1.fuel (f' := f1 + f2) (by omega)) (w2.fuel (f' := f1 + f2) (by omega))
    refine ⟨f1 + f2 + 1, c1 + c2 + 1, ?_, ?_⟩
    · rw [if_neg (by omega)]
      have e : (if d = 0 then z.set 1 ((i : Int), ((i + 2 : Nat) : Int)) else (z.set 1 ((i : Int), ((i + 2 : Nat) : Int))).set 1 ((n : Int) - 2 + ((d % 2 : Nat) : Int), (n : Int))) = z.set 1 ((n : Int) - 2 + (((d + 2) % 2 : Nat) : Int), (n : Int)) := by
        split
        · rename_i h0
          subst h0
          congr 2 <;> omega
        · rw [List.set_set]
          congr 2
          omega
      rw [← e]
      exact w
    · omega
theorem form_y (a : Nat) (ha : a ≤ 1000) : ∃ F m, setM F [92, 40, 97, 92, 123, 49, 44, 50, 92, 125, 92, 41, 42] (List.replicate a 97) 0 = some m ∧ m.ok = true ∧ m.e = 0 ∧ m.spans = [(0, (a : Int)), if a = 0 then (-1, -1) else ((a : Int) - 2 + ((a % 2 : Nat) : Int), (a : Int))] := by
  obtain ⟨A, ht, hA⟩ := tree_y
  have hl : (List.replicate a (97 : UInt8)).length = a := List.length_replicate
  have hat : ∀ k, k < a → At (List.replicate a 97) A k := fun k h => at_run hA h
  have hbest : Best (List.replicate a 97) (.cat [.rep 0 (-1) (G12 A)]) 0 0 a :=
    ⟨Nat.le_refl _, Nat.zero_le _, by omega, hitL_one.2 (hit_cat.2 (hitL_one.2 (hit_rep.2 ⟨a, repN_inf (thinG A) _, starG a 0 a (by omega) (fun k _ h => hat k h)⟩))), fun b' h3 h4 => by omega, fun a' h3 h4 => by omega⟩
  obtain ⟨f, c, w, hc⟩ := pair_wk hat a 0 0 [(0, (a : Int)), (-1, -1)] (by omega) (by omega) (by simp)
  obtain ⟨m, e1, e2, e3, e4⟩ := set_best (g := 1) (i := 0) (by omega) (by decide +kernel) (by decide +kernel) (by decide +kernel) (by omega) ht (by simp [costL, RE.cost, RE.thin, thinL, leastM]) hbest (.cat (.last (.rep w))) (by omega)
  refine ⟨_, m, e1, e2, e3, e4.trans ?_⟩
  split <;> rfl
theorem form_z (a b : Nat) (ha : a + b ≤ 1000) : ∃ F m, setM F [92, 40, 97, 42, 92, 41, 92, 40, 97, 98, 92, 41, 42, 92, 40, 98, 42, 92, 41] (List.replicate a 97 ++ List.replicate b 98) 0 = some m ∧ m.ok = true ∧ m.e = 0 ∧ m.spans = [(0, ((a + b : Nat) : Int)), (0, (a : Int)), (-1, -1), ((a : Int), ((a + b : Nat) : Int))] := by
  obtain ⟨A, B, ht, hA, hA2, hB⟩ := tree_z
  obtain ⟨s, hs⟩ : ∃ s, s = List.replicate a (97 : UInt8) ++ List.replicate b 98 := ⟨_, rfl⟩
  have hl : s.length = a + b := by rw [hs]; simp
  have atA : ∀ k, k < a → At s A k := fun k h => ⟨by omega, by
    rw [hs, List.getD_eq_getElem?_getD, List.getElem?_append_left (by simpa using h), List.getElem?_replicate, if_pos h]; exact hA⟩
  have get98 : ∀ k, a ≤ k → k < a + b → s.getD k 0 = 98 := fun k h1 h2 => by
    rw [hs, List.getD_eq_getElem?_getD, List.getElem?_append_right (by simpa using h1), List.getElem?_replicate, if_pos (by simp; omega)]; rfl
  have atB : ∀ k, a ≤ k → k < a + b → At s B k := fun k h1 h2 => ⟨by omega, by rw [get98 k h1 h2]; exact hB⟩
  have noA : ¬ At s A a := fun ⟨h1, h2⟩ => by
    rw [get98 a (Nat.le_refl _) (by omega)] at h2
    exact absurd h2 (by rw [show (98 : UInt8).toNat = 98 from rfl, hA2]; simp)
  rw [← hs]
  have h1 : ∀ i j, Hit s (.group 1 (.cat [.rep 0 (-1) (.byte A)])) i j ↔ i ≤ j ∧ ∀ k, i ≤ k → k < j → At s A k := fun i j => hit_group.trans hit_star
  have h3 : ∀ i j, Hit s (.group 3 (.cat [.rep 0 (-1) (.byte B)])) i j ↔ i ≤ j ∧ ∀ k, i ≤ k → k < j → At s B k := fun i j => hit_group.trans hit_star
  have h2 : ∀ j, Hit s (.rep 0 (-1) (.group 2 (.cat [.byte A, .byte B]))) a j ↔ j = a := fun j => by
    rw [hit_rep]
    constructor
    · rintro ⟨c, _, h⟩
      cases c with
      | zero => exact (show a = j from h).symm
      | succ c =>
        obtain ⟨m, h4, _⟩ := h
        rw [Hit, hit_cat, hitL_two] at h4
        obtain ⟨m', h5, _⟩ := h4
        exact absurd (hit_byte.1 h5).1 noA
    · rintro rfl
      exact ⟨0, repN_inf (by simp [RE.thin, thinL]) _, rfl⟩
  have ha0 : Hit s (.group 1 (.cat [.rep 0 (-1) (.byte A)])) 0 a := (h1 0 a).2 ⟨Nat.zero_le _, fun k _ h => atA k h⟩
  have hb0 : Hit s (.group 3 (.cat [.rep 0 (-1) (.byte B)])) a (a + b) := (h3 a (a + b)).2 ⟨Nat.le_add_right _ _, atB⟩
  have hr0 : HitL s [.rep 0 (-1) (.group 2 (.cat [.byte A, .byte B])), .group 3 (.cat [.rep 0 (-1) (.byte B)])] a (a + b) := hitL_two.2 ⟨a, (h2 a).2 rfl, hitL_one.2 hb0⟩
  have hbest : Best s (.cat [.group 1 (.cat [.rep 0 (-1) (.byte A)]), .rep 0 (-1) (.group 2 (.cat [.byte A, .byte B])), .group 3 (.cat [.rep 0 (-1) (.byte B)])]) 0 0 (a + b) :=
    ⟨Nat.le_refl _, Nat.zero_le _, by omega, hitL_one.2 (hit_cat.2 (hitL_two.2 ⟨a, ha0, hr0⟩)), fun b' h3 h4 => by omega, fun a' h3 h4 => by omega⟩
  have f1 : First s [.group 1 (.cat [.rep 0 (-1) (.byte A)])] [.rep 0 (-1) (.group 2 (.cat [.byte A, .byte B])), .group 3 (.cat [.rep 0 (-1) (.byte B)])] 0 a (a + b) :=
    ⟨by simp [costL, RE.cost, RE.thin, least0], by simp [costL, RE.cost, RE.thin, thinL, least0], Nat.zero_le _, by omega, hitL_one.2 ha0, hr0, fun p h4 _ h6 => noA (((h1 0 p).1 (hitL_one.1 h6.1)).2 a (Nat.zero_le _) h4)⟩
  have f2 : First s [.rep 0 (-1) (.group 2 (.cat [.byte A, .byte B]))] [.group 3 (.cat [.rep 0 (-1) (.byte B)])] a a (a + b) :=
    ⟨by simp [costL, RE.cost, RE.thin, thinL, least0], by simp [costL, RE.cost, RE.thin, least0], Nat.le_refl _, by omega, hitL_one.2 ((h2 a).2 rfl), hitL_one.2 hb0, fun p h4 _ h6 => by
      have := (h2 p).1 (hitL_one.1 h6.1)
      omega⟩
  have w1 := gstar_wk (s := s) (S := A) (n := 1) (i := 0) (j := a) (z := [(0, ((a + b : Nat) : Int)), (-1, -1), (-1, -1), (-1, -1)]) (Nat.zero_le _) (by omega) (fun k _ h => atA k h) (by simp)
  have w2 : Wk s (.one (.rep 0 (-1) (.group 2 (.cat [.byte A, .byte B])))) a a [(0, ((a + b : Nat) : Int)), (0, (a : Int)), (-1, -1), (-1, -1)] [(0, ((a + b : Nat) : Int)), (0, (a : Int)), (-1, -1), (-1, -1)] 2 0 := .rep (.end1 (by rw [least0]; omega))
  have w3 := gstar_wk (s := s) (S := B) (n := 3) (i := a) (j := a + b) (z := [(0, ((a + b : Nat) : Int)), (0, (a : Int)), (-1, -1), (-1, -1)]) (by omega) (by omega) atB (by simp)
  have w23 := Wk.cons (ks := []) (f := a + b + 10) f2 (w2.fuel (by omega)) ((Wk.last w3).fuel (by omega))
  have w := Wk.cat (Wk.cons (f := a + b + 11) f1 (w1.fuel (by omega)) w23)
  obtain ⟨m, e1, e2, e3, e4⟩ := set_best (g := 3) (i := 0) (by omega) (by decide +kernel) (by decide +kernel) (by decide +kernel) (by omega) ht (by simp [costL, RE.cost, RE.thin, thinL, least0]) hbest w (by omega)
  exact ⟨_, m, e1, e2, e3, e4⟩
end Go.Proofs.Ytblpgpgbnlhjlaa
