/- Layer 8 (setmatch) in plain Lean; none: the walk would leave what is looked at here. Layer 8 (setmatch): the walks of walk, cat, repeat. Layer 8 (setmatch): find, Match. -/
import Derived.Test.YtblpgpgbnlhjlaaFe
import Derived.Test.YtblpgpgbnlhjlaaMa
namespace Go.Proofs.Ytblpgpgbnlhjlaa
open Go Go.RowKit Sl
set_option maxRecDepth 100000
set_option maxHeartbeats 8000000
set_option linter.unusedVariables false
set_option linter.unusedSimpArgs false
attribute [local irreducible] ES EL PX wps

abbrev Spn := Int × Int
structure SS where
  spans : List Spn
  steps : Nat
/-- What is walked: a tree, trees behind one another, a repeat from its times-th turn on. -/
inductive WT where
  | one (r : RE)
  | cat (ks : List RE)
  | rep (lo : Nat) (hi : Int) (k : RE) (times : Nat)
/-- The first of the splits, and the count behind it. -/
def cutS (s : List UInt8) (hd tl : List RE) (i j st : Nat) : Option (Nat × Nat) :=
  if st ≤ 576460752303423488 ∧ costL hd + 1 ≤ 131072 ∧ costL tl + 1 ≤ 131072 ∧ i ≤ j ∧ j ≤ s.length then
    match splL s hd tl i j st with
    | [] => none
    | p :: _ => some (p, (splS s hd tl i j st).steps)
  else none
def walkM (s : List UInt8) : Nat → WT → Nat → Nat → SS → Option SS
  | 0, _, _, _, _ => none
  | f + 1, .one (.group n k), i, j, z => if n < z.spans.length then walkM s f (.one k) i j { z with spans := z.spans.set n ((i : Int), (j : Int)) } else none
  | f + 1, .one (.cat ks), i, j, z => walkM s f (.cat ks) i j z
  | f + 1, .one (.rep lo hi k), i, j, z => walkM s f (.rep lo hi k 0) i j z
  | _ + 1, .one _, _, _, z => some z
  | _ + 1, .cat [], _, _, z => some z
  | f + 1, .cat [k], i, j, z => walkM s f (.one k) i j z
  | f + 1, .cat (k :: k' :: ks), i, j, z =>
    match cutS s [k] (k' :: ks) i j z.steps with
    | none => none
    | some (e, st) =>
      match walkM s f (.one k) i e { z with steps := st } with
      | none => none
      | some z' => walkM s f (.cat (k' :: ks)) e j z'
  | f + 1, .rep lo hi k t, i, j, z =>
    if i = j then (if t < leastM lo k then walkM s f (.one k) j j z else some z)
    else if 1000000 < t then none
    else
      match cutS s [k] [leftM lo hi k (t + 1)] i j z.steps with
      | none => none
      | some (e, st) =>
        match walkM s f (.one k) i e { z with steps := st } with
        | none => none
        | some z' => walkM s f (.rep lo hi k (t + 1)) e j z'
def lastT (m : List Bool) (i n : Nat) : Option Nat := (dnL i n).find? fun p => m.getD p false
/-- The first start with a match, and its last end; n: the starts that are left. -/
def findM (s : List UInt8) (A : AM × Nat) : Nat → Nat → Nat → Option (Option (Nat × Nat) × Nat)
  | 0, _, st => some (none, st)
  | n + 1, i, st =>
    if st ≤ 576460752303423488 then
      match lastT (endsM A s i st).marks i (s.length + 1 - i) with
      | some j => some (some (i, j), (endsM A s i st).steps)
      | none => findM s A n (i + 1) (endsM A s i st).steps
    else none
structure MR where
  spans : List Spn
  ok : Bool
  steps : Nat
  e : Int
def setGo (F : Nat) (s : List UInt8) (r : RE) (grp : Nat) (i : Nat) : Option MR :=
  if costL [r] + 1 ≤ 131072 then
    match findM s (makeM [r]) (s.length + 1 - i) i 0 with
    | none => none
    | some (none, st) => some ⟨[], false, st, 0⟩
    | some (some (a, b), st) =>
      match walkM s F (.one r) a b ⟨(List.replicate (grp + 1) (-1, -1)).set 0 ((a : Int), (b : Int)), st⟩ with
      | none => none
      | some z => some ⟨z.spans, true, z.steps, 0⟩
  else none
def setM (F : Nat) (t s : List UInt8) (a : Int) : Option MR :=
  if (parseM t).e ≠ 0 then some ⟨[], false, 0, (parseM t).e⟩
  else if (measM (parseM t).tree).back = true then some ⟨[], false, 0, 11⟩
  else if 1024 < s.length then some ⟨[], false, 0, 15⟩
  else if a < 0 ∨ (s.length : Int) < a then some ⟨[], false, 0, 1⟩
  else if (measM (parseM t).tree).grp < 0 ∨ 9 < (measM (parseM t).tree).grp then none
  else setGo F s (parseM t).tree (measM (parseM t).tree).grp.toNat a.toNat
theorem set_awake : (setM 60 [92, 40, 92, 40, 97, 92, 41, 42, 98, 92, 41, 42] [97, 97, 98, 98] 0).map (fun m => (m.spans, m.ok, m.e, decide (4 ≤ m.steps))) = some ([(0, 4), (3, 4), (1, 2)], true, 0, true) := by decide +kernel
end Go.Proofs.Ytblpgpgbnlhjlaa
namespace Go.Proofs.Ytblpgpgbnlhjlaa
open Go Go.RowKit Sl
set_option maxRecDepth 100000
set_option maxHeartbeats 8000000
set_option linter.unusedVariables false
set_option linter.unusedSimpArgs false
attribute [local irreducible] ES EL PX wps

def spC (p : Spn) : List Value := [Iv p.1, Iv p.2]
def spsC (l : List Spn) : List Value := l.flatMap spC
theorem spsC_len : ∀ l : List Spn, (spsC l).length = l.length * 2
  | [] => rfl
  | p :: l => by
    have := spsC_len l
    simp only [spsC, List.flatMap_cons, List.length_append, List.length_cons] at this ⊢
    rw [this]; simp only [spC, List.length_cons, List.length_nil]; omega
theorem spsC_app (l l' : List Spn) : spsC (l ++ l') = spsC l ++ spsC l' := by simp [spsC]
theorem spsC_set (l : List Spn) (n : Nat) (hn : n < l.length) (p : Spn) : putAt (spsC l) (0 + n * 2) (spC p) = spsC (l.set n p) := by
  have e : l = l.take n ++ l[n] :: l.drop (n + 1) := by rw [List.getElem_cons_drop, List.take_append_drop]
  have e2 : l.set n p = l.take n ++ p :: l.drop (n + 1) := by
    rw [List.set_eq_take_append_cons_drop, if_pos hn]
  have hl : (spsC (l.take n)).length = n * 2 := by rw [spsC_len, List.length_take, Nat.min_eq_left (by omega)]
  have e3 : spsC l = spsC (l.take n) ++ (spC l[n] ++ spsC (l.drop (n + 1))) := by
    conv => lhs; rw [e]
    rw [spsC_app]; rfl
  rw [e2, e3, Nat.zero_add]
  unfold putAt
  rw [← hl, List.take_left, List.drop_append, List.drop_of_length_le (by simp [spC]), List.nil_append]
  rw [spsC_app]
  have e4 : (spsC (l.take n)).length + (spC p).length - (spsC (l.take n)).length = (spC l[n]).length := by simp [spC]
  rw [e4, List.drop_left]
  show _ = spsC (l.take n) ++ (spC p ++ spsC (l.drop (n + 1)))
  rw [List.append_assoc]
abbrev PRow (sp : Option Addr) (cap : Nat) (l : List Spn) : HA := HA.row (.slice sp l.length cap) 33 2 l.length (spsC l)
abbrev SH (gs : Nat) (s : List UInt8) (sp : Option Addr) (cap : Nat) (z : SS) : List HA := [WB gs s z.steps [.slice sp z.spans.length cap] 100, PRow sp cap z.spans]
theorem kind_4 {r : RE} (h : r.kind = 4) : ∃ n k, r = .group n k := by cases r <;> first | (simp [RE.kind] at h; done) | exact ⟨_, _, rfl⟩
theorem kind_0 {r : RE} (h : r.kind = 0) : ∃ ks, r = .cat ks := by cases r <;> first | (simp [RE.kind] at h; done) | exact ⟨_, rfl⟩
/-- Splits where there is one. -/
theorem splits_c1 (gs : Nat) (s : List UInt8) (hs : s.length ≤ 1024) (st0 : Nat) (rest : List Value) (ty : TypeId) (hd tl : List RE) (hdf : ∀ k ∈ hd, k.fine) (tlf : ∀ k ∈ tl, k.fine) (hdl : hd.length ≤ 1024) (tll : tl.length ≤ 1024)
    (n1 n2 : Nat) (hn1 : n1 = hd.length) (hn2 : n2 = tl.length) (had tad : Option Addr) (hcap tcap : Nat) (i j e st : Nat) (hc : cutS s hd tl i j st0 = some (e, st)) (w0 : World) (B : Nat) (T : HA) (hh : RowRd w0 B T had hd) (ht : RowRd w0 B T tad tl) :
    ∃ l, e ≤ s.length ∧ MutAt Try.prog 92 #[Pv gs 0, .slice had n1 hcap, .slice tad n2 tcap, Iv (i : Nat), Iv (j : Nat)] [WB gs s st0 rest ty, T] (fun z : Nat × Nat => .slice (some ⟨z.1, 0, none⟩) (l + 1) z.2)
      (fun z => [HA.row (.slice (some ⟨z.1, 0, none⟩) (l + 1) z.2) 3 1 (l + 1) (Iv (e : Nat) :: (splL s hd tl i j st0).tail.map fun z : Nat => Iv (z : Nat)), WB gs s st rest ty, T]) w0 B := by
  subst hn1 hn2
  unfold cutS at hc
  split at hc
  · rename_i hcond
    obtain ⟨c1, c2, c3, c4, c5⟩ := hcond
    have hsp := splits_c gs s hs st0 c1 rest ty hd tl hdf tlf hdl tll c2 c3 had tad hcap tcap i j c4 c5 w0 B T hh ht
    cases hL : splL s hd tl i j st0 with
    | nil => rw [hL] at hc; cases hc
    | cons p l =>
      rw [hL] at hc hsp
      simp only [Option.some.injEq, Prod.mk.injEq] at hc
      obtain ⟨rfl, rfl⟩ := hc
      refine ⟨l.length, ?_, fun R w h => (hsp R w h).mono fun en w' ⟨x, he, hs'⟩ => ?_⟩
      · have hm : p ∈ splL s hd tl i j st0 := by rw [hL]; simp
        have hm2 : p ∈ dnL i (j + 1 - i) := (List.mem_filter.1 hm).1
        have : ∀ n, p ∈ dnL i n → p < i + n := fun n => by
          induction n with
          | zero => intro h; cases h
          | succ n ih =>
            intro h
            rcases List.mem_cons.1 h with h | h
            · omega
            · have := ih h; omega
        have := this _ hm2
        omega
      · obtain ⟨xa, xc⟩ := x
        obtain ⟨g, rfl⟩ := (row_form (hs'.all (IR xa xc (p :: l)) (by simp))).2.2.2.2 (by simp)
        exact ⟨(g, xc), he, hs'⟩
  · cases hc
theorem MutAt.noEmp {X : Type} {P : Program} {f : FuncId} {argv : Array Value} {A : HA} {val : X → Value} {HX : X → List HA} {w0 : World} {B : Nat} (h : MutAt P f argv [A, HA.emp] val (fun x => HX x ++ [HA.emp]) w0 B) : MutAt P f argv [A] val HX w0 B := fun R w hs =>
  (h R w (Sat.perm (H := HA.emp :: A :: R) (Sat.emp hs) (.swap ..))).mono fun en w' ⟨x, he, hs'⟩ => ⟨x, he, by
    have k1 : Sat w0 B (HX x ++ (HA.emp :: R)) w' := by
      have := hs'
      rw [List.append_assoc] at this
      exact this
    exact Sat.dropMid k1⟩
/-- Trees in old memory, from one of them on. -/
theorem kids_drop {w0 : World} {B : Nat} {ks : List RE} {kg ko : Nat} (h : KidsRd w0 B ks (some ⟨kg, ko, none⟩)) (i : Nat) (l : List RE) (hl : ∀ j k, l[j]? = some k → ks[i + j]? = some k) (T : HA) : RowRd w0 B T (some ⟨kg, ko + i * 9, none⟩) l := fun w H hs j k hj => by
  obtain ⟨g, o, e, hn⟩ := h (i + j) k (hl j k hj)
  cases e
  refine ⟨kg, ko + i * 9, rfl, ?_⟩
  have := NodeRd.sat hn hs
  rw [Nat.add_mul, ← Nat.add_assoc] at this
  exact this
theorem left_fine {lo : Nat} {hi : Int} {k : RE} (h : (RE.rep lo hi k).fine) (t : Nat) : (leftM lo hi k t).fine := by
  obtain ⟨h1, h2, h3, h4, h5⟩ := h
  have hl := least_le lo k
  unfold leftM leftLo
  by_cases hp : 0 ≤ hi
  · have := h4 hp
    rw [if_pos hp]
    exact ⟨by omega, by omega, by omega, fun _ => by omega, h5⟩
  · rw [if_neg hp]
    exact ⟨by omega, by omega, by omega, fun h => by omega, h5⟩
/-- A tree in a row of its own, its kids in old memory. -/
theorem rowRd_one {w0 : World} {B b : Nat} {r : RE} {ad : Option Addr} {cap : Nat} {cs0 : List Value} (h2 : Forest (· < B) w0 r.kids cs0) (h3 : Reads (· < B) w0 ad cs0) (h4 : r.kids.length ≤ cap) :
    RowRd w0 B (HA.row (.slice (some ⟨b, 0, none⟩) 1 1) 82 9 1 (reCells r (.slice ad r.kids.length cap))) (some ⟨b, 0, none⟩) [r] := fun w H hs i k' hi => by
  have hi0 : i = 0 := by
    rcases i with _ | i
    · rfl
    · simp at hi
  subst hi0
  simp only [List.getElem?_cons_zero, Option.some.injEq] at hi
  subst hi
  refine ⟨b, 0, rfl, ?_⟩
  have hrow : w.ownsRow 0 82 9 (.slice (some ⟨b, 0, none⟩) 1 1) 1 (reCells r (.slice ad r.kids.length cap)) := hs.head
  have hlt : b < w.heap.size := (hs.lo b (by rw [fps_cons]; simp [HA.row, Value.ownBlock])).2
  have hB : ∀ g, g < B → w.heap[g]? = w0.heap[g]? := fun g hg => hs.below.block g hg
  refine ⟨ad, cap, cs0, fun _ => ⟨b, 0, rfl, hlt, ?_⟩, ?_, ?_, h4⟩
  · exact row_reads hrow
  · exact (h2.loc (fun g hg => hB g hg)).mono (fun g hg => Nat.lt_of_lt_of_le hg hs.base)
  · exact (h3.loc (fun g hg => hB g hg)).mono (fun g hg => Nat.lt_of_lt_of_le hg hs.base)
theorem rowRd_left {w0 : World} {B b : Nat} {lo : Nat} {hi : Int} {k : RE} {ad : Option Addr} {cap t : Nat} {cs0 : List Value} (h2 : Forest (· < B) w0 [k] cs0) (h3 : Reads (· < B) w0 ad cs0) (h4 : 1 ≤ cap) :
    RowRd w0 B (HA.row (.slice (some ⟨b, 0, none⟩) 1 1) 82 9 1 (reCells (leftM lo hi k t) (.slice ad 1 cap))) (some ⟨b, 0, none⟩) [leftM lo hi k t] := rowRd_one (r := leftM lo hi k t) h2 h3 h4
section walks
variable (w0 : World) (B gs : Nat) (s : List UInt8) (sp : Option Addr) (cap : Nat)
abbrev WkA (f : Nat) : Prop := ∀ r : RE, r.fine → ∀ g off, NodeRd w0 B g off r → ∀ (i j : Nat) (z z' : SS), i ≤ s.length → j ≤ s.length → walkM s f (.one r) i j z = some z' →
  MutAt Try.prog 45 #[Pv gs 0, Pv g off, Iv (i : Nat), Iv (j : Nat)] (SH gs s sp cap z) (fun _ : Unit => .tuple #[]) (fun _ => SH gs s sp cap z') w0 B
abbrev WkB (f : Nat) : Prop := ∀ ks : List RE, (∀ k ∈ ks, k.fine) → ks.length ≤ 1024 → ∀ (ad : Option Addr) (kcap : Nat), KidsRd w0 B ks ad → ks.length ≤ kcap → ∀ (i j : Nat) (z z' : SS), i ≤ s.length → j ≤ s.length → walkM s f (.cat ks) i j z = some z' →
  MutAt Try.prog 67 #[Pv gs 0, .slice ad ks.length kcap, Iv (i : Nat), Iv (j : Nat)] (SH gs s sp cap z) (fun _ : Unit => .tuple #[]) (fun _ => SH gs s sp cap z') w0 B
abbrev WkC (f : Nat) : Prop := ∀ (lo : Nat) (hi : Int) (k : RE), (RE.rep lo hi k).fine → ∀ g off, NodeRd w0 B g off (.rep lo hi k) → ∀ (i j : Nat) (z z' : SS), i ≤ s.length → j ≤ s.length → walkM s f (.rep lo hi k 0) i j z = some z' →
  MutAt Try.prog 68 #[Pv gs 0, Pv g off, Iv (i : Nat), Iv (j : Nat)] (SH gs s sp cap z) (fun _ : Unit => .tuple #[]) (fun _ => SH gs s sp cap z') w0 B
variable {w0 B gs s sp cap}
theorem setWalk_A {N : Nat} (hA : ∀ f, f < N → WkA w0 B gs s sp cap f) (hB : ∀ f, f < N → WkB w0 B gs s sp cap f) (hC : ∀ f, f < N → WkC w0 B gs s sp cap f) : WkA w0 B gs s sp cap N := by
  intro r hf g off hn i j z z' hi hj hz R w h
  replace h : Sat w0 B (WB gs s z.steps [.slice sp z.spans.length cap] 100 :: PRow sp cap z.spans :: R) w := h
  obtain ⟨ad, kcap, hrd, hkids, hkc⟩ := hn.kids2
  have hrd := hrd.rd
  have hkl := fine_len hf
  obtain ⟨n, rfl⟩ : ∃ n, N = n + 1 := by
    cases N with
    | zero => rw [walkM] at hz; cases hz
    | succ n => exact ⟨n, rfl⟩
  refine calls_of_ES TB Try.func45 rfl _ Try.ntmps45 rfl h ?_
  refine .go ?_; repeat constructor
  refine EL.move rfl rfl rfl ?_
  refine EL.nilCheck rfl rfl rfl ?_
  refine EL.fieldAddr rfl rfl rfl rfl rfl rfl rfl rfl ?_
  refine EL.loadOld rfl rfl rfl rfl rfl hrd rfl ?_
  repeat (first | apply EL.nil | apply ES.seq | apply ES.skip)
  refine .go ?_; repeat constructor
  refine EL.eqlI rfl rfl rfl rfl ?_
  refine EL.assign rfl rfl rfl ?_
  refine .go ?_; repeat constructor
  refine ES.condD rfl (fun h4 => ?_) (fun h4 => ?_)
  · obtain ⟨gn, k, rfl⟩ := kind_4 (show r.kind = 4 by omega)
    rw [walkM] at hz
    split at hz
    · rename_i hlt
      obtain ⟨g', o', rfl, hkn⟩ := hkids 0 k rfl
      have hrec := hA n (by omega) k hf.2 g' (o' + 0 * 9) hkn i j _ _ hi hj hz
      have hsl := spsC_len z.spans
      obtain ⟨spg, rfl⟩ := (row_form (h.all (PRow sp cap z.spans) (by simp))).2.2.2.2 (by omega)
      refine .g0 ?_; repeat constructor
      refine ES.draw (X := Unit) (fun _ => [(0, Pv gs 0), (1, Pv g off), (2, Iv (i : Nat)), (3, Iv (j : Nat))]) (fun _ => WB gs s z.steps [.slice (some ⟨spg, 0, none⟩) z.spans.length cap] 100 :: HA.row (.slice (some ⟨spg, 0, none⟩) z.spans.length cap) 33 2 z.spans.length (spsC (z.spans.set gn ((i : Int), (j : Int)))) :: R)
        (WB gs s z.steps [.slice (some ⟨spg, 0, none⟩) z.spans.length cap] 100 :: []) mixed (.i (by repeat constructor)) ?_ (fun _ => ?_)
      · refine ED.take 0 rfl (by decide +kernel) CutX.no_panic (by decide +kernel) rfl rfl rfl (RV.move rfl) ?_
        refine ED.take 1 rfl (by decide +kernel) CutX.no_panic (by decide +kernel) rfl rfl rfl (RV.nilCheck rfl) ?_
        refine ED.take 2 rfl (by decide +kernel) CutX.no_panic (by decide +kernel) rfl rfl rfl (RV.fieldAddr rfl rfl rfl rfl rfl rfl) ?_
        refine ED.take 3 rfl (by decide +kernel) CutX.no_panic (by decide +kernel) rfl rfl rfl (RV.loadB rfl rfl rfl (by repeat constructor) rfl) ?_
        refine ED.take 4 rfl (by decide +kernel) CutX.no_panic (by decide +kernel) rfl rfl rfl (RV.move rfl) ?_
        refine ED.take 5 rfl (by decide +kernel) CutX.no_panic (by decide +kernel) rfl rfl rfl (RV.nilCheck rfl) ?_
        refine ED.take 6 rfl (by decide +kernel) CutX.no_panic (by decide +kernel) rfl rfl rfl (RV.fieldAddr rfl rfl rfl rfl rfl rfl) ?_
        refine ED.take 7 rfl (by decide +kernel) CutX.no_panic (by decide +kernel) rfl rfl rfl (RV.loadOld rfl rfl rfl hrd rfl) ?_
        refine ED.take 8 rfl (by decide +kernel) CutX.no_panic (by decide +kernel) rfl rfl rfl (RV.move rfl) ?_
        refine ED.take 9 rfl (by decide +kernel) CutX.no_panic (by decide +kernel) rfl rfl rfl (RV.move rfl) ?_
        refine ED.take 10 rfl (by decide +kernel) CutX.no_panic (by decide +kernel) rfl rfl rfl (RV.buildS #[Iv (i : Nat), Iv (j : Nat)] rfl rfl rfl rfl (by kernel_rfl)) ?_
        refine ED.take 11 rfl (by decide +kernel) CutX.no_panic (by decide +kernel) rfl rfl rfl (RV.indexAddrL (i := gn) rfl rfl rfl rfl rfl hlt) ?_
        refine ED.last 12 rfl (by decide +kernel) (by decide +kernel) (by decide +kernel) ?_
        (refine EL.storeRA (vs := spC ((i : Int), (j : Int))) rfl rfl rfl rfl rfl (by repeat constructor) (by rw [hsl]; show 0 + gn * 2 + 2 ≤ _; omega) (all1 rfl) ?_; refine EL.rowEq (v := .slice (some ⟨spg, 0, none⟩) z.spans.length cap) (by repeat constructor) (spsC_set z.spans gn hlt ((i : Int), (j : Int))) ?_)
        refine EL.endQ ?_
        exact PX.cutX () ⟨rfl, rfl, rfl, rfl, trivial⟩ (.i (by repeat constructor))
      refine ES.imp (H' := SH gs s (some ⟨spg, 0, none⟩) cap { z with spans := z.spans.set gn ((i : Int), (j : Int)) } ++ R) (fun w hs => ?_) ?_
      · unfold SH PRow
        dsimp only
        rw [List.length_set]
        exact hs.ent (.i (by repeat constructor))
      refine .go ?_; repeat constructor
      refine EL.move rfl rfl rfl ?_
      refine EL.move rfl rfl rfl ?_
      refine EL.nilCheck rfl rfl rfl ?_
      refine EL.fieldAddr rfl rfl rfl rfl rfl rfl rfl rfl ?_
      refine EL.loadOld rfl rfl rfl rfl rfl hrd rfl ?_
      refine EL.indexAddrL (i := 0) rfl rfl rfl rfl rfl rfl rfl (by simp [RE.kids]) ?_
      refine EL.move rfl rfl rfl ?_
      refine EL.move rfl rfl rfl ?_
      (refine EL.callMw rfl rfl rfl ent45 rfl hrec (by repeat constructor) ?_; intro x)
      refine .go ?_; repeat constructor
      exact PX.end rfl Try.results45 .nil (fun w hs => ⟨(), rfl, hs.ent (.i (by repeat constructor))⟩)
    · cases hz
  refine .go ?_; repeat constructor
  refine EL.eqlI rfl rfl rfl rfl ?_
  refine EL.assign rfl rfl rfl ?_
  refine .go ?_; repeat constructor
  refine ES.condD rfl (fun h0 => ?_) (fun h0 => ?_)
  · obtain ⟨ks, rfl⟩ := kind_0 (show r.kind = 0 by omega)
    rw [walkM] at hz
    have hrec := hB n (by omega) ks ((fineL_iff _).1 hf.2) hf.1 ad kcap (fun i k hi => hkids i k hi) hkc i j _ _ hi hj hz
    refine .go ?_; repeat constructor
    refine EL.move rfl rfl rfl ?_
    refine EL.move rfl rfl rfl ?_
    refine EL.nilCheck rfl rfl rfl ?_
    refine EL.fieldAddr rfl rfl rfl rfl rfl rfl rfl rfl ?_
    refine EL.loadOld rfl rfl rfl rfl rfl hrd rfl ?_
    refine EL.move rfl rfl rfl ?_
    refine EL.move rfl rfl rfl ?_
    (refine EL.callMw rfl rfl rfl ent67 rfl hrec (by repeat constructor) ?_; intro x)
    refine .go ?_; repeat constructor
    exact PX.end rfl Try.results45 .nil (fun w hs => ⟨(), rfl, hs.ent (.i (by repeat constructor))⟩)
  refine .go ?_; repeat constructor
  refine EL.eqlI rfl rfl rfl rfl ?_
  refine EL.assign rfl rfl rfl ?_
  refine .go ?_; repeat constructor
  refine ES.condD rfl (fun h5 => ?_) (fun h5 => ?_)
  · obtain ⟨lo, hi', k, rfl⟩ := kind_5 (show r.kind = 5 by omega)
    rw [walkM] at hz
    have hrec := hC n (by omega) lo hi' k hf g off hn i j _ _ hi hj hz
    refine .go ?_; repeat constructor
    refine EL.move rfl rfl rfl ?_
    refine EL.move rfl rfl rfl ?_
    refine EL.move rfl rfl rfl ?_
    refine EL.move rfl rfl rfl ?_
    (refine EL.callMw rfl rfl rfl ent68 rfl hrec (by repeat constructor) ?_; intro x)
    refine .go ?_; repeat constructor
    exact PX.end rfl Try.results45 .nil (fun w hs => ⟨(), rfl, hs.ent (.i (by repeat constructor))⟩)
  · have hz2 : z = z' := by
      cases r <;> first | (simp [RE.kind] at h4 h0 h5; done) | (simp only [walkM, Option.some.injEq] at hz; exact hz)
    subst hz2
    refine .go ?_; repeat constructor
    exact PX.end rfl Try.results45 .nil (fun w hs => ⟨(), rfl, hs.ent (.i (by repeat constructor))⟩)
structure WSt8 where
  k : Nat
  f : Nat
  i : Nat
  z : SS
theorem setWalk_B {N : Nat} (hs : s.length ≤ 1024) (hA : ∀ f, f < N → WkA w0 B gs s sp cap f) : WkB w0 B gs s sp cap N := by
  intro ks hf hkl ad kcap hkids hkc i j z z' hi hj hz R w h
  replace h : Sat w0 B (WB gs s z.steps [.slice sp z.spans.length cap] 100 :: PRow sp cap z.spans :: R) w := h
  refine calls_of_ES TB Try.func67 rfl _ Try.ntmps67 rfl h ?_
  refine .go ?_; repeat constructor
  refine EL.move rfl rfl rfl ?_
  refine EL.lenL rfl rfl rfl rfl rfl ?_
  refine EL.move rfl rfl rfl ?_
  refine .go ?_; repeat constructor
  refine ES.loop (σ := WSt8) (fun y => y.k ≤ ks.length ∧ y.f ≤ N ∧ y.i ≤ s.length ∧ ((y.k < ks.length ∧ walkM s y.f (.cat (ks.drop y.k)) y.i j y.z = some z') ∨ (y.k = ks.length ∧ y.z = z')))
    (fun y => [(0, Pv gs 0), (1, .slice ad ks.length kcap), (2, Iv (y.i : Nat)), (3, Iv (j : Nat)), (11, Iv (ks.length : Nat)), (12, Iv (y.k : Nat))])
    (fun y => WB gs s y.z.steps [.slice sp y.z.spans.length cap] 100 :: PRow sp cap y.z.spans :: R) (fun y => ks.length - y.k) ⟨0, N, i, z⟩
    ⟨Nat.zero_le _, Nat.le_refl _, hi, by
      rcases Nat.eq_zero_or_pos ks.length with h0 | h0
      · right
        have hnil := List.eq_nil_of_length_eq_zero h0
        subst hnil
        refine ⟨rfl, ?_⟩
        cases N with
        | zero => rw [walkM] at hz; cases hz
        | succ n => rw [walkM] at hz; exact Option.some.inj hz
      · left; exact ⟨h0, by rw [List.drop_zero]; exact hz⟩⟩ ⟨rfl, rfl, rfl, rfl, rfl, rfl, trivial⟩ (.i (by repeat constructor)) ?_
  rintro ⟨k, f, ic, y⟩ ⟨yk, yf, yi, hy⟩
  dsimp only at yk yf yi hy ⊢
  refine .go ?_; repeat constructor
  refine EL.lss rfl rfl rfl rfl ?_
  refine .go ?_; repeat constructor
  refine ES.condD rfl (fun hlt => ?_) (fun hge => ?_)
  rotate_left
  · rcases hy with ⟨h1, _⟩ | ⟨_, rfl⟩
    · omega
    refine .go ?_; repeat constructor
    exact PX.end rfl Try.results67 .nil (fun w hs => ⟨(), rfl, hs.ent (.i (by repeat constructor))⟩)
  have hlt' : k < ks.length := by omega
  obtain ⟨x, hkx⟩ : ∃ x, ks[k]? = some x := ⟨_, List.getElem?_eq_getElem hlt'⟩
  obtain ⟨kg, ko, rfl, hkn⟩ := hkids k x hkx
  have hxf := hf x (List.mem_of_getElem? hkx)
  have hrun : walkM s f (.cat (ks.drop k)) ic j y = some z' := by
    rcases hy with ⟨_, h1⟩ | ⟨h1, _⟩
    · exact h1
    · omega
  rw [List.drop_eq_getElem_cons hlt', show ks[k] = x from (List.getElem?_eq_some_iff.1 hkx).2] at hrun
  obtain ⟨n, rfl⟩ : ∃ n, f = n + 1 := by
    cases f with
    | zero => rw [walkM] at hrun; cases hrun
    | succ n => exact ⟨n, rfl⟩
  refine .go ?_; repeat constructor
  refine EL.move rfl rfl rfl ?_
  refine EL.assign rfl rfl rfl ?_
  refine .go ?_; repeat constructor
  refine EL.move rfl rfl rfl ?_
  refine EL.assign rfl rfl rfl ?_
  refine .go ?_; repeat constructor
  refine EL.move rfl rfl rfl ?_
  refine EL.add1 rfl rfl rfl rfl (by omega) ?_
  refine EL.move rfl rfl rfl ?_
  refine EL.lenL rfl rfl rfl rfl rfl ?_
  refine EL.lss rfl rfl rfl rfl ?_
  refine .go ?_; repeat constructor
  refine ES.condD rfl (fun hmore => ?_) (fun hlast => ?_)
  · have hm : k + 1 < ks.length := by omega
    obtain ⟨x2, hkx2⟩ : ∃ x2, ks[k + 1]? = some x2 := ⟨_, List.getElem?_eq_getElem hm⟩
    obtain ⟨tl, htl⟩ : ∃ tl, tl = ks.drop (k + 1) := ⟨_, rfl⟩
    have htl2 : tl = x2 :: ks.drop (k + 2) := by rw [htl, List.drop_eq_getElem_cons hm, show ks[k + 1] = x2 from (List.getElem?_eq_some_iff.1 hkx2).2]
    rw [← htl, htl2, walkM] at hrun
    cases hc : cutS s [x] (x2 :: ks.drop (k + 2)) ic j y.steps with
    | none => rw [hc] at hrun; cases hrun
    | some es =>
      obtain ⟨e, st⟩ := es
      rw [hc] at hrun
      simp only at hrun
      cases hw : walkM s n (.one x) ic e { y with steps := st } with
      | none => rw [hw] at hrun; cases hrun
      | some y2 =>
        rw [hw] at hrun
        simp only at hrun
        rw [← htl2] at hc hrun
        have hll : ks.length - (k + 1) = tl.length := by rw [htl, List.length_drop]
        have hin : ∀ a, a ∈ tl → a ∈ ks := fun a ha => by rw [htl] at ha; exact List.mem_of_mem_drop ha
        obtain ⟨l, hle, hsp⟩ := splits_c1 gs s hs y.steps [.slice sp y.spans.length cap] 100 [x] tl (fun a ha => by rw [List.mem_singleton] at ha; subst ha; exact hxf) (fun a ha => hf a (hin a ha)) (by simp) (by omega) (k + 1 - k) (ks.length - (k + 1)) (by simp) hll
          (some ⟨kg, ko + k * 9, none⟩) (some ⟨kg, ko + (k + 1) * 9, none⟩) (kcap - k) (kcap - (k + 1)) ic j e st hc w0 B HA.emp
          (kids_drop hkids k [x] (fun a b hab => by
            rcases a with _ | a
            · simp only [List.getElem?_cons_zero, Option.some.injEq] at hab; subst hab; exact hkx
            · simp at hab) HA.emp)
          (kids_drop hkids (k + 1) tl (fun a b hab => by rw [htl, List.getElem?_drop] at hab; exact hab) HA.emp)
        have hsp2 := MutAt.noEmp (HX := fun z : Nat × Nat => [HA.row (.slice (some ⟨z.1, 0, none⟩) (l + 1) z.2) 3 1 (l + 1) (Iv (e : Nat) :: (splL s [x] tl ic j y.steps).tail.map fun z : Nat => Iv (z : Nat)), WB gs s st [.slice sp y.spans.length cap] 100]) hsp
        refine .g0 ?_; repeat constructor
        refine ES.draw (X := Unit) (fun _ => [(0, Pv gs 0), (1, .slice (some ⟨kg, ko, none⟩) ks.length kcap), (2, Iv (ic : Nat)), (3, Iv (j : Nat)), (8, Iv (k : Nat)), (9, Iv (e : Nat)), (11, Iv (ks.length : Nat)), (12, Iv (k : Nat))])
          (fun _ => WB gs s st [.slice sp y.spans.length cap] 100 :: PRow sp cap y.spans :: R) [] mixed (.i (by repeat constructor)) ?_ (fun _ => ?_)
        · refine ED.take 0 rfl (by decide +kernel) CutX.no_panic (by decide +kernel) rfl rfl rfl (RV.move rfl) ?_
          refine ED.take 1 rfl (by decide +kernel) CutX.no_panic (by decide +kernel) rfl rfl rfl (RV.nilCheck rfl) ?_
          refine ED.take 2 rfl (by decide +kernel) CutX.no_panic (by decide +kernel) rfl rfl rfl (RV.fieldAddr rfl rfl rfl rfl rfl rfl) ?_
          refine ED.take 3 rfl (by decide +kernel) CutX.no_panic (by decide +kernel) rfl rfl rfl (RV.move rfl) ?_
          refine ED.take 4 rfl (by decide +kernel) CutX.no_panic (by decide +kernel) rfl rfl rfl (RV.move rfl) ?_
          refine ED.take 5 rfl (by decide +kernel) CutX.no_panic (by decide +kernel) rfl rfl rfl (RV.move rfl) ?_
          refine ED.take 6 rfl (by decide +kernel) CutX.no_panic (by decide +kernel) rfl rfl rfl (RV.add1 rfl rfl (by omega)) ?_
          refine ED.take 7 rfl (by decide +kernel) CutX.no_panic (by decide +kernel) rfl rfl rfl (RV.sliceLHk (lo := k) (hi := k + 1) rfl rfl rfl rfl rfl rfl (by omega) (by omega) (by omega)) ?_
          refine ED.take 8 rfl (by decide +kernel) CutX.no_panic (by decide +kernel) rfl rfl rfl (RV.move rfl) ?_
          refine ED.take 9 rfl (by decide +kernel) CutX.no_panic (by decide +kernel) rfl rfl rfl (RV.move rfl) ?_
          refine ED.take 10 rfl (by decide +kernel) CutX.no_panic (by decide +kernel) rfl rfl rfl (RV.add1 rfl rfl (by omega)) ?_
          refine ED.take 11 rfl (by decide +kernel) CutX.no_panic (by decide +kernel) rfl rfl rfl (RV.sliceLk (lo := k + 1) rfl rfl rfl rfl rfl (by omega) (by omega) (by omega)) ?_
          refine ED.take 12 rfl (by decide +kernel) CutX.no_panic (by decide +kernel) rfl rfl rfl (RV.move rfl) ?_
          refine ED.take 13 rfl (by decide +kernel) CutX.no_panic (by decide +kernel) rfl rfl rfl (RV.move rfl) ?_
          refine ED.loud 14 rfl (by decide +kernel) ?_
          (refine EL.callMw rfl rfl rfl ent92 rfl hsp2 (by repeat constructor) ?_; intro x)
          refine ED.next (.i (by repeat constructor)) ?_
          refine ED.take 15 rfl (by decide +kernel) CutX.no_panic (by decide +kernel) rfl rfl rfl (RV.indexAddrL1 (i := 0) rfl rfl rfl rfl rfl rfl (by omega)) ?_
          refine ED.loud 16 rfl (by decide +kernel) ?_
          (refine EL.loadR rfl rfl rfl rfl rfl (by repeat constructor) rfl ?_)
          refine ED.next (.i (by repeat constructor)) ?_
          refine ED.take 17 rfl (by decide +kernel) CutX.no_panic (by decide +kernel) rfl rfl rfl (RV.assign rfl) ?_
          refine ED.done (by decide +kernel) ?_
          exact PX.cutX () ⟨rfl, rfl, rfl, rfl, rfl, rfl, rfl, rfl, trivial⟩ (.i (by repeat constructor))
        have hrec := hA n (by omega) x hxf kg (ko + k * 9) hkn ic e _ _ yi hle hw
        refine .go ?_; repeat constructor
        refine EL.move rfl rfl rfl ?_
        refine EL.move rfl rfl rfl ?_
        refine EL.move rfl rfl rfl ?_
        refine EL.indexAddrL (i := k) rfl rfl rfl rfl rfl rfl rfl hlt' ?_
        refine EL.move rfl rfl rfl ?_
        refine EL.move rfl rfl rfl ?_
        (refine EL.callMw rfl rfl rfl ent45 rfl hrec (by repeat constructor) ?_; intro x)
        refine .go ?_; repeat constructor
        refine .go ?_; repeat constructor
        refine EL.move rfl rfl rfl ?_
        refine EL.assign rfl rfl rfl ?_
        refine .go ?_; repeat constructor
        refine EL.add1 rfl rfl rfl rfl (by omega) ?_
        refine EL.move rfl rfl rfl ?_
        refine .go ?_; repeat constructor
        exact PX.loop ⟨k + 1, n, e, y2⟩ ⟨hlt', by dsimp only; omega, hle, .inl ⟨hm, by dsimp only; rw [← htl]; exact hrun⟩⟩ (by simp only; omega) ⟨rfl, rfl, rfl, rfl, rfl, rfl, trivial⟩ (.i (by repeat constructor))
  · have hl : k + 1 = ks.length := by omega
    have hnil : ks.drop (k + 1) = [] := List.drop_of_length_le (by omega)
    rw [hnil, walkM] at hrun
    have hrec := hA n (by omega) x hxf kg (ko + k * 9) hkn ic j _ _ yi hj hrun
    refine .go ?_; repeat constructor
    refine .go ?_; repeat constructor
    refine EL.move rfl rfl rfl ?_
    refine EL.move rfl rfl rfl ?_
    refine EL.move rfl rfl rfl ?_
    refine EL.indexAddrL (i := k) rfl rfl rfl rfl rfl rfl rfl hlt' ?_
    refine EL.move rfl rfl rfl ?_
    refine EL.move rfl rfl rfl ?_
    (refine EL.callMw rfl rfl rfl ent45 rfl hrec (by repeat constructor) ?_; intro x)
    refine .go ?_; repeat constructor
    refine .go ?_; repeat constructor
    refine EL.move rfl rfl rfl ?_
    refine EL.assign rfl rfl rfl ?_
    refine .go ?_; repeat constructor
    refine EL.add1 rfl rfl rfl rfl (by omega) ?_
    refine EL.move rfl rfl rfl ?_
    refine .go ?_; repeat constructor
    exact PX.loop ⟨k + 1, n, j, z'⟩ ⟨hlt', by dsimp only; omega, hj, .inr ⟨hl, rfl⟩⟩ (by simp only; omega) ⟨rfl, rfl, rfl, rfl, rfl, rfl, trivial⟩ (.i (by repeat constructor))
theorem setWalk_C {N : Nat} (hs : s.length ≤ 1024) (hA : ∀ f, f < N → WkA w0 B gs s sp cap f) : WkC w0 B gs s sp cap N := by
  intro lo hi k hf g off hn i j z z' hi' hj hz R w h
  replace h : Sat w0 B (WB gs s z.steps [.slice sp z.spans.length cap] 100 :: PRow sp cap z.spans :: R) w := h
  have hkf := hf.2.2.2.2
  have hn' := hn
  obtain ⟨ad, kcap, cs0, q1, q2, q3, q4⟩ := hn'
  have hrd := q1.rd
  obtain ⟨g', o', rfl, _⟩ := q3 (fun e => by have := q2.len; rw [e] at this; simp [RE.kids] at this)
  have hkn : NodeRd w0 B g' (o' + 0 * 9) k := Node.of_row q2 q3 (i := 0) rfl
  have hkids : KidsRd w0 B [k] (some ⟨g', o', none⟩) := fun a b hab => by
    rcases a with _ | a
    · simp only [List.getElem?_cons_zero, Option.some.injEq] at hab; subst hab; exact ⟨g', o', rfl, hkn⟩
    · simp at hab
  have hle := least_le lo k
  have hlo := hf.1
  refine calls_of_ES TB Try.func68 rfl _ Try.ntmps68 rfl h ?_
  refine .go ?_; repeat constructor
  refine EL.assign rfl rfl rfl ?_
  refine .go ?_; repeat constructor
  refine ES.loop (σ := WSt8) (fun y => y.f ≤ N ∧ y.i ≤ s.length ∧ walkM s y.f (.rep lo hi k y.k) y.i j y.z = some z')
    (fun y => [(0, Pv gs 0), (1, Pv g off), (2, Iv (y.i : Nat)), (3, Iv (j : Nat)), (8, Iv (y.k : Nat))])
    (fun y => WB gs s y.z.steps [.slice sp y.z.spans.length cap] 100 :: PRow sp cap y.z.spans :: R) (fun y => y.f) ⟨0, N, i, z⟩
    ⟨Nat.le_refl _, hi', hz⟩ ⟨rfl, rfl, rfl, rfl, rfl, trivial⟩ (.i (by repeat constructor)) ?_
  rintro ⟨t, f, ic, y⟩ ⟨yf, yi, hrun⟩
  dsimp only at yf yi hrun ⊢
  obtain ⟨n, rfl⟩ : ∃ n, f = n + 1 := by
    cases f with
    | zero => rw [walkM] at hrun; cases hrun
    | succ n => exact ⟨n, rfl⟩
  rw [walkM] at hrun
  refine .go ?_; repeat constructor
  refine EL.move rfl rfl rfl ?_
  refine EL.move rfl rfl rfl ?_
  refine EL.eqlI rfl rfl rfl rfl ?_
  refine .go ?_; repeat constructor
  refine ES.condD rfl (fun heq => ?_) (fun hne => ?_)
  · have heq' : ic = j := by omega
    rw [if_pos heq'] at hrun
    refine .go ?_; repeat constructor
    refine EL.move rfl rfl rfl ?_
    refine EL.move rfl rfl rfl ?_
    refine EL.callPw rfl rfl rfl ent82 rfl (fun w hs => least_c lo hi k hf g off w (NodeRd.sat hn hs)) ?_
    refine EL.lss rfl rfl rfl rfl ?_
    refine .go ?_; repeat constructor
    refine ES.condD rfl (fun hless => ?_) (fun hmore => ?_)
    · rw [if_pos (by omega)] at hrun
      have hrec := hA n (by omega) k hkf g' (o' + 0 * 9) hkn j j _ _ hj hj hrun
      refine .go ?_; repeat constructor
      refine EL.move rfl rfl rfl ?_
      refine EL.move rfl rfl rfl ?_
      refine EL.nilCheck rfl rfl rfl ?_
      refine EL.fieldAddr rfl rfl rfl rfl rfl rfl rfl rfl ?_
      refine EL.loadOld rfl rfl rfl rfl rfl hrd rfl ?_
      refine EL.indexAddrL (i := 0) rfl rfl rfl rfl rfl rfl rfl (by simp [RE.kids]) ?_
      refine EL.move rfl rfl rfl ?_
      refine EL.move rfl rfl rfl ?_
      (refine EL.callMw rfl rfl rfl ent45 rfl hrec (by repeat constructor) ?_; intro x)
      refine .go ?_; repeat constructor
      exact PX.ret rfl Try.results68 .nil (fun w hs => ⟨(), rfl, hs.ent (.i (by repeat constructor))⟩)
    · rw [if_neg (by omega)] at hrun
      cases hrun
      refine .go ?_; repeat constructor
      exact PX.ret rfl Try.results68 .nil (fun w hs => ⟨(), rfl, hs.ent (.i (by repeat constructor))⟩)
  have hne' : ¬ ic = j := by omega
  rw [if_neg hne'] at hrun
  split at hrun
  · cases hrun
  rename_i hbig
  cases hc : cutS s [k] [leftM lo hi k (t + 1)] ic j y.steps with
  | none => rw [hc] at hrun; cases hrun
  | some es =>
    obtain ⟨e, st⟩ := es
    rw [hc] at hrun
    simp only at hrun
    cases hw : walkM s n (.one k) ic e { y with steps := st } with
    | none => rw [hw] at hrun; cases hrun
    | some y2 =>
      rw [hw] at hrun
      simp only at hrun
      have hsp := fun b => splits_c1 gs s hs y.steps [.slice sp y.spans.length cap] 100 [k] [leftM lo hi k (t + 1)] (fun a ha => by rw [List.mem_singleton] at ha; subst ha; exact hkf) (fun a ha => by rw [List.mem_singleton] at ha; subst ha; exact left_fine hf _) (by simp) (by simp) 1 1 rfl rfl
        (some ⟨g', o', none⟩) (some ⟨b, 0, none⟩) kcap 1 ic j e st hc w0 B (HA.row (.slice (some ⟨b, 0, none⟩) 1 1) 82 9 1 (reCells (leftM lo hi k (t + 1)) (.slice (some ⟨g', o', none⟩) 1 kcap)))
        (fun w' H' hs' a b hab => by
          obtain ⟨q, o, e1, e2⟩ := hkids a b hab
          exact ⟨q, o, e1, NodeRd.sat e2 hs'⟩)
        (rowRd_left q2 q3 q4)
      obtain ⟨l0, hle0, hsp0⟩ := hsp 0
      have hsp1 : ∃ l : Nat → Nat, ∀ b, MutAt Try.prog 92 #[Pv gs 0, .slice (some ⟨g', o', none⟩) 1 kcap, .slice (some ⟨b, 0, none⟩) 1 1, Iv (ic : Nat), Iv (j : Nat)] [WB gs s y.steps [.slice sp y.spans.length cap] 100, HA.row (.slice (some ⟨b, 0, none⟩) 1 1) 82 9 1 (reCells (leftM lo hi k (t + 1)) (.slice (some ⟨g', o', none⟩) 1 kcap))] (fun z : Nat × Nat => .slice (some ⟨z.1, 0, none⟩) (l b + 1) z.2)
          (fun z => [HA.row (.slice (some ⟨z.1, 0, none⟩) (l b + 1) z.2) 3 1 (l b + 1) (Iv (e : Nat) :: (splL s [k] [leftM lo hi k (t + 1)] ic j y.steps).tail.map fun z : Nat => Iv (z : Nat)), WB gs s st [.slice sp y.spans.length cap] 100, HA.row (.slice (some ⟨b, 0, none⟩) 1 1) 82 9 1 (reCells (leftM lo hi k (t + 1)) (.slice (some ⟨g', o', none⟩) 1 kcap))]) w0 B :=
        ⟨fun b => (hsp b).choose, fun b => (hsp b).choose_spec.2⟩
      obtain ⟨l, hsp1⟩ := hsp1
      refine .g0 ?_; repeat constructor
      refine ES.draw (X := Unit) (fun _ => [(0, Pv gs 0), (1, Pv g off), (2, Iv (ic : Nat)), (3, Iv (j : Nat)), (8, Iv (t : Nat)), (9, Iv (e : Nat))])
        (fun _ => WB gs s st [.slice sp y.spans.length cap] 100 :: PRow sp cap y.spans :: R) [] mixed (.i (by repeat constructor)) ?_ (fun _ => ?_)
      · refine ED.take 0 rfl (by decide +kernel) CutX.no_panic (by decide +kernel) rfl rfl rfl (RV.move rfl) ?_
        refine ED.take 1 rfl (by decide +kernel) CutX.no_panic (by decide +kernel) rfl rfl rfl (RV.nilCheck rfl) ?_
        refine ED.take 2 rfl (by decide +kernel) CutX.no_panic (by decide +kernel) rfl rfl rfl (RV.fieldAddr rfl rfl rfl rfl rfl rfl) ?_
        refine ED.take 3 rfl (by decide +kernel) CutX.no_panic (by decide +kernel) rfl rfl rfl (RV.move rfl) ?_
        refine ED.take 4 rfl (by decide +kernel) CutX.no_panic (by decide +kernel) rfl rfl rfl (RV.nilCheck rfl) ?_
        refine ED.take 5 rfl (by decide +kernel) CutX.no_panic (by decide +kernel) rfl rfl rfl (RV.fieldAddr rfl rfl rfl rfl rfl rfl) ?_
        refine ED.take 6 rfl (by decide +kernel) CutX.no_panic (by decide +kernel) rfl rfl rfl (RV.loadOld rfl rfl rfl hrd rfl) ?_
        refine ED.take 7 rfl (by decide +kernel) CutX.no_panic (by decide +kernel) rfl rfl rfl (RV.move rfl) ?_
        refine ED.take 8 rfl (by decide +kernel) CutX.no_panic (by decide +kernel) rfl rfl rfl (RV.move rfl) ?_
        refine ED.take 9 rfl (by decide +kernel) CutX.no_panic (by decide +kernel) rfl rfl rfl (RV.add1 rfl rfl (by omega)) ?_
        refine ED.take 12 rfl (by decide +kernel) CutX.no_panic (by decide +kernel) rfl rfl rfl (RV.move rfl) ?_
        refine ED.take 13 rfl (by decide +kernel) CutX.no_panic (by decide +kernel) rfl rfl rfl (RV.move rfl) ?_
        refine ED.loud 10 rfl (by decide +kernel) ?_
        (refine EL.callPw rfl rfl rfl ent93 rfl (fun w hs => left_c lo hi k hf (t + 1) (by omega) g off (some ⟨g', o', none⟩) kcap w (NodeRd.sat hn hs) (Rd.sat hrd hs)) ?_)
        refine ED.next (.i (by repeat constructor)) ?_
        refine ED.loud 11 rfl (by decide +kernel) ?_
        (refine EL.buildSlice1 rfl rfl rfl rfl rfl rfl rfl rfl rfl rfl ?_; intro b39)
        refine ED.next (.i (by repeat constructor)) ?_
        refine ED.loud 14 rfl (by decide +kernel) ?_
        (refine EL.callMw rfl rfl rfl ent92 rfl (hsp1 b39) (by repeat constructor) ?_; intro x)
        refine ED.next (.i (by repeat constructor)) ?_
        refine ED.take 15 rfl (by decide +kernel) CutX.no_panic (by decide +kernel) rfl rfl rfl (RV.indexAddrL1 (i := 0) rfl rfl rfl rfl rfl rfl (by omega)) ?_
        refine ED.loud 16 rfl (by decide +kernel) ?_
        (refine EL.loadR rfl rfl rfl rfl rfl (by repeat constructor) rfl ?_)
        refine ED.next (.i (by repeat constructor)) ?_
        refine ED.take 17 rfl (by decide +kernel) CutX.no_panic (by decide +kernel) rfl rfl rfl (RV.assign rfl) ?_
        refine ED.done (by decide +kernel) ?_
        exact PX.cutX () ⟨rfl, rfl, rfl, rfl, rfl, rfl, trivial⟩ (.i (by repeat constructor))
      have hrec := hA n (by omega) k hkf g' (o' + 0 * 9) hkn ic e _ _ yi hle0 hw
      refine .go ?_; repeat constructor
      refine EL.move rfl rfl rfl ?_
      refine EL.move rfl rfl rfl ?_
      refine EL.nilCheck rfl rfl rfl ?_
      refine EL.fieldAddr rfl rfl rfl rfl rfl rfl rfl rfl ?_
      refine EL.loadOld rfl rfl rfl rfl rfl hrd rfl ?_
      refine EL.indexAddrL (i := 0) rfl rfl rfl rfl rfl rfl rfl (by simp [RE.kids]) ?_
      refine EL.move rfl rfl rfl ?_
      refine EL.move rfl rfl rfl ?_
      (refine EL.callMw rfl rfl rfl ent45 rfl hrec (by repeat constructor) ?_; intro x)
      refine .go ?_; repeat constructor
      refine .go ?_; repeat constructor
      refine EL.move rfl rfl rfl ?_
      refine EL.assign rfl rfl rfl ?_
      refine .go ?_; repeat constructor
      refine EL.move rfl rfl rfl ?_
      refine EL.add1 rfl rfl rfl rfl (by omega) ?_
      refine EL.assign rfl rfl rfl ?_
      refine .go ?_; repeat constructor
      exact PX.loop ⟨t + 1, n, e, y2⟩ ⟨by dsimp only; omega, hle0, hrun⟩ (by simp only; omega) ⟨rfl, rfl, rfl, rfl, rfl, trivial⟩ (.i (by repeat constructor))
theorem setWalk_all (hs : s.length ≤ 1024) : ∀ N : Nat, ∀ f, f < N → WkA w0 B gs s sp cap f ∧ WkB w0 B gs s sp cap f ∧ WkC w0 B gs s sp cap f
  | 0, f, h => absurd h (by omega)
  | N + 1, f, h => by
    have ih := setWalk_all hs N
    have hA : ∀ f', f' < f → WkA w0 B gs s sp cap f' := fun f' hf' => (ih f' (by omega)).1
    exact ⟨setWalk_A hA (fun f' hf' => (ih f' (by omega)).2.1) (fun f' hf' => (ih f' (by omega)).2.2), setWalk_B hs hA, setWalk_C hs hA⟩
theorem setWalk_c (hs : s.length ≤ 1024) (f : Nat) : WkA w0 B gs s sp cap f := (setWalk_all hs (f + 1) f (by omega)).1
end walks
end Go.Proofs.Ytblpgpgbnlhjlaa
namespace Go.Proofs.Ytblpgpgbnlhjlaa
open Go Go.RowKit Sl
set_option maxRecDepth 100000
set_option maxHeartbeats 8000000
set_option linter.unusedVariables false
set_option linter.unusedSimpArgs false
attribute [local irreducible] ES EL PX wps

def spanO (o : Option (Nat × Nat)) : Spn := match o with
  | some (a, b) => ((a : Int), (b : Int))
  | none => (0, 0)
structure FSt where
  n : Nat
  i : Nat
  st : Nat
theorem setFind_c (gs : Nat) (s : List UInt8) (hs : s.length ≤ 1024) (ga : Nat) (A : AM × Nat) (x : AX A.1) (hr : A.1.Room 0) (he : A.2 < A.1.out.length) (i0 : Nat) (hi0 : i0 ≤ s.length) (st0 : Nat) (rest : List Value) (o : Option (Nat × Nat)) (st : Nat) (hfm : findM s A (s.length + 1 - i0) i0 st0 = some (o, st)) :
    Mut Try.prog 43 #[Pv gs 0, Pv ga 0, Iv (i0 : Nat)] [WB gs s st0 rest 100, AP ga x.1 A.2] (fun _ : Unit => .tuple #[.agg (spC (spanO o)).toArray, .bool o.isSome]) (fun _ => [WB gs s st rest 100]) := by
  intro w0 B R w h
  replace h : Sat w0 B (WB gs s st0 rest 100 :: AP ga x.1 A.2 :: R) w := h
  refine calls_of_ES TB Try.func43 rfl _ Try.ntmps43 rfl h ?_
  refine .gr ?_; repeat constructor
  (refine EL.alloc rfl rfl rfl ?_; intro g6)
  refine EL.assign rfl rfl rfl ?_
  refine .gr ?_; repeat constructor
  refine .gr ?_; repeat constructor
  refine EL.move rfl rfl rfl ?_
  refine EL.assign rfl rfl rfl ?_
  refine .gr ?_; repeat constructor
  refine ES.loop (σ := FSt) (fun y => y.n + y.i = s.length + 1 ∧ findM s A y.n y.i y.st = some (o, st)) (fun y => [(0, Pv gs 0), (1, Pv ga 0), (6, Pv g6 0), (8, Iv (y.i : Nat))])
    (fun y => WB gs s y.st rest 100 :: AP ga x.1 A.2 :: HA.blk g6 (.cells #[Iv 0, Iv 0] 33) :: R) (fun y => y.n) ⟨s.length + 1 - i0, i0, st0⟩ ⟨by dsimp only; omega, hfm⟩ ⟨rfl, rfl, rfl, rfl, trivial⟩ (.i (by repeat constructor)) ?_
  rintro ⟨n, i, sc⟩ ⟨hn, hgo⟩
  dsimp only at hn hgo ⊢
  refine .gr ?_; repeat constructor
  refine EL.move rfl rfl rfl ?_
  refine EL.move rfl rfl rfl ?_
  refine EL.nilCheck rfl rfl rfl ?_
  refine EL.fieldAddr rfl rfl rfl rfl rfl rfl rfl rfl ?_
  refine EL.fieldAddr rfl rfl rfl rfl rfl rfl rfl rfl ?_
  (apply EL.loadB; exact rfl; exact rfl; exact rfl; exact rfl; exact rfl; (case hm => repeat constructor); exact rfl)
  refine EL.lenS rfl rfl rfl rfl rfl ?_
  refine EL.leq rfl rfl rfl rfl ?_
  refine .gr ?_; repeat constructor
  refine ES.condD rfl (fun hle => ?_) (fun hgt => ?_)
  rotate_left
  · obtain rfl : n = 0 := by omega
    rw [findM] at hgo
    simp only [Option.some.injEq, Prod.mk.injEq] at hgo
    obtain ⟨rfl, rfl⟩ := hgo
    refine .gr ?_; repeat constructor
    refine EL.buildZ rfl rfl rfl rfl rfl ?_
    (apply EL.storeAll; exact rfl; exact rfl; exact rfl; exact rfl; exact rfl; (case p => repeat constructor); exact rfl; (case h1 => exact (by first | rfl | exact all1 rfl | (intro u hu; simp only [List.mem_cons, List.not_mem_nil, or_false] at hu; rcases hu with rfl | rfl | rfl | rfl <;> rfl) | (intro u hu; simp at hu; rcases hu with rfl | rfl | rfl | rfl <;> rfl) | (intro u hu; simp at hu; rcases hu with rfl | rfl | rfl <;> rfl) | (intro u hu; simp at hu; rcases hu with rfl | rfl <;> rfl) | (intro u hu; simp at hu; obtain ⟨_, _, rfl⟩ := hu; rfl))))
    refine EL.assign rfl rfl rfl ?_
    refine .gr ?_; repeat constructor
    exact PX.ret rfl Try.results43 (.cons (.blkA rfl rfl rfl (by repeat constructor) rfl) (.cons (.tmp rfl) .nil)) (fun w hs => ⟨(), rfl, hs.ent (.i (by repeat constructor))⟩)
  obtain ⟨n, rfl⟩ : ∃ n', n = n' + 1 := ⟨n - 1, by omega⟩
  rw [findM] at hgo
  split at hgo
  rotate_left
  · cases hgo
  rename_i hsb
  have hi : i ≤ s.length := by omega
  have hec := ends_c gs s hs sc (by omega) rest 100 ga A x hr he i hi
  have hml : (endsM A s i sc).marks.length = s.length + 1 := flood_len hr.eo s (by show 0 < _; omega) hi _ _ _
  generalize endsM A s i sc = FE at hgo hec hml
  refine .gr ?_; repeat constructor
  refine EL.move rfl rfl rfl ?_
  refine EL.nilCheck rfl rfl rfl ?_
  refine EL.fieldAddr rfl rfl rfl rfl rfl rfl rfl rfl ?_
  refine EL.move rfl rfl rfl ?_
  refine EL.move rfl rfl rfl ?_
  (refine EL.callM rfl rfl rfl ent64 rfl hec (by repeat constructor) ?_; intro ge)
  refine EL.assign rfl rfl rfl ?_
  refine .gr ?_; repeat constructor
  refine EL.move rfl rfl rfl ?_
  refine EL.nilCheck rfl rfl rfl ?_
  refine EL.fieldAddr rfl rfl rfl rfl rfl rfl rfl rfl ?_
  refine EL.fieldAddr rfl rfl rfl rfl rfl rfl rfl rfl ?_
  (apply EL.loadB; exact rfl; exact rfl; exact rfl; exact rfl; exact rfl; (case hm => repeat constructor); exact rfl)
  refine EL.lenS rfl rfl rfl rfl rfl ?_
  refine EL.assign rfl rfl rfl ?_
  refine .gr ?_; repeat constructor
  refine ES.loop (σ := Nat) (fun m => m ≤ s.length + 1 - i ∧ lastT FE.marks i m = lastT FE.marks i (s.length + 1 - i)) (fun m => [(0, Pv gs 0), (1, Pv ga 0), (6, Pv g6 0), (8, Iv (i : Nat)), (9, .slice (some ⟨ge, 0, none⟩) (s.length + 1) (s.length + 1)), (10, Iv ((i : Int) + (m : Int) - 1))])
    (fun m => WB gs s FE.steps rest 100 :: BR ge (s.length + 1) FE.marks :: AP ga x.1 A.2 :: HA.blk g6 (.cells #[Iv 0, Iv 0] 33) :: R) (fun m => m) (s.length + 1 - i) ⟨Nat.le_refl _, rfl⟩ ⟨rfl, rfl, rfl, rfl, rfl, getA rfl (congrArg Iv (by omega)), trivial⟩ (.i (by repeat constructor)) ?_
  rintro m ⟨hm, hlt⟩
  refine .gr ?_; repeat constructor
  refine EL.move rfl rfl rfl ?_
  refine EL.move rfl rfl rfl ?_
  refine EL.lss rfl rfl rfl rfl ?_
  refine .gr ?_; repeat constructor
  refine ES.condD rfl (fun hz => ?_) (fun hnz => ?_)
  · obtain rfl : m = 0 := by omega
    have hnone : lastT FE.marks i (s.length + 1 - i) = none := by rw [← hlt]; rfl
    rw [hnone] at hgo
    refine .gr ?_; repeat constructor
    refine .gr ?_; repeat constructor
    refine EL.move rfl rfl rfl ?_
    refine EL.add1 rfl rfl rfl rfl (by omega) ?_
    refine EL.assign rfl rfl rfl ?_
    refine .gr ?_; repeat constructor
    exact PX.loop ⟨n, i + 1, FE.steps⟩ ⟨by dsimp only; omega, hgo⟩ (by simp only; omega) ⟨rfl, rfl, rfl, rfl, trivial⟩ (.i (by repeat constructor))
  obtain ⟨m, rfl⟩ : ∃ m', m = m' + 1 := ⟨m - 1, by omega⟩
  have e : (i : Int) + ((m + 1 : Nat) : Int) - 1 = ((i + m : Nat) : Int) := by omega
  rw [e]
  have hl1 : lastT FE.marks i (m + 1) = if FE.marks.getD (i + m) false = true then some (i + m) else lastT FE.marks i m := by
    unfold lastT
    rw [dnL, List.find?_cons]
    cases FE.marks.getD (i + m) false <;> rfl
  refine .gr ?_; repeat constructor
  refine EL.move rfl rfl rfl ?_
  refine EL.move rfl rfl rfl ?_
  refine EL.indexAddrL1 rfl rfl rfl rfl rfl rfl rfl rfl (by omega) ?_
  refine EL.ofRV (RV.loadRm (l := FE.marks) Value.bool false rfl rfl rfl (by repeat constructor) (by rw [hml]; omega)) rfl rfl rfl (by intro c h; cases h) ?_
  refine .gr ?_; repeat constructor
  refine ES.cond rfl (fun hf => ?_) (fun hf => ?_)
  · rw [← hlt, hl1, if_pos hf] at hgo
    simp only [Option.some.injEq, Prod.mk.injEq] at hgo
    obtain ⟨rfl, rfl⟩ := hgo
    refine .gr ?_; repeat constructor
    refine EL.move rfl rfl rfl ?_
    refine EL.move rfl rfl rfl ?_
    (apply EL.build2; exact rfl; exact rfl; exact rfl; exact rfl; exact rfl; exact rfl; exact rfl; exact rfl; exact rfl; exact rfl)
    (apply EL.storeAll; exact rfl; exact rfl; exact rfl; exact rfl; exact rfl; (case p => repeat constructor); exact rfl; (case h1 => exact (by first | rfl | exact all1 rfl | (intro u hu; simp only [List.mem_cons, List.not_mem_nil, or_false] at hu; rcases hu with rfl | rfl | rfl | rfl <;> rfl) | (intro u hu; simp at hu; rcases hu with rfl | rfl | rfl | rfl <;> rfl) | (intro u hu; simp at hu; rcases hu with rfl | rfl | rfl <;> rfl) | (intro u hu; simp at hu; rcases hu with rfl | rfl <;> rfl) | (intro u hu; simp at hu; obtain ⟨_, _, rfl⟩ := hu; rfl))))
    refine EL.assign rfl rfl rfl ?_
    refine .gr ?_; repeat constructor
    exact PX.ret rfl Try.results43 (.cons (.blkA rfl rfl rfl (by repeat constructor) rfl) (.cons (.tmp rfl) .nil)) (fun w hs => ⟨(), rfl, hs.ent (.i (by repeat constructor))⟩)
  · rw [if_neg (by rw [hf]; simp)] at hl1
    refine .gr ?_; repeat constructor
    refine .gr ?_; repeat constructor
    refine EL.move rfl rfl rfl ?_
    refine EL.sub_ ((i : Int) + (m : Int) - 1) rfl rfl rfl rfl ((wrap_i64 _ (by omega) (by omega)).trans (by omega)) ?_
    refine EL.assign rfl rfl rfl ?_
    refine .gr ?_; repeat constructor
    exact PX.loop m ⟨by omega, by rw [← hl1]; exact hlt⟩ (by omega) ⟨rfl, rfl, rfl, rfl, rfl, rfl, trivial⟩ (.i (by repeat constructor))
theorem rd_blk {w0 w : World} {B g e : Nat} {H : List HA} {cs : List Value} (hs : Sat w0 B H w) (hm : Mem H (HA.blk g (.cells cs.toArray e))) : Rd w w.heap.size (some ⟨g, 0, none⟩) cs := fun _ => by
  have hb : w.heap[g]? = some (.cells cs.toArray e (0, 0)) := hs.all _ hm.mem
  exact ⟨g, 0, rfl, (Array.getElem?_eq_some_iff.1 hb).1, fun j v hj => by rw [blk_cell hb, Nat.zero_add]; simpa using hj⟩
theorem mem_dnL {p i : Nat} : ∀ n, p ∈ dnL i n ↔ i ≤ p ∧ p < i + n
  | 0 => by simp only [dnL, List.not_mem_nil, false_iff]; omega
  | n + 1 => by
    rw [dnL, List.mem_cons, mem_dnL n]
    omega
theorem lastT_bounds {m : List Bool} {i n p : Nat} (h : lastT m i n = some p) : i ≤ p ∧ p < i + n := (mem_dnL n).1 (List.mem_of_find?_eq_some h)
theorem find_bounds {s : List UInt8} {A : AM × Nat} : ∀ (n i st : Nat) {a b st' : Nat}, findM s A n i st = some (some (a, b), st') → n + i = s.length + 1 → i ≤ a ∧ a ≤ b ∧ b ≤ s.length
  | 0, i, st, a, b, st', h, hn => by rw [findM] at h; simp at h
  | n + 1, i, st, a, b, st', h, hn => by
    rw [findM] at h
    split at h
    · split at h
      · rename_i j hj
        simp only [Option.some.injEq, Prod.mk.injEq] at h
        obtain ⟨⟨rfl, rfl⟩, _⟩ := h
        have := lastT_bounds hj
        omega
      · have := find_bounds n (i + 1) _ h (by omega)
        omega
    · cases h
structure SpSt where
  i : Nat
  ad : Option Addr
  cap : Nat
theorem noSpans (l : List Spn) (h : l = []) : spsC l = [] := by rw [h]; rfl
theorem setMatch_c (F : Nat) (t s : List UInt8) (a : Int) (m : MR) (hm : setM F t s a = some m) (ht : t.length ≤ 4611686018427387904) (w : World) (hG : GR w w.heap.size) :
    Pure Try.prog 18 #[Sv t, Sv s, Iv a] (fun x : Option Addr × Nat => .tuple #[.slice x.1 m.spans.length x.2, .bool m.ok, Iv (m.steps : Nat), Iv m.e]) (fun x => [PRow x.1 x.2 m.spans]) w := by
  have hpf := parse_fine t
  have hpc := fun w hG => parse_c t ht w hG
  have hof : ofM t = if (parseM t).e ≠ 0 then (Me.zero, (parseM t).e, (parseM t).at_) else (measM (parseM t).tree, 0, 0) := rfl
  have hmc := fun w hG => measOf_c t ht w hG
  unfold setM at hm
  generalize ofM t = om at hof hmc
  generalize parseM t = p at hm hpf hpc hof
  obtain ⟨tree, pe, pat⟩ := p
  dsimp only at hm hpf hpc hof
  have hnil : ∀ {w0 w' : World} {B : Nat} {R : List HA}, Sat w0 B R w' → Sat w0 B [PRow none 0 []] w' := fun {w0 w' B R} h => (h.nilRow 33 2).ent (.i (by repeat constructor))
  refine calls_of_ES TB Try.func18 rfl _ Try.ntmps18 rfl (Sat.start w) ?_
  refine .go ?_; repeat constructor
  refine EL.assign rfl rfl rfl ?_
  refine EL.assign rfl rfl rfl ?_
  refine EL.assign rfl rfl rfl ?_
  refine EL.assign rfl rfl rfl ?_
  refine .go ?_; repeat constructor
  refine EL.move rfl rfl rfl ?_
  (refine EL.callXw rfl rfl rfl ent40 rfl (fun w hs => hpc w (GR.sat hG hs)) ?_; intro px)
  refine EL.move rfl rfl rfl ?_
  refine EL.extract rfl rfl rfl rfl ?_
  refine EL.extract rfl rfl rfl rfl ?_
  (refine EL.alloc rfl rfl rfl ?_; intro g10)
  (refine EL.alloc rfl rfl rfl ?_; intro g11)
  (apply EL.storeAll; exact rfl; exact rfl; exact rfl; exact rfl; exact rfl; (case p => repeat constructor); exact rfl; (case h1 => exact (by first | rfl | exact all1 rfl | (intro u hu; simp only [List.mem_cons, List.not_mem_nil, or_false] at hu; rcases hu with rfl | rfl | rfl | rfl <;> rfl) | (intro u hu; simp at hu; rcases hu with rfl | rfl | rfl | rfl <;> rfl) | (intro u hu; simp at hu; rcases hu with rfl | rfl | rfl <;> rfl) | (intro u hu; simp at hu; rcases hu with rfl | rfl <;> rfl) | (intro u hu; simp at hu; obtain ⟨_, _, rfl⟩ := hu; rfl))))
  (apply EL.storeAll; exact rfl; exact rfl; exact rfl; exact rfl; exact rfl; (case p => repeat constructor); exact rfl; (case h1 => exact (by first | rfl | exact all1 rfl | (intro u hu; simp only [List.mem_cons, List.not_mem_nil, or_false] at hu; rcases hu with rfl | rfl | rfl | rfl <;> rfl) | (intro u hu; simp at hu; rcases hu with rfl | rfl | rfl | rfl <;> rfl) | (intro u hu; simp at hu; rcases hu with rfl | rfl | rfl <;> rfl) | (intro u hu; simp at hu; rcases hu with rfl | rfl <;> rfl) | (intro u hu; simp at hu; obtain ⟨_, _, rfl⟩ := hu; rfl))))
  refine .go ?_; repeat constructor
  refine .go ?_; repeat constructor
  refine EL.fieldAddr rfl rfl rfl rfl rfl rfl rfl rfl ?_
  (apply EL.loadB; exact rfl; exact rfl; exact rfl; exact rfl; exact rfl; (case hm => repeat constructor); exact rfl)
  refine EL.neqI rfl rfl rfl rfl ?_
  refine .go ?_; repeat constructor
  refine ES.condN rfl (fun hne => ?_) (fun he => ?_)
  · rw [if_pos hne] at hm
    cases hm
    refine .g0 ?_; repeat constructor
    refine ES.draw (X := Unit) (fun _ => [(6, .slice none 0 0), (7, .bool false), (8, Iv 0), (9, Iv pe)]) (fun _ => []) (HA.blk g11 (.cells #[Iv pe, Iv (pat : Nat)] 67) :: []) mixed (.i (by repeat constructor)) ?_ (fun _ => ?_)
    · refine ED.take 0 rfl (by decide +kernel) CutX.no_panic (by decide +kernel) rfl rfl rfl (RV.fieldAddr rfl rfl rfl rfl rfl rfl) ?_
      refine ED.take 1 rfl (by decide +kernel) CutX.no_panic (by decide +kernel) rfl rfl rfl (RV.loadB rfl rfl rfl (by repeat constructor) rfl) ?_
      refine ED.take 2 rfl (by decide +kernel) CutX.no_panic (by decide +kernel) rfl rfl rfl (RV.assign rfl) ?_
      refine ED.take 3 rfl (by decide +kernel) CutX.no_panic (by decide +kernel) rfl rfl rfl (RV.assign rfl) ?_
      refine ED.take 4 rfl (by decide +kernel) CutX.no_panic (by decide +kernel) rfl rfl rfl (RV.assign rfl) ?_
      refine ED.take 5 rfl (by decide +kernel) CutX.no_panic (by decide +kernel) rfl rfl rfl (RV.assign rfl) ?_
      refine ED.done (by decide +kernel) ?_
      exact PX.cutX () ⟨rfl, rfl, rfl, rfl, trivial⟩ (.i (by repeat constructor))
    refine .go ?_; repeat constructor
    exact PX.ret rfl Try.results18 (.cons (.tmp rfl) (.cons (.tmp rfl) (.cons (.tmp rfl) (.cons (.tmp rfl) .nil)))) (fun w hs => ⟨(none, 0), rfl, hnil hs⟩)
  have he' : pe = 0 := he
  rw [if_neg (fun h => h he')] at hm hof
  subst hof
  refine .go ?_; repeat constructor
  refine EL.move rfl rfl rfl ?_
  refine EL.callPw rfl rfl rfl ent42 rfl (fun w hs => hmc w (GR.sat hG hs)) ?_
  refine EL.move rfl rfl rfl ?_
  refine EL.extract rfl rfl rfl rfl ?_
  refine EL.extract rfl rfl rfl rfl ?_
  (refine EL.alloc rfl rfl rfl ?_; intro g12)
  (refine EL.alloc rfl rfl rfl ?_; intro g13)
  (apply EL.storeAll; exact rfl; exact rfl; exact rfl; exact rfl; exact rfl; (case p => repeat constructor); exact rfl; (case h1 => exact (by first | rfl | exact all1 rfl | (intro u hu; simp only [List.mem_cons, List.not_mem_nil, or_false] at hu; rcases hu with rfl | rfl | rfl | rfl <;> rfl) | (intro u hu; simp at hu; rcases hu with rfl | rfl | rfl | rfl <;> rfl) | (intro u hu; simp at hu; rcases hu with rfl | rfl | rfl <;> rfl) | (intro u hu; simp at hu; rcases hu with rfl | rfl <;> rfl) | (intro u hu; simp at hu; obtain ⟨_, _, rfl⟩ := hu; rfl))))
  (apply EL.storeAll; exact rfl; exact rfl; exact rfl; exact rfl; exact rfl; (case p => repeat constructor); exact rfl; (case h1 => exact (by first | rfl | exact all1 rfl | (intro u hu; simp only [List.mem_cons, List.not_mem_nil, or_false] at hu; rcases hu with rfl | rfl | rfl | rfl <;> rfl) | (intro u hu; simp at hu; rcases hu with rfl | rfl | rfl | rfl <;> rfl) | (intro u hu; simp at hu; rcases hu with rfl | rfl | rfl <;> rfl) | (intro u hu; simp at hu; rcases hu with rfl | rfl <;> rfl) | (intro u hu; simp at hu; obtain ⟨_, _, rfl⟩ := hu; rfl))))
  refine .go ?_; repeat constructor
  refine .go ?_; repeat constructor
  refine EL.fieldAddr rfl rfl rfl rfl rfl rfl rfl rfl ?_
  (apply EL.loadB; exact rfl; exact rfl; exact rfl; exact rfl; exact rfl; (case hm => repeat constructor); exact rfl)
  refine EL.assign rfl rfl rfl ?_
  refine .go ?_; repeat constructor
  refine ES.cond rfl (fun hb => ?_) (fun hb => ?_)
  · rw [if_pos hb] at hm
    cases hm
    refine .go ?_; repeat constructor
    refine EL.assign rfl rfl rfl ?_
    refine EL.assign rfl rfl rfl ?_
    refine EL.assign rfl rfl rfl ?_
    refine EL.assign rfl rfl rfl ?_
    refine .go ?_; repeat constructor
    exact PX.ret rfl Try.results18 (.cons (.tmp rfl) (.cons (.tmp rfl) (.cons (.tmp rfl) (.cons (.tmp rfl) .nil)))) (fun w hs => ⟨(none, 0), rfl, hnil hs⟩)
  have hb' : (measM tree).back = false := hb
  rw [if_neg (by rw [hb']; simp)] at hm
  refine .go ?_; repeat constructor
  refine EL.move rfl rfl rfl ?_
  refine EL.lenS rfl rfl rfl rfl rfl ?_
  refine EL.gtr rfl rfl rfl rfl ?_
  refine EL.assign rfl rfl rfl ?_
  refine .go ?_; repeat constructor
  refine ES.condD rfl (fun hl => ?_) (fun hl => ?_)
  · rw [if_pos (by omega)] at hm
    cases hm
    refine .go ?_; repeat constructor
    refine EL.assign rfl rfl rfl ?_
    refine EL.assign rfl rfl rfl ?_
    refine EL.assign rfl rfl rfl ?_
    refine EL.assign rfl rfl rfl ?_
    refine .go ?_; repeat constructor
    exact PX.ret rfl Try.results18 (.cons (.tmp rfl) (.cons (.tmp rfl) (.cons (.tmp rfl) (.cons (.tmp rfl) .nil)))) (fun w hs => ⟨(none, 0), rfl, hnil hs⟩)
  rw [if_neg (by omega)] at hm
  have hs2 : s.length ≤ 1024 := by omega
  refine .go ?_; repeat constructor
  refine EL.cutX (X := Unit) (fun _ => [(0, Sv t), (1, Sv s), (2, Iv a), (10, Pv g10 0), (12, Pv g12 0), (39, .bool (decide (a < 0 ∨ (s.length : Int) < a)))])
    (fun _ => HA.blk g10 (.cells (reCells tree (.slice px.ad tree.kids.length px.cap)).toArray 82) :: HA.forest px.fp [tree] (reCells tree (.slice px.ad tree.kids.length px.cap)) :: HA.blk g12 (.cells (measM tree).cells.toArray 93) :: []) ?_ (fun _ => ?_)
  · refine .go ?_; repeat constructor
    refine EL.move rfl rfl rfl ?_
    refine EL.lss rfl rfl rfl rfl ?_
    refine EL.move rfl rfl rfl ?_
    first | refine EL.splitD (d := 42) rfl (fun hp42 => ?_) (fun hp42 => ?_) | refine EL.splitN (d := 42) rfl (fun hp42 => ?_) (fun hp42 => ?_) | refine EL.splitB (d := 42) rfl (fun hp42 => ?_) (fun hp42 => ?_)
    · refine EL.pass rfl rfl rfl ?_
      refine EL.pass rfl rfl rfl ?_
      refine EL.pass rfl rfl rfl ?_
      refine EL.pass rfl rfl rfl ?_
      refine EL.pickT rfl rfl rfl rfl ?_
      refine EL.assign rfl rfl rfl ?_
      exact EL.endX () ⟨rfl, rfl, rfl, rfl, rfl, getA rfl (congrArg Value.bool (by rw [Bool.eq_iff_iff]; simp only [decide_eq_true_eq, true_iff]; omega)), trivial⟩ (.i (by repeat constructor))
    · refine EL.move rfl rfl rfl ?_
      refine EL.move rfl rfl rfl ?_
      refine EL.lenS rfl rfl rfl rfl rfl ?_
      refine EL.gtr rfl rfl rfl rfl ?_
      refine EL.pickF rfl rfl rfl rfl ?_
      refine EL.assign rfl rfl rfl ?_
      exact EL.endX () ⟨rfl, rfl, rfl, rfl, rfl, getA rfl (congrArg Value.bool (by rw [Bool.eq_iff_iff]; simp only [decide_eq_true_eq, true_iff]; omega)), trivial⟩ (.i (by repeat constructor))
  refine ES.condD rfl (fun hr => ?_) (fun hr => ?_)
  · rw [if_pos hr] at hm
    cases hm
    refine .go ?_; repeat constructor
    refine EL.assign rfl rfl rfl ?_
    refine EL.assign rfl rfl rfl ?_
    refine EL.assign rfl rfl rfl ?_
    refine EL.assign rfl rfl rfl ?_
    refine .go ?_; repeat constructor
    exact PX.ret rfl Try.results18 (.cons (.tmp rfl) (.cons (.tmp rfl) (.cons (.tmp rfl) (.cons (.tmp rfl) .nil)))) (fun w hs => ⟨(none, 0), rfl, hnil hs⟩)
  rw [if_neg hr] at hm
  split at hm
  · cases hm
  rename_i hgr
  obtain ⟨G, hGr⟩ : ∃ G : Nat, (measM tree).grp = (G : Int) := ⟨(measM tree).grp.toNat, by omega⟩
  have hG9 : G ≤ 9 := by omega
  rw [hGr, Int.toNat_natCast] at hm
  obtain ⟨i, rfl⟩ : ∃ i : Nat, a = (i : Int) := ⟨a.toNat, by omega⟩
  have hi : i ≤ s.length := by omega
  rw [Int.toNat_natCast] at hm
  unfold setGo at hm
  split at hm
  rotate_left
  · cases hm
  rename_i hcost
  refine .g0 ?_; repeat constructor
  refine ES.rebase (fun w1 hw1 => ?_)
  have hn := node_of hw1 (by repeat constructor) (by repeat constructor)
  have hrd12 := rd_blk hw1 (g := g12) (cs := (measM tree).cells) (e := 93) (by repeat constructor)
  have hn' := hn
  obtain ⟨ad, kcap, cs0, q1, q2, q3, q4⟩ := hn'
  have hrd10 := q1.rd
  obtain ⟨hr1, he1⟩ := make_room [tree] hcost
  refine .go ?_; repeat constructor
  refine EL.move rfl rfl rfl ?_
  refine EL.buildS #[Sv s, Iv 0] rfl rfl rfl rfl rfl (by kernel_rfl) rfl ?_
  refine EL.buildS #[Sv s, Iv 0, .slice none 0 0] rfl rfl rfl rfl rfl (by kernel_rfl) rfl ?_
  (refine EL.box rfl rfl rfl ?_; intro g51)
  refine EL.assign rfl rfl rfl ?_
  refine .go ?_; repeat constructor
  cases hfm : findM s (makeM [tree]) (s.length + 1 - i) i 0 with
  | none => rw [hfm] at hm; cases hm
  | some os =>
  obtain ⟨o, st⟩ := os
  rw [hfm] at hm
  have hfc := fun ga x => setFind_c g51 s hs2 ga (makeM [tree]) x hr1 he1 i hi 0 [.slice none 0 0] o st hfm
  refine .go ?_; repeat constructor
  refine EL.move rfl rfl rfl ?_
  refine EL.loadOldA (j := 0) (vs := reCells tree (.slice ad tree.kids.length kcap)) rfl rfl rfl rfl rfl (by simp [reCells]) rfl hrd10 (fun i u hi => by rw [Nat.zero_add]; exact hi) ?_
  (refine EL.buildSlice1 rfl rfl rfl rfl rfl rfl rfl rfl rfl rfl ?_; intro b55)
  (refine EL.callXw rfl rfl rfl ent44 rfl (fun w hs => make_c [tree] (fun k hk => by rw [List.mem_singleton] at hk; subst hk; exact hpf) (by simp) hcost (some ⟨b55, 0, none⟩) 1 w (rowRd_one q2 q3 q4 w _ (hs.ent (H' := HA.row (.slice (some ⟨b55, 0, none⟩) 1 1) 82 9 1 (reCells tree (.slice ad tree.kids.length kcap)) :: []) (.i (by repeat constructor))))) ?_; intro mk)
  refine EL.move rfl rfl rfl ?_
  (refine EL.callM rfl rfl rfl ent43 rfl (hfc mk.1 mk.2) (by repeat constructor) ?_; intro u)
  refine EL.move rfl rfl rfl ?_
  refine EL.extract rfl rfl rfl rfl ?_
  refine EL.extract rfl rfl rfl rfl ?_
  (refine EL.alloc rfl rfl rfl ?_; intro g15)
  (apply EL.storeAll; exact rfl; exact rfl; exact rfl; exact rfl; exact rfl; (case p => repeat constructor); exact rfl; (case h1 => exact (by first | rfl | exact all1 rfl | (intro u hu; simp only [List.mem_cons, List.not_mem_nil, or_false] at hu; rcases hu with rfl | rfl | rfl | rfl <;> rfl) | (intro u hu; simp at hu; rcases hu with rfl | rfl | rfl | rfl <;> rfl) | (intro u hu; simp at hu; rcases hu with rfl | rfl | rfl <;> rfl) | (intro u hu; simp at hu; rcases hu with rfl | rfl <;> rfl) | (intro u hu; simp at hu; obtain ⟨_, _, rfl⟩ := hu; rfl))))
  refine EL.assign rfl rfl rfl ?_
  refine .go ?_; repeat constructor
  refine .go ?_; repeat constructor
  refine EL.move rfl rfl rfl ?_
  refine EL.not rfl rfl rfl ?_
  refine .go ?_; repeat constructor
  cases o with
  | none =>
    simp only [Option.some.injEq] at hm
    subst hm
    refine ES.condT rfl ?_
    refine .g0 ?_; repeat constructor
    refine ES.draw (X := Unit) (fun _ => [(6, .slice none 0 0), (7, .bool false), (8, Iv (st : Nat)), (9, Iv 0)]) (fun _ => []) (WB g51 s st [.slice none 0 0] 100 :: []) mixed (.i (by repeat constructor)) ?_ (fun _ => ?_)
    · refine ED.take 0 rfl (by decide +kernel) CutX.no_panic (by decide +kernel) rfl rfl rfl (RV.move rfl) ?_
      refine ED.take 1 rfl (by decide +kernel) CutX.no_panic (by decide +kernel) rfl rfl rfl (RV.nilCheck rfl) ?_
      refine ED.take 2 rfl (by decide +kernel) CutX.no_panic (by decide +kernel) rfl rfl rfl (RV.fieldAddr rfl rfl rfl rfl rfl rfl) ?_
      refine ED.take 3 rfl (by decide +kernel) CutX.no_panic (by decide +kernel) rfl rfl rfl (RV.fieldAddr rfl rfl rfl rfl rfl rfl) ?_
      refine ED.take 4 rfl (by decide +kernel) CutX.no_panic (by decide +kernel) rfl rfl rfl (RV.loadB rfl rfl rfl (by repeat constructor) rfl) ?_
      refine ED.take 5 rfl (by decide +kernel) CutX.no_panic (by decide +kernel) rfl rfl rfl (RV.assign rfl) ?_
      refine ED.take 6 rfl (by decide +kernel) CutX.no_panic (by decide +kernel) rfl rfl rfl (RV.assign rfl) ?_
      refine ED.take 7 rfl (by decide +kernel) CutX.no_panic (by decide +kernel) rfl rfl rfl (RV.assign rfl) ?_
      refine ED.take 8 rfl (by decide +kernel) CutX.no_panic (by decide +kernel) rfl rfl rfl (RV.assign rfl) ?_
      refine ED.done (by decide +kernel) ?_
      exact PX.cutX () ⟨rfl, rfl, rfl, rfl, trivial⟩ (.i (by repeat constructor))
    refine .go ?_; repeat constructor
    exact PX.ret rfl Try.results18 (.cons (.tmp rfl) (.cons (.tmp rfl) (.cons (.tmp rfl) (.cons (.tmp rfl) .nil)))) (fun w hs => ⟨(none, 0), rfl, hnil (hw1.join hs)⟩)
  | some ab =>
    obtain ⟨x, y⟩ := ab
    simp only at hm
    cases hwk : walkM s F (.one tree) x y ⟨(List.replicate (G + 1) (-1, -1)).set 0 ((x : Int), (y : Int)), st⟩ with
    | none => rw [hwk] at hm; cases hm
    | some zf =>
    rw [hwk] at hm
    simp only [Option.some.injEq] at hm
    subst hm
    refine ES.condF rfl ?_
    have hgc : (measM tree).cells[1]? = some (Iv (G : Nat)) := by rw [← hGr]; rfl
    refine .go ?_; repeat constructor
    refine EL.fieldAddr rfl rfl rfl rfl rfl rfl rfl rfl ?_
    refine EL.loadOld (j := 1) rfl rfl rfl rfl rfl hrd12 hgc ?_
    refine EL.add1 rfl rfl rfl rfl (by omega) ?_
    refine EL.move rfl rfl rfl ?_
    refine .go ?_; repeat constructor
    refine ES.nilRow 33 2 ?_
    have hsR : ∀ n, spsC (List.replicate n (-1, -1) ++ [(-1, -1)]) = spsC (List.replicate (n + 1) (-1, -1)) := fun n => by rw [List.replicate_succ']
    refine ES.loop (σ := SpSt) (fun z => z.i ≤ G + 1) (fun z => [(10, Pv g10 0), (14, Pv g51 0), (15, Pv g15 0), (70, Iv ((G + 1 : Nat) : Int)), (71, Iv (z.i : Nat))])
      (fun z => WB g51 s st [.slice z.ad z.i z.cap] 100 :: HA.row (.slice z.ad z.i z.cap) 33 2 z.i (spsC (List.replicate z.i (-1, -1))) :: HA.blk g15 (.cells #[Iv (x : Nat), Iv (y : Nat)] 33) :: []) (fun z => G + 1 - z.i) ⟨0, none, 0⟩ (Nat.zero_le _) ⟨rfl, rfl, rfl, rfl, rfl, trivial⟩ (.i (by repeat constructor)) ?_
    rintro ⟨n, nad, ncap⟩ hn1
    dsimp only at hn1 ⊢
    refine .go ?_; repeat constructor
    refine EL.lss rfl rfl rfl rfl ?_
    refine .go ?_; repeat constructor
    refine ES.condD rfl (fun hlt => ?_) (fun hge => ?_)
    · refine .go ?_; repeat constructor
      refine EL.move rfl rfl rfl ?_
      refine EL.move rfl rfl rfl ?_
      refine EL.nilCheck rfl rfl rfl ?_
      refine EL.fieldAddr rfl rfl rfl rfl rfl rfl rfl rfl ?_
      (apply EL.loadB; exact rfl; exact rfl; exact rfl; exact rfl; exact rfl; (case hm => repeat constructor); exact rfl)
      refine EL.buildS #[Iv (-1), Iv (-1)] rfl rfl rfl rfl rfl (by kernel_rfl) rfl ?_
      (refine EL.buildSlice1 rfl rfl rfl rfl rfl rfl rfl rfl rfl rfl ?_; intro b79)
      (refine EL.append1 rfl rfl rfl rfl rfl rfl rfl rfl rfl (by repeat constructor) (by repeat constructor) (by first | (intro u hu; simp [Value.cells] at hu; subst hu; rfl) | exact all1 rfl) (by rfl) (by unfold maxLen; omega) (by first | omega | (show 1 * _ ≤ _; omega) | (show 8 * _ ≤ _; omega) | (show 16 * _ ≤ _; omega) | (show 24 * _ ≤ _; omega) | (show _ * 1 ≤ _; omega) | (show _ * 8 ≤ _; omega) | (show _ * 16 ≤ _; omega) | (show _ * 24 ≤ _; omega) | exact Nat.le_trans (Nat.mul_le_mul_right _ (show _ ≤ 1073741824 by omega)) (by decide)) ?_; intro a80 c80)
      refine EL.nilCheck rfl rfl rfl ?_
      refine EL.fieldAddr rfl rfl rfl rfl rfl rfl rfl rfl ?_
      (apply EL.storeB; exact rfl; exact rfl; exact rfl; exact rfl; exact rfl; exact rfl; (case p => repeat constructor); exact (by first | decide | exact Nat.le_of_ble_eq_true rfl | simp))
      refine .go ?_; repeat constructor
      refine EL.add1 rfl rfl rfl rfl (by omega) ?_
      refine EL.move rfl rfl rfl ?_
      refine .go ?_; repeat constructor
      exact PX.loop ⟨n + 1, some ⟨a80, 0, none⟩, c80⟩ (by dsimp only; omega) (by simp only; omega) ⟨rfl, rfl, rfl, rfl, rfl, trivial⟩ (by dsimp only; rw [← hsR n, spsC_app]; exact (.i (by repeat constructor)))
    obtain rfl : n = G + 1 := by omega
    refine ES.rowForm (e := 33) (sz := 2) (n := G + 1) (cs := spsC (List.replicate (G + 1) (-1, -1))) (ad := nad) (len := G + 1) (cap := ncap) (by repeat constructor) (fun hf => ?_)
    obtain ⟨spg, rfl⟩ := hf.2.2.2.2 (by omega)
    have hput := spsC_set (List.replicate (G + 1) (-1, -1)) 0 (by simp) ((x : Int), (y : Int))
    have hsl := spsC_len (List.replicate (G + 1) (-1, -1))
    rw [List.length_replicate] at hsl
    generalize spsC (List.replicate (G + 1) (-1, -1)) = CS0 at hput hsl
    refine .g0 ?_; repeat constructor
    refine ES.draw (X := Unit) (fun _ => [(10, Pv g10 0), (14, Pv g51 0), (15, Pv g15 0)])
      (fun _ => SH g51 s (some ⟨spg, 0, none⟩) ncap ⟨(List.replicate (G + 1) (-1, -1)).set 0 ((x : Int), (y : Int)), st⟩ ++ (HA.blk g15 (.cells #[Iv (x : Nat), Iv (y : Nat)] 33) :: []))
      (WB g51 s st [.slice (some ⟨spg, 0, none⟩) (G + 1) ncap] 100 :: HA.blk g15 (.cells #[Iv (x : Nat), Iv (y : Nat)] 33) :: []) mixed (.i (by repeat constructor)) ?_ (fun _ => ?_)
    · refine ED.take 0 rfl (by decide +kernel) CutX.no_panic (by decide +kernel) rfl rfl rfl (RV.move rfl) ?_
      refine ED.take 1 rfl (by decide +kernel) CutX.no_panic (by decide +kernel) rfl rfl rfl (RV.nilCheck rfl) ?_
      refine ED.take 2 rfl (by decide +kernel) CutX.no_panic (by decide +kernel) rfl rfl rfl (RV.fieldAddr rfl rfl rfl rfl rfl rfl) ?_
      refine ED.take 3 rfl (by decide +kernel) CutX.no_panic (by decide +kernel) rfl rfl rfl (RV.loadB rfl rfl rfl (by repeat constructor) rfl) ?_
      refine ED.take 4 rfl (by decide +kernel) CutX.no_panic (by decide +kernel) rfl rfl rfl (RV.loadAggB rfl rfl rfl (by repeat constructor) rfl) ?_
      refine ED.take 5 rfl (by decide +kernel) CutX.no_panic (by decide +kernel) rfl rfl rfl (RV.indexAddrL (i := 0) rfl rfl rfl rfl rfl (by omega)) ?_
      refine ED.last 6 rfl (by decide +kernel) (by decide +kernel) (by decide +kernel) ?_
      (refine EL.storeRA (vs := spC ((x : Int), (y : Int))) rfl rfl rfl rfl rfl (by repeat constructor) (by rw [hsl]; show 0 + 0 * 2 + 2 ≤ _; omega) (all1 rfl) ?_; refine EL.rowEq (v := .slice (some ⟨spg, 0, none⟩) (G + 1) ncap) (by repeat constructor) hput ?_)
      refine EL.endQ ?_
      exact PX.cutX () ⟨rfl, rfl, rfl, trivial⟩ (by unfold SH PRow; dsimp only; rw [List.length_set, List.length_replicate]; exact (.i (by repeat constructor)))
    have hbd := find_bounds _ _ _ hfm (by omega)
    have hwc := setWalk_c (w0 := w1) (B := w1.heap.size) (gs := g51) (sp := some ⟨spg, 0, none⟩) (cap := ncap) hs2 F tree hpf g10 0 hn x y _ _ (by omega) (by omega) hwk
    refine .go ?_; repeat constructor
    refine EL.move rfl rfl rfl ?_
    refine EL.fieldAddr rfl rfl rfl rfl rfl rfl rfl rfl ?_
    (apply EL.loadB; exact rfl; exact rfl; exact rfl; exact rfl; exact rfl; (case hm => repeat constructor); exact rfl)
    refine EL.fieldAddr rfl rfl rfl rfl rfl rfl rfl rfl ?_
    (apply EL.loadB; exact rfl; exact rfl; exact rfl; exact rfl; exact rfl; (case hm => repeat constructor); exact rfl)
    (refine EL.callMw rfl rfl rfl ent45 rfl hwc (by repeat constructor) ?_; intro u)
    refine .go ?_; repeat constructor
    refine ES.imp (H' := WB g51 s zf.steps [.slice (some ⟨spg, 0, none⟩) zf.spans.length ncap] 100 :: PRow (some ⟨spg, 0, none⟩) ncap zf.spans :: []) (fun w hs => hs.ent (.i (by repeat constructor))) ?_
    refine .g0 ?_; repeat constructor
    refine ES.draw (X := Unit) (fun _ => [(6, .slice (some ⟨spg, 0, none⟩) zf.spans.length ncap), (7, .bool true), (8, Iv (zf.steps : Nat)), (9, Iv 0)]) (fun _ => PRow (some ⟨spg, 0, none⟩) ncap zf.spans :: []) (WB g51 s zf.steps [.slice (some ⟨spg, 0, none⟩) zf.spans.length ncap] 100 :: []) mixed (.i (by repeat constructor)) ?_ (fun _ => ?_)
    · refine ED.take 0 rfl (by decide +kernel) CutX.no_panic (by decide +kernel) rfl rfl rfl (RV.move rfl) ?_
      refine ED.take 1 rfl (by decide +kernel) CutX.no_panic (by decide +kernel) rfl rfl rfl (RV.nilCheck rfl) ?_
      refine ED.take 2 rfl (by decide +kernel) CutX.no_panic (by decide +kernel) rfl rfl rfl (RV.fieldAddr rfl rfl rfl rfl rfl rfl) ?_
      refine ED.take 3 rfl (by decide +kernel) CutX.no_panic (by decide +kernel) rfl rfl rfl (RV.loadB rfl rfl rfl (by repeat constructor) rfl) ?_
      refine ED.take 4 rfl (by decide +kernel) CutX.no_panic (by decide +kernel) rfl rfl rfl (RV.move rfl) ?_
      refine ED.take 5 rfl (by decide +kernel) CutX.no_panic (by decide +kernel) rfl rfl rfl (RV.nilCheck rfl) ?_
      refine ED.take 6 rfl (by decide +kernel) CutX.no_panic (by decide +kernel) rfl rfl rfl (RV.fieldAddr rfl rfl rfl rfl rfl rfl) ?_
      refine ED.take 7 rfl (by decide +kernel) CutX.no_panic (by decide +kernel) rfl rfl rfl (RV.fieldAddr rfl rfl rfl rfl rfl rfl) ?_
      refine ED.take 8 rfl (by decide +kernel) CutX.no_panic (by decide +kernel) rfl rfl rfl (RV.loadB rfl rfl rfl (by repeat constructor) rfl) ?_
      refine ED.take 9 rfl (by decide +kernel) CutX.no_panic (by decide +kernel) rfl rfl rfl (RV.assign rfl) ?_
      refine ED.take 10 rfl (by decide +kernel) CutX.no_panic (by decide +kernel) rfl rfl rfl (RV.assign rfl) ?_
      refine ED.take 11 rfl (by decide +kernel) CutX.no_panic (by decide +kernel) rfl rfl rfl (RV.assign rfl) ?_
      refine ED.take 12 rfl (by decide +kernel) CutX.no_panic (by decide +kernel) rfl rfl rfl (RV.assign rfl) ?_
      refine ED.done (by decide +kernel) ?_
      exact PX.cutX () ⟨rfl, rfl, rfl, rfl, trivial⟩ (.i (by repeat constructor))
    refine .go ?_; repeat constructor
    exact PX.ret rfl Try.results18 (.cons (.tmp rfl) (.cons (.tmp rfl) (.cons (.tmp rfl) (.cons (.tmp rfl) .nil)))) (fun w hs => ⟨(some ⟨spg, 0, none⟩, ncap), rfl, (hw1.join hs).ent (.i (by repeat constructor))⟩)
end Go.Proofs.Ytblpgpgbnlhjlaa
