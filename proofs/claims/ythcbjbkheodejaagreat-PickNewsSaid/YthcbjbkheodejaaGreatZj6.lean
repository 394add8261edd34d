/- Texts of this claim, bundled. -/
import Derived.Test.YthcbjbkheodejaaGreatZj5
set_option linter.unusedVariables false
set_option linter.unusedSimpArgs false
namespace Go.Proofs.YthcbjbkheodejaaGreat
open Go Go.RowKit Sl
set_option maxRecDepth 100000
set_option maxHeartbeats 8000000
attribute [local irreducible] ES EL PX wps
abbrev Mt := Nat × List UInt8
def HA.mats (ms : List Mt) : HA := ⟨ms.map Prod.fst, fun w => ∀ q ∈ ms, ∃ st, w.heap[q.1]? = some (.cells (mbC q.1 q.2 (meOf q.2) st) 84 (0, 0)), fun w w' h hw q hq => by
  obtain ⟨st, h1⟩ := hw q hq
  exact ⟨st, (h q.1 (List.mem_map_of_mem hq)).trans h1⟩⟩
theorem Sat.mats0 {w0 w : World} {B : Nat} {H : List HA} (h : Sat w0 B H w) : Sat w0 B (HA.mats [] :: H) w :=
  Sat.rules (Hs := []) (Hs' := [HA.mats []]) h (by simp [fps, HA.mats]) (fun _ Y hY => by
    rw [List.mem_singleton] at hY; subst hY
    intro q hq; cases hq)
theorem Sat.matsIn {w0 w : World} {B : Nat} {l r : List Mt} {g : Nat} {t : List UInt8} {st : Int} {R : List HA} (h : Sat w0 B (MB g t (meOf t) st :: HA.mats (l ++ r) :: R) w) : Sat w0 B (HA.mats (l ++ (g, t) :: r) :: R) w :=
  Sat.rules (Hs := [MB g t (meOf t) st, HA.mats (l ++ r)]) (Hs' := [HA.mats (l ++ (g, t) :: r)]) h (by
    simp only [fps, List.flatMap_cons, List.flatMap_nil, HA.mats, HA.blk, List.append_nil, List.map_append, List.map_cons, List.singleton_append]
    exact List.perm_middle.symm) (fun hh Y hY => by
    have h1 : (MB g t (meOf t) st).holds w := hh _ (by simp)
    have h2 : (HA.mats (l ++ r)).holds w := hh _ (by simp)
    rw [List.mem_singleton] at hY; subst hY
    intro q hq
    rcases List.mem_append.1 hq with hq | hq
    · exact h2 q (by simp [hq])
    · rcases List.mem_cons.1 hq with rfl | hq
      · exact ⟨st, h1⟩
      · exact h2 q (by simp [hq]))
theorem Sat.matsOut {w0 w : World} {B : Nat} {l r : List Mt} {g : Nat} {t : List UInt8} {R : List HA} (h : Sat w0 B (HA.mats (l ++ (g, t) :: r) :: R) w) : ∃ st, Sat w0 B (MB g t (meOf t) st :: HA.mats (l ++ r) :: R) w := by
  obtain ⟨st, hst⟩ := (h.head : (HA.mats (l ++ (g, t) :: r)).holds w) (g, t) (by simp)
  refine ⟨st, Sat.rules (Hs' := [MB g t (meOf t) st, HA.mats (l ++ r)]) (Hs := [HA.mats (l ++ (g, t) :: r)]) h (by
    simp only [fps, List.flatMap_cons, List.flatMap_nil, HA.mats, HA.blk, List.append_nil, List.map_append, List.map_cons, List.singleton_append]
    exact List.perm_middle) (fun hh Y hY => ?_)⟩
  have h2 : (HA.mats (l ++ (g, t) :: r)).holds w := hh _ (by simp)
  simp only [List.mem_cons, List.not_mem_nil, or_false] at hY
  rcases hY with rfl | rfl
  · exact hst
  · exact fun q hq => h2 q (by rcases List.mem_append.1 hq with hq | hq <;> simp [hq])
theorem matchMats_c (F : Nat) (ms : List Mt) (q : Mt) (hq : q ∈ ms) (ht : q.2.length ≤ 4611686018427387904) (hb : (meOf q.2).back = false) (s : List UInt8) (a : Int) (m : MR) (hm : setM F q.2 s a = some m) (w0 : World) (B : Nat) (hG : GR w0 B) :
    MutAt Tryz.prog 31 #[Pv q.1 0, Sv s, Iv a] [HA.mats ms] (mrV m) (fun x => [PRow x.1 x.2 m.spans, HA.mats ms]) w0 B := by
  intro R w h
  obtain ⟨g, t⟩ := q
  obtain ⟨l, r, rfl⟩ := List.append_of_mem hq
  obtain ⟨st, h1⟩ := Sat.matsOut (show Sat w0 B (HA.mats (l ++ (g, t) :: r) :: R) w from h)
  refine (matchSets_c F g t ht (meOf t) hb s a m hm w0 B hG st (HA.mats (l ++ r) :: R) w h1).mono fun e w' ⟨x, he, hs⟩ => ⟨x, he, ?_⟩
  have h2 := Sat.matsIn (hs.ent (H' := MB g t (meOf t) (w64 (st + (m.steps : Nat))) :: HA.mats (l ++ r) :: PRow x.1 x.2 m.spans :: R) (.i (by repeat constructor)))
  exact h2.ent (.i (by repeat constructor))
structure Ad where
  kind : Int
  line : Int
  re : List UInt8
structure Rw where
  A : Ad
  B : Ad
  not : Bool
def adC (a : Ad) : List Value := [Iv a.kind, Iv a.line, Sv a.re]
def rwC (r : Rw) : List Value := adC r.A ++ adC r.B ++ [.bool r.not]
def rwsC (l : List Rw) : List Value := l.flatMap rwC
def hasM (a : Ad) : Prop := a.kind = 3 ∧ a.re ≠ [] ∧ (parseM a.re).e = 0
def readE (a : Ad) : Int := if (a.kind < 0 ∨ 3 < a.kind) ∨ (a.kind = 1 ∧ a.line < 1) then 17 else if a.kind ≠ 3 ∨ a.re = [] then 0 else (parseM a.re).e
def pkE (r : Rw) : Int := if readE r.A ≠ 0 then readE r.A else if readE r.B ≠ 0 then readE r.B else if r.A.kind = 0 ∧ r.B.kind ≠ 0 then 17 else 0
def pksE : List Rw → Int
  | [] => 0
  | r :: l => if pkE r ≠ 0 then pkE r else pksE l
def ptrV (o : Option Mt) : Value := .pointer (o.map fun q => ⟨q.1, 0, none⟩)
structure MtOf (a : Ad) (o : Option Mt) : Prop where
  some : hasM a → ∃ g, o = some (g, a.re)
  none : ¬ hasM a → o = none
structure RdX (a : Ad) where
  o : Option Mt
  is : MtOf a o
def RdX.H {a : Ad} (x : RdX a) : List HA := match x.o with
  | none => []
  | some q => [MB q.1 q.2 (meOf q.2) 0]
theorem pickRead_c (a : Ad) (ha : a.re.length ≤ 4611686018427387904) (w : World) (hG : GR w w.heap.size) : Pure Tryz.prog 48 #[.agg (adC a).toArray] (fun x : RdX a => .tuple #[ptrV x.o, Iv (readE a)]) (fun x => x.H) w := by
  have hre : readE a = if (a.kind < 0 ∨ 3 < a.kind) ∨ (a.kind = 1 ∧ a.line < 1) then 17 else if a.kind ≠ 3 ∨ a.re = [] then 0 else (parseM a.re).e := rfl
  refine calls_of_ES TB Tryz.func48 rfl _ Tryz.ntmps48 rfl (Sat.start w) ?_; refine .go ?_; (repeat constructor); (refine .bx ?_; intro g1); refine .as_ ?_; refine .as_ ?_; refine .go ?_; (repeat constructor); refine .go ?_; repeat constructor
  refine EL.cutX (X := Unit) (fun _ => [(1, Pv g1 0), (6, .bool (decide ((a.kind < 0 ∨ 3 < a.kind) ∨ (a.kind = 1 ∧ a.line < 1))))]) (fun _ => HA.blk g1 (.cells (adC a).toArray 52) :: []) ?_ (fun _ => ?_)
  · refine .go ?_; (repeat constructor); refine .fa ?_; refine .lb ?_; refine .ls ?_; refine .mv ?_
    first | refine EL.splitD (d := 10) rfl (fun hp10 => ?_) (fun hp10 => ?_) | refine EL.splitN (d := 10) rfl (fun hp10 => ?_) (fun hp10 => ?_) | refine EL.splitB (d := 10) rfl (fun hp10 => ?_) (fun hp10 => ?_)
    · refine .ps ?_; refine .ps ?_; refine .ps ?_; refine .pt ?_; refine .mv ?_; refine .ps ?_; refine .ps ?_; refine .ps ?_; refine .ps ?_; refine .ps ?_; refine .ps ?_; refine .ps ?_; refine .ps ?_; refine .pt ?_; refine .as_ ?_
      exact .dx () ⟨rfl, getA rfl (congrArg Value.bool (by rw [Bool.eq_iff_iff]; simp only [decide_eq_true_eq, true_iff, false_iff, Bool.false_eq_true]; omega)), trivial⟩
    · refine .fa ?_; refine .lb ?_; refine .gt_ ?_; refine .pf ?_; refine .mv ?_
      first | refine EL.splitD (d := 15) rfl (fun hp15 => ?_) (fun hp15 => ?_) | refine EL.splitN (d := 15) rfl (fun hp15 => ?_) (fun hp15 => ?_) | refine EL.splitB (d := 15) rfl (fun hp15 => ?_) (fun hp15 => ?_)
      · refine .ps ?_; refine .ps ?_; refine .ps ?_; refine .ps ?_; refine .ps ?_; refine .ps ?_; refine .ps ?_; refine .ps ?_; refine .pt ?_; refine .as_ ?_
        exact .dx () ⟨rfl, getA rfl (congrArg Value.bool (by rw [Bool.eq_iff_iff]; simp only [decide_eq_true_eq, true_iff, false_iff, Bool.false_eq_true]; omega)), trivial⟩
      · refine .fa ?_; refine .lb ?_; refine .ei ?_; refine .mv ?_
        first | refine EL.splitD (d := 19) rfl (fun hp19 => ?_) (fun hp19 => ?_) | refine EL.splitN (d := 19) rfl (fun hp19 => ?_) (fun hp19 => ?_) | refine EL.splitB (d := 19) rfl (fun hp19 => ?_) (fun hp19 => ?_)
        · refine .fa ?_; refine .lb ?_; refine .ls ?_; refine .pt ?_; refine .pf ?_; refine .as_ ?_
          exact .dx () ⟨rfl, getA rfl (congrArg Value.bool (by rw [Bool.eq_iff_iff]; simp only [decide_eq_true_eq, true_iff, false_iff, Bool.false_eq_true]; omega)), trivial⟩
        · refine .ps ?_; refine .ps ?_; refine .ps ?_; refine .pf ?_; refine .pf ?_; refine .as_ ?_
          exact .dx () ⟨rfl, getA rfl (congrArg Value.bool (by rw [Bool.eq_iff_iff]; simp only [decide_eq_true_eq, true_iff, false_iff, Bool.false_eq_true]; omega)), trivial⟩
  refine ES.condD rfl (fun hbad => ?_) (fun hbad => ?_)
  · rw [if_pos hbad] at hre
    have hn : ¬ hasM a := fun h => by obtain ⟨h1, _, _⟩ := h; omega
    refine .go ?_; (repeat constructor); refine .as_ ?_; refine .as_ ?_; refine .go ?_; repeat constructor
    exact PX.ret rfl Tryz.results48 (.cons (.tmp rfl) (.cons (.tmp rfl) .nil)) (fun w hs => ⟨⟨none, fun h => absurd h hn, fun _ => rfl⟩, by rw [hre]; rfl, hs.ent (.i (by repeat constructor))⟩)
  rw [if_neg hbad] at hre
  refine .go ?_; repeat constructor
  refine EL.cutX (X := Unit) (fun _ => [(1, Pv g1 0), (25, .bool (decide (a.kind ≠ 3 ∨ a.re = [])))]) (fun _ => HA.blk g1 (.cells (adC a).toArray 52) :: []) ?_ (fun _ => ?_)
  · refine .go ?_; (repeat constructor); refine .fa ?_; refine .lb ?_; refine .ni ?_; refine .mv ?_
    first | refine EL.splitD (d := 29) rfl (fun hp29 => ?_) (fun hp29 => ?_) | refine EL.splitN (d := 29) rfl (fun hp29 => ?_) (fun hp29 => ?_) | refine EL.splitB (d := 29) rfl (fun hp29 => ?_) (fun hp29 => ?_)
    · refine .ps ?_; refine .ps ?_; refine .ps ?_; refine .pt ?_; refine .as_ ?_
      exact .dx () ⟨rfl, getA rfl (congrArg Value.bool (by rw [Bool.eq_iff_iff]; simp_all)), trivial⟩
    · refine .fa ?_; refine .lb ?_; refine .eS ?_; refine .pf ?_; refine .as_ ?_
      exact .dx () ⟨rfl, getA rfl (congrArg Value.bool (by rw [Bool.eq_iff_iff]; simp_all)), trivial⟩
  refine ES.condD rfl (fun hno => ?_) (fun hyes => ?_)
  · rw [if_pos hno] at hre
    have hn : ¬ hasM a := fun h => by
      obtain ⟨h1, h2, _⟩ := h
      rcases hno with h | h
      · exact h h1
      · exact h2 h
    refine .go ?_; (repeat constructor); refine .as_ ?_; refine .as_ ?_; refine .go ?_; repeat constructor
    exact PX.ret rfl Tryz.results48 (.cons (.tmp rfl) (.cons (.tmp rfl) .nil)) (fun w hs => ⟨⟨none, fun h => absurd h hn, fun _ => rfl⟩, by rw [hre]; rfl, hs.ent (.i (by repeat constructor))⟩)
  rw [if_neg hyes] at hre
  have hk : a.kind = 3 ∧ a.re ≠ [] := by
    constructor
    · exact Decidable.byContradiction fun h => hyes (.inl h)
    · exact fun h => hyes (.inr h)
  by_cases hp : (parseM a.re).e = 0
  · rw [hp] at hre
    refine .go ?_; (repeat constructor); refine .fa ?_; refine .lb ?_; (refine EL.callXw rfl rfl rfl ent9 rfl (fun w hs => newOk_c a.re hp ha w (GR.sat hG hs)) ?_; intro gm); refine .mv ?_; refine .ex ?_; refine .ex ?_; (refine .al ?_; intro g5); refine .as_ ?_; refine .sa ?_; refine .go ?_; (repeat constructor); refine .g0 ?_; repeat constructor
    refine ES.draw (X := Unit) (fun _ => [(2, Pv gm 0), (3, Iv 0)]) (fun _ => MB gm a.re (meOf a.re) 0 :: []) (HA.blk g5 (.cells #[Iv 0, Iv 0] 33) :: []) mixed (.i (by repeat constructor)) ?_ (fun _ => ?_)
    · refine .tk 0 rfl (RV.move rfl) ?_; refine .tk 1 rfl (RV.fieldAddr rfl rfl rfl rfl rfl rfl) ?_; refine .tk 2 rfl (RV.loadB rfl rfl rfl (by repeat constructor) rfl) ?_; refine .tk 3 rfl (RV.assign rfl) ?_; refine .tk 4 rfl (RV.assign rfl) ?_; refine .dn ?_
      exact .cy ()
    refine .go ?_; repeat constructor
    exact PX.ret rfl Tryz.results48 (.cons (.tmp rfl) (.cons (.tmp rfl) .nil)) (fun w hs => ⟨⟨some (gm, a.re), fun _ => ⟨gm, rfl⟩, fun h => absurd ⟨hk.1, hk.2, hp⟩ h⟩, by rw [hre]; rfl, hs.ent (.i (by repeat constructor))⟩)
  · have hn : ¬ hasM a := fun h => hp h.2.2
    refine .go ?_; (repeat constructor); refine .fa ?_; refine .lb ?_
    (refine EL.callPw rfl rfl rfl ent9 rfl (fun w hs => newBad_c a.re hp ha w (GR.sat hG hs)) ?_)
    refine .mv ?_; refine .ex ?_; refine .ex ?_; (refine .al ?_; intro g5); refine .as_ ?_; refine .sa ?_; refine .go ?_; (repeat constructor); refine .g0 ?_; repeat constructor
    refine ES.draw (X := Unit) (fun _ => [(2, .pointer none), (3, Iv (parseM a.re).e)]) (fun _ => []) (HA.blk g5 (.cells #[Iv (parseM a.re).e, Iv ((parseM a.re).at_ : Nat)] 33) :: []) mixed (.i (by repeat constructor)) ?_ (fun _ => ?_)
    · refine .tk 0 rfl (RV.move rfl) ?_; refine .tk 1 rfl (RV.fieldAddr rfl rfl rfl rfl rfl rfl) ?_; refine .tk 2 rfl (RV.loadB rfl rfl rfl (by repeat constructor) rfl) ?_; refine .tk 3 rfl (RV.assign rfl) ?_; refine .tk 4 rfl (RV.assign rfl) ?_; refine .dn ?_
      exact .cy ()
    refine .go ?_; repeat constructor
    exact PX.ret rfl Tryz.results48 (.cons (.tmp rfl) (.cons (.tmp rfl) .nil)) (fun w hs => ⟨⟨none, fun h => absurd h hn, fun _ => rfl⟩, by rw [hre]; rfl, hs.ent (.i (by repeat constructor))⟩)
structure Chc where
  row : Rw
  a : Option Mt
  b : Option Mt
  on : Bool
def chC (c : Chc) : List Value := rwC c.row ++ [ptrV c.a, ptrV c.b, .bool c.on]
def chsC (l : List Chc) : List Value := l.flatMap chC
theorem rwsC_get : ∀ (l : List Rw) (i : Nat) (r : Rw), l[i]? = some r → ∀ j u, (rwC r)[j]? = some u → (rwsC l)[i * 7 + j]? = some u
  | [], i, r, h, _, _, _ => by simp at h
  | r' :: l, 0, r, h, j, u, hj => by
    simp only [List.getElem?_cons_zero, Option.some.injEq] at h
    subst h
    have hlt := (List.getElem?_eq_some_iff.1 hj).1
    rw [Nat.zero_mul, Nat.zero_add]
    show (rwC r' ++ rwsC l)[j]? = some u
    rw [List.getElem?_append_left hlt]; exact hj
  | r' :: l, i + 1, r, h, j, u, hj => by
    simp only [List.getElem?_cons_succ] at h
    have ih := rwsC_get l i r h j u hj
    have hl : (rwC r').length = 7 := rfl
    show (rwC r' ++ rwsC l)[(i + 1) * 7 + j]? = some u
    rw [List.getElem?_append_right (by omega), show (i + 1) * 7 + j - (rwC r').length = i * 7 + j by omega]
    exact ih
theorem rwsC_len : ∀ l : List Rw, (rwsC l).length = l.length * 7
  | [] => rfl
  | r :: l => by
    have := rwsC_len l
    simp only [rwsC, List.flatMap_cons, List.length_append, List.length_cons] at this ⊢
    rw [this, show (rwC r).length = 7 from rfl]; omega
structure PkSt where
  ad : Option Addr
  cap : Nat
  cs : List Chc
  ms : List Mt
structure PkOk (rows : List Rw) (z : PkSt) : Prop where
  row : z.cs.map Chc.row = rows
  on : ∀ c ∈ z.cs, c.on = false
  a : ∀ c ∈ z.cs, MtOf c.row.A c.a ∧ ∀ q, c.a = some q → q ∈ z.ms
  b : ∀ c ∈ z.cs, MtOf c.row.B c.b ∧ ∀ q, c.b = some q → q ∈ z.ms
  src : ∀ q ∈ z.ms, ∃ r ∈ rows, (hasM r.A ∧ q.2 = r.A.re) ∨ (hasM r.B ∧ q.2 = r.B.re)
theorem MtOf.src {a : Ad} {o : Option Mt} (h : MtOf a o) {q : Mt} (e : o = Option.some q) : hasM a ∧ q.2 = a.re := by
  by_cases hm : hasM a
  · obtain ⟨g, hg⟩ := h.some hm
    rw [e] at hg
    cases hg
    exact ⟨hm, rfl⟩
  · have := h.none hm
    rw [e] at this
    cases this
def pkNE (rows : List Rw) : Int := if 4096 < rows.length then 4 else pksE rows
inductive NwX (rows : List Rw) : Type
  | bad (h : pkNE rows ≠ 0)
  | ok (h : pkNE rows = 0) (gp : Nat) (z : PkSt) (hz : PkOk rows z)
abbrev PKB (gp : Nat) (ad : Option Addr) (n cap : Nat) (last : Option Mt) : HA := HA.blk gp (.cells #[.slice ad n cap, ptrV last] 99)
abbrev CRow (ad : Option Addr) (cap : Nat) (cs : List Chc) : HA := HA.row (.slice ad cs.length cap) 132 10 cs.length (chsC cs)
def NwX.val {rows : List Rw} : NwX rows → Value
  | .bad _ => .tuple #[.pointer none, Iv (pkNE rows)]
  | .ok _ gp _ _ => .tuple #[Pv gp 0, Iv 0]
def NwX.H {rows : List Rw} : NwX rows → List HA
  | .bad _ => []
  | .ok _ gp z _ => [PKB gp z.ad z.cs.length z.cap none, CRow z.ad z.cap z.cs, HA.mats z.ms]
theorem RdX.absorb {a : Ad} (x : RdX a) {w0 w : World} {B : Nat} {ms : List Mt} {L R : List HA} (h : Sat w0 B (x.H ++ (L ++ HA.mats ms :: R)) w) : Sat w0 B (L ++ HA.mats (ms ++ x.o.toList) :: R) w := by
  obtain ⟨o, is⟩ := x
  cases o with
  | none =>
    rw [show ms ++ (none : Option Mt).toList = ms from List.append_nil ms]
    exact h
  | some q =>
    have h1 : Sat w0 B (MB q.1 q.2 (meOf q.2) 0 :: HA.mats (ms ++ []) :: (L ++ R)) w := by
      rw [List.append_nil]
      exact Sat.perm h (by
        show (MB q.1 q.2 (meOf q.2) 0 :: (L ++ HA.mats ms :: R)).Perm _
        exact List.perm_middle.cons _)
    have h2 := Sat.matsIn h1
    exact Sat.perm h2 List.perm_middle.symm
theorem pickNew_c (rows : List Rw) (hre : ∀ r ∈ rows, r.A.re.length ≤ 4611686018427387904 ∧ r.B.re.length ≤ 4611686018427387904) (ad0 : Option Addr) (cap0 : Nat) (w : World) (hG : GR w w.heap.size) (hrd : Rd w w.heap.size ad0 (rwsC rows)) :
    Pure Tryz.prog 32 #[.slice ad0 rows.length cap0] (fun x : NwX rows => x.val) (fun x => x.H) w := by
  have hrl := rwsC_len rows
  refine calls_of_ES TB Tryz.func32 rfl _ Tryz.ntmps32 rfl (Sat.start w) ?_; refine .go ?_; (repeat constructor); refine .as_ ?_; refine .as_ ?_; refine .go ?_; (repeat constructor); refine .mv ?_; refine .lL ?_; refine .gt_ ?_; refine .go ?_; repeat constructor
  refine ES.condD rfl (fun hfull => ?_) (fun hroom => ?_)
  · have he : pkNE rows = 4 := if_pos (by omega)
    refine .go ?_; (repeat constructor); refine .as_ ?_; refine .as_ ?_; refine .go ?_; repeat constructor
    exact PX.ret rfl Tryz.results32 (.cons (.tmp rfl) (.cons (.tmp rfl) .nil)) (fun w hs => ⟨.bad (by rw [he]; decide), congrArg (fun e : Int => Ending.returned (.tuple #[.pointer none, Iv e])) he.symm, hs.ent (.i (by repeat constructor))⟩)
  have hne : pkNE rows = pksE rows := if_neg (by omega)
  refine .go ?_; (repeat constructor); refine EL.buildZ rfl rfl rfl rfl rfl ?_; (refine .bx ?_; intro g14); refine .as_ ?_; refine .go ?_; (repeat constructor); refine EL.nilRow 132 10 ?_; refine EL.imp (H' := PKB g14 none 0 0 none :: CRow none 0 [] :: HA.mats [] :: []) (fun w hs => (Sat.mats0 hs).ent (.i (by repeat constructor))) ?_; refine .go ?_; (repeat constructor); refine .mv ?_; refine .lL ?_; refine .mv ?_; refine .go ?_; repeat constructor
  refine ES.loop (σ := PkSt) (fun z => z.cs.length ≤ rows.length ∧ PkOk (rows.take z.cs.length) z ∧ pksE (rows.drop z.cs.length) = pksE rows) (fun z => [(0, .slice ad0 rows.length cap0), (4, Pv g14 0), (15, .slice ad0 rows.length cap0), (16, Iv (rows.length : Nat)), (17, Iv (z.cs.length : Nat))])
    (fun z => PKB g14 z.ad z.cs.length z.cap none :: CRow z.ad z.cap z.cs :: HA.mats z.ms :: []) (fun z => rows.length - z.cs.length) ⟨none, 0, [], []⟩ ⟨Nat.zero_le _, ⟨rfl, by simp, by simp, by simp, by simp⟩, rfl⟩ ⟨rfl, rfl, rfl, rfl, rfl, trivial⟩ (.i (by repeat constructor)) ?_
  rintro ⟨ad, cap, cs, ms⟩ ⟨hi, hok, hgo⟩
  dsimp only at hi hok hgo ⊢
  obtain ⟨i, hic⟩ : ∃ i, i = cs.length := ⟨_, rfl⟩
  rw [← hic] at hi hok hgo
  unfold CRow
  rw [← hic]
  refine .go ?_; (repeat constructor); refine .ls ?_; refine .go ?_; repeat constructor
  refine ES.condD rfl (fun hlt => ?_) (fun hge => ?_)
  rotate_left
  · obtain rfl : i = rows.length := by omega
    rw [List.drop_length, pksE] at hgo
    rw [List.take_length] at hok
    refine .go ?_; (repeat constructor); refine .mv ?_; refine .as_ ?_; refine .as_ ?_; refine .go ?_; repeat constructor
    exact PX.ret rfl Tryz.results32 (.cons (.tmp rfl) (.cons (.tmp rfl) .nil)) (fun w hs => ⟨.ok (by rw [hne, ← hgo]) g14 ⟨ad, cap, cs, ms⟩ hok, rfl, by unfold NwX.H CRow; dsimp only; rw [← hic]; exact hs.ent (.i (by repeat constructor))⟩)
  have hlt' : i < rows.length := by omega
  obtain ⟨r, hri⟩ : ∃ r, rows[i]? = some r := ⟨_, List.getElem?_eq_getElem hlt'⟩
  obtain ⟨hra, hrb⟩ := hre r (List.mem_of_getElem? hri)
  rw [List.drop_eq_getElem_cons hlt', show rows[i] = r from (List.getElem?_eq_some_iff.1 hri).2, pksE] at hgo
  obtain ⟨rg, ro, rfl, _⟩ := hrd (fun e => by rw [e] at hrl; simp at hrl; omega)
  refine .go ?_; (repeat constructor); refine EL.indexAddrL rfl rfl rfl rfl rfl rfl rfl (by omega) ?_
  refine EL.ofRV (RV.loadOldA (j := i * 7) (vs := rwC r) rfl rfl rfl rfl (by simp [rwC, adC]) hrd (rwsC_get rows i r hri)) rfl rfl rfl (by intro c h; cases h) ?_
  (refine .al ?_; intro g6); refine .sa ?_; refine .go ?_; (repeat constructor); refine .go ?_; (repeat constructor); refine .fa ?_
  refine EL.ofRV (RV.loadBA (adC r.A) rfl rfl rfl rfl (by repeat constructor) rfl) rfl rfl rfl (by intro c h; cases h) ?_
  (refine EL.callXw rfl rfl rfl ent48 rfl (fun w hs => pickRead_c r.A hra w (GR.sat hG hs)) ?_; intro xa; refine EL.imp (H' := HA.blk g6 (.cells (rwC r).toArray 55) :: PKB g14 ad i cap none :: HA.row (.slice ad i cap) 132 10 i (chsC cs) :: HA.mats (ms ++ xa.o.toList) :: []) (fun w hs => RdX.absorb xa (L := [HA.blk g6 (.cells (rwC r).toArray 55), PKB g14 ad i cap none, HA.row (.slice ad i cap) 132 10 i (chsC cs)]) hs) ?_)
  refine .mv ?_; refine .ex ?_; refine .ex ?_; refine .as_ ?_; refine .as_ ?_; refine .go ?_; (repeat constructor); refine .go ?_; (repeat constructor); refine .mv ?_; refine .ni ?_; refine .go ?_; repeat constructor
  refine ES.condN rfl (fun hea => ?_) (fun hea => ?_)
  · have he : pkNE rows = readE r.A := by
      rw [hne, ← hgo]
      unfold pkE
      rw [if_pos hea, if_pos hea]
    refine .go ?_; (repeat constructor); refine .mv ?_; refine .as_ ?_; refine .as_ ?_; refine .go ?_; repeat constructor
    exact PX.ret rfl Tryz.results32 (.cons (.tmp rfl) (.cons (.tmp rfl) .nil)) (fun w hs => ⟨.bad (by rw [he]; exact hea), congrArg (fun e : Int => Ending.returned (.tuple #[.pointer none, Iv e])) he.symm, hs.ent (.nil _)⟩)
  have hea' : ¬ readE r.A ≠ 0 := fun h => h hea
  refine .go ?_; (repeat constructor); refine .fa ?_
  refine EL.ofRV (RV.loadBA (adC r.B) rfl rfl rfl rfl (by repeat constructor) rfl) rfl rfl rfl (by intro c h; cases h) ?_
  (refine EL.callXw rfl rfl rfl ent48 rfl (fun w hs => pickRead_c r.B hrb w (GR.sat hG hs)) ?_; intro xb; refine EL.imp (H' := HA.blk g6 (.cells (rwC r).toArray 55) :: PKB g14 ad i cap none :: HA.row (.slice ad i cap) 132 10 i (chsC cs) :: HA.mats (ms ++ xa.o.toList ++ xb.o.toList) :: []) (fun w hs => RdX.absorb xb (L := [HA.blk g6 (.cells (rwC r).toArray 55), PKB g14 ad i cap none, HA.row (.slice ad i cap) 132 10 i (chsC cs)]) hs) ?_)
  refine .mv ?_; refine .ex ?_; refine .ex ?_; refine .as_ ?_; refine .as_ ?_; refine .go ?_; (repeat constructor); refine .go ?_; (repeat constructor); refine .mv ?_; refine .ni ?_; refine .go ?_; repeat constructor
  refine ES.condN rfl (fun heb => ?_) (fun heb => ?_)
  · have he : pkNE rows = readE r.B := by
      rw [hne, ← hgo]
      unfold pkE
      rw [if_neg hea', if_pos heb, if_pos heb]
    refine .go ?_; (repeat constructor); refine .mv ?_; refine .as_ ?_; refine .as_ ?_; refine .go ?_; repeat constructor
    exact PX.ret rfl Tryz.results32 (.cons (.tmp rfl) (.cons (.tmp rfl) .nil)) (fun w hs => ⟨.bad (by rw [he]; exact heb), congrArg (fun e : Int => Ending.returned (.tuple #[.pointer none, Iv e])) he.symm, hs.ent (.nil _)⟩)
  have heb' : ¬ readE r.B ≠ 0 := fun h => h heb
  refine .go ?_; repeat constructor
  refine EL.cutX (X := Unit) (fun _ => [(0, .slice (some ⟨rg, ro, none⟩) rows.length cap0), (4, Pv g14 0), (6, Pv g6 0), (7, ptrV xa.o), (9, ptrV xb.o), (15, .slice (some ⟨rg, ro, none⟩) rows.length cap0), (16, Iv (rows.length : Nat)), (17, Iv (i : Nat)), (48, .bool (decide (r.A.kind = 0 ∧ r.B.kind ≠ 0)))])
    (fun _ => HA.blk g6 (.cells (rwC r).toArray 55) :: PKB g14 ad i cap none :: HA.row (.slice ad i cap) 132 10 i (chsC cs) :: HA.mats (ms ++ xa.o.toList ++ xb.o.toList) :: []) ?_ (fun _ => ?_)
  · refine .go ?_; (repeat constructor); refine .fa ?_; refine .fa ?_; refine .lb ?_; refine .ei ?_; refine .mv ?_
    first | refine EL.splitD (d := 43) rfl (fun hp43 => ?_) (fun hp43 => ?_) | refine EL.splitN (d := 43) rfl (fun hp43 => ?_) (fun hp43 => ?_) | refine EL.splitB (d := 43) rfl (fun hp43 => ?_) (fun hp43 => ?_)
    · refine .fa ?_; refine .fa ?_; refine .lb ?_; refine .ni ?_; refine .pt ?_
      exact .dx () ⟨rfl, rfl, rfl, rfl, rfl, rfl, rfl, rfl, getA rfl (congrArg Value.bool (by rw [Bool.eq_iff_iff]; simp_all)), trivial⟩
    · refine .ps ?_; refine .ps ?_; refine .ps ?_; refine .ps ?_; refine .pf ?_
      exact .dx () ⟨rfl, rfl, rfl, rfl, rfl, rfl, rfl, rfl, getA rfl (congrArg Value.bool (by rw [Bool.eq_iff_iff]; simp_all)), trivial⟩
  refine ES.condD rfl (fun hno => ?_) (fun hno => ?_)
  · have he : pkNE rows = 17 := by
      rw [hne, ← hgo]
      unfold pkE
      rw [if_neg hea', if_neg heb', if_pos hno, if_pos (by decide)]
    refine .go ?_; (repeat constructor); refine .as_ ?_; refine .as_ ?_; refine .go ?_; repeat constructor
    exact PX.ret rfl Tryz.results32 (.cons (.tmp rfl) (.cons (.tmp rfl) .nil)) (fun w hs => ⟨.bad (by rw [he]; decide), congrArg (fun e : Int => Ending.returned (.tuple #[.pointer none, Iv e])) he.symm, hs.ent (.nil _)⟩)
  have he0 : pkE r = 0 := by
    unfold pkE
    rw [if_neg hea', if_neg heb', if_neg hno]
  rw [he0, if_neg (by simp)] at hgo
  obtain ⟨c, hcd⟩ : ∃ c : Chc, c = ⟨r, xa.o, xb.o, false⟩ := ⟨_, rfl⟩
  have hcell : chC c = [Iv r.A.kind, Iv r.A.line, Sv r.A.re, Iv r.B.kind, Iv r.B.line, Sv r.B.re, .bool r.not, ptrV xa.o, ptrV xb.o, .bool false] := by rw [hcd]; rfl
  have hone : ∀ u ∈ chC c, u.oneCell' = true := by
    have hp : ∀ o : Option Mt, (ptrV o).oneCell' = true := fun o => by cases o <;> rfl
    rw [hcell]
    intro u hu
    simp only [List.mem_cons, List.not_mem_nil, or_false] at hu
    rcases hu with rfl | rfl | rfl | rfl | rfl | rfl | rfl | rfl | rfl | rfl <;> first | rfl | exact hp _
  have hcs : chsC (cs ++ [c]) = chsC cs ++ chC c := by simp [chsC]
  have hlc : (cs ++ [c]).length = i + 1 := by simp [hic]
  refine .g0 ?_; repeat constructor
  refine ES.draw (X := Nat × Nat) (fun _ => [(0, .slice (some ⟨rg, ro, none⟩) rows.length cap0), (4, Pv g14 0), (15, .slice (some ⟨rg, ro, none⟩) rows.length cap0), (16, Iv (rows.length : Nat)), (17, Iv (i : Nat))])
    (fun x => PKB g14 (some ⟨x.1, 0, none⟩) (i + 1) x.2 none :: HA.row (.slice (some ⟨x.1, 0, none⟩) (i + 1) x.2) 132 10 (i + 1) (chsC cs ++ chC c) :: HA.mats (ms ++ xa.o.toList ++ xb.o.toList) :: [])
    (HA.blk g6 (.cells (rwC r).toArray 55) :: PKB g14 ad i cap none :: []) mixed (.i (by repeat constructor)) ?_ (fun x => ?_)
  · refine .tk 0 rfl (RV.move rfl) ?_; refine .tk 1 rfl (RV.move rfl) ?_; refine .tk 2 rfl (RV.nilCheck rfl) ?_; refine .tk 3 rfl (RV.fieldAddr rfl rfl rfl rfl rfl rfl) ?_; refine .tk 4 rfl (RV.loadB rfl rfl rfl (by repeat constructor) rfl) ?_; refine .tk 5 rfl (RV.loadAggB rfl rfl rfl (by repeat constructor) rfl) ?_; refine .tk 6 rfl (RV.move rfl) ?_; refine .tk 7 rfl (RV.move rfl) ?_; refine .tk 8 rfl (RV.buildS (chC ⟨r, xa.o, xb.o, false⟩).toArray rfl rfl rfl rfl (by kernel_rfl)) ?_; refine .ld 9 ?_; (refine .b1 ?_; intro b58); refine .nx ?_; refine .ld 10 ?_
    (refine EL.append1 (news := chC ⟨r, xa.o, xb.o, false⟩) rfl rfl rfl rfl rfl rfl rfl rfl rfl (by repeat constructor) (by repeat constructor) (hcd ▸ hone) (by rfl) (by unfold maxLen; omega) (by first | omega | (show 1 * _ ≤ _; omega) | (show 8 * _ ≤ _; omega) | (show 16 * _ ≤ _; omega) | (show 24 * _ ≤ _; omega) | (show _ * 1 ≤ _; omega) | (show _ * 8 ≤ _; omega) | (show _ * 16 ≤ _; omega) | (show _ * 24 ≤ _; omega) | exact Nat.le_trans (Nat.mul_le_mul_right _ (show _ ≤ 1073741824 by omega)) (by decide)) ?_; intro a59 c59)
    refine .nx ?_; refine .tk 11 rfl (RV.nilCheck rfl) ?_; refine .tk 12 rfl (RV.fieldAddr rfl rfl rfl rfl rfl rfl) ?_; refine ED.last 13 rfl (by decide +kernel) (by decide +kernel) (by decide +kernel) ?_; refine .sb ?_; refine EL.endQ ?_
    exact PX.cutX (a59, c59) ⟨rfl, rfl, rfl, rfl, rfl, trivial⟩ (by rw [hcd]; exact (.i (by repeat constructor)))
  refine .go ?_; (repeat constructor); refine .a1 ?_; refine .mv ?_; refine .go ?_; repeat constructor
  have hok2 : PkOk (rows.take (i + 1)) ⟨some ⟨x.1, 0, none⟩, x.2, cs ++ [c], ms ++ xa.o.toList ++ xb.o.toList⟩ := by
    obtain ⟨h1, h2, h3, h4, h5⟩ := hok
    have hin : ∀ q, q ∈ ms → q ∈ ms ++ xa.o.toList ++ xb.o.toList := fun q hq => by simp [hq]
    have hrin : r ∈ rows.take (i + 1) := by rw [List.take_succ_eq_append_getElem hlt', show rows[i] = r from (List.getElem?_eq_some_iff.1 hri).2]; simp
    refine ⟨?_, fun c' hc' => ?_, fun c' hc' => ?_, fun c' hc' => ?_, fun q hq => ?_⟩
    · show (cs ++ [c]).map Chc.row = _
      rw [List.map_append, h1, List.take_succ_eq_append_getElem hlt', show rows[i] = r from (List.getElem?_eq_some_iff.1 hri).2, hcd]; rfl
    · rcases List.mem_append.1 hc' with hc' | hc'
      · exact h2 c' hc'
      · rw [List.mem_singleton] at hc'; subst hc'; rw [hcd]
    · rcases List.mem_append.1 hc' with hc' | hc'
      · exact ⟨(h3 c' hc').1, fun q hq => hin q ((h3 c' hc').2 q hq)⟩
      · rw [List.mem_singleton] at hc'; subst hc'; rw [hcd]
        exact ⟨xa.is, fun q hq => by
          have hq : xa.o = some q := hq
          rw [hq]; simp⟩
    · rcases List.mem_append.1 hc' with hc' | hc'
      · exact ⟨(h4 c' hc').1, fun q hq => hin q ((h4 c' hc').2 q hq)⟩
      · rw [List.mem_singleton] at hc'; subst hc'; rw [hcd]
        exact ⟨xb.is, fun q hq => by
          have hq : xb.o = some q := hq
          rw [hq]; simp⟩
    · rcases List.mem_append.1 hq with hq | hq
      · rcases List.mem_append.1 hq with hq | hq
        · obtain ⟨r', hr', h⟩ := h5 q hq
          exact ⟨r', (List.take_subset_take_left _ (by omega)) hr', h⟩
        · exact ⟨r, hrin, .inl (xa.is.src (by simpa using hq))⟩
      · exact ⟨r, hrin, .inr (xb.is.src (by simpa using hq))⟩
  exact PX.loop ⟨some ⟨x.1, 0, none⟩, x.2, cs ++ [c], ms ++ xa.o.toList ++ xb.o.toList⟩ ⟨by rw [hlc]; exact hlt', by rw [hlc]; exact hok2, by rw [hlc]; exact hgo⟩ (by simp only; rw [hlc, ← hic]; omega) ⟨rfl, rfl, rfl, rfl, getA rfl (by dsimp only; rw [hlc]), trivial⟩ (by dsimp only; rw [hlc, hcs]; exact (.i (by repeat constructor)))
theorem read3 (a : Ad) (h : a.kind = 3) : readE a = (parseM a.re).e := by
  unfold readE
  rw [if_neg (by omega)]
  by_cases hr : a.re = []
  · rw [if_pos (.inr hr), hr]
    decide +kernel
  · rw [if_neg (by rintro (h2 | h2); exact h2 h; exact hr h2)]
theorem read_no (a : Ad) (h : a.kind ≠ 0 ∧ a.kind ≠ 2 ∧ a.kind ≠ 3 ∧ ¬ (a.kind = 1 ∧ 1 ≤ a.line)) : readE a = 17 := by
  unfold readE
  rw [if_pos (by omega)]
theorem read_yes (a : Ad) (h : a.kind = 0 ∨ a.kind = 2 ∨ (a.kind = 1 ∧ 1 ≤ a.line)) : readE a = 0 := by
  unfold readE
  rw [if_neg (by omega), if_pos (.inl (by omega))]
theorem daddr_c (a : Ad) (ha : a.re.length ≤ 4611686018427387904) (w : World) : Pure Tryz.prog 49 #[.agg (adC a).toArray] (fun _ : Unit => Iv (readE a)) (fun _ => []) w := by
  refine calls_of_ES TB Tryz.func49 rfl _ Tryz.ntmps49 rfl (Sat.start w) ?_; refine .go ?_; (repeat constructor); (refine .bx ?_; intro g1); refine .as_ ?_; refine .go ?_; (repeat constructor); refine .fa ?_; refine .lb ?_; refine .go ?_; (repeat constructor); refine .ei ?_; refine .as_ ?_; refine .go ?_; repeat constructor
  refine ES.condD rfl (fun h0 => ?_) (fun h0 => ?_)
  · rw [read_yes a (.inl h0)]
    refine .go ?_; (repeat constructor); refine ES.condK true rfl (decide_eq_true h0) ?_; refine .go ?_; (repeat constructor); refine .as_ ?_; refine .go ?_; repeat constructor
    exact PX.ret rfl Tryz.results49 (.cons (.tmp rfl) .nil) (fun w hs => ⟨(), rfl, hs.ent (.nil _)⟩)
  have h0 : ¬ a.kind = 0 := h0
  refine .go ?_; (repeat constructor); refine .ei ?_; refine .as_ ?_; refine .go ?_; repeat constructor
  refine ES.condD rfl (fun h2 => ?_) (fun h2 => ?_)
  · rw [read_yes a (.inr (.inl h2))]
    refine .go ?_; (repeat constructor); refine .as_ ?_; refine .go ?_; repeat constructor
    exact PX.ret rfl Tryz.results49 (.cons (.tmp rfl) .nil) (fun w hs => ⟨(), rfl, hs.ent (.nil _)⟩)
  have h2 : ¬ a.kind = 2 := h2
  refine .go ?_; (repeat constructor); refine .ei ?_; refine .as_ ?_; refine .go ?_; repeat constructor
  refine ES.condD rfl (fun h1 => ?_) (fun h1 => ?_)
  · have h1 : a.kind = 1 := h1
    refine .go ?_; (repeat constructor); refine .fa ?_; refine .lb ?_; refine .gq ?_; refine .go ?_; repeat constructor
    refine ES.condD rfl (fun hl => ?_) (fun hl => ?_)
    · have hl : 1 ≤ a.line := hl
      rw [read_yes a (.inr (.inr ⟨h1, hl⟩))]
      refine .go ?_; (repeat constructor); refine .as_ ?_; refine .go ?_; repeat constructor
      exact PX.ret rfl Tryz.results49 (.cons (.tmp rfl) .nil) (fun w hs => ⟨(), rfl, hs.ent (.nil _)⟩)
    · have hl : ¬ 1 ≤ a.line := hl
      rw [read_no a ⟨h0, h2, by omega, by omega⟩]
      refine .go ?_; (repeat constructor); refine .as_ ?_; refine .go ?_; repeat constructor
      exact PX.ret rfl Tryz.results49 (.cons (.tmp rfl) .nil) (fun w hs => ⟨(), rfl, hs.ent (.nil _)⟩)
  have h1 : ¬ a.kind = 1 := h1
  refine .go ?_; (repeat constructor); refine .ei ?_; refine .as_ ?_; refine .go ?_; repeat constructor
  refine ES.condD rfl (fun h3 => ?_) (fun h3 => ?_)
  · have h3 : a.kind = 3 := h3
    rw [read3 a h3]
    by_cases hp : (parseM a.re).e = 0
    · rw [hp]
      refine .go ?_; (repeat constructor); refine .fa ?_; refine .lb ?_
      (refine EL.callX rfl rfl rfl ent10 rfl (dnewOk_c a.re hp ha) ?_; rintro ⟨gm, px⟩)
      refine .mv ?_; refine .ex ?_; refine .ex ?_; refine .ex ?_; refine .as_ ?_; refine .as_ ?_; refine .as_ ?_; refine .go ?_; (repeat constructor); refine .mv ?_; refine .as_ ?_; refine .go ?_; repeat constructor
      exact PX.ret rfl Tryz.results49 (.cons (.tmp rfl) .nil) (fun w hs => ⟨(), rfl, hs.ent (.nil _)⟩)
    · refine .go ?_; (repeat constructor); refine .fa ?_; refine .lb ?_; refine EL.callP rfl rfl rfl ent10 rfl (dnewBad_c a.re hp ha) ?_; refine .mv ?_; refine .ex ?_; refine .ex ?_; refine .ex ?_; refine .as_ ?_; refine .as_ ?_; refine .as_ ?_; refine .go ?_; (repeat constructor); refine .mv ?_; refine .as_ ?_; refine .go ?_; repeat constructor
      exact PX.ret rfl Tryz.results49 (.cons (.tmp rfl) .nil) (fun w hs => ⟨(), rfl, hs.ent (.nil _)⟩)
  · have h3 : ¬ a.kind = 3 := h3
    rw [read_no a ⟨h0, h2, h3, by omega⟩]
    refine .go ?_; (repeat constructor); refine .as_ ?_; refine .go ?_; repeat constructor
    exact PX.ret rfl Tryz.results49 (.cons (.tmp rfl) .nil) (fun w hs => ⟨(), rfl, hs.ent (.nil _)⟩)
structure DpSt where
  i : Nat
  ad : Option Addr
  cap : Nat
  ad2 : Option Addr
  cap2 : Nat
abbrev DPB (g : Nat) (z : DpSt) : HA := HA.blk g (.cells #[.slice z.ad z.i z.cap, .slice z.ad2 z.i z.cap2, .pointer none] 134)
theorem dpNew_c (rows : List Rw) (hre : ∀ r ∈ rows, r.A.re.length ≤ 4611686018427387904 ∧ r.B.re.length ≤ 4611686018427387904) (ad0 : Option Addr) (cap0 : Nat) (w : World) (hrd : Rd w w.heap.size ad0 (rwsC rows)) :
    Pure Tryz.prog 33 #[.slice ad0 rows.length cap0] (fun g : Nat => if pkNE rows = 0 then .tuple #[Pv g 0, Iv 0] else .tuple #[.pointer none, Iv (pkNE rows)]) (fun _ => []) w := by
  have hrl := rwsC_len rows
  have bad : ∀ e : Int, pkNE rows = e → e ≠ 0 → (if pkNE rows = 0 then Value.tuple #[Pv 0 0, Iv 0] else .tuple #[.pointer none, Iv (pkNE rows)]) = .tuple #[.pointer none, Iv e] := fun e h1 h2 => by rw [h1, if_neg h2]
  refine calls_of_ES TB Tryz.func33 rfl _ Tryz.ntmps33 rfl (Sat.start w) ?_; refine .go ?_; (repeat constructor); refine .as_ ?_; refine .as_ ?_; refine .go ?_; (repeat constructor); refine .mv ?_; refine .lL ?_; refine .gt_ ?_; refine .go ?_; repeat constructor
  refine ES.condD rfl (fun hfull => ?_) (fun hroom => ?_)
  · have he : pkNE rows = 4 := if_pos (by omega)
    refine .go ?_; (repeat constructor); refine .as_ ?_; refine .as_ ?_; refine .go ?_; repeat constructor
    exact PX.ret rfl Tryz.results33 (.cons (.tmp rfl) (.cons (.tmp rfl) .nil)) (fun w hs => ⟨0, congrArg Ending.returned (bad 4 he (by decide)).symm, hs.ent (.i (by repeat constructor))⟩)
  have hne : pkNE rows = pksE rows := if_neg (by omega)
  refine .go ?_; (repeat constructor); refine EL.buildZ rfl rfl rfl rfl rfl ?_; (refine .bx ?_; intro g11); refine .as_ ?_; refine .go ?_; (repeat constructor); refine EL.imp (H' := DPB g11 ⟨0, none, 0, none, 0⟩ :: HA.row (.slice none 0 0) 55 7 0 [] :: HA.row (.slice none 0 0) 4 1 0 [] :: []) (fun w hs => ((hs.nilRow 4 1).nilRow 55 7).ent (.i (by repeat constructor))) ?_; refine .go ?_; (repeat constructor); refine .as_ ?_; refine .go ?_; repeat constructor
  refine ES.loop (σ := DpSt) (fun z => z.i ≤ rows.length ∧ pksE (rows.drop z.i) = pksE rows) (fun z => [(0, .slice ad0 rows.length cap0), (4, Pv g11 0), (5, Iv (z.i : Nat))])
    (fun z => DPB g11 z :: HA.row (.slice z.ad z.i z.cap) 55 7 z.i (rwsC (rows.take z.i)) :: HA.row (.slice z.ad2 z.i z.cap2) 4 1 z.i (List.replicate z.i (.bool false)) :: []) (fun z => rows.length - z.i) ⟨0, none, 0, none, 0⟩ ⟨Nat.zero_le _, rfl⟩ ⟨rfl, rfl, rfl, trivial⟩ (.i (by repeat constructor)) ?_
  rintro ⟨i, ad, cap, ad2, cap2⟩ ⟨hi, hgo⟩
  dsimp only at hi hgo ⊢
  refine ES.imp (H' := HA.blk g11 (.cells #[.slice ad i cap, .slice ad2 i cap2, .pointer none] 134) :: HA.row (.slice ad i cap) 55 7 i (rwsC (rows.take i)) :: HA.row (.slice ad2 i cap2) 4 1 i (List.replicate i (.bool false)) :: []) (fun w hs => hs) ?_; refine .go ?_; (repeat constructor); refine .mv ?_; refine .mv ?_; refine .lL ?_; refine .ls ?_; refine .go ?_; repeat constructor
  refine ES.condD rfl (fun hlt => ?_) (fun hge => ?_)
  rotate_left
  · obtain rfl : i = rows.length := by omega
    rw [List.drop_length, pksE] at hgo
    refine .go ?_; (repeat constructor); refine .mv ?_; refine .as_ ?_; refine .as_ ?_; refine .go ?_; repeat constructor
    exact PX.ret rfl Tryz.results33 (.cons (.tmp rfl) (.cons (.tmp rfl) .nil)) (fun w hs => ⟨g11, by rw [if_pos (by rw [hne, ← hgo])]; rfl, hs.ent (.nil _)⟩)
  have hlt' : i < rows.length := by omega
  obtain ⟨r, hri⟩ : ∃ r, rows[i]? = some r := ⟨_, List.getElem?_eq_getElem hlt'⟩
  obtain ⟨hra, hrb⟩ := hre r (List.mem_of_getElem? hri)
  have hget := rwsC_get rows i r hri
  have htk : rwsC (rows.take (i + 1)) = rwsC (rows.take i) ++ rwC r := by
    rw [List.take_succ_eq_append_getElem hlt', show rows[i] = r from (List.getElem?_eq_some_iff.1 hri).2]
    simp [rwsC]
  rw [List.drop_eq_getElem_cons hlt', show rows[i] = r from (List.getElem?_eq_some_iff.1 hri).2, pksE] at hgo
  obtain ⟨rg, ro, rfl, _⟩ := hrd (fun e => by rw [e] at hrl; simp at hrl; omega)
  have hgA : ∀ k u, (adC r.A)[k]? = some u → (rwsC rows)[i * 7 + 0 + k]? = some u := fun k u hk => by
    rw [Nat.add_zero]
    exact hget k u (by rw [rwC, List.append_assoc, List.getElem?_append_left (List.getElem?_eq_some_iff.1 hk).1]; exact hk)
  have hgB : ∀ k u, (adC r.B)[k]? = some u → (rwsC rows)[i * 7 + 3 + k]? = some u := fun k u hk => by
    rw [Nat.add_assoc]
    refine hget (3 + k) u ?_
    have hl : (adC r.A).length = 3 := rfl
    have hk' := (List.getElem?_eq_some_iff.1 hk).1
    rw [rwC, List.append_assoc, List.getElem?_append_right (by omega), show 3 + k - (adC r.A).length = k by omega, List.getElem?_append_left hk']
    exact hk
  obtain ⟨e, hed⟩ : ∃ e, e = if readE r.A ≠ 0 then readE r.A else readE r.B := ⟨_, rfl⟩
  have hE : pkE r = if e ≠ 0 then e else if r.A.kind = 0 ∧ r.B.kind ≠ 0 then 17 else 0 := by
    unfold pkE
    rw [hed]
    by_cases h1 : readE r.A ≠ 0
    · rw [if_pos h1, if_pos h1, if_pos h1]
    · rw [if_neg h1, if_neg h1]
  refine .go ?_; (repeat constructor); refine .mv ?_; refine .mv ?_; refine EL.indexAddrL (i := i) rfl rfl rfl rfl rfl rfl rfl (by omega) ?_; refine .fa ?_
  refine EL.ofRV (RV.loadOldA (off := ro) (j := i * 7 + 0) (vs := adC r.A) rfl rfl rfl rfl (by simp [adC]) hrd hgA) rfl rfl rfl (by intro c h; cases h) ?_
  refine EL.callP rfl rfl rfl ent49 rfl (daddr_c r.A hra) ?_; refine .as_ ?_; refine .go ?_; (repeat constructor); refine .mv ?_; refine .ei ?_; refine .go ?_; repeat constructor
  refine ES.cutC (X := Unit) (fun _ => [(0, .slice (some ⟨rg, ro, none⟩) rows.length cap0), (4, Pv g11 0), (5, Iv (i : Nat)), (6, Iv e)]) (fun _ => HA.blk g11 (.cells #[.slice ad i cap, .slice ad2 i cap2, .pointer none] 134) :: HA.row (.slice ad i cap) 55 7 i (rwsC (rows.take i)) :: HA.row (.slice ad2 i cap2) 4 1 i (List.replicate i (.bool false)) :: []) ?_ (fun _ => ?_)
  · refine ES.condD rfl (fun h0 => ?_) (fun h0 => ?_)
    · rw [if_neg (by simpa using h0)] at hed
      rw [hed]
      refine .go ?_; (repeat constructor); refine .mv ?_; refine .mv ?_; refine EL.indexAddrL (i := i) rfl rfl rfl rfl rfl rfl rfl (by omega) ?_; refine .fa ?_
      refine EL.ofRV (RV.loadOldA (off := ro) (j := i * 7 + 3) (vs := adC r.B) rfl rfl rfl rfl (by simp [adC]) hrd hgB) rfl rfl rfl (by intro c h; cases h) ?_
      refine EL.callP rfl rfl rfl ent49 rfl (daddr_c r.B hrb) ?_; refine .as_ ?_; refine .go ?_; repeat constructor
      exact .cy ()
    · rw [if_pos h0] at hed
      rw [hed]
      refine .go ?_; repeat constructor
      exact .cy ()
  refine .go ?_; repeat constructor
  refine EL.cutX (X := Unit) (fun _ => [(0, .slice (some ⟨rg, ro, none⟩) rows.length cap0), (4, Pv g11 0), (5, Iv (i : Nat)), (6, Iv e), (51, .bool (decide (e = 0 ∧ r.A.kind = 0 ∧ r.B.kind ≠ 0)))]) (fun _ => HA.blk g11 (.cells #[.slice ad i cap, .slice ad2 i cap2, .pointer none] 134) :: HA.row (.slice ad i cap) 55 7 i (rwsC (rows.take i)) :: HA.row (.slice ad2 i cap2) 4 1 i (List.replicate i (.bool false)) :: []) ?_ (fun _ => ?_)
  · refine .go ?_; (repeat constructor); refine .mv ?_; refine .ei ?_; refine .mv ?_
    first | refine EL.splitD (d := 34) rfl (fun hp34 => ?_) (fun hp34 => ?_) | refine EL.splitN (d := 34) rfl (fun hp34 => ?_) (fun hp34 => ?_) | refine EL.splitB (d := 34) rfl (fun hp34 => ?_) (fun hp34 => ?_)
    · refine .mv ?_; refine .mv ?_; refine EL.indexAddrL (i := i) rfl rfl rfl rfl rfl rfl rfl (by omega) ?_; refine .fa ?_; refine .fa ?_; refine EL.loadOld (off := ro) (j := i * 7 + 0) rfl rfl rfl rfl rfl hrd (hgA 0 (Iv r.A.kind) rfl) ?_; refine .ei ?_; refine .pt ?_; refine .mv ?_
      first | refine EL.splitD (d := 43) rfl (fun hp43 => ?_) (fun hp43 => ?_) | refine EL.splitN (d := 43) rfl (fun hp43 => ?_) (fun hp43 => ?_) | refine EL.splitB (d := 43) rfl (fun hp43 => ?_) (fun hp43 => ?_)
      · refine .mv ?_; refine .mv ?_; refine EL.indexAddrL (i := i) rfl rfl rfl rfl rfl rfl rfl (by omega) ?_; refine .fa ?_; refine .fa ?_; refine EL.loadOld (off := ro) (j := i * 7 + 3) rfl rfl rfl rfl rfl hrd (hgB 0 (Iv r.B.kind) rfl) ?_; refine .ni ?_; refine .pt ?_
        exact .dx () ⟨rfl, rfl, rfl, rfl, getA rfl (congrArg Value.bool (by rw [Bool.eq_iff_iff]; simp only [decide_eq_true_eq, Bool.not_eq_true', decide_eq_false_iff_not, Bool.false_eq_true, false_iff] at *; (try omega); (try (constructor <;> intro h <;> omega)))), trivial⟩
      · refine .ps ?_; refine .ps ?_; refine .ps ?_; refine .ps ?_; refine .ps ?_; refine .ps ?_; refine .ps ?_; refine .pf ?_
        exact .dx () ⟨rfl, rfl, rfl, rfl, getA rfl (congrArg Value.bool (by rw [Bool.eq_iff_iff]; simp only [decide_eq_true_eq, Bool.not_eq_true', decide_eq_false_iff_not, Bool.false_eq_true, false_iff] at *; (try omega); (try (constructor <;> intro h <;> omega)))), trivial⟩
    · refine .ps ?_; refine .ps ?_; refine .ps ?_; refine .ps ?_; refine .ps ?_; refine .ps ?_; refine .ps ?_; refine .pf ?_; refine .mv ?_; refine .ps ?_; refine .ps ?_; refine .ps ?_; refine .ps ?_; refine .ps ?_; refine .ps ?_; refine .ps ?_; refine .pf ?_
      exact .dx () ⟨rfl, rfl, rfl, rfl, getA rfl (congrArg Value.bool (by rw [Bool.eq_iff_iff]; simp only [decide_eq_true_eq, Bool.not_eq_true', decide_eq_false_iff_not, Bool.false_eq_true, false_iff] at *; (try omega); (try (constructor <;> intro h <;> omega)))), trivial⟩
  obtain ⟨e2, he2⟩ : ∃ e2, e2 = pkE r := ⟨_, rfl⟩
  rw [← he2] at hgo hE
  refine ES.cutC (X := Unit) (fun _ => [(0, .slice (some ⟨rg, ro, none⟩) rows.length cap0), (4, Pv g11 0), (5, Iv (i : Nat)), (6, Iv e2)]) (fun _ => HA.blk g11 (.cells #[.slice ad i cap, .slice ad2 i cap2, .pointer none] 134) :: HA.row (.slice ad i cap) 55 7 i (rwsC (rows.take i)) :: HA.row (.slice ad2 i cap2) 4 1 i (List.replicate i (.bool false)) :: []) ?_ (fun _ => ?_)
  · refine ES.condD rfl (fun hx => ?_) (fun hx => ?_)
    · rw [if_neg (by simpa using hx.1), if_pos hx.2] at hE
      rw [hE]
      refine .go ?_; (repeat constructor); refine .as_ ?_; refine .go ?_; repeat constructor
      exact .cy ()
    · have : e2 = e := by
        rw [hE]
        by_cases h1 : e ≠ 0
        · rw [if_pos h1]
        · rw [if_neg h1, if_neg (fun h => hx ⟨by simpa using h1, h⟩)]
          simpa using Eq.symm (by simpa using h1)
      rw [this]
      refine .go ?_; repeat constructor
      exact .cy ()
  refine .go ?_; (repeat constructor); refine .mv ?_; refine .ni ?_; refine .go ?_; repeat constructor
  refine ES.condN rfl (fun hbad => ?_) (fun hok => ?_)
  · rw [if_pos hbad] at hgo
    refine .go ?_; (repeat constructor); refine .mv ?_; refine .as_ ?_; refine .as_ ?_; refine .go ?_; repeat constructor
    exact PX.ret rfl Tryz.results33 (.cons (.tmp rfl) (.cons (.tmp rfl) .nil)) (fun w hs => ⟨0, congrArg Ending.returned (bad e2 (hne.trans hgo.symm) hbad).symm, hs.ent (.nil _)⟩)
  rw [if_neg (fun h => h hok)] at hgo
  refine .g0 ?_; repeat constructor
  refine ES.draw (X := Option Addr × Nat) (fun _ => [(0, .slice (some ⟨rg, ro, none⟩) rows.length cap0), (4, Pv g11 0), (5, Iv (i : Nat))]) (fun x => HA.blk g11 (.cells #[.slice x.1 (i + 1) x.2, .slice ad2 i cap2, .pointer none] 134) :: HA.row (.slice x.1 (i + 1) x.2) 55 7 (i + 1) (rwsC (rows.take (i + 1))) :: HA.row (.slice ad2 i cap2) 4 1 i (List.replicate i (.bool false)) :: [])
    (HA.blk g11 (.cells #[.slice ad i cap, .slice ad2 i cap2, .pointer none] 134) :: []) mixed (.i (by repeat constructor)) ?_ (fun x => ?_)
  · refine .tk 0 rfl (RV.move rfl) ?_; refine .tk 1 rfl (RV.move rfl) ?_; refine .tk 2 rfl (RV.nilCheck rfl) ?_; refine .tk 3 rfl (RV.fieldAddr rfl rfl rfl rfl rfl rfl) ?_; refine .tk 4 rfl (RV.loadB rfl rfl rfl (by repeat constructor) rfl) ?_; refine .tk 5 rfl (RV.move rfl) ?_; refine .tk 6 rfl (RV.move rfl) ?_; refine .tk 7 rfl (RV.indexAddrL (i := i) rfl rfl rfl rfl rfl (by omega)) ?_; refine .tk 8 rfl (RV.loadOldA (off := ro) (j := i * 7) (vs := rwC r) rfl rfl rfl rfl (by simp [rwC, adC]) hrd hget) ?_; refine .ld 9 ?_; (refine .b1 ?_; intro b64); refine .nx ?_; refine .ld 10 ?_
    (refine EL.append1 rfl rfl rfl rfl rfl rfl rfl rfl rfl (by repeat constructor) (by repeat constructor) (by first | (intro u hu; simp [Value.cells] at hu; subst hu; rfl) | exact all1 rfl) (by rfl) (by unfold maxLen; omega) (by first | omega | (show 1 * _ ≤ _; omega) | (show 8 * _ ≤ _; omega) | (show 16 * _ ≤ _; omega) | (show 24 * _ ≤ _; omega) | (show _ * 1 ≤ _; omega) | (show _ * 8 ≤ _; omega) | (show _ * 16 ≤ _; omega) | (show _ * 24 ≤ _; omega) | exact Nat.le_trans (Nat.mul_le_mul_right _ (show _ ≤ 1073741824 by omega)) (by decide)) ?_; intro a65 c65)
    refine .nx ?_; refine .tk 11 rfl (RV.nilCheck rfl) ?_; refine .tk 12 rfl (RV.fieldAddr rfl rfl rfl rfl rfl rfl) ?_; refine ED.last 13 rfl (by decide +kernel) (by decide +kernel) (by decide +kernel) ?_; refine .sb ?_; refine EL.endQ ?_
    exact PX.cutX (some ⟨a65, 0, none⟩, c65) ⟨rfl, rfl, rfl, trivial⟩ (by rw [htk]; exact (.i (by repeat constructor)))
  obtain ⟨ad, cap⟩ := x
  refine .go ?_; (repeat constructor); refine .mv ?_; refine .mv ?_; refine .nc ?_; refine .fa ?_; refine .lb ?_; (refine .b1 ?_; intro b73)
  (refine EL.append1 (news := [.bool false]) rfl rfl rfl rfl rfl rfl rfl rfl rfl (by repeat constructor) (by repeat constructor) (all1 rfl) (by rfl) (by unfold maxLen; omega) (by first | omega | (show 1 * _ ≤ _; omega) | (show 8 * _ ≤ _; omega) | (show 16 * _ ≤ _; omega) | (show 24 * _ ≤ _; omega) | (show _ * 1 ≤ _; omega) | (show _ * 8 ≤ _; omega) | (show _ * 16 ≤ _; omega) | (show _ * 24 ≤ _; omega) | exact Nat.le_trans (Nat.mul_le_mul_right _ (show _ ≤ 1073741824 by omega)) (by decide)) ?_; intro a74 c74)
  refine .nc ?_; refine .fa ?_; refine .sb ?_
  skip
  refine EL.imp (H' := DPB g11 ⟨i + 1, ad, cap, some ⟨a74, 0, none⟩, c74⟩ :: HA.row (.slice ad (i + 1) cap) 55 7 (i + 1) (rwsC (rows.take (i + 1))) :: HA.row (.slice (some ⟨a74, 0, none⟩) (i + 1) c74) 4 1 (i + 1) (List.replicate (i + 1) (.bool false)) :: []) (fun w hs => by rw [List.replicate_succ']; exact hs.ent (.i (by repeat constructor))) ?_
  refine .go ?_; (repeat constructor); refine .mv ?_; refine .a1 ?_; refine .as_ ?_; refine .go ?_; repeat constructor
  exact .ly (σ := DpSt) ⟨i + 1, ad, cap, some ⟨a74, 0, none⟩, c74⟩ ⟨hlt', hgo⟩ (by simp only; omega)
end Go.Proofs.YthcbjbkheodejaaGreat
namespace Go.Proofs.YthcbjbkheodejaaGreat
open Go Go.RowKit Sl
set_option maxRecDepth 100000
set_option maxHeartbeats 8000000
attribute [local irreducible] ES EL PX wps
structure Line where
  line : Int
  last : Bool
  s : List UInt8
def lnC (l : Line) : List Value := [Iv l.line, .bool l.last, Sv l.s]
def orM (m last : Option Mt) : Option Mt := match m with
  | some q => some q
  | none => last
theorem pickUse_c (gp : Nat) (ad : Option Addr) (n cap : Nat) (last m : Option Mt) : Mut Tryz.prog 79 #[Pv gp 0, ptrV m] [PKB gp ad n cap last] (fun _ : Unit => .tuple #[]) (fun _ => [PKB gp ad n cap (orM m last)]) := by
  intro w0 B R w h
  replace h : Sat w0 B (PKB gp ad n cap last :: R) w := h
  cases m with
  | none =>
    refine calls_of_ES TB Tryz.func79 rfl _ Tryz.ntmps79 rfl h ?_; refine .go ?_; (repeat constructor); refine .mv ?_; refine EL.neqPn rfl rfl rfl rfl rfl rfl ?_; refine .mv ?_
    refine EL.rew (d := 6) (v' := .bool true) rfl (by first | rfl | (decide) | (simp)) ?_
    refine .mv ?_; refine EL.neqPn rfl rfl rfl rfl rfl rfl ?_; refine .pt ?_; refine .go ?_; (repeat constructor); refine ES.condF rfl ?_; refine .go ?_; repeat constructor
    exact PX.end rfl Tryz.results79 .nil (fun w hs => ⟨(), rfl, hs.ent (.i (by repeat constructor))⟩)
  | some q =>
    refine calls_of_ES TB Tryz.func79 rfl _ Tryz.ntmps79 rfl h ?_; refine .go ?_; (repeat constructor); refine .mv ?_; refine EL.neqPn rfl rfl rfl rfl rfl rfl ?_; refine .mv ?_
    refine EL.rew (d := 6) (v' := .bool true) rfl (by first | rfl | (decide) | (simp)) ?_
    refine .mv ?_; refine EL.neqPn rfl rfl rfl rfl rfl rfl ?_; refine .pt ?_; refine .go ?_; (repeat constructor); refine ES.condT rfl ?_; refine .go ?_; (repeat constructor); refine .mv ?_; refine .mv ?_; refine .nc ?_; refine .fa ?_; refine .sb ?_; refine .go ?_; repeat constructor
    exact PX.end rfl Tryz.results79 .nil (fun w hs => ⟨(), rfl, hs.ent (.i (by repeat constructor))⟩)
theorem pickLast_c (gp : Nat) (ad : Option Addr) (n cap : Nat) (last : Option Mt) : Mut Tryz.prog 18 #[Pv gp 0] [PKB gp ad n cap last] (fun _ : Unit => ptrV last) (fun _ => [PKB gp ad n cap last]) := by
  intro w0 B R w h
  replace h : Sat w0 B (PKB gp ad n cap last :: R) w := h
  refine calls_of_ES TB Tryz.func18 rfl _ Tryz.ntmps18 rfl h ?_; refine .go ?_; (repeat constructor); refine .as_ ?_; refine .go ?_; (repeat constructor); refine .mv ?_; refine EL.eqlPn rfl rfl rfl rfl rfl rfl ?_; refine .go ?_; (repeat constructor); refine ES.condF rfl ?_; refine .go ?_; (repeat constructor); refine .mv ?_; refine .nc ?_; refine .fa ?_; refine .lb ?_; refine .as_ ?_; refine .go ?_; repeat constructor
  exact PX.ret rfl Tryz.results18 (.cons (.tmp rfl) .nil) (fun w hs => ⟨(), rfl, hs.ent (.i (by repeat constructor))⟩)
def beginsM (b : Ad) (l : Line) : Bool := if b.kind = 1 then decide (l.line < b.line) else if b.kind = 2 then !l.last else true
theorem begins_c (b : Ad) (l : Line) (w : World) : Pure Tryz.prog 52 #[.agg (adC b).toArray, .agg (lnC l).toArray] (fun _ : Unit => .bool (beginsM b l)) (fun _ => []) w := by
  refine calls_of_ES TB Tryz.func52 rfl _ Tryz.ntmps52 rfl (Sat.start w) ?_; refine .go ?_; (repeat constructor); (refine .bx ?_; intro g2); (refine .bx ?_; intro g3); refine .as_ ?_; refine .go ?_; (repeat constructor); refine .fa ?_; refine .lb ?_; refine .go ?_; (repeat constructor); refine .go ?_; (repeat constructor); refine .ei ?_; refine .as_ ?_; refine .go ?_; repeat constructor
  refine ES.condD rfl (fun h1 => ?_) (fun h1 => ?_)
  · have e : beginsM b l = decide (l.line < b.line) := if_pos h1
    rw [e]
    refine .go ?_; (repeat constructor); refine .fa ?_; refine .lb ?_; refine .fa ?_; refine .lb ?_; refine .ls ?_; refine .as_ ?_; refine .go ?_; repeat constructor
    exact PX.ret rfl Tryz.results52 (.cons (.tmp rfl) .nil) (fun w hs => ⟨(), rfl, hs.ent (.i (by repeat constructor))⟩)
  refine .go ?_; (repeat constructor); refine .ei ?_; refine .as_ ?_; refine .go ?_; repeat constructor
  refine ES.condD rfl (fun h2 => ?_) (fun h2 => ?_)
  · have e : beginsM b l = !l.last := (if_neg h1).trans (if_pos h2)
    rw [e]
    refine .go ?_; (repeat constructor); refine .fa ?_; refine .lb ?_; refine .nt ?_; refine .as_ ?_; refine .go ?_; repeat constructor
    exact PX.ret rfl Tryz.results52 (.cons (.tmp rfl) .nil) (fun w hs => ⟨(), rfl, hs.ent (.i (by repeat constructor))⟩)
  have e : beginsM b l = true := (if_neg h1).trans (if_neg h2)
  rw [e]
  refine .go ?_; (repeat constructor); refine .as_ ?_; refine .go ?_; repeat constructor
  exact PX.ret rfl Tryz.results52 (.cons (.tmp rfl) .nil) (fun w hs => ⟨(), rfl, hs.ent (.i (by repeat constructor))⟩)
structure Ans (t : List UInt8) (s : List UInt8) (ok : Bool) (e : Int) : Prop where
  len : t.length ≤ 4611686018427387904
  back : (meOf t).back = false
  is : ∃ F m, setM F t s 0 = some m ∧ m.ok = ok ∧ m.e = e
structure MtR where
  last : Option Mt
  ok : Bool
  e : Int
def meetsM (ans : List UInt8 → Bool × Int) (last : Option Mt) (a : Ad) (m : Option Mt) (l : Line) : MtR :=
  if a.kind = 0 then ⟨last, true, 0⟩
  else if a.kind = 1 then ⟨last, decide (l.line = a.line), 0⟩
  else if a.kind = 2 then ⟨last, l.last, 0⟩
  else match orM m last with
    | none => ⟨none, false, 24⟩
    | some q => ⟨some q, (ans q.2).1, (ans q.2).2⟩
abbrev AnsAll (ms : List Mt) (s : List UInt8) (ans : List UInt8 → Bool × Int) : Prop := ∀ q ∈ ms, Ans q.2 s (ans q.2).1 (ans q.2).2
theorem meets_c (gp : Nat) (ad : Option Addr) (n cap : Nat) (last m : Option Mt) (ms : List Mt) (a : Ad) (l : Line) (ans : List UInt8 → Bool × Int) (hans : AnsAll ms l.s ans) (hl : ∀ q, last = some q → q ∈ ms) (hm : ∀ q, m = some q → q ∈ ms) (w0 : World) (B : Nat) (hG : GR w0 B) :
    MutAt Tryz.prog 51 #[Pv gp 0, .agg (adC a).toArray, ptrV m, .agg (lnC l).toArray] [PKB gp ad n cap last, HA.mats ms] (fun _ : Unit => .tuple #[.bool (meetsM ans last a m l).ok, Iv (meetsM ans last a m l).e]) (fun _ => [PKB gp ad n cap (meetsM ans last a m l).last, HA.mats ms]) w0 B := by
  intro R w h
  replace h : Sat w0 B (PKB gp ad n cap last :: HA.mats ms :: R) w := h
  refine calls_of_ES TB Tryz.func51 rfl _ Tryz.ntmps51 rfl h ?_; refine .go ?_; (repeat constructor); (refine .bx ?_; intro g5); (refine .bx ?_; intro g7); refine .as_ ?_; refine .as_ ?_; refine .go ?_; (repeat constructor); refine .fa ?_; refine .lb ?_; refine .go ?_; (repeat constructor); refine .go ?_; (repeat constructor); refine .ei ?_; refine .as_ ?_; refine .go ?_; repeat constructor
  refine ES.condD rfl (fun h0 => ?_) (fun h0 => ?_)
  · have e : meetsM ans last a m l = ⟨last, true, 0⟩ := if_pos h0
    rw [e]
    refine .go ?_; (repeat constructor); refine .as_ ?_; refine .as_ ?_; refine .go ?_; repeat constructor
    exact PX.ret rfl Tryz.results51 (.cons (.tmp rfl) (.cons (.tmp rfl) .nil)) (fun w hs => ⟨(), rfl, hs.ent (.i (by repeat constructor))⟩)
  refine .go ?_; (repeat constructor); refine .ei ?_; refine .as_ ?_; refine .go ?_; repeat constructor
  refine ES.condD rfl (fun h1 => ?_) (fun h1 => ?_)
  · have e : meetsM ans last a m l = ⟨last, decide (l.line = a.line), 0⟩ := (if_neg h0).trans (if_pos h1)
    rw [e]
    refine .go ?_; (repeat constructor); refine .fa ?_; refine .lb ?_; refine .fa ?_; refine .lb ?_; refine .ei ?_; refine .as_ ?_; refine .as_ ?_; refine .go ?_; repeat constructor
    exact PX.ret rfl Tryz.results51 (.cons (.tmp rfl) (.cons (.tmp rfl) .nil)) (fun w hs => ⟨(), rfl, hs.ent (.i (by repeat constructor))⟩)
  refine .go ?_; (repeat constructor); refine .ei ?_; refine .as_ ?_; refine .go ?_; repeat constructor
  refine ES.condD rfl (fun h2 => ?_) (fun h2 => ?_)
  · have e : meetsM ans last a m l = ⟨last, l.last, 0⟩ := (if_neg h0).trans ((if_neg h1).trans (if_pos h2))
    rw [e]
    refine .go ?_; (repeat constructor); refine .fa ?_; refine .lb ?_; refine .as_ ?_; refine .as_ ?_; refine .go ?_; repeat constructor
    exact PX.ret rfl Tryz.results51 (.cons (.tmp rfl) (.cons (.tmp rfl) .nil)) (fun w hs => ⟨(), rfl, hs.ent (.i (by repeat constructor))⟩)
  have e : meetsM ans last a m l = match orM m last with
    | none => ⟨none, false, 24⟩
    | some q => ⟨some q, (ans q.2).1, (ans q.2).2⟩ := (if_neg h0).trans ((if_neg h1).trans (if_neg h2))
  have hin : ∀ q, orM m last = some q → q ∈ ms := fun q hq => by
    cases m with
    | none => exact hl q hq
    | some q' => exact hm q hq
  refine .go ?_; (repeat constructor); refine .mv ?_; refine .mv ?_; (refine EL.callM rfl rfl rfl ent79 rfl (pickUse_c gp ad n cap last m) (by repeat constructor) ?_; intro u); refine .go ?_; repeat constructor
  generalize orM m last = o at e hin
  cases o with
  | none =>
    rw [e]
    refine .go ?_; (repeat constructor); refine .mv ?_; refine .nc ?_; refine .fa ?_; refine .lb ?_; refine EL.eqlPn rfl rfl rfl rfl rfl rfl ?_; refine .go ?_; (repeat constructor); refine ES.condT rfl ?_; refine .go ?_; (repeat constructor); refine .as_ ?_; refine .as_ ?_; refine .go ?_; repeat constructor
    exact PX.ret rfl Tryz.results51 (.cons (.tmp rfl) (.cons (.tmp rfl) .nil)) (fun w hs => ⟨(), rfl, hs.ent (.i (by repeat constructor))⟩)
  | some q =>
    have hq := hin q rfl
    obtain ⟨hlen, hb, F, mr, hmr, hok, hme⟩ := hans q hq
    rw [e]
    have hmc := matchMats_c F ms q hq hlen hb l.s 0 mr hmr w0 B hG
    refine .go ?_; (repeat constructor); refine .mv ?_; refine .nc ?_; refine .fa ?_; refine .lb ?_; refine EL.eqlPn rfl rfl rfl rfl rfl rfl ?_; refine .go ?_; (repeat constructor); refine ES.condF rfl ?_; refine .g0 ?_; repeat constructor
    refine ES.draw (X := Unit) (fun _ => [(11, .bool mr.ok), (12, Iv mr.e)]) (fun _ => PKB gp ad n cap (some q) :: HA.mats ms :: R) (PKB gp ad n cap (some q) :: HA.blk g7 (.cells (lnC l).toArray 138) :: []) mixed (.i (by repeat constructor)) ?_ (fun _ => ?_)
    · refine .tk 0 rfl (RV.move rfl) ?_; refine .tk 1 rfl (RV.nilCheck rfl) ?_; refine .tk 2 rfl (RV.fieldAddr rfl rfl rfl rfl rfl rfl) ?_; refine .tk 3 rfl (RV.loadB rfl rfl rfl (by repeat constructor) rfl) ?_; refine .tk 4 rfl (RV.fieldAddr rfl rfl rfl rfl rfl rfl) ?_; refine .tk 5 rfl (RV.loadB rfl rfl rfl (by repeat constructor) rfl) ?_; refine .ld 6 ?_; (refine EL.callMw rfl rfl rfl ent31 rfl hmc (by repeat constructor) ?_; intro x); refine .nx ?_; refine .tk 7 rfl (RV.move rfl) ?_; refine .tk 8 rfl (RV.extract rfl rfl) ?_; refine .tk 9 rfl (RV.extract rfl rfl) ?_; refine .tk 10 rfl (RV.extract rfl rfl) ?_; refine .tk 11 rfl (RV.assign rfl) ?_; refine .tk 12 rfl (RV.assign rfl) ?_; refine .tk 13 rfl (RV.assign rfl) ?_; refine .dn ?_
      exact .cy ()
    refine .go ?_; (repeat constructor); refine .mv ?_; refine .mv ?_; refine .as_ ?_; refine .as_ ?_; refine .go ?_; repeat constructor
    refine PX.ret rfl Tryz.results51 (.cons (.tmp rfl) (.cons (.tmp rfl) .nil)) (fun w hs => ⟨(), ?_, hs.ent (.i (by repeat constructor))⟩)
    dsimp only
    rw [hok, hme]
    rfl
end Go.Proofs.YthcbjbkheodejaaGreat
namespace Go.Proofs.YthcbjbkheodejaaGreat
open Go Go.RowKit Sl
set_option maxRecDepth 100000
set_option maxHeartbeats 8000000
attribute [local irreducible] ES EL PX wps
theorem chC_len (c : Chc) : (chC c).length = 10 := rfl
theorem chsC_split (l r : List Chc) (c : Chc) : chsC (l ++ c :: r) = chsC l ++ (chC c ++ chsC r) := by simp [chsC]
theorem chsC_len : ∀ l : List Chc, (chsC l).length = l.length * 10
  | [] => rfl
  | r :: l => by
    have := chsC_len l
    simp only [chsC, List.flatMap_cons, List.length_append, List.length_cons] at this ⊢
    rw [this, chC_len]; omega
theorem chs_at {cs : List Chc} {i : Nat} {c : Chc} (h : cs[i]? = some c) : ∃ l r, cs = l ++ c :: r ∧ l.length = i := by
  have hlt := (List.getElem?_eq_some_iff.1 h).1
  refine ⟨cs.take i, cs.drop (i + 1), ?_, by rw [List.length_take]; omega⟩
  conv => lhs; rw [← List.take_append_drop i cs, List.drop_eq_getElem_cons hlt, (List.getElem?_eq_some_iff.1 h).2]
theorem chs_get {cs : List Chc} {i : Nat} {c : Chc} (h : cs[i]? = some c) (j : Nat) (u : Value) (hj : (chC c)[j]? = some u) : (chsC cs)[0 + i * 10 + j]? = some u := by
  obtain ⟨l, r, rfl, rfl⟩ := chs_at h
  have hlt := (List.getElem?_eq_some_iff.1 hj).1
  rw [chsC_split, Nat.zero_add, ← chsC_len, List.getElem?_append_right (by omega), Nat.add_sub_cancel_left, List.getElem?_append_left hlt]
  exact hj
theorem chs_sub {cs : List Chc} {i : Nat} {c : Chc} (h : cs[i]? = some c) (j n : Nat) (vs : List Value) (hn : j + n ≤ 10) (hv : ((chC c).drop j).take n = vs) : ((chsC cs).drop (0 + i * 10 + j)).take n = vs := by
  obtain ⟨l, r, rfl, rfl⟩ := chs_at h
  have hc := chC_len c
  rw [chsC_split, Nat.zero_add, ← chsC_len, List.drop_append, List.drop_of_length_le (by omega), List.nil_append, Nat.add_sub_cancel_left, List.drop_append, Nat.sub_eq_zero_of_le (by omega), List.drop_zero, List.take_append, List.length_drop, Nat.sub_eq_zero_of_le (by omega), List.take_zero, List.append_nil]
  exact hv
theorem chs_set {cs : List Chc} {i : Nat} {c : Chc} (h : cs[i]? = some c) (b : Bool) : (chsC cs).set (0 + i * 10 + 9) (.bool b) = chsC (cs.set i { c with on := b }) := by
  obtain ⟨l, r, rfl, rfl⟩ := chs_at h
  have e : (l ++ c :: r).set l.length { c with on := b } = l ++ { c with on := b } :: r := by simp
  rw [e, chsC_split, chsC_split, Nat.zero_add, ← chsC_len, List.set_append_right _ _ (by omega), Nat.add_sub_cancel_left, List.set_append_left _ _ (by rw [chC_len]; omega)]
  rfl
structure WiR where
  last : Option Mt
  in_ : Bool
  on : Bool
  e : Int
def withinM (ans : List UInt8 → Bool × Int) (last : Option Mt) (c : Chc) (l : Line) : WiR :=
  if c.row.B.kind = 1 then ⟨last, decide (l.line ≤ c.row.B.line), decide (l.line < c.row.B.line), 0⟩
  else ⟨(meetsM ans last c.row.B c.b l).last, true, !(meetsM ans last c.row.B c.b l).ok, (meetsM ans last c.row.B c.b l).e⟩
theorem within_c (gp rg : Nat) (cap : Nat) (cs : List Chc) (i : Nat) (c : Chc) (hi : cs[i]? = some c) (last : Option Mt) (ms : List Mt) (l : Line) (ans : List UInt8 → Bool × Int) (hans : AnsAll ms l.s ans) (hl : ∀ q, last = some q → q ∈ ms) (hb : ∀ q, c.b = some q → q ∈ ms) (w0 : World) (B : Nat) (hG : GR w0 B) :
    MutAt Tryz.prog 50 #[Pv gp 0, Pv rg (0 + i * 10), .agg (lnC l).toArray] [PKB gp (some ⟨rg, 0, none⟩) cs.length cap last, CRow (some ⟨rg, 0, none⟩) cap cs, HA.mats ms] (fun _ : Unit => .tuple #[.bool (withinM ans last c l).in_, .bool (withinM ans last c l).on, Iv (withinM ans last c l).e])
      (fun _ => [PKB gp (some ⟨rg, 0, none⟩) cs.length cap (withinM ans last c l).last, CRow (some ⟨rg, 0, none⟩) cap cs, HA.mats ms]) w0 B := by
  intro R w h
  replace h : Sat w0 B (PKB gp (some ⟨rg, 0, none⟩) cs.length cap last :: CRow (some ⟨rg, 0, none⟩) cap cs :: HA.mats ms :: R) w := h
  have hc := fun j u hj => chs_get hi j u hj
  refine calls_of_ES TB Tryz.func50 rfl _ Tryz.ntmps50 rfl h ?_; refine .go ?_; (repeat constructor); (refine .bx ?_; intro g5); refine .as_ ?_; refine .as_ ?_; refine .as_ ?_; refine .go ?_; (repeat constructor); refine .mv ?_; refine .nc ?_; refine .fa ?_; refine .fa ?_; refine .fa ?_; refine EL.loadR rfl rfl rfl rfl rfl (by repeat constructor) (hc 3 _ rfl) ?_; refine .ei ?_; refine .go ?_; repeat constructor
  refine ES.condD rfl (fun h1 => ?_) (fun h1 => ?_)
  · have e : withinM ans last c l = ⟨last, decide (l.line ≤ c.row.B.line), decide (l.line < c.row.B.line), 0⟩ := if_pos h1
    rw [e]
    refine .g0 ?_; repeat constructor
    refine ES.draw (X := Unit) (fun _ => [(6, .bool (decide (l.line ≤ c.row.B.line))), (7, .bool (decide (l.line < c.row.B.line))), (8, Iv 0)]) (fun _ => PKB gp (some ⟨rg, 0, none⟩) cs.length cap last :: CRow (some ⟨rg, 0, none⟩) cap cs :: HA.mats ms :: R) (CRow (some ⟨rg, 0, none⟩) cap cs :: HA.blk g5 (.cells (lnC l).toArray 138) :: []) mixed (.i (by repeat constructor)) ?_ (fun _ => ?_)
    · refine .tk 0 rfl (RV.fieldAddr rfl rfl rfl rfl rfl rfl) ?_; refine .tk 1 rfl (RV.loadB rfl rfl rfl (by repeat constructor) rfl) ?_; refine .tk 2 rfl (RV.move rfl) ?_; refine .tk 3 rfl (RV.nilCheck rfl) ?_; refine .tk 4 rfl (RV.fieldAddr rfl rfl rfl rfl rfl rfl) ?_; refine .tk 5 rfl (RV.fieldAddr rfl rfl rfl rfl rfl rfl) ?_; refine .tk 6 rfl (RV.fieldAddr rfl rfl rfl rfl rfl rfl) ?_; refine .tk 7 rfl (RV.loadR rfl rfl rfl (by repeat constructor) (hc 4 _ rfl)) ?_; refine .tk 8 rfl (RV.leq rfl rfl) ?_; refine .tk 9 rfl (RV.fieldAddr rfl rfl rfl rfl rfl rfl) ?_; refine .tk 10 rfl (RV.loadB rfl rfl rfl (by repeat constructor) rfl) ?_; refine .tk 11 rfl (RV.move rfl) ?_; refine .tk 12 rfl (RV.nilCheck rfl) ?_; refine .tk 13 rfl (RV.fieldAddr rfl rfl rfl rfl rfl rfl) ?_; refine .tk 14 rfl (RV.fieldAddr rfl rfl rfl rfl rfl rfl) ?_; refine .tk 15 rfl (RV.fieldAddr rfl rfl rfl rfl rfl rfl) ?_; refine .tk 16 rfl (RV.loadR rfl rfl rfl (by repeat constructor) (hc 4 _ rfl)) ?_; refine .tk 17 rfl (RV.lss rfl rfl) ?_; refine .tk 18 rfl (RV.assign rfl) ?_; refine .tk 19 rfl (RV.assign rfl) ?_; refine .tk 20 rfl (RV.assign rfl) ?_; refine .dn ?_
      exact .cy ()
    refine .go ?_; repeat constructor
    exact PX.ret rfl Tryz.results50 (.cons (.tmp rfl) (.cons (.tmp rfl) (.cons (.tmp rfl) .nil))) (fun w hs => ⟨(), rfl, hs.ent (.i (by repeat constructor))⟩)
  have e : withinM ans last c l = ⟨(meetsM ans last c.row.B c.b l).last, true, !(meetsM ans last c.row.B c.b l).ok, (meetsM ans last c.row.B c.b l).e⟩ := if_neg h1
  rw [e]
  have hmc := meets_c gp (some ⟨rg, 0, none⟩) cs.length cap last c.b ms c.row.B l ans hans hl hb w0 B hG
  generalize meetsM ans last c.row.B c.b l = r at hmc
  refine .g0 ?_; repeat constructor
  refine ES.draw (X := Unit) (fun _ => [(8, Iv r.e), (9, .bool r.ok)]) (fun _ => PKB gp (some ⟨rg, 0, none⟩) cs.length cap r.last :: CRow (some ⟨rg, 0, none⟩) cap cs :: HA.mats ms :: R) (CRow (some ⟨rg, 0, none⟩) cap cs :: HA.blk g5 (.cells (lnC l).toArray 138) :: []) mixed (.i (by repeat constructor)) ?_ (fun _ => ?_)
  · refine .tk 0 rfl (RV.move rfl) ?_; refine .tk 1 rfl (RV.move rfl) ?_; refine .tk 2 rfl (RV.nilCheck rfl) ?_; refine .tk 3 rfl (RV.fieldAddr rfl rfl rfl rfl rfl rfl) ?_; refine .tk 4 rfl (RV.fieldAddr rfl rfl rfl rfl rfl rfl) ?_; refine .tk 5 rfl (RV.loadRA (adC c.row.B) rfl rfl rfl rfl (by repeat constructor) (chs_sub hi 3 3 _ (by omega) rfl)) ?_; refine .tk 6 rfl (RV.move rfl) ?_; refine .tk 7 rfl (RV.nilCheck rfl) ?_; refine .tk 8 rfl (RV.fieldAddr rfl rfl rfl rfl rfl rfl) ?_; refine .tk 9 rfl (RV.loadR rfl rfl rfl (by repeat constructor) (hc 8 _ rfl)) ?_; refine .tk 10 rfl (RV.loadAggB rfl rfl rfl (by repeat constructor) rfl) ?_; refine .ld 11 ?_; (refine EL.callMw rfl rfl rfl ent51 rfl hmc (by repeat constructor) ?_; intro x); refine .nx ?_; refine .tk 12 rfl (RV.move rfl) ?_; refine .tk 13 rfl (RV.extract rfl rfl) ?_; refine .tk 14 rfl (RV.extract rfl rfl) ?_; refine .tk 15 rfl (RV.assign rfl) ?_; refine .tk 16 rfl (RV.assign rfl) ?_; refine .dn ?_
    exact .cy ()
  refine .go ?_; (repeat constructor); refine .mv ?_; refine .nt ?_; refine .mv ?_; refine .as_ ?_; refine .as_ ?_; refine .as_ ?_; refine .go ?_; repeat constructor
  exact PX.ret rfl Tryz.results50 (.cons (.tmp rfl) (.cons (.tmp rfl) (.cons (.tmp rfl) .nil))) (fun w hs => ⟨(), rfl, hs.ent (.i (by repeat constructor))⟩)
structure AskR where
  last : Option Mt
  on : Bool
  yes : Bool
  off : Bool
  e : Int
def askA (ans : List UInt8 → Bool × Int) (last : Option Mt) (c : Chc) (l : Line) : AskR :=
  if (meetsM ans last c.row.A c.a l).e ≠ 0 then ⟨(meetsM ans last c.row.A c.a l).last, c.on, false, false, (meetsM ans last c.row.A c.a l).e⟩
  else
    let on := ((meetsM ans last c.row.A c.a l).ok && !decide (c.row.B.kind = 0)) && beginsM c.row.B l
    ⟨(meetsM ans last c.row.A c.a l).last, on, !((meetsM ans last c.row.A c.a l).ok == c.row.not), !on, 0⟩
def askM (ans : List UInt8 → Bool × Int) (last : Option Mt) (c : Chc) (l : Line) : AskR :=
  if c.on = true then
    if (withinM ans last c l).e ≠ 0 then ⟨(withinM ans last c l).last, c.on, false, false, (withinM ans last c l).e⟩
    else if (withinM ans last c l).in_ = true then ⟨(withinM ans last c l).last, (withinM ans last c l).on, !(true == c.row.not), !(withinM ans last c l).on, 0⟩
    else askA ans (withinM ans last c l).last c l
  else askA ans last c l
theorem meets_in {ans : List UInt8 → Bool × Int} {last m : Option Mt} {a : Ad} {l : Line} {ms : List Mt} (hl : ∀ q, last = some q → q ∈ ms) (hm : ∀ q, m = some q → q ∈ ms) : ∀ q, (meetsM ans last a m l).last = some q → q ∈ ms := fun q hq => by
  unfold meetsM at hq
  split at hq
  · exact hl q hq
  · split at hq
    · exact hl q hq
    · split at hq
      · exact hl q hq
      · cases m with
        | none =>
          simp only [orM] at hq
          cases last with
          | none => cases hq
          | some q' => cases hq; exact hl q rfl
        | some q' => simp only [orM] at hq; cases hq; exact hm q rfl
theorem within_in {ans : List UInt8 → Bool × Int} {last : Option Mt} {c : Chc} {l : Line} {ms : List Mt} (hl : ∀ q, last = some q → q ∈ ms) (hb : ∀ q, c.b = some q → q ∈ ms) : ∀ q, (withinM ans last c l).last = some q → q ∈ ms := fun q hq => by
  unfold withinM at hq
  split at hq
  · exact hl q hq
  · exact meets_in hl hb q hq
theorem ask_c (gp rg : Nat) (cap : Nat) (cs : List Chc) (i : Nat) (c : Chc) (hi : cs[i]? = some c) (last : Option Mt) (ms : List Mt) (l : Line) (ans : List UInt8 → Bool × Int) (hans : AnsAll ms l.s ans) (hl : ∀ q, last = some q → q ∈ ms) (ha : ∀ q, c.a = some q → q ∈ ms) (hb : ∀ q, c.b = some q → q ∈ ms) (w0 : World) (B : Nat) (hG : GR w0 B) :
    MutAt Tryz.prog 35 #[Pv gp 0, Iv (i : Nat), Iv l.line, .bool l.last, Sv l.s] [PKB gp (some ⟨rg, 0, none⟩) cs.length cap last, CRow (some ⟨rg, 0, none⟩) cap cs, HA.mats ms] (fun _ : Unit => .tuple #[.bool (askM ans last c l).yes, .bool (askM ans last c l).off, Iv (askM ans last c l).e])
      (fun _ => [PKB gp (some ⟨rg, 0, none⟩) cs.length cap (askM ans last c l).last, CRow (some ⟨rg, 0, none⟩) cap (cs.set i { c with on := (askM ans last c l).on }), HA.mats ms]) w0 B := by
  intro R w h
  replace h : Sat w0 B (PKB gp (some ⟨rg, 0, none⟩) cs.length cap last :: CRow (some ⟨rg, 0, none⟩) cap cs :: HA.mats ms :: R) w := h
  have hc := fun j u hj => chs_get hi j u hj
  have hlt : i < cs.length := (List.getElem?_eq_some_iff.1 hi).1
  have hset := chs_set hi
  have hself : cs.set i { c with on := c.on } = cs := by
    apply List.ext_getElem?
    intro j
    rw [List.getElem?_set]
    split
    · rename_i e; subst e; first | exact hi.symm | simp [hlt, hi]
    · rfl
  have hsl : ∀ b, (cs.set i { c with on := b }).length = cs.length := fun b => List.length_set
  have hlen := chsC_len cs
  have hwc := within_c gp rg cap cs i c hi last ms l ans hans hl hb w0 B hG
  have hwin := within_in (ans := ans) (l := l) hl hb
  refine calls_of_ES TB Tryz.func35 rfl _ Tryz.ntmps35 rfl h ?_; refine .go ?_; (repeat constructor); refine .as_ ?_; refine .as_ ?_; refine .as_ ?_; refine .go ?_; (repeat constructor); refine .mv ?_; refine EL.eqlPn rfl rfl rfl rfl rfl rfl ?_; refine .go ?_; (repeat constructor); refine ES.condF rfl ?_; refine .go ?_; repeat constructor
  refine EL.cutX (X := Unit) (fun _ => [(0, Pv gp 0), (1, Iv (i : Nat)), (2, Iv l.line), (3, .bool l.last), (4, Sv l.s), (32, .bool false)]) (fun _ => PKB gp (some ⟨rg, 0, none⟩) cs.length cap last :: CRow (some ⟨rg, 0, none⟩) cap cs :: HA.mats ms :: R) ?_ (fun _ => ?_)
  · refine .go ?_; (repeat constructor); refine .mv ?_; refine .ls ?_; refine .mv ?_; refine EL.rew (d := 24) (v' := .bool false) rfl (congrArg Value.bool (decide_eq_false (by omega))) ?_; refine .mv ?_; refine .mv ?_; refine .nc ?_; refine .fa ?_; refine .lb ?_; refine .lL ?_; refine .gq ?_; refine .pf ?_
    exact .dx () ⟨rfl, rfl, rfl, rfl, rfl, getA rfl (congrArg Value.bool (decide_eq_false (by omega))), trivial⟩
  refine ES.condF rfl ?_; refine .go ?_; (repeat constructor); refine .mv ?_; refine .nc ?_; refine .fa ?_; refine .lb ?_; refine .mv ?_; refine EL.indexAddrL rfl rfl rfl rfl rfl rfl rfl (by omega) ?_; refine .mv ?_; refine .mv ?_; refine .mv ?_
  (apply EL.build3; exact rfl; exact rfl; exact rfl; exact rfl; exact rfl; exact rfl; exact rfl; exact rfl; exact rfl; exact rfl; exact rfl; exact rfl)
  (refine .al ?_; intro g14); refine .as_ ?_; refine .sa ?_; refine .go ?_; (repeat constructor); refine .go ?_; (repeat constructor); refine .mv ?_; refine .nc ?_; refine .fa ?_; refine EL.loadR rfl rfl rfl rfl rfl (by repeat constructor) (hc 9 _ rfl) ?_; refine .go ?_; repeat constructor
  refine ES.cutW (X := { last' : Option Mt // askM ans last c l = askA ans last' c l ∧ ∀ q, last' = some q → q ∈ ms }) (fun _ => [(0, Pv gp 0), (13, Pv rg (0 + i * 10)), (14, Pv g14 0)]) (fun x => PKB gp (some ⟨rg, 0, none⟩) cs.length cap x.1 :: CRow (some ⟨rg, 0, none⟩) cap cs :: HA.mats ms :: HA.blk g14 (.cells (lnC l).toArray 138) :: R) ?_ (fun x => ?_)
  · refine ES.cond rfl (fun hon => ?_) (fun hoff => ?_)
    rotate_left
    · have hoff' : c.on = false := hoff
      refine .go ?_; repeat constructor
      exact PX.cutWn ⟨last, by unfold askM; rw [if_neg (by rw [hoff']; simp)], hl⟩ ⟨rfl, rfl, rfl, trivial⟩ (.i (by repeat constructor))
    have hon' : c.on = true := hon
    have hask : askM ans last c l = if (withinM ans last c l).e ≠ 0 then ⟨(withinM ans last c l).last, c.on, false, false, (withinM ans last c l).e⟩
        else if (withinM ans last c l).in_ = true then ⟨(withinM ans last c l).last, (withinM ans last c l).on, !(true == c.row.not), !(withinM ans last c l).on, 0⟩
        else askA ans (withinM ans last c l).last c l := by unfold askM; rw [if_pos hon']
    generalize withinM ans last c l = wr at hask hwc hwin
    refine .go ?_; (repeat constructor); refine .mv ?_; refine .mv ?_; refine .lg ?_; (refine EL.callMw rfl rfl rfl ent50 rfl hwc (by repeat constructor) ?_; intro x); refine .mv ?_; refine .ex ?_; refine .ex ?_; refine .ex ?_; refine .as_ ?_; refine .as_ ?_; refine .as_ ?_; refine .go ?_; (repeat constructor); refine .go ?_; (repeat constructor); refine .mv ?_; refine .ni ?_; refine .go ?_; repeat constructor
    refine ES.condN rfl (fun hne => ?_) (fun he0 => ?_)
    · rw [if_pos hne] at hask
      refine .go ?_; (repeat constructor); refine .mv ?_; refine .as_ ?_; refine .as_ ?_; refine .as_ ?_; refine .go ?_; (repeat constructor); refine PX.cutWr ?_
      rw [hask]
      exact PX.ret rfl Tryz.results35 (.cons (.tmp rfl) (.cons (.tmp rfl) (.cons (.tmp rfl) .nil))) (fun w hs => ⟨(), rfl, by dsimp only; rw [hself]; exact hs.ent (.i (by repeat constructor))⟩)
    rw [if_neg (fun h => h he0)] at hask
    refine .go ?_; (repeat constructor); refine .mv ?_; refine .go ?_; repeat constructor
    refine ES.cond rfl (fun hin => ?_) (fun hout => ?_)
    · have hin' : wr.in_ = true := hin
      rw [if_pos hin'] at hask
      refine .go ?_; (repeat constructor); refine .mv ?_; refine .mv ?_; refine .nc ?_; refine .fa ?_
      (refine EL.storeR rfl rfl rfl rfl rfl rfl (by repeat constructor) (by rw [hlen]; show 0 + i * 10 + 9 < _; omega) ?_; refine EL.rowEq (v := .slice (some ⟨rg, 0, none⟩) cs.length cap) (by repeat constructor) (hset wr.on) ?_)
      refine .go ?_; (repeat constructor); refine .mv ?_; refine .mv ?_; refine .nc ?_; refine .fa ?_; refine .fa ?_; refine EL.loadR rfl rfl rfl rfl rfl (by repeat constructor) (chs_get (cs := cs.set i { c with on := wr.on }) (c := { c with on := wr.on }) (by rw [List.getElem?_set, if_pos rfl, if_pos hlt]) 6 _ rfl) ?_; refine EL.neqB rfl rfl rfl rfl rfl rfl ?_; refine .mv ?_; refine .nt ?_; refine .as_ ?_; refine .as_ ?_; refine .as_ ?_; refine .go ?_; (repeat constructor); refine PX.cutWr ?_
      rw [hask]
      exact PX.ret rfl Tryz.results35 (.cons (.tmp rfl) (.cons (.tmp rfl) (.cons (.tmp rfl) .nil))) (fun w hs => ⟨(), by rw [hin']; rfl, by dsimp only; unfold CRow; rw [hsl]; exact hs.ent (.i (by repeat constructor))⟩)
    · have hout' : wr.in_ = false := hout
      rw [if_neg (by rw [hout']; simp)] at hask
      refine .go ?_; repeat constructor
      exact PX.cutWn ⟨wr.last, hask, hwin⟩ ⟨rfl, rfl, rfl, trivial⟩ (.i (by repeat constructor))
  obtain ⟨last', hask, hl'⟩ := x
  dsimp only
  rw [hask]
  have hmc := meets_c gp (some ⟨rg, 0, none⟩) cs.length cap last' c.a ms c.row.A l ans hans hl' ha w0 B hG
  have hA : askA ans last' c l = if (meetsM ans last' c.row.A c.a l).e ≠ 0 then ⟨(meetsM ans last' c.row.A c.a l).last, c.on, false, false, (meetsM ans last' c.row.A c.a l).e⟩
    else ⟨(meetsM ans last' c.row.A c.a l).last, ((meetsM ans last' c.row.A c.a l).ok && !decide (c.row.B.kind = 0)) && beginsM c.row.B l, !((meetsM ans last' c.row.A c.a l).ok == c.row.not), !(((meetsM ans last' c.row.A c.a l).ok && !decide (c.row.B.kind = 0)) && beginsM c.row.B l), 0⟩ := rfl
  generalize meetsM ans last' c.row.A c.a l = r at hmc hA
  refine .g0 ?_; repeat constructor
  refine ES.draw (X := Unit) (fun _ => [(0, Pv gp 0), (13, Pv rg (0 + i * 10)), (14, Pv g14 0), (18, .bool r.ok), (19, Iv r.e)]) (fun _ => PKB gp (some ⟨rg, 0, none⟩) cs.length cap r.last :: CRow (some ⟨rg, 0, none⟩) cap cs :: HA.mats ms :: HA.blk g14 (.cells (lnC l).toArray 138) :: R) (CRow (some ⟨rg, 0, none⟩) cap cs :: HA.blk g14 (.cells (lnC l).toArray 138) :: []) mixed (.i (by repeat constructor)) ?_ (fun _ => ?_)
  · refine .tk 0 rfl (RV.move rfl) ?_; refine .tk 1 rfl (RV.move rfl) ?_; refine .tk 2 rfl (RV.nilCheck rfl) ?_; refine .tk 3 rfl (RV.fieldAddr rfl rfl rfl rfl rfl rfl) ?_; refine .tk 4 rfl (RV.fieldAddr rfl rfl rfl rfl rfl rfl) ?_; refine .tk 5 rfl (RV.loadRA (adC c.row.A) rfl rfl rfl rfl (by repeat constructor) (chs_sub hi 0 3 _ (by omega) rfl)) ?_; refine .tk 6 rfl (RV.move rfl) ?_; refine .tk 7 rfl (RV.nilCheck rfl) ?_; refine .tk 8 rfl (RV.fieldAddr rfl rfl rfl rfl rfl rfl) ?_; refine .tk 9 rfl (RV.loadR rfl rfl rfl (by repeat constructor) (hc 7 _ rfl)) ?_; refine .tk 10 rfl (RV.loadAggB rfl rfl rfl (by repeat constructor) rfl) ?_; refine .ld 11 ?_; (refine EL.callMw rfl rfl rfl ent51 rfl hmc (by repeat constructor) ?_; intro x); refine .nx ?_; refine .tk 12 rfl (RV.move rfl) ?_; refine .tk 13 rfl (RV.extract rfl rfl) ?_; refine .tk 14 rfl (RV.extract rfl rfl) ?_; refine .tk 15 rfl (RV.assign rfl) ?_; refine .tk 16 rfl (RV.assign rfl) ?_; refine .dn ?_
    exact .cy ()
  refine .go ?_; (repeat constructor); refine .mv ?_; refine .ni ?_; refine .go ?_; repeat constructor
  refine ES.condN rfl (fun hne => ?_) (fun he0 => ?_)
  · rw [if_pos hne] at hA
    rw [hA]
    refine .go ?_; (repeat constructor); refine .mv ?_; refine .as_ ?_; refine .as_ ?_; refine .as_ ?_; refine .go ?_; repeat constructor
    exact PX.ret rfl Tryz.results35 (.cons (.tmp rfl) (.cons (.tmp rfl) (.cons (.tmp rfl) .nil))) (fun w hs => ⟨(), rfl, by dsimp only; rw [hself]; exact hs.ent (.i (by repeat constructor))⟩)
  rw [if_neg (fun h => h he0)] at hA
  obtain ⟨on', hon⟩ : ∃ on', on' = ((r.ok && !decide (c.row.B.kind = 0)) && beginsM c.row.B l) := ⟨_, rfl⟩
  rw [← hon] at hA
  rw [hA]
  refine .g0 ?_; repeat constructor
  refine ES.draw (X := { b : Bool // b = on' }) (fun _ => [(0, Pv gp 0), (13, Pv rg (0 + i * 10)), (14, Pv g14 0), (18, .bool r.ok)]) (fun b => PKB gp (some ⟨rg, 0, none⟩) cs.length cap r.last :: CRow (some ⟨rg, 0, none⟩) cap (cs.set i { c with on := b.1 }) :: HA.mats ms :: HA.blk g14 (.cells (lnC l).toArray 138) :: R) (CRow (some ⟨rg, 0, none⟩) cap cs :: HA.blk g14 (.cells (lnC l).toArray 138) :: []) mixed (.i (by repeat constructor)) ?_ (fun b => ?_)
  · refine .tk 0 rfl (RV.move rfl) ?_; refine .tk 1 rfl (RV.move rfl) ?_; refine .tk 2 rfl (RV.move rfl) ?_
    first | refine ED.part (d := 92) rfl (fun hp92 => ?_) (fun hp92 => ?_) | refine ED.partN (d := 92) rfl (fun hp92 => ?_) (fun hp92 => ?_) | refine ED.partB (d := 92) rfl (fun hp92 => ?_) (fun hp92 => ?_)
    · refine .tk 3 rfl (RV.move rfl) ?_; refine .tk 4 rfl (RV.nilCheck rfl) ?_; refine .tk 5 rfl (RV.fieldAddr rfl rfl rfl rfl rfl rfl) ?_; refine .tk 6 rfl (RV.fieldAddr rfl rfl rfl rfl rfl rfl) ?_; refine .tk 7 rfl (RV.fieldAddr rfl rfl rfl rfl rfl rfl) ?_; refine .tk 8 rfl (RV.loadR rfl rfl rfl (by repeat constructor) (hc 3 _ rfl)) ?_; refine .tk 9 rfl (RV.neqI rfl rfl) ?_; refine .tk 10 rfl (RV.pickT rfl rfl) ?_; refine .tk 11 rfl (RV.move rfl) ?_
      first | refine ED.part (d := 101) rfl (fun hp101 => ?_) (fun hp101 => ?_) | refine ED.partN (d := 101) rfl (fun hp101 => ?_) (fun hp101 => ?_) | refine ED.partB (d := 101) rfl (fun hp101 => ?_) (fun hp101 => ?_)
      · refine .tk 12 rfl (RV.move rfl) ?_; refine .tk 13 rfl (RV.nilCheck rfl) ?_; refine .tk 14 rfl (RV.fieldAddr rfl rfl rfl rfl rfl rfl) ?_; refine .tk 15 rfl (RV.fieldAddr rfl rfl rfl rfl rfl rfl) ?_; refine .tk 16 rfl (RV.loadRA (adC c.row.B) rfl rfl rfl rfl (by repeat constructor) (chs_sub hi 3 3 _ (by omega) rfl)) ?_; refine .tk 17 rfl (RV.loadAggB rfl rfl rfl (by repeat constructor) rfl) ?_; refine .ld 18 ?_; refine EL.callP rfl rfl rfl ent52 rfl (begins_c c.row.B l) ?_; refine .nx ?_; refine .tk 19 rfl (RV.pickT rfl rfl) ?_; refine .tk 20 rfl (RV.nilCheck rfl) ?_; refine .tk 21 rfl (RV.fieldAddr rfl rfl rfl rfl rfl rfl) ?_; refine ED.last 22 rfl (by decide +kernel) (by decide +kernel) (by decide +kernel) ?_
        (refine EL.storeR rfl rfl rfl rfl rfl rfl (by repeat constructor) (by rw [hlen]; show 0 + i * 10 + 9 < _; omega) ?_; refine EL.rowEq (v := .slice (some ⟨rg, 0, none⟩) cs.length cap) (by repeat constructor) (hset _) ?_)
        refine EL.endQ ?_
        first | (refine PX.cutX ⟨beginsM c.row.B l, ?_⟩ ⟨rfl, rfl, rfl, rfl, trivial⟩ ?_; rw [hon, hp92]; simp [hp101]; dsimp only; unfold CRow; rw [hsl]; exact (.i (by repeat constructor))) | (refine PX.cutX ⟨false, ?_⟩ ⟨rfl, rfl, rfl, rfl, trivial⟩ ?_; rw [hon, hp92]; simp [hp101]; dsimp only; unfold CRow; rw [hsl]; exact (.i (by repeat constructor))) | (refine PX.cutX ⟨false, ?_⟩ ⟨rfl, rfl, rfl, rfl, trivial⟩ ?_; rw [hon, hp92]; simp; dsimp only; unfold CRow; rw [hsl]; exact (.i (by repeat constructor)))
      · refine .pa 12 rfl ?_; refine .pa 13 rfl ?_; refine .pa 14 rfl ?_; refine .pa 15 rfl ?_; refine .pa 16 rfl ?_; refine .pa 17 rfl ?_; refine .pa 18 rfl ?_; refine .tk 19 rfl (RV.pickF rfl rfl) ?_; refine .tk 20 rfl (RV.nilCheck rfl) ?_; refine .tk 21 rfl (RV.fieldAddr rfl rfl rfl rfl rfl rfl) ?_; refine ED.last 22 rfl (by decide +kernel) (by decide +kernel) (by decide +kernel) ?_
        (refine EL.storeR rfl rfl rfl rfl rfl rfl (by repeat constructor) (by rw [hlen]; show 0 + i * 10 + 9 < _; omega) ?_; refine EL.rowEq (v := .slice (some ⟨rg, 0, none⟩) cs.length cap) (by repeat constructor) (hset _) ?_)
        refine EL.endQ ?_
        first | (refine PX.cutX ⟨beginsM c.row.B l, ?_⟩ ⟨rfl, rfl, rfl, rfl, trivial⟩ ?_; rw [hon, hp92]; simp [hp101]; dsimp only; unfold CRow; rw [hsl]; exact (.i (by repeat constructor))) | (refine PX.cutX ⟨false, ?_⟩ ⟨rfl, rfl, rfl, rfl, trivial⟩ ?_; rw [hon, hp92]; simp [hp101]; dsimp only; unfold CRow; rw [hsl]; exact (.i (by repeat constructor))) | (refine PX.cutX ⟨false, ?_⟩ ⟨rfl, rfl, rfl, rfl, trivial⟩ ?_; rw [hon, hp92]; simp; dsimp only; unfold CRow; rw [hsl]; exact (.i (by repeat constructor)))
    · refine .pa 3 rfl ?_; refine .pa 4 rfl ?_; refine .pa 5 rfl ?_; refine .pa 6 rfl ?_; refine .pa 7 rfl ?_; refine .pa 8 rfl ?_; refine .pa 9 rfl ?_; refine .tk 10 rfl (RV.pickF rfl rfl) ?_; refine .tk 11 rfl (RV.move rfl) ?_; refine .pa 12 rfl ?_; refine .pa 13 rfl ?_; refine .pa 14 rfl ?_; refine .pa 15 rfl ?_; refine .pa 16 rfl ?_; refine .pa 17 rfl ?_; refine .pa 18 rfl ?_; refine .tk 19 rfl (RV.pickF rfl rfl) ?_; refine .tk 20 rfl (RV.nilCheck rfl) ?_; refine .tk 21 rfl (RV.fieldAddr rfl rfl rfl rfl rfl rfl) ?_; refine ED.last 22 rfl (by decide +kernel) (by decide +kernel) (by decide +kernel) ?_
      (refine EL.storeR rfl rfl rfl rfl rfl rfl (by repeat constructor) (by rw [hlen]; show 0 + i * 10 + 9 < _; omega) ?_; refine EL.rowEq (v := .slice (some ⟨rg, 0, none⟩) cs.length cap) (by repeat constructor) (hset _) ?_)
      refine EL.endQ ?_
      first | (refine PX.cutX ⟨beginsM c.row.B l, ?_⟩ ⟨rfl, rfl, rfl, rfl, trivial⟩ ?_; rw [hon, hp92]; simp [hp101]; dsimp only; unfold CRow; rw [hsl]; exact (.i (by repeat constructor))) | (refine PX.cutX ⟨false, ?_⟩ ⟨rfl, rfl, rfl, rfl, trivial⟩ ?_; rw [hon, hp92]; simp [hp101]; dsimp only; unfold CRow; rw [hsl]; exact (.i (by repeat constructor))) | (refine PX.cutX ⟨false, ?_⟩ ⟨rfl, rfl, rfl, rfl, trivial⟩ ?_; rw [hon, hp92]; simp; dsimp only; unfold CRow; rw [hsl]; exact (.i (by repeat constructor)))
  obtain ⟨b, rfl⟩ := b
  have hget2 := fun j u hj => chs_get (cs := cs.set i { c with on := b }) (i := i) (c := { c with on := b }) (by rw [List.getElem?_set, if_pos rfl, if_pos hlt]) j u hj
  refine .g0 ?_; repeat constructor
  refine ES.draw (X := Unit) (fun _ => [(10, .bool (!(r.ok == c.row.not))), (11, .bool (!b)), (12, Iv 0)]) (fun _ => PKB gp (some ⟨rg, 0, none⟩) cs.length cap r.last :: CRow (some ⟨rg, 0, none⟩) cap (cs.set i { c with on := b }) :: HA.mats ms :: R) (CRow (some ⟨rg, 0, none⟩) cap (cs.set i { c with on := b }) :: []) mixed (.i (by repeat constructor)) ?_ (fun _ => ?_)
  · refine .tk 0 rfl (RV.move rfl) ?_; refine .tk 1 rfl (RV.move rfl) ?_; refine .tk 2 rfl (RV.nilCheck rfl) ?_; refine .tk 3 rfl (RV.fieldAddr rfl rfl rfl rfl rfl rfl) ?_; refine .tk 4 rfl (RV.fieldAddr rfl rfl rfl rfl rfl rfl) ?_; refine .tk 5 rfl (RV.loadR rfl rfl rfl (by repeat constructor) (hget2 6 _ rfl)) ?_; refine .tk 6 rfl (RV.neqB rfl rfl rfl rfl) ?_; refine .tk 7 rfl (RV.move rfl) ?_; refine .tk 8 rfl (RV.nilCheck rfl) ?_; refine .tk 9 rfl (RV.fieldAddr rfl rfl rfl rfl rfl rfl) ?_; refine .tk 10 rfl (RV.loadR rfl rfl rfl (by repeat constructor) (hget2 9 _ rfl)) ?_; refine .tk 11 rfl (RV.not rfl) ?_; refine .tk 12 rfl (RV.assign rfl) ?_; refine .tk 13 rfl (RV.assign rfl) ?_; refine .tk 14 rfl (RV.assign rfl) ?_; refine .dn ?_
    exact .cy ()
  refine .go ?_; repeat constructor
  exact PX.ret rfl Tryz.results35 (.cons (.tmp rfl) (.cons (.tmp rfl) (.cons (.tmp rfl) .nil))) (fun w hs => ⟨(), rfl, hs.ent (.i (by repeat constructor))⟩)
end Go.Proofs.YthcbjbkheodejaaGreat
namespace Go.Proofs.YthcbjbkheodejaaGreat
open Go Go.RowKit Sl
set_option maxRecDepth 100000
set_option maxHeartbeats 8000000
attribute [local irreducible] ES EL PX wps
abbrev lnA (n : Int) : Ad := ⟨1, n, []⟩
abbrev mtA (t : List UInt8) : Ad := ⟨3, 0, t⟩
theorem line22_c (n : Int) (w : World) : Pure Tryz.prog 15 #[Iv n] (fun _ : Unit => .agg (adC (lnA n)).toArray) (fun _ => []) w := by
  refine calls_of_ES TB Tryz.func15 rfl _ Tryz.ntmps15 rfl (Sat.start w) ?_; refine .go ?_; (repeat constructor); (refine .al ?_; intro g2); refine .go ?_; (repeat constructor); refine .mv ?_; refine EL.buildS #[_, _, .string ⟨#[]⟩] rfl rfl rfl rfl rfl rfl rfl ?_; refine .sa ?_; refine .go ?_; repeat constructor
  exact PX.ret rfl Tryz.results15 (.cons (.blkA rfl rfl rfl (by repeat constructor) rfl) .nil) (fun w hs => ⟨(), rfl, hs.ent (.i (by repeat constructor))⟩)
theorem match22_c (t : List UInt8) (w : World) : Pure Tryz.prog 34 #[Sv t] (fun _ : Unit => .agg (adC (mtA t)).toArray) (fun _ => []) w := by
  refine calls_of_ES TB Tryz.func34 rfl _ Tryz.ntmps34 rfl (Sat.start w) ?_; refine .go ?_; (repeat constructor); (refine .al ?_; intro g2); refine .go ?_; (repeat constructor); refine .mv ?_; refine EL.buildS #[_, .int .i64 0, _] rfl rfl rfl rfl rfl rfl rfl ?_; refine .sa ?_; refine .go ?_; repeat constructor
  exact PX.ret rfl Tryz.results34 (.cons (.blkA rfl rfl rfl (by repeat constructor) rfl) .nil) (fun w hs => ⟨(), rfl, hs.ent (.i (by repeat constructor))⟩)
end Go.Proofs.YthcbjbkheodejaaGreat
namespace Go.Proofs.YthcbjbkheodejaaGreat
open Go Go.RowKit Sl
set_option maxRecDepth 100000
set_option maxHeartbeats 8000000
attribute [local irreducible] ES EL PX wps
abbrev PKA (gp rg cap : Nat) (cs : List Chc) (last : Option Mt) (ms : List Mt) : List HA := [PKB gp (some ⟨rg, 0, none⟩) cs.length cap last, CRow (some ⟨rg, 0, none⟩) cap cs, HA.mats ms]
theorem ask_e (gp rg cap : Nat) (cs cs' : List Chc) (i : Nat) (c : Chc) (last last' : Option Mt) (ms : List Mt) (l : Line) (ans : List UInt8 → Bool × Int) (hans : AnsAll ms l.s ans) (on yes off : Bool) (e : Int) (hi : cs[i]? = some c) (hl : ∀ q, last = some q → q ∈ ms) (ha : ∀ q, c.a = some q → q ∈ ms) (hb : ∀ q, c.b = some q → q ∈ ms)
    (hr : askM ans last c l = ⟨last', on, yes, off, e⟩) (hcs : cs.set i { c with on := on } = cs') (hn : cs'.length = cs.length) (w0 : World) (B : Nat) (hG : GR w0 B) :
    MutAt Tryz.prog 35 #[Pv gp 0, Iv (i : Nat), Iv l.line, .bool l.last, Sv l.s] (PKA gp rg cap cs last ms) (fun _ : Unit => .tuple #[.bool yes, .bool off, Iv e]) (fun _ => PKA gp rg cap cs' last' ms) w0 B := by
  have h := ask_c gp rg cap cs i c hi last ms l ans hans hl ha hb w0 B hG
  rw [hr] at h
  dsimp only at h
  rw [hcs] at h
  unfold PKA
  rw [hn]
  exact h
def ansW (s t : List UInt8) : Bool × Int := match setM 400 t s 0 with
  | some m => (m.ok, m.e)
  | none => (false, 0)
theorem ansW_is {s t : List UInt8} (hl : t.length ≤ 4611686018427387904) (hb : (meOf t).back = false) (h : (setM 400 t s 0).isSome = true) : Ans t s (ansW s t).1 (ansW s t).2 := by
  obtain ⟨m, hm⟩ := Option.isSome_iff_exists.1 h
  refine ⟨hl, hb, 400, m, hm, ?_, ?_⟩ <;> (unfold ansW; rw [hm])
abbrev awA (on : Bool) : Chc := ⟨⟨lnA 2, lnA 3, false⟩, none, none, on⟩
abbrev awB (ga gb : Nat) (on : Bool) : Chc := ⟨⟨mtA [97], mtA [98], false⟩, some (ga, [97]), some (gb, [98]), on⟩
def awR : List Rw := [⟨lnA 2, lnA 3, false⟩, ⟨mtA [97], mtA [98], false⟩]
theorem PkOk.aw {z : PkSt} (h : PkOk awR z) : ∃ ga gb, z.cs = [awA false, awB ga gb false] ∧ (ga, [97]) ∈ z.ms ∧ (gb, [98]) ∈ z.ms ∧ ∀ q ∈ z.ms, q.2 = [97] ∨ q.2 = [98] := by
  obtain ⟨h1, h2, h3, h4, h5⟩ := h
  obtain ⟨ad, cap, cs, ms⟩ := z
  dsimp only at h1 h2 h3 h4 h5 ⊢
  unfold awR at h1
  obtain ⟨c1, cs, rfl, e1, h1⟩ := List.map_eq_cons_iff.1 h1
  obtain ⟨c2, cs, rfl, e2, h1⟩ := List.map_eq_cons_iff.1 h1
  rw [List.map_eq_nil_iff] at h1
  subst h1
  obtain ⟨r1, a1, b1, o1⟩ := c1
  obtain ⟨r2, a2, b2, o2⟩ := c2
  dsimp only at e1 e2
  subst e1 e2
  have hA : hasM (mtA [97]) := by refine ⟨rfl, by decide, by decide +kernel⟩
  have hB : hasM (mtA [98]) := by refine ⟨rfl, by decide, by decide +kernel⟩
  have hno : ∀ n, ¬ hasM (lnA n) := fun n h => by have := h.1; simp at this
  obtain rfl : o1 = false := h2 _ (List.mem_cons_self ..)
  obtain rfl : o2 = false := h2 _ (List.mem_cons_of_mem _ (List.mem_cons_self ..))
  obtain rfl : a1 = none := (h3 _ (List.mem_cons_self ..)).1.none (hno 2)
  obtain rfl : b1 = none := (h4 _ (List.mem_cons_self ..)).1.none (hno 3)
  obtain ⟨ga, hga⟩ := (h3 ⟨⟨mtA [97], mtA [98], false⟩, a2, b2, false⟩ (by simp)).1.some hA
  obtain ⟨gb, hgb⟩ := (h4 ⟨⟨mtA [97], mtA [98], false⟩, a2, b2, false⟩ (by simp)).1.some hB
  dsimp only at hga hgb
  subst hga hgb
  refine ⟨ga, gb, rfl, (h3 _ (List.mem_cons_of_mem _ (List.mem_cons_self ..))).2 _ rfl, (h4 _ (List.mem_cons_of_mem _ (List.mem_cons_self ..))).2 _ rfl, fun q hq => ?_⟩
  obtain ⟨r, hr, h⟩ := h5 q hq
  simp only [awR, List.mem_cons, List.not_mem_nil, or_false] at hr
  rcases hr with rfl | rfl <;> rcases h with ⟨h, e⟩ | ⟨h, e⟩
  · exact absurd h (hno 2)
  · exact absurd h (hno 3)
  · exact .inl e
  · exact .inr e
theorem awake22_c (w : World) (hG : GR w w.heap.size) : Pure Tryz.prog 17 #[] (fun _ : Unit => .bool true) (fun _ => []) w := by
  have hpne : pkNE awR = 0 := by decide +kernel
  refine calls_of_ES TB Tryz.func17 rfl _ Tryz.ntmps17 rfl (Sat.start w) ?_; refine .go ?_; (repeat constructor); refine .as_ ?_; refine .go ?_; (repeat constructor); refine EL.callP rfl rfl rfl ent15 rfl (line22_c 2) ?_; refine EL.callP rfl rfl rfl ent15 rfl (line22_c 3) ?_; refine EL.buildS (rwC ⟨lnA 2, lnA 3, false⟩).toArray rfl rfl rfl rfl rfl (by kernel_rfl) rfl ?_; refine EL.callP rfl rfl rfl ent34 rfl (match22_c [97]) ?_; refine EL.callP rfl rfl rfl ent34 rfl (match22_c [98]) ?_; refine EL.buildS (rwC ⟨mtA [97], mtA [98], false⟩).toArray rfl rfl rfl rfl rfl (by kernel_rfl) rfl ?_; (refine EL.buildSliceC (rwsC awR).toArray rfl rfl rfl rfl rfl rfl (by kernel_rfl) rfl rfl rfl rfl ?_; intro b22)
  (refine EL.callXw rfl rfl rfl ent32 rfl (fun w hs => pickNew_c awR (by decide) (some ⟨b22, 0, none⟩) 2 w (GR.sat hG hs) (Rd.row (n := 2) (cap := 2) (sz := 7) hs (by repeat constructor) (by decide))) ?_; rintro (hbad | ⟨hok, gp, z, hz⟩); exact absurd hpne hbad)
  refine .mv ?_; refine .ex ?_; refine .ex ?_; refine .as_ ?_; refine .as_ ?_; refine .go ?_; (repeat constructor); refine .go ?_; (repeat constructor); refine .mv ?_; refine EL.eqlPn rfl rfl rfl rfl rfl rfl ?_; refine .mv ?_
  refine EL.rew (d := 28) (v' := .bool false) rfl (by first | rfl | (decide) | (simp)) ?_
  refine .mv ?_; refine .ni ?_; refine .pf ?_; refine .go ?_; (repeat constructor); refine ES.condF rfl ?_
  refine ES.know (P := ∃ rg, z.ad = some ⟨rg, 0, none⟩) (fun w hs => (row_form (hs.all (CRow z.ad z.cap z.cs) (by simp [NwX.H]))).2.2.2.2 (by obtain ⟨ga, gb, e, _⟩ := hz.aw; rw [e]; exact Nat.zero_lt_succ 1)) ?_
  rintro ⟨rg, hrg⟩
  obtain ⟨ga, gb, hcs, hma, hmb, hms⟩ := hz.aw
  obtain ⟨ad, cap, cs, ms⟩ := z
  dsimp only at hrg hcs hma hmb hms
  subst hrg hcs
  have hans : ∀ s, (setM 400 [97] s 0).isSome = true → (setM 400 [98] s 0).isSome = true → AnsAll ms s (ansW s) := fun s h1 h2 q hq => by
    rcases hms q hq with e | e <;> rw [e]
    · exact ansW_is (by decide) (by decide +kernel) h1
    · exact ansW_is (by decide) (by decide +kernel) h2
  have no : ∀ q : Mt, (none : Option Mt) = some q → q ∈ ms := fun q h => by cases h
  have ya : ∀ q : Mt, some (ga, [97]) = some q → q ∈ ms := fun q h => by cases h; exact hma
  have yb : ∀ q : Mt, some (gb, [98]) = some q → q ∈ ms := fun q h => by cases h; exact hmb
  have k1 := ask_e gp rg cap [awA false, awB ga gb false] [awA true, awB ga gb false] 0 (awA false) none none ms ⟨2, false, []⟩ (ansW []) (hans [] (by decide +kernel) (by decide +kernel)) true true false 0 rfl no no no (by kernel_rfl) rfl rfl w w.heap.size hG
  have k2 := ask_e gp rg cap [awA true, awB ga gb false] [awA false, awB ga gb false] 0 (awA true) none none ms ⟨3, false, []⟩ (ansW []) (hans [] (by decide +kernel) (by decide +kernel)) false true true 0 rfl no no no (by kernel_rfl) rfl rfl w w.heap.size hG
  have k3 := ask_e gp rg cap [awA false, awB ga gb false] [awA false, awB ga gb false] 1 (awB ga gb false) none (some (ga, [97])) ms ⟨1, false, [120, 98]⟩ (ansW [120, 98]) (hans [120, 98] (by decide +kernel) (by decide +kernel)) false false true 0 rfl no ya yb (by kernel_rfl) rfl rfl w w.heap.size hG
  have k4 := ask_e gp rg cap [awA false, awB ga gb false] [awA false, awB ga gb true] 1 (awB ga gb false) (some (ga, [97])) (some (ga, [97])) ms ⟨2, false, [97, 98]⟩ (ansW [97, 98]) (hans [97, 98] (by decide +kernel) (by decide +kernel)) true true false 0 rfl ya ya yb (by kernel_rfl) rfl rfl w w.heap.size hG
  refine .go ?_; (repeat constructor); refine .mv ?_; (refine EL.callMw rfl rfl rfl ent35 rfl k1 (by repeat constructor) ?_; intro x1); refine .mv ?_; refine .ex ?_; refine .ex ?_; refine .ex ?_; refine .as_ ?_; refine .as_ ?_; refine .as_ ?_; refine .go ?_; (repeat constructor); refine .go ?_; (repeat constructor); refine .mv ?_; (refine EL.callMw rfl rfl rfl ent35 rfl k2 (by repeat constructor) ?_; intro x2); refine .mv ?_; refine .ex ?_; refine .ex ?_; refine .ex ?_; refine .as_ ?_; refine .as_ ?_; refine .as_ ?_; refine .go ?_; (repeat constructor); refine .go ?_; (repeat constructor); refine .mv ?_; (refine EL.callMw rfl rfl rfl ent35 rfl k3 (by repeat constructor) ?_; intro x3); refine .mv ?_; refine .ex ?_; refine .ex ?_; refine .ex ?_; refine .as_ ?_; refine .as_ ?_; refine .as_ ?_; refine .go ?_; (repeat constructor); refine .go ?_; (repeat constructor); refine .mv ?_; (refine EL.callMw rfl rfl rfl ent35 rfl k4 (by repeat constructor) ?_; intro x4); refine .mv ?_; refine .ex ?_; refine .ex ?_; refine .ex ?_; refine .as_ ?_; refine .as_ ?_; refine .as_ ?_; refine .go ?_; (repeat constructor); refine .go ?_; (repeat constructor); refine .mv ?_; refine .ei ?_; refine .mv ?_
  refine EL.rew (d := 58) (v' := .bool true) rfl (by first | rfl | (decide) | (simp)) ?_
  refine .mv ?_; refine .ei ?_; refine .pt ?_; refine .mv ?_
  refine EL.rew (d := 62) (v' := .bool true) rfl (by first | rfl | (decide) | (simp)) ?_
  refine .mv ?_; refine .ei ?_; refine .pt ?_; refine .mv ?_
  refine EL.rew (d := 66) (v' := .bool true) rfl (by first | rfl | (decide) | (simp)) ?_
  refine .mv ?_; refine .ei ?_; refine .pt ?_; refine .mv ?_
  refine EL.rew (d := 70) (v' := .bool true) rfl (by first | rfl | (decide) | (simp)) ?_
  refine .mv ?_; refine .pt ?_; refine .mv ?_
  refine EL.rew (d := 73) (v' := .bool true) rfl (by first | rfl | (decide) | (simp)) ?_
  refine .mv ?_; refine .nt ?_; refine .pt ?_; refine .mv ?_
  refine EL.rew (d := 77) (v' := .bool true) rfl (by first | rfl | (decide) | (simp)) ?_
  refine .mv ?_; refine .pt ?_; refine .mv ?_
  refine EL.rew (d := 80) (v' := .bool true) rfl (by first | rfl | (decide) | (simp)) ?_
  refine .mv ?_; refine .pt ?_; refine .mv ?_
  refine EL.rew (d := 83) (v' := .bool true) rfl (by first | rfl | (decide) | (simp)) ?_
  refine .mv ?_; refine .nt ?_; refine .pt ?_; refine .mv ?_
  refine EL.rew (d := 87) (v' := .bool true) rfl (by first | rfl | (decide) | (simp)) ?_
  refine .mv ?_; refine .pt ?_; refine .mv ?_
  refine EL.rew (d := 90) (v' := .bool true) rfl (by first | rfl | (decide) | (simp)) ?_
  refine .mv ?_; refine .nt ?_; refine .pt ?_; refine .as_ ?_; refine .go ?_; repeat constructor
  exact PX.ret rfl Tryz.results17 (.cons (.tmp rfl) .nil) (fun w hs => ⟨(), rfl, hs.ent (.nil _)⟩)
end Go.Proofs.YthcbjbkheodejaaGreat
namespace Go.Proofs.YthcbjbkheodejaaGreat.Sl
open Go Go.RowKit
def SelfAt (P : Program) (d : Nat) (t : TypeId) (v : Value) : Prop := ∀ w, (Op.equalIn d t v v).run P w = .ok true w
theorem SelfAt.int {P : Program} {d t : Nat} {k : IntKind} (hT : P.underlying t = some (.int k)) (m : Int) : SelfAt P (d + 1) t (.int k m) := fun w => by
  rw [run_equalIn_int hT]; simp
theorem SelfAt.str {P : Program} {d t : Nat} (hT : P.underlying t = some .string) (l : List UInt8) : SelfAt P (d + 1) t (Sv l) := fun w => by
  simp only [Op.equalIn, Sem.run_bind, run_underlying hT, Result.andThen, Sem.run_pure]
  have e : ((⟨l.toArray⟩ : ByteArray) == ⟨l.toArray⟩) = true := by show (l.toArray == l.toArray) = true; simp
  rw [e]
theorem SelfAt.bool {P : Program} {d t : Nat} (hT : P.underlying t = some .bool) (b : Bool) : SelfAt P (d + 1) t (.bool b) := fun w => by
  simp only [Op.equalIn, Sem.run_bind, run_underlying hT, Result.andThen, Sem.run_pure, beq_self_eq_true]
theorem part_cell {P : Program} (T : TyTab P) {el : TypeId} {te : TI} (hte : T.f el = some te) (hag : te.agg = false) {cs : Array Value} {i : Nat} {v : Value} (h : cs[i]? = some v) (w : World) : (part el cs i).run P w = .ok v w := by
  simp [part, ((T.ok el te hte).runInfo w).2.2.2, hag, Result.andThen, h]
theorem part_agg {P : Program} (T : TyTab P) {el : TypeId} {te : TI} (hte : T.f el = some te) (hag : te.agg = true) (cs : Array Value) (i : Nat) (w : World) : (part el cs i).run P w = .ok (.agg (cs.extract i (i + te.size))) w := by
  simp [part, ((T.ok el te hte).runInfo w).2.2.2, ((T.ok el te hte).runInfo w).1, hag, Result.andThen]
theorem SelfAt.struct {P : Program} (T : TyTab P) {d t : Nat} {ti : TI} {fs : Array Field} (ht : T.f t = some ti) (hu : ti.u = .struct fs) (hst : P.stoodInHeld t = false) (cs : Array Value)
    (hf : ∀ f ∈ fs.toList, ∃ v, (∀ w, (part f.type cs f.offset).run P w = .ok v w) ∧ SelfAt P d f.type v) : SelfAt P (d + 1) t (.agg cs) := fun w => by
  have hT := (T.ok t ti ht).u
  rw [hu] at hT
  have hpr : (program).run P w = .ok P w := rfl
  rw [Op.equalIn]
  simp only [Sem.run_bind, run_underlying hT, Result.andThen, hpr, hst, Bool.false_eq_true, if_false]
  obtain ⟨l⟩ := fs
  simp only [List.forIn_toArray]
  have loop : ∀ l : List Field, (∀ f ∈ l, ∃ v, (∀ w, (part f.type cs f.offset).run P w = .ok v w) ∧ SelfAt P d f.type v) → (forIn (m := Sem) l ((none, ()) : Option Bool × Unit) (fun f r => do
      if f.name ≠ "_" then
        if !(← Op.equalIn d f.type (← part f.type cs f.offset) (← part f.type cs f.offset)) then pure (.done (some false, ()))
        else pure (.yield (none, ()))
      else pure (.yield (none, ())))).run P w = .ok (none, ()) w := by
    intro l
    induction l with
    | nil => intro _; simp
    | cons f l ih =>
      intro h
      obtain ⟨v, h1, h2⟩ := h f (by simp)
      have h2' := h2 w
      rw [List.forIn_cons]
      by_cases hn : f.name = "_"
      · simp only [hn, ne_eq, not_true_eq_false, if_false, Sem.run_bind, Sem.run_pure, Result.andThen]
        exact ih (fun g hg => h g (by simp [hg]))
      · simp only [hn, ne_eq, not_false_eq_true, if_true, Sem.run_bind, Sem.run_pure, Result.andThen, h1, h2', Bool.not_true, Bool.false_eq_true, if_false]
        exact ih (fun g hg => h g (by simp [hg]))
  have h0 := loop l hf
  rw [h0]
  rfl
theorem SelfAt.equal {P : Program} {t : TypeId} {v : Value} (h : SelfAt P 10000 t v) (w : World) : (Op.equal t v v).run P w = .ok true w := h w
end Go.Proofs.YthcbjbkheodejaaGreat.Sl
namespace Go.Proofs.YthcbjbkheodejaaGreat.Sl
open Go Go.RowKit
theorem Rd.take {w : World} {B : Nat} {ad : Option Addr} {cs : List Value} (h : Rd w B ad cs) (k : Nat) : Rd w B ad (cs.take k) := by
  intro hne
  obtain ⟨g, off, h1, h2, h3⟩ := h (by intro e; subst e; simp at hne)
  refine ⟨g, off, h1, h2, fun j v hj => h3 j v ?_⟩
  rw [List.getElem?_take] at hj
  split at hj
  · exact hj
  · cases hj
section cutabove
variable {C : Cx} {all : Array Oper} {ops : List Oper} {Q : Qt} {E : Env} {H : List HA} {d ty t : Nat} {pos : String} {af : Array Edge} {gd : Option (Nat × Bool)} {x y : Operand}
end cutabove
end Go.Proofs.YthcbjbkheodejaaGreat.Sl
namespace Go.Proofs.YthcbjbkheodejaaGreat.Sl
open Go Go.RowKit
variable {C : Cx} {Q : Qt} {E : Env} {H : List HA}
theorem run_append_none {P : Program} (w : World) (t ty e : TypeId) (i : TypeInfo) (ht : P.underlying t = some (.slice e)) (hi : P.info? e = some i) (base : Option Addr) (sLen sCap : Nat) (hle : sLen ≤ sCap) (ad2 : Option Addr) (c : Nat) :
    (Builtin.append_ #[t, t] ty #[.slice base sLen sCap, .slice ad2 0 c]).run P w = .ok (.slice base sLen sCap) w := by
  cases base <;> cases ad2 <;> simp [Builtin.append_, run_underlying ht, sizeOf, typeInfo, hi, hle, Builtin.lenOf, Builtin.firstCells, loadCells, loadCellsFrom, storeCells, Result.andThen]
section appendrd
variable {all : Array Oper} {ops : List Oper} {d ty t : Nat} {pos : String} {af : Array Edge} {gd : Option (Nat × Bool)} {x y : Operand}
end appendrd
end Go.Proofs.YthcbjbkheodejaaGreat.Sl
namespace Go.Proofs.YthcbjbkheodejaaGreat.Sl
open Go Go.RowKit Go.Lib
section buffers
variable {C : Cx} {all : Array Oper} {ops : List Oper} {Q : Qt} {E : Env} {H R : List HA} {d ty t : Nat} {pos : String} {af : Array Edge} {gd : Option (Nat × Bool)} {x y : Operand}
end buffers
end Go.Proofs.YthcbjbkheodejaaGreat.Sl
namespace Go.Proofs.YthcbjbkheodejaaGreat.Sl
open Go Go.RowKit
section appendrow
variable {C : Cx} {all : Array Oper} {ops : List Oper} {Q : Qt} {E : Env} {H R : List HA} {d ty t : Nat} {pos : String} {af : Array Edge} {gd : Option (Nat × Bool)} {x y : Operand}
theorem EL.appendW {ti te : TI} {el : TypeId} {ad ad2 : Option Addr} {n cap m c : Nat} {cs news : List Value} (hg : guardOk all E gd = some true) (hx : E.ev x = some (.slice ad n cap)) (hy : E.ev y = some (.slice ad2 m c)) (ht : C.T.f t = some ti) (hu : ti.u = .slice el) (hte : C.T.f el = some te)
    (hz1 : te.zero.cells.size = te.size) (hpos : Nat.blt 0 te.size = true) (hd : Nat.blt d C.n = true) (p : Pick H (HA.row (.slice ad n cap) el te.size n cs) R) (hrd : ∀ w, Sat C.w0 C.B H w → Rd w w.heap.size ad2 news) (hl : news.length = m * te.size) (h1 : ∀ u ∈ news, u.oneCell' = true)
    (h63 : n + m ≤ maxLen) (hbytes : (n + m) * te.bytes ≤ 140737488355328)
    (k : ∀ ad' cap', EL C all ops Q ((d, .slice ad' (n + m) cap') :: E) (HA.row (.slice ad' (n + m) cap') el te.size (n + m) (cs ++ news) :: R)) :
    EL C all (⟨some d, .call { callee := .builtin .append, args := #[x, y], argTypes := #[t, t] }, ty, pos, af, gd⟩ :: ops) Q E H := by
  rcases Nat.eq_zero_or_pos m with rfl | hm
  · obtain rfl : news = [] := List.eq_nil_of_length_eq_zero (by simpa using hl)
    refine EL.val (.slice ad n cap) hg rfl hd (by simp) (fun a w ha => ?_) ?_
    · have hT := (C.T.ok t ti ht).u
      rw [hu] at hT
      obtain ⟨i, hi, hz, hs, hb⟩ := (C.T.ok el te hte).info
      have hf := row_form (ha.2.perm p.perm).head
      have hr := run_append_none (P := C.P) w t ty el i hT hi ad n cap hf.2.1 ad2 c
      simp [execOp, ha.1.ev hx, ha.1.ev hy, resolve, invoke, builtin, hr, Result.andThen]
    · intro a w ha
      have h2 := k ad cap a w
      simp only [Nat.add_zero, List.append_nil] at h2
      exact h2 ⟨ha.1, ha.2.perm p.perm⟩
  · have hpz : 0 < te.size := by simpa using hpos
    have hne : news ≠ [] := by
      intro e; subst e
      have := Nat.mul_pos hm hpz
      simp at hl; omega
    intro a w ha
    obtain ⟨g, off, rfl, hgB, _⟩ := hrd w ha.2 hne
    exact (EL.append hg hx hy ht hu hte hz1 hpos hd p hl hm (fun w hs j u hj => by
      obtain ⟨g', off', h1', h2', h3'⟩ := hrd w hs hne
      cases h1'
      rw [add_n]; exact h3' j u hj) h1 h63 hbytes (fun g' cap' => k _ cap')) a w ha
end appendrow
end Go.Proofs.YthcbjbkheodejaaGreat.Sl
namespace Go.Proofs.YthcbjbkheodejaaGreat.Sl
open Go Go.RowKit
section pools
variable {C : Cx} {all : Array Oper} {ops : List Oper} {cds : List Code} {Q : Qt} {E : Env} {H R : List HA} {d ty t g off e : Nat} {pos : String} {af : Array Edge} {gd : Option (Nat × Bool)} {x : Operand} {v : Value} {pool : List HA}
theorem EL.copyNil {ti te : TI} {el : TypeId} {ad2 : Option Addr} {m c : Nat} {news : List Value} {x y : Operand} (hg : guardOk all E gd = some true) (hx : E.ev x = some (.slice none 0 0)) (hy : E.ev y = some (.slice ad2 m c)) (ht : C.T.f t = some ti) (hu : ti.u = .slice el) (hte : C.T.f el = some te)
    (hz1 : te.zero.cells.size = te.size) (hpos : Nat.blt 0 te.size = true) (hd : Nat.blt d C.n = true) (hrd : ∀ w, Sat C.w0 C.B H w → Rd w w.heap.size ad2 news) (hl : news.length = m * te.size) (h1 : ∀ u ∈ news, u.oneCell' = true)
    (h63 : m ≤ maxLen) (hbytes : m * te.bytes ≤ 140737488355328)
    (k : ∀ ad' cap', EL C all ops Q ((d, .slice ad' m cap') :: E) (HA.row (.slice ad' m cap') el te.size m news :: H)) :
    EL C all (⟨some d, .call { callee := .builtin .append, args := #[x, y], argTypes := #[t, t] }, ty, pos, af, gd⟩ :: ops) Q E H :=
  EL.nilRow el te.size (EL.appendW hg hx hy ht hu hte hz1 hpos hd (Pick.here _ _) (fun w hs => hrd w hs.tail) hl h1 (by rw [Nat.zero_add]; exact h63) (by rw [Nat.zero_add]; exact hbytes) (fun a c => by
    rw [Nat.zero_add, List.nil_append]; exact k a c))
end pools
end Go.Proofs.YthcbjbkheodejaaGreat.Sl
namespace Go.Proofs.YthcbjbkheodejaaGreat.Sl
open Go Go.RowKit Go.ChangeShapes Go.WideShapes Go.ChangeAt
def rowedB (P : Program) (ts : List TypeId) : Bool := ts.all fun t => P.readableRec t && decide (t < P.types.size)
theorem trodAll_below {H : Type} {enc : TypeId × Value → H} {P : Program} (hl : laidOutB P = true) {W W' : World} (hb : Below W.heap.size W W') :
    ∀ {ts : List TypeId} {vs : List Value} {ds : List (DataW H)} {ps : List MemPlace}, rowedB P ts = true → (∀ x ∈ ps, x.block < W.heap.size) → DataW.TrodAll enc P W 0 (fun _ => true) true ts vs ds ps → DataW.TrodAll enc P W' 0 (fun b => decide (b < W.heap.size)) true ts vs ds ps
  | [], [], [], _, _, _, h => h
  | t :: ts, v :: vs, d :: ds, ps, hr, hlt, h => by
    obtain ⟨p, q, h1, h2, rfl⟩ := h
    simp only [rowedB, List.all_cons, Bool.and_eq_true, decide_eq_true_eq] at hr
    exact ⟨p, q, Below.trod hl hr.1.1 hr.1.2 h1 hb (fun x hx => hlt x (by simp [hx])), trodAll_below hl hb (by simpa [rowedB] using hr.2) (fun x hx => hlt x (by simp [hx])) h2, rfl⟩
theorem law_true {H : Type} {enc : TypeId × Value → H} {P : Program} (hl : laidOutB P = true) {f : Func} {tb : TypeId} {s : ChangeSpec} {W W' : World} {args : Array Value} {ds gs : List (DataW H)} {before : List MemPlace}
    (hres : f.resultTypes = #[tb]) (hu : P.underlying tb = some .bool) (hts : rowedB P f.params.toList = true) (hv : varsRowed P s.vars = true) (apart : Bool)
    (hR : (s.fn H (ds ++ gs)).results = [.lit (.bool true)]) (hA : (s.fn H (ds ++ gs)).args = ds) (hV : (s.fn H (ds ++ gs)).vars = gs)
    (hW : DataW.Whole enc P f.params.toList s.vars apart W args.toList ds gs before) (hb : Below W.heap.size W W') : s.post enc P f apart true false false W args (.bool true) W' := by
  have hlt := hW.lt
  have hW' := hW
  obtain ⟨p, q, h1, h2, rfl, h4, h5⟩ := hW
  refine ⟨ds, gs, p ++ q, [], p, q, hW', ?_, ?_, ?_, hb.frame _, fun h => by cases h⟩
  · rw [hres, hR]
    exact trodAll_mk1 (shut_bool hu true)
  · rw [hA]
    exact trodAll_below hl hb hts (fun x hx => hlt x (by simp [hx])) h1
  · rw [hV]
    exact Below.trodVars hl hb hv h2
theorem choose_list {α : Type} {p : Nat → α → Prop} : ∀ n : Nat, (∀ i, i < n → ∃ x, p i x) → ∃ xs : List α, xs.length = n ∧ ∀ i (h : i < xs.length), p i xs[i]
  | 0, _ => ⟨[], rfl, fun i h => absurd h (by simp)⟩
  | n + 1, h => by
    obtain ⟨xs, h1, h2⟩ := choose_list n (fun i hi => h i (by omega))
    obtain ⟨x, hx⟩ := h n (by omega)
    refine ⟨xs ++ [x], by simp [h1], fun i hi => ?_⟩
    by_cases h3 : i < xs.length
    · rw [List.getElem_append_left h3]; exact h2 i h3
    · have : i = n := by simp at hi; omega
      subst this
      rw [List.getElem_append_right (by omega)]
      simpa using hx
theorem flat_get {α : Type} (f : α → List Value) (sz : Nat) (hsz : 0 < sz) (hf : ∀ x, (f x).length = sz) : ∀ (xs : List α) (j : Nat) (v : Value), (xs.flatMap f)[j]? = some v → ∃ h : j / sz < xs.length, (f xs[j / sz])[j % sz]? = some v
  | [], j, v, h => by simp at h
  | x :: xs, j, v, h => by
    rw [List.flatMap_cons] at h
    by_cases hj : j < sz
    · rw [List.getElem?_append_left (by rw [hf]; exact hj)] at h
      have h0 : j / sz = 0 := Nat.div_eq_of_lt hj
      refine ⟨by rw [h0]; simp, ?_⟩
      simp only [h0, List.getElem_cons_zero, Nat.mod_eq_of_lt hj]
      exact h
    · rw [List.getElem?_append_right (by rw [hf]; omega), hf] at h
      obtain ⟨h1, h2⟩ := flat_get f sz hsz hf xs (j - sz) v h
      have hd : j / sz = (j - sz) / sz + 1 := by rw [← Nat.add_div_right _ hsz]; congr 1; omega
      have hm : j % sz = (j - sz) % sz := (Nat.mod_eq_sub_mod (by omega))
      refine ⟨by rw [hd]; simpa using h1, ?_⟩
      simp only [hd, List.getElem_cons_succ, hm]
      exact h2
theorem open_slice {α : Type} {H : Type} {enc : TypeId × Value → H} {P : Program} {w : World} {base : Nat} {sp : Nat → Bool} {held : Bool} {r : Reach} {b0 : Nat} {t e : TypeId} {v : Value} {d : DataW H} {ps : List MemPlace}
    (f : α → List Value) (gd : α → DataW H) (sz : Nat) (hsz : 0 < sz) (hf : ∀ x, (f x).length = sz) (ht : P.underlying t = some (.slice e)) (hc : P.cellsOf e = sz)
    (hel : ∀ n cs y, DataW.trod enc P w base sp held n e cs = some y → ∃ x : α, cs = f x ∧ y.1 = gd x)
    (hval : Value.okWide P w r b0 t v) (hd : DataW.Trod enc P w base sp held t v d ps) :
    ∃ (ad : Option Addr) (cap : Nat) (xs : List α) (rest : List (DataW H)), v = .slice ad xs.length cap ∧ Rd w w.heap.size ad (xs.flatMap f) ∧ ((d = .nil ∧ xs = []) ∨ d = .slice (xs.map gd) rest) := by
  obtain ⟨a, len, cap, rfl⟩ := okWide_slice ht hval
  obtain ⟨fuel, hfu⟩ := hd
  rcases DataW.trod_slice ht hfu with ⟨h1, h2⟩ | ⟨a', len', cap', elems, rest, n, _, h1, h2, hb, hl, hm, hlen, hel', hsp, hns⟩
  · simp only [Value.cells, Array.toList, List.cons.injEq, Value.slice.injEq, and_true] at h1
    obtain ⟨rfl, rfl, rfl⟩ := h1
    simp only [Prod.mk.injEq] at h2
    exact ⟨none, 0, [], [], rfl, fun hne => absurd rfl hne, .inl ⟨h2.1, rfl⟩⟩
  · simp only [Value.cells, Array.toList, List.cons.injEq, Value.slice.injEq, and_true] at h1
    obtain ⟨rfl, rfl, rfl⟩ := h1
    simp only [Prod.mk.injEq] at h2
    have each : ∀ i, i < len → ∃ x : α, w.cells? base (a'.add (i * sz)) sz = some (f x) ∧ ∃ y, elems[i]? = some y ∧ y.1 = gd x := by
      intro i hi
      have h3 := hel' i hi
      rw [hc] at h3
      have hy : elems[i]? = some (elems[i]'(by omega)) := List.getElem?_eq_getElem (by omega)
      rw [hy] at h3
      obtain ⟨cs, h4, h5⟩ := Option.bind_eq_some_iff.1 h3
      obtain ⟨x, rfl, h6⟩ := hel n cs _ h5
      exact ⟨x, h4, _, hy, h6⟩
    obtain ⟨xs, hxl, hx⟩ := choose_list len each
    refine ⟨some a', cap, xs, rest.map (·.1), by rw [hxl], ?_, .inr ?_⟩
    · intro hne
      have hpos : 0 < xs.length := by
        cases xs with
        | nil => exact absurd rfl hne
        | cons => simp
      have h0 := (hx 0 hpos).1
      rw [Nat.zero_mul] at h0
      have hcell := (World.cells?_some h0).2.2 0 hsz
      have hlt := World.cells?_block h0 hsz
      obtain ⟨g, off, spot⟩ := a'
      have hadd : ∀ b : Addr, b.add 0 = b := fun b => by simp [Addr.add]
      rw [hadd, hadd] at hcell
      rw [hadd] at hlt
      have hspot : spot = none := by
        cases spot with
        | none => rfl
        | some s =>
          have h7 : w.cell? ⟨g, off, some s⟩ = none := by unfold World.cell?; split <;> simp
          rw [h7] at hcell
          have h8 := hf xs[0]
          rw [List.getElem?_eq_getElem (by omega)] at hcell
          cases hcell
      subst hspot
      refine ⟨g, off, rfl, hlt, fun j v hj => ?_⟩
      obtain ⟨h9, h10⟩ := flat_get f sz hsz hf xs j v hj
      have h11 := (World.cells?_some (hx _ h9).1).2.2 (j % sz) (Nat.mod_lt _ hsz)
      rw [h10, add_n, add_n] at h11
      rw [← h11]
      congr 2
      have := Nat.div_add_mod' j sz
      omega
    · rw [h2.1]
      congr 1
      apply List.ext_getElem?
      intro i
      by_cases hi : i < len
      · obtain ⟨y, hy, hg⟩ := (hx i (by omega)).2
        simp [hy, hg, List.getElem?_eq_getElem (show i < xs.length by omega)]
      · rw [List.getElem?_eq_none (by simp; omega), List.getElem?_eq_none (by simp; omega)]
end Go.Proofs.YthcbjbkheodejaaGreat.Sl
namespace Go.Proofs.YthcbjbkheodejaaGreat
theorem own : Go.ownKnob Tryz.prog.godebug = none := by kernel_rfl
theorem laidOut : Go.laidOutB Tryz.prog = true := by kernel_rfl
end Go.Proofs.YthcbjbkheodejaaGreat
