/- Layer 22 (pick): matchers as one thing; read, New. -/
import Derived.Test.YtblpgpgbnlhjlaaJa
namespace Go.Proofs.Ytblpgpgbnlhjlaa
open Go Go.RowKit Sl
set_option maxRecDepth 100000
set_option maxHeartbeats 8000000
set_option linter.unusedVariables false
set_option linter.unusedSimpArgs false
attribute [local irreducible] ES EL PX wps

/-! matchers, their counts hidden -/
abbrev Mt := Nat × List UInt8
def HA.mats (ms : List Mt) : HA := ⟨ms.map Prod.fst, fun w => ∀ q ∈ ms, ∃ st, w.heap[q.1]? = some (.cells (mbC q.1 q.2 (meOf q.2) st) 112 (0, 0)), fun w w' h hw q hq => by
  obtain ⟨st, h1⟩ := hw q hq
  exact ⟨st, (h q.1 (List.mem_map_of_mem hq)).trans h1⟩⟩
theorem Sat.mats0 {w0 w : World} {B : Nat} {H : List HA} (h : Sat w0 B H w) : Sat w0 B (HA.mats [] :: H) w :=
  Sat.rules (Hs := []) (Hs' := [HA.mats []]) h (by simp [fps, HA.mats]) (fun _ Y hY => by
    rw [List.mem_singleton] at hY; subst hY
    intro q hq; cases hq)
theorem Sat.matsIn {w0 w : World} {B : Nat} {l r : List Mt} {g : Nat} {t : List UInt8} {st : Int} {R : List HA} (h : Sat w0 B (MB g t (meOf t) st :: HA.mats (l ++ r) :: R) w) : Sat w0 B (HA.mats (l ++ (g, t) :: r) :: R) w :=
  Sat.rules (Hs := [MB g t (meOf t) st, HA.mats (l ++ r)]) (Hs' := [HA.mats (l ++ (g, t) :: r)]) h (by
    simp only [fps, List.flatMap_cons, List.flatMap_nil, HA.mats, HA.blk, List.append_nil, List.map_append, List.map_cons, List.singleton_append]
    exact List.perm_middle.symm) (fun hh Y hY => by
    have h1 : (MB g t (meOf t) st).holds w := hh _ (by simp)
    have h2 : (HA.mats (l ++ r)).holds w := hh _ (by simp)
    rw [List.mem_singleton] at hY; subst hY
    intro q hq
    rcases List.mem_append.1 hq with hq | hq
    · exact h2 q (by simp [hq])
    · rcases List.mem_cons.1 hq with rfl | hq
      · exact ⟨st, h1⟩
      · exact h2 q (by simp [hq]))
theorem Sat.matsOut {w0 w : World} {B : Nat} {l r : List Mt} {g : Nat} {t : List UInt8} {R : List HA} (h : Sat w0 B (HA.mats (l ++ (g, t) :: r) :: R) w) : ∃ st, Sat w0 B (MB g t (meOf t) st :: HA.mats (l ++ r) :: R) w := by
  obtain ⟨st, hst⟩ := (h.head : (HA.mats (l ++ (g, t) :: r)).holds w) (g, t) (by simp)
  refine ⟨st, Sat.rules (Hs' := [MB g t (meOf t) st, HA.mats (l ++ r)]) (Hs := [HA.mats (l ++ (g, t) :: r)]) h (by
    simp only [fps, List.flatMap_cons, List.flatMap_nil, HA.mats, HA.blk, List.append_nil, List.map_append, List.map_cons, List.singleton_append]
    exact List.perm_middle) (fun hh Y hY => ?_)⟩
  have h2 : (HA.mats (l ++ (g, t) :: r)).holds w := hh _ (by simp)
  simp only [List.mem_cons, List.not_mem_nil, or_false] at hY
  rcases hY with rfl | rfl
  · exact hst
  · exact fun q hq => h2 q (by rcases List.mem_append.1 hq with hq | hq <;> simp [hq])
theorem matchMats_c (F : Nat) (ms : List Mt) (q : Mt) (hq : q ∈ ms) (ht : q.2.length ≤ 4611686018427387904) (hb : (meOf q.2).back = false) (s : List UInt8) (a : Int) (m : MR) (hm : setM F q.2 s a = some m) (w0 : World) (B : Nat) (hG : GR w0 B) :
    MutAt Try.prog 22 #[Pv q.1 0, Sv s, Iv a] [HA.mats ms] (mrV m) (fun x => [PRow x.1 x.2 m.spans, HA.mats ms]) w0 B := by
  intro R w h
  obtain ⟨g, t⟩ := q
  obtain ⟨l, r, rfl⟩ := List.append_of_mem hq
  obtain ⟨st, h1⟩ := Sat.matsOut (show Sat w0 B (HA.mats (l ++ (g, t) :: r) :: R) w from h)
  refine (matchSets_c F g t ht (meOf t) hb s a m hm w0 B hG st (HA.mats (l ++ r) :: R) w h1).mono fun e w' ⟨x, he, hs⟩ => ⟨x, he, ?_⟩
  have h2 := Sat.matsIn (hs.ent (H' := MB g t (meOf t) (w64 (st + (m.steps : Nat))) :: HA.mats (l ++ r) :: PRow x.1 x.2 m.spans :: R) (.i (by repeat constructor)))
  exact h2.ent (.i (by repeat constructor))

/-! addresses, rows -/
structure Ad where
  kind : Int
  line : Int
  re : List UInt8
structure Rw where
  A : Ad
  B : Ad
  not : Bool
def adC (a : Ad) : List Value := [Iv a.kind, Iv a.line, Sv a.re]
def rwC (r : Rw) : List Value := adC r.A ++ adC r.B ++ [.bool r.not]
def rwsC (l : List Rw) : List Value := l.flatMap rwC
/-- Has it a matcher of its own? -/
def hasM (a : Ad) : Prop := a.kind = 3 ∧ a.re ≠ [] ∧ (parseM a.re).e = 0
def readE (a : Ad) : Int := if (a.kind < 0 ∨ 3 < a.kind) ∨ (a.kind = 1 ∧ a.line < 1) then 17 else if a.kind ≠ 3 ∨ a.re = [] then 0 else (parseM a.re).e
def pkE (r : Rw) : Int := if readE r.A ≠ 0 then readE r.A else if readE r.B ≠ 0 then readE r.B else if r.A.kind = 0 ∧ r.B.kind ≠ 0 then 17 else 0
def pksE : List Rw → Int
  | [] => 0
  | r :: l => if pkE r ≠ 0 then pkE r else pksE l
def ptrV (o : Option Mt) : Value := .pointer (o.map fun q => ⟨q.1, 0, none⟩)
/-- The matcher of an address. -/
structure MtOf (a : Ad) (o : Option Mt) : Prop where
  some : hasM a → ∃ g, o = some (g, a.re)
  none : ¬ hasM a → o = none
structure RdX (a : Ad) where
  o : Option Mt
  is : MtOf a o
def RdX.H {a : Ad} (x : RdX a) : List HA := match x.o with
  | none => []
  | some q => [MB q.1 q.2 (meOf q.2) 0]
theorem pickRead_c (a : Ad) (ha : a.re.length ≤ 4611686018427387904) (w : World) (hG : GR w w.heap.size) : Pure Try.prog 49 #[.agg (adC a).toArray] (fun x : RdX a => .tuple #[ptrV x.o, Iv (readE a)]) (fun x => x.H) w := by
  have hre : readE a = if (a.kind < 0 ∨ 3 < a.kind) ∨ (a.kind = 1 ∧ a.line < 1) then 17 else if a.kind ≠ 3 ∨ a.re = [] then 0 else (parseM a.re).e := rfl
  refine calls_of_ES TB Try.func49 rfl _ Try.ntmps49 rfl (Sat.start w) ?_
  refine .go ?_; repeat constructor
  (refine EL.box rfl rfl rfl ?_; intro g1)
  refine EL.assign rfl rfl rfl ?_
  refine EL.assign rfl rfl rfl ?_
  refine .go ?_; repeat constructor
  refine .go ?_; repeat constructor
  refine EL.cutX (X := Unit) (fun _ => [(1, Pv g1 0), (6, .bool (decide ((a.kind < 0 ∨ 3 < a.kind) ∨ (a.kind = 1 ∧ a.line < 1))))]) (fun _ => HA.blk g1 (.cells (adC a).toArray 55) :: []) ?_ (fun _ => ?_)
  · refine .go ?_; repeat constructor
    refine EL.fieldAddr rfl rfl rfl rfl rfl rfl rfl rfl ?_
    (apply EL.loadB; exact rfl; exact rfl; exact rfl; exact rfl; exact rfl; (case hm => repeat constructor); exact rfl)
    refine EL.lss rfl rfl rfl rfl ?_
    refine EL.move rfl rfl rfl ?_
    first | refine EL.splitD (d := 10) rfl (fun hp10 => ?_) (fun hp10 => ?_) | refine EL.splitN (d := 10) rfl (fun hp10 => ?_) (fun hp10 => ?_) | refine EL.splitB (d := 10) rfl (fun hp10 => ?_) (fun hp10 => ?_)
    · refine EL.pass rfl rfl rfl ?_
      refine EL.pass rfl rfl rfl ?_
      refine EL.pass rfl rfl rfl ?_
      refine EL.pickT rfl rfl rfl rfl ?_
      refine EL.move rfl rfl rfl ?_
      refine EL.pass rfl rfl rfl ?_
      refine EL.pass rfl rfl rfl ?_
      refine EL.pass rfl rfl rfl ?_
      refine EL.pass rfl rfl rfl ?_
      refine EL.pass rfl rfl rfl ?_
      refine EL.pass rfl rfl rfl ?_
      refine EL.pass rfl rfl rfl ?_
      refine EL.pass rfl rfl rfl ?_
      refine EL.pickT rfl rfl rfl rfl ?_
      refine EL.assign rfl rfl rfl ?_
      exact EL.endX () ⟨rfl, getA rfl (congrArg Value.bool (by rw [Bool.eq_iff_iff]; simp only [decide_eq_true_eq, true_iff, false_iff, Bool.false_eq_true]; omega)), trivial⟩ (.i (by repeat constructor))
    · refine EL.fieldAddr rfl rfl rfl rfl rfl rfl rfl rfl ?_
      (apply EL.loadB; exact rfl; exact rfl; exact rfl; exact rfl; exact rfl; (case hm => repeat constructor); exact rfl)
      refine EL.gtr rfl rfl rfl rfl ?_
      refine EL.pickF rfl rfl rfl rfl ?_
      refine EL.move rfl rfl rfl ?_
      first | refine EL.splitD (d := 15) rfl (fun hp15 => ?_) (fun hp15 => ?_) | refine EL.splitN (d := 15) rfl (fun hp15 => ?_) (fun hp15 => ?_) | refine EL.splitB (d := 15) rfl (fun hp15 => ?_) (fun hp15 => ?_)
      · refine EL.pass rfl rfl rfl ?_
        refine EL.pass rfl rfl rfl ?_
        refine EL.pass rfl rfl rfl ?_
        refine EL.pass rfl rfl rfl ?_
        refine EL.pass rfl rfl rfl ?_
        refine EL.pass rfl rfl rfl ?_
        refine EL.pass rfl rfl rfl ?_
        refine EL.pass rfl rfl rfl ?_
        refine EL.pickT rfl rfl rfl rfl ?_
        refine EL.assign rfl rfl rfl ?_
        exact EL.endX () ⟨rfl, getA rfl (congrArg Value.bool (by rw [Bool.eq_iff_iff]; simp only [decide_eq_true_eq, true_iff, false_iff, Bool.false_eq_true]; omega)), trivial⟩ (.i (by repeat constructor))
      · refine EL.fieldAddr rfl rfl rfl rfl rfl rfl rfl rfl ?_
        (apply EL.loadB; exact rfl; exact rfl; exact rfl; exact rfl; exact rfl; (case hm => repeat constructor); exact rfl)
        refine EL.eqlI rfl rfl rfl rfl ?_
        refine EL.move rfl rfl rfl ?_
        first | refine EL.splitD (d := 19) rfl (fun hp19 => ?_) (fun hp19 => ?_) | refine EL.splitN (d := 19) rfl (fun hp19 => ?_) (fun hp19 => ?_) | refine EL.splitB (d := 19) rfl (fun hp19 => ?_) (fun hp19 => ?_)
        · refine EL.fieldAddr rfl rfl rfl rfl rfl rfl rfl rfl ?_
          (apply EL.loadB; exact rfl; exact rfl; exact rfl; exact rfl; exact rfl; (case hm => repeat constructor); exact rfl)
          refine EL.lss rfl rfl rfl rfl ?_
          refine EL.pickT rfl rfl rfl rfl ?_
          refine EL.pickF rfl rfl rfl rfl ?_
          refine EL.assign rfl rfl rfl ?_
          exact EL.endX () ⟨rfl, getA rfl (congrArg Value.bool (by rw [Bool.eq_iff_iff]; simp only [decide_eq_true_eq, true_iff, false_iff, Bool.false_eq_true]; omega)), trivial⟩ (.i (by repeat constructor))
        · refine EL.pass rfl rfl rfl ?_
          refine EL.pass rfl rfl rfl ?_
          refine EL.pass rfl rfl rfl ?_
          refine EL.pickF rfl rfl rfl rfl ?_
          refine EL.pickF rfl rfl rfl rfl ?_
          refine EL.assign rfl rfl rfl ?_
          exact EL.endX () ⟨rfl, getA rfl (congrArg Value.bool (by rw [Bool.eq_iff_iff]; simp only [decide_eq_true_eq, true_iff, false_iff, Bool.false_eq_true]; omega)), trivial⟩ (.i (by repeat constructor))
  refine ES.condD rfl (fun hbad => ?_) (fun hbad => ?_)
  · rw [if_pos hbad] at hre
    have hn : ¬ hasM a := fun h => by obtain ⟨h1, _, _⟩ := h; omega
    refine .go ?_; repeat constructor
    refine EL.assign rfl rfl rfl ?_
    refine EL.assign rfl rfl rfl ?_
    refine .go ?_; repeat constructor
    exact PX.ret rfl Try.results49 (.cons (.tmp rfl) (.cons (.tmp rfl) .nil)) (fun w hs => ⟨⟨none, fun h => absurd h hn, fun _ => rfl⟩, by rw [hre]; rfl, hs.ent (.i (by repeat constructor))⟩)
  rw [if_neg hbad] at hre
  refine .go ?_; repeat constructor
  refine EL.cutX (X := Unit) (fun _ => [(1, Pv g1 0), (25, .bool (decide (a.kind ≠ 3 ∨ a.re = [])))]) (fun _ => HA.blk g1 (.cells (adC a).toArray 55) :: []) ?_ (fun _ => ?_)
  · refine .go ?_; repeat constructor
    refine EL.fieldAddr rfl rfl rfl rfl rfl rfl rfl rfl ?_
    (apply EL.loadB; exact rfl; exact rfl; exact rfl; exact rfl; exact rfl; (case hm => repeat constructor); exact rfl)
    refine EL.neqI rfl rfl rfl rfl ?_
    refine EL.move rfl rfl rfl ?_
    first | refine EL.splitD (d := 29) rfl (fun hp29 => ?_) (fun hp29 => ?_) | refine EL.splitN (d := 29) rfl (fun hp29 => ?_) (fun hp29 => ?_) | refine EL.splitB (d := 29) rfl (fun hp29 => ?_) (fun hp29 => ?_)
    · refine EL.pass rfl rfl rfl ?_
      refine EL.pass rfl rfl rfl ?_
      refine EL.pass rfl rfl rfl ?_
      refine EL.pickT rfl rfl rfl rfl ?_
      refine EL.assign rfl rfl rfl ?_
      exact EL.endX () ⟨rfl, getA rfl (congrArg Value.bool (by rw [Bool.eq_iff_iff]; simp_all)), trivial⟩ (.i (by repeat constructor))
    · refine EL.fieldAddr rfl rfl rfl rfl rfl rfl rfl rfl ?_
      (apply EL.loadB; exact rfl; exact rfl; exact rfl; exact rfl; exact rfl; (case hm => repeat constructor); exact rfl)
      refine EL.eqlS rfl rfl rfl rfl ?_
      refine EL.pickF rfl rfl rfl rfl ?_
      refine EL.assign rfl rfl rfl ?_
      exact EL.endX () ⟨rfl, getA rfl (congrArg Value.bool (by rw [Bool.eq_iff_iff]; simp_all)), trivial⟩ (.i (by repeat constructor))
  refine ES.condD rfl (fun hno => ?_) (fun hyes => ?_)
  · rw [if_pos hno] at hre
    have hn : ¬ hasM a := fun h => by
      obtain ⟨h1, h2, _⟩ := h
      rcases hno with h | h
      · exact h h1
      · exact h2 h
    refine .go ?_; repeat constructor
    refine EL.assign rfl rfl rfl ?_
    refine EL.assign rfl rfl rfl ?_
    refine .go ?_; repeat constructor
    exact PX.ret rfl Try.results49 (.cons (.tmp rfl) (.cons (.tmp rfl) .nil)) (fun w hs => ⟨⟨none, fun h => absurd h hn, fun _ => rfl⟩, by rw [hre]; rfl, hs.ent (.i (by repeat constructor))⟩)
  rw [if_neg hyes] at hre
  have hk : a.kind = 3 ∧ a.re ≠ [] := by
    constructor
    · exact Decidable.byContradiction fun h => hyes (.inl h)
    · exact fun h => hyes (.inr h)
  by_cases hp : (parseM a.re).e = 0
  · rw [hp] at hre
    refine .go ?_; repeat constructor
    refine EL.fieldAddr rfl rfl rfl rfl rfl rfl rfl rfl ?_
    (apply EL.loadB; exact rfl; exact rfl; exact rfl; exact rfl; exact rfl; (case hm => repeat constructor); exact rfl)
    (refine EL.callXw rfl rfl rfl ent36 rfl (fun w hs => newOk_c a.re hp ha w (GR.sat hG hs)) ?_; intro gm)
    refine EL.move rfl rfl rfl ?_
    refine EL.extract rfl rfl rfl rfl ?_
    refine EL.extract rfl rfl rfl rfl ?_
    (refine EL.alloc rfl rfl rfl ?_; intro g5)
    refine EL.assign rfl rfl rfl ?_
    (apply EL.storeAll; exact rfl; exact rfl; exact rfl; exact rfl; exact rfl; (case p => repeat constructor); exact rfl; (case h1 => exact (by first | rfl | exact all1 rfl | (intro u hu; simp only [List.mem_cons, List.not_mem_nil, or_false] at hu; rcases hu with rfl | rfl | rfl | rfl <;> rfl) | (intro u hu; simp at hu; rcases hu with rfl | rfl | rfl | rfl <;> rfl) | (intro u hu; simp at hu; rcases hu with rfl | rfl | rfl <;> rfl) | (intro u hu; simp at hu; rcases hu with rfl | rfl <;> rfl) | (intro u hu; simp at hu; obtain ⟨_, _, rfl⟩ := hu; rfl))))
    refine .go ?_; repeat constructor
    refine .g0 ?_; repeat constructor
    refine ES.draw (X := Unit) (fun _ => [(2, Pv gm 0), (3, Iv 0)]) (fun _ => MB gm a.re (meOf a.re) 0 :: []) (HA.blk g5 (.cells #[Iv 0, Iv 0] 67) :: []) mixed (.i (by repeat constructor)) ?_ (fun _ => ?_)
    · refine ED.take 0 rfl (by decide +kernel) CutX.no_panic (by decide +kernel) rfl rfl rfl (RV.move rfl) ?_
      refine ED.take 1 rfl (by decide +kernel) CutX.no_panic (by decide +kernel) rfl rfl rfl (RV.fieldAddr rfl rfl rfl rfl rfl rfl) ?_
      refine ED.take 2 rfl (by decide +kernel) CutX.no_panic (by decide +kernel) rfl rfl rfl (RV.loadB rfl rfl rfl (by repeat constructor) rfl) ?_
      refine ED.take 3 rfl (by decide +kernel) CutX.no_panic (by decide +kernel) rfl rfl rfl (RV.assign rfl) ?_
      refine ED.take 4 rfl (by decide +kernel) CutX.no_panic (by decide +kernel) rfl rfl rfl (RV.assign rfl) ?_
      refine ED.done (by decide +kernel) ?_
      exact PX.cutX () ⟨rfl, rfl, trivial⟩ (.i (by repeat constructor))
    refine .go ?_; repeat constructor
    exact PX.ret rfl Try.results49 (.cons (.tmp rfl) (.cons (.tmp rfl) .nil)) (fun w hs => ⟨⟨some (gm, a.re), fun _ => ⟨gm, rfl⟩, fun h => absurd ⟨hk.1, hk.2, hp⟩ h⟩, by rw [hre]; rfl, hs.ent (.i (by repeat constructor))⟩)
  · have hn : ¬ hasM a := fun h => hp h.2.2
    refine .go ?_; repeat constructor
    refine EL.fieldAddr rfl rfl rfl rfl rfl rfl rfl rfl ?_
    (apply EL.loadB; exact rfl; exact rfl; exact rfl; exact rfl; exact rfl; (case hm => repeat constructor); exact rfl)
    (refine EL.callPw rfl rfl rfl ent36 rfl (fun w hs => newBad_c a.re hp ha w (GR.sat hG hs)) ?_)
    refine EL.move rfl rfl rfl ?_
    refine EL.extract rfl rfl rfl rfl ?_
    refine EL.extract rfl rfl rfl rfl ?_
    (refine EL.alloc rfl rfl rfl ?_; intro g5)
    refine EL.assign rfl rfl rfl ?_
    (apply EL.storeAll; exact rfl; exact rfl; exact rfl; exact rfl; exact rfl; (case p => repeat constructor); exact rfl; (case h1 => exact (by first | rfl | exact all1 rfl | (intro u hu; simp only [List.mem_cons, List.not_mem_nil, or_false] at hu; rcases hu with rfl | rfl | rfl | rfl <;> rfl) | (intro u hu; simp at hu; rcases hu with rfl | rfl | rfl | rfl <;> rfl) | (intro u hu; simp at hu; rcases hu with rfl | rfl | rfl <;> rfl) | (intro u hu; simp at hu; rcases hu with rfl | rfl <;> rfl) | (intro u hu; simp at hu; obtain ⟨_, _, rfl⟩ := hu; rfl))))
    refine .go ?_; repeat constructor
    refine .g0 ?_; repeat constructor
    refine ES.draw (X := Unit) (fun _ => [(2, .pointer none), (3, Iv (parseM a.re).e)]) (fun _ => []) (HA.blk g5 (.cells #[Iv (parseM a.re).e, Iv ((parseM a.re).at_ : Nat)] 67) :: []) mixed (.i (by repeat constructor)) ?_ (fun _ => ?_)
    · refine ED.take 0 rfl (by decide +kernel) CutX.no_panic (by decide +kernel) rfl rfl rfl (RV.move rfl) ?_
      refine ED.take 1 rfl (by decide +kernel) CutX.no_panic (by decide +kernel) rfl rfl rfl (RV.fieldAddr rfl rfl rfl rfl rfl rfl) ?_
      refine ED.take 2 rfl (by decide +kernel) CutX.no_panic (by decide +kernel) rfl rfl rfl (RV.loadB rfl rfl rfl (by repeat constructor) rfl) ?_
      refine ED.take 3 rfl (by decide +kernel) CutX.no_panic (by decide +kernel) rfl rfl rfl (RV.assign rfl) ?_
      refine ED.take 4 rfl (by decide +kernel) CutX.no_panic (by decide +kernel) rfl rfl rfl (RV.assign rfl) ?_
      refine ED.done (by decide +kernel) ?_
      exact PX.cutX () ⟨rfl, rfl, trivial⟩ (.i (by repeat constructor))
    refine .go ?_; repeat constructor
    exact PX.ret rfl Try.results49 (.cons (.tmp rfl) (.cons (.tmp rfl) .nil)) (fun w hs => ⟨⟨none, fun h => absurd h hn, fun _ => rfl⟩, by rw [hre]; rfl, hs.ent (.i (by repeat constructor))⟩)
end Go.Proofs.Ytblpgpgbnlhjlaa
