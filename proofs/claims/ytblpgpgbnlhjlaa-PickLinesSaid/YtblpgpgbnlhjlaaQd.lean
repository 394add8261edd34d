/- Layer 22 (pick): Use, Last, meets, begins, within. Layer 22 (pick): within, Ask. -/
import Derived.Test.YtblpgpgbnlhjlaaQb
namespace Go.Proofs.Ytblpgpgbnlhjlaa
open Go Go.RowKit Sl
set_option maxRecDepth 100000
set_option maxHeartbeats 8000000
set_option linter.unusedVariables false
set_option linter.unusedSimpArgs false
attribute [local irreducible] ES EL PX wps

structure Line where
  line : Int
  last : Bool
  s : List UInt8
def lnC (l : Line) : List Value := [Iv l.line, .bool l.last, Sv l.s]
def orM (m last : Option Mt) : Option Mt := match m with
  | some q => some q
  | none => last
theorem pickUse_c (gp : Nat) (ad : Option Addr) (n cap : Nat) (last m : Option Mt) : Mut Try.prog 35 #[Pv gp 0, ptrV m] [PKB gp ad n cap last] (fun _ : Unit => .tuple #[]) (fun _ => [PKB gp ad n cap (orM m last)]) := by
  intro w0 B R w h
  replace h : Sat w0 B (PKB gp ad n cap last :: R) w := h
  cases m with
  | none =>
    refine calls_of_ES TB Try.func35 rfl _ Try.ntmps35 rfl h ?_
    refine .go ?_; repeat constructor
    refine EL.move rfl rfl rfl ?_
    refine EL.neqPn rfl rfl rfl rfl rfl rfl ?_
    refine EL.move rfl rfl rfl ?_
    refine EL.rew (d := 6) (v' := .bool true) rfl (by first | rfl | (decide) | (simp)) ?_
    refine EL.move rfl rfl rfl ?_
    refine EL.neqPn rfl rfl rfl rfl rfl rfl ?_
    refine EL.pickT rfl rfl rfl rfl ?_
    refine .go ?_; repeat constructor
    refine ES.condF rfl ?_
    refine .go ?_; repeat constructor
    exact PX.end rfl Try.results35 .nil (fun w hs => ⟨(), rfl, hs.ent (.i (by repeat constructor))⟩)
  | some q =>
    refine calls_of_ES TB Try.func35 rfl _ Try.ntmps35 rfl h ?_
    refine .go ?_; repeat constructor
    refine EL.move rfl rfl rfl ?_
    refine EL.neqPn rfl rfl rfl rfl rfl rfl ?_
    refine EL.move rfl rfl rfl ?_
    refine EL.rew (d := 6) (v' := .bool true) rfl (by first | rfl | (decide) | (simp)) ?_
    refine EL.move rfl rfl rfl ?_
    refine EL.neqPn rfl rfl rfl rfl rfl rfl ?_
    refine EL.pickT rfl rfl rfl rfl ?_
    refine .go ?_; repeat constructor
    refine ES.condT rfl ?_
    refine .go ?_; repeat constructor
    refine EL.move rfl rfl rfl ?_
    refine EL.move rfl rfl rfl ?_
    refine EL.nilCheck rfl rfl rfl ?_
    refine EL.fieldAddr rfl rfl rfl rfl rfl rfl rfl rfl ?_
    (apply EL.storeB; exact rfl; exact rfl; exact rfl; exact rfl; exact rfl; exact rfl; (case p => repeat constructor); exact (by first | decide | exact Nat.le_of_ble_eq_true rfl | simp))
    refine .go ?_; repeat constructor
    exact PX.end rfl Try.results35 .nil (fun w hs => ⟨(), rfl, hs.ent (.i (by repeat constructor))⟩)
theorem pickUseNil_c (m : Option Mt) (w : World) : Pure Try.prog 35 #[.pointer none, ptrV m] (fun _ : Unit => .tuple #[]) (fun _ => []) w := by
  refine calls_of_ES TB Try.func35 rfl _ Try.ntmps35 rfl (Sat.start w) ?_
  refine .go ?_; repeat constructor
  refine EL.move rfl rfl rfl ?_
  refine EL.neqPn rfl rfl rfl rfl rfl rfl ?_
  refine EL.move rfl rfl rfl ?_
  refine EL.rew (d := 6) (v' := .bool false) rfl (by first | rfl | (decide) | (simp)) ?_
  refine EL.pass rfl rfl rfl ?_
  refine EL.pass rfl rfl rfl ?_
  refine EL.pickF rfl rfl rfl rfl ?_
  refine .go ?_; repeat constructor
  refine ES.condF rfl ?_
  refine .go ?_; repeat constructor
  exact PX.end rfl Try.results35 .nil (fun w hs => ⟨(), rfl, hs.ent (.i (by repeat constructor))⟩)
theorem pickLast_c (gp : Nat) (ad : Option Addr) (n cap : Nat) (last : Option Mt) : Mut Try.prog 37 #[Pv gp 0] [PKB gp ad n cap last] (fun _ : Unit => ptrV last) (fun _ => [PKB gp ad n cap last]) := by
  intro w0 B R w h
  replace h : Sat w0 B (PKB gp ad n cap last :: R) w := h
  refine calls_of_ES TB Try.func37 rfl _ Try.ntmps37 rfl h ?_
  refine .go ?_; repeat constructor
  refine EL.assign rfl rfl rfl ?_
  refine .go ?_; repeat constructor
  refine EL.move rfl rfl rfl ?_
  refine EL.eqlPn rfl rfl rfl rfl rfl rfl ?_
  refine .go ?_; repeat constructor
  refine ES.condF rfl ?_
  refine .go ?_; repeat constructor
  refine EL.move rfl rfl rfl ?_
  refine EL.nilCheck rfl rfl rfl ?_
  refine EL.fieldAddr rfl rfl rfl rfl rfl rfl rfl rfl ?_
  (apply EL.loadB; exact rfl; exact rfl; exact rfl; exact rfl; exact rfl; (case hm => repeat constructor); exact rfl)
  refine EL.assign rfl rfl rfl ?_
  refine .go ?_; repeat constructor
  exact PX.ret rfl Try.results37 (.cons (.tmp rfl) .nil) (fun w hs => ⟨(), rfl, hs.ent (.i (by repeat constructor))⟩)
theorem pickLastNil_c (w : World) : Pure Try.prog 37 #[.pointer none] (fun _ : Unit => .pointer none) (fun _ => []) w := by
  refine calls_of_ES TB Try.func37 rfl _ Try.ntmps37 rfl (Sat.start w) ?_
  refine .go ?_; repeat constructor
  refine EL.assign rfl rfl rfl ?_
  refine .go ?_; repeat constructor
  refine EL.move rfl rfl rfl ?_
  refine EL.eqlPn rfl rfl rfl rfl rfl rfl ?_
  refine .go ?_; repeat constructor
  refine ES.condT rfl ?_
  refine .go ?_; repeat constructor
  refine EL.assign rfl rfl rfl ?_
  refine .go ?_; repeat constructor
  exact PX.ret rfl Try.results37 (.cons (.tmp rfl) .nil) (fun w hs => ⟨(), rfl, hs.ent (.i (by repeat constructor))⟩)
/-- Does it begin? -/
def beginsM (b : Ad) (l : Line) : Bool := if b.kind = 1 then decide (l.line < b.line) else if b.kind = 2 then !l.last else true
theorem begins_c (b : Ad) (l : Line) (w : World) : Pure Try.prog 52 #[.agg (adC b).toArray, .agg (lnC l).toArray] (fun _ : Unit => .bool (beginsM b l)) (fun _ => []) w := by
  refine calls_of_ES TB Try.func52 rfl _ Try.ntmps52 rfl (Sat.start w) ?_
  refine .go ?_; repeat constructor
  (refine EL.box rfl rfl rfl ?_; intro g2)
  (refine EL.box rfl rfl rfl ?_; intro g3)
  refine EL.assign rfl rfl rfl ?_
  refine .go ?_; repeat constructor
  refine EL.fieldAddr rfl rfl rfl rfl rfl rfl rfl rfl ?_
  (apply EL.loadB; exact rfl; exact rfl; exact rfl; exact rfl; exact rfl; (case hm => repeat constructor); exact rfl)
  refine .go ?_; repeat constructor
  refine .go ?_; repeat constructor
  refine EL.eqlI rfl rfl rfl rfl ?_
  refine EL.assign rfl rfl rfl ?_
  refine .go ?_; repeat constructor
  refine ES.condD rfl (fun h1 => ?_) (fun h1 => ?_)
  · have e : beginsM b l = decide (l.line < b.line) := if_pos h1
    rw [e]
    refine .go ?_; repeat constructor
    refine EL.fieldAddr rfl rfl rfl rfl rfl rfl rfl rfl ?_
    (apply EL.loadB; exact rfl; exact rfl; exact rfl; exact rfl; exact rfl; (case hm => repeat constructor); exact rfl)
    refine EL.fieldAddr rfl rfl rfl rfl rfl rfl rfl rfl ?_
    (apply EL.loadB; exact rfl; exact rfl; exact rfl; exact rfl; exact rfl; (case hm => repeat constructor); exact rfl)
    refine EL.lss rfl rfl rfl rfl ?_
    refine EL.assign rfl rfl rfl ?_
    refine .go ?_; repeat constructor
    exact PX.ret rfl Try.results52 (.cons (.tmp rfl) .nil) (fun w hs => ⟨(), rfl, hs.ent (.i (by repeat constructor))⟩)
  refine .go ?_; repeat constructor
  refine EL.eqlI rfl rfl rfl rfl ?_
  refine EL.assign rfl rfl rfl ?_
  refine .go ?_; repeat constructor
  refine ES.condD rfl (fun h2 => ?_) (fun h2 => ?_)
  · have e : beginsM b l = !l.last := (if_neg h1).trans (if_pos h2)
    rw [e]
    refine .go ?_; repeat constructor
    refine EL.fieldAddr rfl rfl rfl rfl rfl rfl rfl rfl ?_
    (apply EL.loadB; exact rfl; exact rfl; exact rfl; exact rfl; exact rfl; (case hm => repeat constructor); exact rfl)
    refine EL.not rfl rfl rfl ?_
    refine EL.assign rfl rfl rfl ?_
    refine .go ?_; repeat constructor
    exact PX.ret rfl Try.results52 (.cons (.tmp rfl) .nil) (fun w hs => ⟨(), rfl, hs.ent (.i (by repeat constructor))⟩)
  have e : beginsM b l = true := (if_neg h1).trans (if_neg h2)
  rw [e]
  refine .go ?_; repeat constructor
  refine EL.assign rfl rfl rfl ?_
  refine .go ?_; repeat constructor
  exact PX.ret rfl Try.results52 (.cons (.tmp rfl) .nil) (fun w hs => ⟨(), rfl, hs.ent (.i (by repeat constructor))⟩)
/-- What a BRE answers of a line, and that it does. -/
structure Ans (t : List UInt8) (s : List UInt8) (ok : Bool) (e : Int) : Prop where
  len : t.length ≤ 4611686018427387904
  back : (meOf t).back = false
  is : ∃ F m, setM F t s 0 = some m ∧ m.ok = ok ∧ m.e = e
structure MtR where
  last : Option Mt
  ok : Bool
  e : Int
def meetsM (ans : List UInt8 → Bool × Int) (last : Option Mt) (a : Ad) (m : Option Mt) (l : Line) : MtR :=
  if a.kind = 0 then ⟨last, true, 0⟩
  else if a.kind = 1 then ⟨last, decide (l.line = a.line), 0⟩
  else if a.kind = 2 then ⟨last, l.last, 0⟩
  else match orM m last with
    | none => ⟨none, false, 24⟩
    | some q => ⟨some q, (ans q.2).1, (ans q.2).2⟩
/-- All matchers answer. -/
abbrev AnsAll (ms : List Mt) (s : List UInt8) (ans : List UInt8 → Bool × Int) : Prop := ∀ q ∈ ms, Ans q.2 s (ans q.2).1 (ans q.2).2
theorem meets_c (gp : Nat) (ad : Option Addr) (n cap : Nat) (last m : Option Mt) (ms : List Mt) (a : Ad) (l : Line) (ans : List UInt8 → Bool × Int) (hans : AnsAll ms l.s ans) (hl : ∀ q, last = some q → q ∈ ms) (hm : ∀ q, m = some q → q ∈ ms) (w0 : World) (B : Nat) (hG : GR w0 B) :
    MutAt Try.prog 51 #[Pv gp 0, .agg (adC a).toArray, ptrV m, .agg (lnC l).toArray] [PKB gp ad n cap last, HA.mats ms] (fun _ : Unit => .tuple #[.bool (meetsM ans last a m l).ok, Iv (meetsM ans last a m l).e]) (fun _ => [PKB gp ad n cap (meetsM ans last a m l).last, HA.mats ms]) w0 B := by
  intro R w h
  replace h : Sat w0 B (PKB gp ad n cap last :: HA.mats ms :: R) w := h
  refine calls_of_ES TB Try.func51 rfl _ Try.ntmps51 rfl h ?_
  refine .go ?_; repeat constructor
  (refine EL.box rfl rfl rfl ?_; intro g5)
  (refine EL.box rfl rfl rfl ?_; intro g7)
  refine EL.assign rfl rfl rfl ?_
  refine EL.assign rfl rfl rfl ?_
  refine .go ?_; repeat constructor
  refine EL.fieldAddr rfl rfl rfl rfl rfl rfl rfl rfl ?_
  (apply EL.loadB; exact rfl; exact rfl; exact rfl; exact rfl; exact rfl; (case hm => repeat constructor); exact rfl)
  refine .go ?_; repeat constructor
  refine .go ?_; repeat constructor
  refine EL.eqlI rfl rfl rfl rfl ?_
  refine EL.assign rfl rfl rfl ?_
  refine .go ?_; repeat constructor
  refine ES.condD rfl (fun h0 => ?_) (fun h0 => ?_)
  · have e : meetsM ans last a m l = ⟨last, true, 0⟩ := if_pos h0
    rw [e]
    refine .go ?_; repeat constructor
    refine EL.assign rfl rfl rfl ?_
    refine EL.assign rfl rfl rfl ?_
    refine .go ?_; repeat constructor
    exact PX.ret rfl Try.results51 (.cons (.tmp rfl) (.cons (.tmp rfl) .nil)) (fun w hs => ⟨(), rfl, hs.ent (.i (by repeat constructor))⟩)
  refine .go ?_; repeat constructor
  refine EL.eqlI rfl rfl rfl rfl ?_
  refine EL.assign rfl rfl rfl ?_
  refine .go ?_; repeat constructor
  refine ES.condD rfl (fun h1 => ?_) (fun h1 => ?_)
  · have e : meetsM ans last a m l = ⟨last, decide (l.line = a.line), 0⟩ := (if_neg h0).trans (if_pos h1)
    rw [e]
    refine .go ?_; repeat constructor
    refine EL.fieldAddr rfl rfl rfl rfl rfl rfl rfl rfl ?_
    (apply EL.loadB; exact rfl; exact rfl; exact rfl; exact rfl; exact rfl; (case hm => repeat constructor); exact rfl)
    refine EL.fieldAddr rfl rfl rfl rfl rfl rfl rfl rfl ?_
    (apply EL.loadB; exact rfl; exact rfl; exact rfl; exact rfl; exact rfl; (case hm => repeat constructor); exact rfl)
    refine EL.eqlI rfl rfl rfl rfl ?_
    refine EL.assign rfl rfl rfl ?_
    refine EL.assign rfl rfl rfl ?_
    refine .go ?_; repeat constructor
    exact PX.ret rfl Try.results51 (.cons (.tmp rfl) (.cons (.tmp rfl) .nil)) (fun w hs => ⟨(), rfl, hs.ent (.i (by repeat constructor))⟩)
  refine .go ?_; repeat constructor
  refine EL.eqlI rfl rfl rfl rfl ?_
  refine EL.assign rfl rfl rfl ?_
  refine .go ?_; repeat constructor
  refine ES.condD rfl (fun h2 => ?_) (fun h2 => ?_)
  · have e : meetsM ans last a m l = ⟨last, l.last, 0⟩ := (if_neg h0).trans ((if_neg h1).trans (if_pos h2))
    rw [e]
    refine .go ?_; repeat constructor
    refine EL.fieldAddr rfl rfl rfl rfl rfl rfl rfl rfl ?_
    (apply EL.loadB; exact rfl; exact rfl; exact rfl; exact rfl; exact rfl; (case hm => repeat constructor); exact rfl)
    refine EL.assign rfl rfl rfl ?_
    refine EL.assign rfl rfl rfl ?_
    refine .go ?_; repeat constructor
    exact PX.ret rfl Try.results51 (.cons (.tmp rfl) (.cons (.tmp rfl) .nil)) (fun w hs => ⟨(), rfl, hs.ent (.i (by repeat constructor))⟩)
  have e : meetsM ans last a m l = match orM m last with
    | none => ⟨none, false, 24⟩
    | some q => ⟨some q, (ans q.2).1, (ans q.2).2⟩ := (if_neg h0).trans ((if_neg h1).trans (if_neg h2))
  have hin : ∀ q, orM m last = some q → q ∈ ms := fun q hq => by
    cases m with
    | none => exact hl q hq
    | some q' => exact hm q hq
  refine .go ?_; repeat constructor
  refine EL.move rfl rfl rfl ?_
  refine EL.move rfl rfl rfl ?_
  (refine EL.callM rfl rfl rfl ent35 rfl (pickUse_c gp ad n cap last m) (by repeat constructor) ?_; intro u)
  refine .go ?_; repeat constructor
  generalize orM m last = o at e hin
  cases o with
  | none =>
    rw [e]
    refine .go ?_; repeat constructor
    refine EL.move rfl rfl rfl ?_
    refine EL.nilCheck rfl rfl rfl ?_
    refine EL.fieldAddr rfl rfl rfl rfl rfl rfl rfl rfl ?_
    (apply EL.loadB; exact rfl; exact rfl; exact rfl; exact rfl; exact rfl; (case hm => repeat constructor); exact rfl)
    refine EL.eqlPn rfl rfl rfl rfl rfl rfl ?_
    refine .go ?_; repeat constructor
    refine ES.condT rfl ?_
    refine .go ?_; repeat constructor
    refine EL.assign rfl rfl rfl ?_
    refine EL.assign rfl rfl rfl ?_
    refine .go ?_; repeat constructor
    exact PX.ret rfl Try.results51 (.cons (.tmp rfl) (.cons (.tmp rfl) .nil)) (fun w hs => ⟨(), rfl, hs.ent (.i (by repeat constructor))⟩)
  | some q =>
    have hq := hin q rfl
    obtain ⟨hlen, hb, F, mr, hmr, hok, hme⟩ := hans q hq
    rw [e]
    have hmc := matchMats_c F ms q hq hlen hb l.s 0 mr hmr w0 B hG
    refine .go ?_; repeat constructor
    refine EL.move rfl rfl rfl ?_
    refine EL.nilCheck rfl rfl rfl ?_
    refine EL.fieldAddr rfl rfl rfl rfl rfl rfl rfl rfl ?_
    (apply EL.loadB; exact rfl; exact rfl; exact rfl; exact rfl; exact rfl; (case hm => repeat constructor); exact rfl)
    refine EL.eqlPn rfl rfl rfl rfl rfl rfl ?_
    refine .go ?_; repeat constructor
    refine ES.condF rfl ?_
    refine .g0 ?_; repeat constructor
    refine ES.draw (X := Unit) (fun _ => [(11, .bool mr.ok), (12, Iv mr.e)]) (fun _ => PKB gp ad n cap (some q) :: HA.mats ms :: R) (PKB gp ad n cap (some q) :: HA.blk g7 (.cells (lnC l).toArray 126) :: []) mixed (.i (by repeat constructor)) ?_ (fun _ => ?_)
    · refine ED.take 0 rfl (by decide +kernel) CutX.no_panic (by decide +kernel) rfl rfl rfl (RV.move rfl) ?_
      refine ED.take 1 rfl (by decide +kernel) CutX.no_panic (by decide +kernel) rfl rfl rfl (RV.nilCheck rfl) ?_
      refine ED.take 2 rfl (by decide +kernel) CutX.no_panic (by decide +kernel) rfl rfl rfl (RV.fieldAddr rfl rfl rfl rfl rfl rfl) ?_
      refine ED.take 3 rfl (by decide +kernel) CutX.no_panic (by decide +kernel) rfl rfl rfl (RV.loadB rfl rfl rfl (by repeat constructor) rfl) ?_
      refine ED.take 4 rfl (by decide +kernel) CutX.no_panic (by decide +kernel) rfl rfl rfl (RV.fieldAddr rfl rfl rfl rfl rfl rfl) ?_
      refine ED.take 5 rfl (by decide +kernel) CutX.no_panic (by decide +kernel) rfl rfl rfl (RV.loadB rfl rfl rfl (by repeat constructor) rfl) ?_
      refine ED.loud 6 rfl (by decide +kernel) ?_
      (refine EL.callMw rfl rfl rfl ent22 rfl hmc (by repeat constructor) ?_; intro x)
      refine ED.next (.i (by repeat constructor)) ?_
      refine ED.take 7 rfl (by decide +kernel) CutX.no_panic (by decide +kernel) rfl rfl rfl (RV.move rfl) ?_
      refine ED.take 8 rfl (by decide +kernel) CutX.no_panic (by decide +kernel) rfl rfl rfl (RV.extract rfl rfl) ?_
      refine ED.take 9 rfl (by decide +kernel) CutX.no_panic (by decide +kernel) rfl rfl rfl (RV.extract rfl rfl) ?_
      refine ED.take 10 rfl (by decide +kernel) CutX.no_panic (by decide +kernel) rfl rfl rfl (RV.extract rfl rfl) ?_
      refine ED.take 11 rfl (by decide +kernel) CutX.no_panic (by decide +kernel) rfl rfl rfl (RV.assign rfl) ?_
      refine ED.take 12 rfl (by decide +kernel) CutX.no_panic (by decide +kernel) rfl rfl rfl (RV.assign rfl) ?_
      refine ED.take 13 rfl (by decide +kernel) CutX.no_panic (by decide +kernel) rfl rfl rfl (RV.assign rfl) ?_
      refine ED.done (by decide +kernel) ?_
      exact PX.cutX () ⟨rfl, rfl, trivial⟩ (.i (by repeat constructor))
    refine .go ?_; repeat constructor
    refine EL.move rfl rfl rfl ?_
    refine EL.move rfl rfl rfl ?_
    refine EL.assign rfl rfl rfl ?_
    refine EL.assign rfl rfl rfl ?_
    refine .go ?_; repeat constructor
    refine PX.ret rfl Try.results51 (.cons (.tmp rfl) (.cons (.tmp rfl) .nil)) (fun w hs => ⟨(), ?_, hs.ent (.i (by repeat constructor))⟩)
    dsimp only
    rw [hok, hme]
    rfl
end Go.Proofs.Ytblpgpgbnlhjlaa
namespace Go.Proofs.Ytblpgpgbnlhjlaa
open Go Go.RowKit Sl
set_option maxRecDepth 100000
set_option maxHeartbeats 8000000
set_option linter.unusedVariables false
set_option linter.unusedSimpArgs false
attribute [local irreducible] ES EL PX wps

theorem chC_len (c : Chc) : (chC c).length = 10 := rfl
theorem chsC_split (l r : List Chc) (c : Chc) : chsC (l ++ c :: r) = chsC l ++ (chC c ++ chsC r) := by simp [chsC]
theorem chsC_len : ∀ l : List Chc, (chsC l).length = l.length * 10
  | [] => rfl
  | r :: l => by
    have := chsC_len l
    simp only [chsC, List.flatMap_cons, List.length_append, List.length_cons] at this ⊢
    rw [this, chC_len]; omega
theorem chs_at {cs : List Chc} {i : Nat} {c : Chc} (h : cs[i]? = some c) : ∃ l r, cs = l ++ c :: r ∧ l.length = i := by
  have hlt := (List.getElem?_eq_some_iff.1 h).1
  refine ⟨cs.take i, cs.drop (i + 1), ?_, by rw [List.length_take]; omega⟩
  conv => lhs; rw [← List.take_append_drop i cs, List.drop_eq_getElem_cons hlt, (List.getElem?_eq_some_iff.1 h).2]
theorem chs_get {cs : List Chc} {i : Nat} {c : Chc} (h : cs[i]? = some c) (j : Nat) (u : Value) (hj : (chC c)[j]? = some u) : (chsC cs)[0 + i * 10 + j]? = some u := by
  obtain ⟨l, r, rfl, rfl⟩ := chs_at h
  have hlt := (List.getElem?_eq_some_iff.1 hj).1
  rw [chsC_split, Nat.zero_add, ← chsC_len, List.getElem?_append_right (by omega), Nat.add_sub_cancel_left, List.getElem?_append_left hlt]
  exact hj
theorem chs_sub {cs : List Chc} {i : Nat} {c : Chc} (h : cs[i]? = some c) (j n : Nat) (vs : List Value) (hn : j + n ≤ 10) (hv : ((chC c).drop j).take n = vs) : ((chsC cs).drop (0 + i * 10 + j)).take n = vs := by
  obtain ⟨l, r, rfl, rfl⟩ := chs_at h
  have hc := chC_len c
  rw [chsC_split, Nat.zero_add, ← chsC_len, List.drop_append, List.drop_of_length_le (by omega), List.nil_append, Nat.add_sub_cancel_left, List.drop_append, Nat.sub_eq_zero_of_le (by omega), List.drop_zero, List.take_append, List.length_drop, Nat.sub_eq_zero_of_le (by omega), List.take_zero, List.append_nil]
  exact hv
theorem chs_set {cs : List Chc} {i : Nat} {c : Chc} (h : cs[i]? = some c) (b : Bool) : (chsC cs).set (0 + i * 10 + 9) (.bool b) = chsC (cs.set i { c with on := b }) := by
  obtain ⟨l, r, rfl, rfl⟩ := chs_at h
  have e : (l ++ c :: r).set l.length { c with on := b } = l ++ { c with on := b } :: r := by simp
  rw [e, chsC_split, chsC_split, Nat.zero_add, ← chsC_len, List.set_append_right _ _ (by omega), Nat.add_sub_cancel_left, List.set_append_left _ _ (by rw [chC_len]; omega)]
  rfl
structure WiR where
  last : Option Mt
  in_ : Bool
  on : Bool
  e : Int
def withinM (ans : List UInt8 → Bool × Int) (last : Option Mt) (c : Chc) (l : Line) : WiR :=
  if c.row.B.kind = 1 then ⟨last, decide (l.line ≤ c.row.B.line), decide (l.line < c.row.B.line), 0⟩
  else ⟨(meetsM ans last c.row.B c.b l).last, true, !(meetsM ans last c.row.B c.b l).ok, (meetsM ans last c.row.B c.b l).e⟩
theorem within_c (gp rg : Nat) (cap : Nat) (cs : List Chc) (i : Nat) (c : Chc) (hi : cs[i]? = some c) (last : Option Mt) (ms : List Mt) (l : Line) (ans : List UInt8 → Bool × Int) (hans : AnsAll ms l.s ans) (hl : ∀ q, last = some q → q ∈ ms) (hb : ∀ q, c.b = some q → q ∈ ms) (w0 : World) (B : Nat) (hG : GR w0 B) :
    MutAt Try.prog 50 #[Pv gp 0, Pv rg (0 + i * 10), .agg (lnC l).toArray] [PKB gp (some ⟨rg, 0, none⟩) cs.length cap last, CRow (some ⟨rg, 0, none⟩) cap cs, HA.mats ms] (fun _ : Unit => .tuple #[.bool (withinM ans last c l).in_, .bool (withinM ans last c l).on, Iv (withinM ans last c l).e])
      (fun _ => [PKB gp (some ⟨rg, 0, none⟩) cs.length cap (withinM ans last c l).last, CRow (some ⟨rg, 0, none⟩) cap cs, HA.mats ms]) w0 B := by
  intro R w h
  replace h : Sat w0 B (PKB gp (some ⟨rg, 0, none⟩) cs.length cap last :: CRow (some ⟨rg, 0, none⟩) cap cs :: HA.mats ms :: R) w := h
  have hc := fun j u hj => chs_get hi j u hj
  refine calls_of_ES TB Try.func50 rfl _ Try.ntmps50 rfl h ?_
  refine .go ?_; repeat constructor
  (refine EL.box rfl rfl rfl ?_; intro g5)
  refine EL.assign rfl rfl rfl ?_
  refine EL.assign rfl rfl rfl ?_
  refine EL.assign rfl rfl rfl ?_
  refine .go ?_; repeat constructor
  refine EL.move rfl rfl rfl ?_
  refine EL.nilCheck rfl rfl rfl ?_
  refine EL.fieldAddr rfl rfl rfl rfl rfl rfl rfl rfl ?_
  refine EL.fieldAddr rfl rfl rfl rfl rfl rfl rfl rfl ?_
  refine EL.fieldAddr rfl rfl rfl rfl rfl rfl rfl rfl ?_
  refine EL.loadR rfl rfl rfl rfl rfl (by repeat constructor) (hc 3 _ rfl) ?_
  refine EL.eqlI rfl rfl rfl rfl ?_
  refine .go ?_; repeat constructor
  refine ES.condD rfl (fun h1 => ?_) (fun h1 => ?_)
  · have e : withinM ans last c l = ⟨last, decide (l.line ≤ c.row.B.line), decide (l.line < c.row.B.line), 0⟩ := if_pos h1
    rw [e]
    refine .g0 ?_; repeat constructor
    refine ES.draw (X := Unit) (fun _ => [(6, .bool (decide (l.line ≤ c.row.B.line))), (7, .bool (decide (l.line < c.row.B.line))), (8, Iv 0)]) (fun _ => PKB gp (some ⟨rg, 0, none⟩) cs.length cap last :: CRow (some ⟨rg, 0, none⟩) cap cs :: HA.mats ms :: R) (CRow (some ⟨rg, 0, none⟩) cap cs :: HA.blk g5 (.cells (lnC l).toArray 126) :: []) mixed (.i (by repeat constructor)) ?_ (fun _ => ?_)
    · refine ED.take 0 rfl (by decide +kernel) CutX.no_panic (by decide +kernel) rfl rfl rfl (RV.fieldAddr rfl rfl rfl rfl rfl rfl) ?_
      refine ED.take 1 rfl (by decide +kernel) CutX.no_panic (by decide +kernel) rfl rfl rfl (RV.loadB rfl rfl rfl (by repeat constructor) rfl) ?_
      refine ED.take 2 rfl (by decide +kernel) CutX.no_panic (by decide +kernel) rfl rfl rfl (RV.move rfl) ?_
      refine ED.take 3 rfl (by decide +kernel) CutX.no_panic (by decide +kernel) rfl rfl rfl (RV.nilCheck rfl) ?_
      refine ED.take 4 rfl (by decide +kernel) CutX.no_panic (by decide +kernel) rfl rfl rfl (RV.fieldAddr rfl rfl rfl rfl rfl rfl) ?_
      refine ED.take 5 rfl (by decide +kernel) CutX.no_panic (by decide +kernel) rfl rfl rfl (RV.fieldAddr rfl rfl rfl rfl rfl rfl) ?_
      refine ED.take 6 rfl (by decide +kernel) CutX.no_panic (by decide +kernel) rfl rfl rfl (RV.fieldAddr rfl rfl rfl rfl rfl rfl) ?_
      refine ED.take 7 rfl (by decide +kernel) CutX.no_panic (by decide +kernel) rfl rfl rfl (RV.loadR rfl rfl rfl (by repeat constructor) (hc 4 _ rfl)) ?_
      refine ED.take 8 rfl (by decide +kernel) CutX.no_panic (by decide +kernel) rfl rfl rfl (RV.leq rfl rfl) ?_
      refine ED.take 9 rfl (by decide +kernel) CutX.no_panic (by decide +kernel) rfl rfl rfl (RV.fieldAddr rfl rfl rfl rfl rfl rfl) ?_
      refine ED.take 10 rfl (by decide +kernel) CutX.no_panic (by decide +kernel) rfl rfl rfl (RV.loadB rfl rfl rfl (by repeat constructor) rfl) ?_
      refine ED.take 11 rfl (by decide +kernel) CutX.no_panic (by decide +kernel) rfl rfl rfl (RV.move rfl) ?_
      refine ED.take 12 rfl (by decide +kernel) CutX.no_panic (by decide +kernel) rfl rfl rfl (RV.nilCheck rfl) ?_
      refine ED.take 13 rfl (by decide +kernel) CutX.no_panic (by decide +kernel) rfl rfl rfl (RV.fieldAddr rfl rfl rfl rfl rfl rfl) ?_
      refine ED.take 14 rfl (by decide +kernel) CutX.no_panic (by decide +kernel) rfl rfl rfl (RV.fieldAddr rfl rfl rfl rfl rfl rfl) ?_
      refine ED.take 15 rfl (by decide +kernel) CutX.no_panic (by decide +kernel) rfl rfl rfl (RV.fieldAddr rfl rfl rfl rfl rfl rfl) ?_
      refine ED.take 16 rfl (by decide +kernel) CutX.no_panic (by decide +kernel) rfl rfl rfl (RV.loadR rfl rfl rfl (by repeat constructor) (hc 4 _ rfl)) ?_
      refine ED.take 17 rfl (by decide +kernel) CutX.no_panic (by decide +kernel) rfl rfl rfl (RV.lss rfl rfl) ?_
      refine ED.take 18 rfl (by decide +kernel) CutX.no_panic (by decide +kernel) rfl rfl rfl (RV.assign rfl) ?_
      refine ED.take 19 rfl (by decide +kernel) CutX.no_panic (by decide +kernel) rfl rfl rfl (RV.assign rfl) ?_
      refine ED.take 20 rfl (by decide +kernel) CutX.no_panic (by decide +kernel) rfl rfl rfl (RV.assign rfl) ?_
      refine ED.done (by decide +kernel) ?_
      exact PX.cutX () ⟨rfl, rfl, rfl, trivial⟩ (.i (by repeat constructor))
    refine .go ?_; repeat constructor
    exact PX.ret rfl Try.results50 (.cons (.tmp rfl) (.cons (.tmp rfl) (.cons (.tmp rfl) .nil))) (fun w hs => ⟨(), rfl, hs.ent (.i (by repeat constructor))⟩)
  have e : withinM ans last c l = ⟨(meetsM ans last c.row.B c.b l).last, true, !(meetsM ans last c.row.B c.b l).ok, (meetsM ans last c.row.B c.b l).e⟩ := if_neg h1
  rw [e]
  have hmc := meets_c gp (some ⟨rg, 0, none⟩) cs.length cap last c.b ms c.row.B l ans hans hl hb w0 B hG
  generalize meetsM ans last c.row.B c.b l = r at hmc
  refine .g0 ?_; repeat constructor
  refine ES.draw (X := Unit) (fun _ => [(8, Iv r.e), (9, .bool r.ok)]) (fun _ => PKB gp (some ⟨rg, 0, none⟩) cs.length cap r.last :: CRow (some ⟨rg, 0, none⟩) cap cs :: HA.mats ms :: R) (CRow (some ⟨rg, 0, none⟩) cap cs :: HA.blk g5 (.cells (lnC l).toArray 126) :: []) mixed (.i (by repeat constructor)) ?_ (fun _ => ?_)
  · refine ED.take 0 rfl (by decide +kernel) CutX.no_panic (by decide +kernel) rfl rfl rfl (RV.move rfl) ?_
    refine ED.take 1 rfl (by decide +kernel) CutX.no_panic (by decide +kernel) rfl rfl rfl (RV.move rfl) ?_
    refine ED.take 2 rfl (by decide +kernel) CutX.no_panic (by decide +kernel) rfl rfl rfl (RV.nilCheck rfl) ?_
    refine ED.take 3 rfl (by decide +kernel) CutX.no_panic (by decide +kernel) rfl rfl rfl (RV.fieldAddr rfl rfl rfl rfl rfl rfl) ?_
    refine ED.take 4 rfl (by decide +kernel) CutX.no_panic (by decide +kernel) rfl rfl rfl (RV.fieldAddr rfl rfl rfl rfl rfl rfl) ?_
    refine ED.take 5 rfl (by decide +kernel) CutX.no_panic (by decide +kernel) rfl rfl rfl (RV.loadRA (adC c.row.B) rfl rfl rfl rfl (by repeat constructor) (chs_sub hi 3 3 _ (by omega) rfl)) ?_
    refine ED.take 6 rfl (by decide +kernel) CutX.no_panic (by decide +kernel) rfl rfl rfl (RV.move rfl) ?_
    refine ED.take 7 rfl (by decide +kernel) CutX.no_panic (by decide +kernel) rfl rfl rfl (RV.nilCheck rfl) ?_
    refine ED.take 8 rfl (by decide +kernel) CutX.no_panic (by decide +kernel) rfl rfl rfl (RV.fieldAddr rfl rfl rfl rfl rfl rfl) ?_
    refine ED.take 9 rfl (by decide +kernel) CutX.no_panic (by decide +kernel) rfl rfl rfl (RV.loadR rfl rfl rfl (by repeat constructor) (hc 8 _ rfl)) ?_
    refine ED.take 10 rfl (by decide +kernel) CutX.no_panic (by decide +kernel) rfl rfl rfl (RV.loadAggB rfl rfl rfl (by repeat constructor) rfl) ?_
    refine ED.loud 11 rfl (by decide +kernel) ?_
    (refine EL.callMw rfl rfl rfl ent51 rfl hmc (by repeat constructor) ?_; intro x)
    refine ED.next (.i (by repeat constructor)) ?_
    refine ED.take 12 rfl (by decide +kernel) CutX.no_panic (by decide +kernel) rfl rfl rfl (RV.move rfl) ?_
    refine ED.take 13 rfl (by decide +kernel) CutX.no_panic (by decide +kernel) rfl rfl rfl (RV.extract rfl rfl) ?_
    refine ED.take 14 rfl (by decide +kernel) CutX.no_panic (by decide +kernel) rfl rfl rfl (RV.extract rfl rfl) ?_
    refine ED.take 15 rfl (by decide +kernel) CutX.no_panic (by decide +kernel) rfl rfl rfl (RV.assign rfl) ?_
    refine ED.take 16 rfl (by decide +kernel) CutX.no_panic (by decide +kernel) rfl rfl rfl (RV.assign rfl) ?_
    refine ED.done (by decide +kernel) ?_
    exact PX.cutX () ⟨rfl, rfl, trivial⟩ (.i (by repeat constructor))
  refine .go ?_; repeat constructor
  refine EL.move rfl rfl rfl ?_
  refine EL.not rfl rfl rfl ?_
  refine EL.move rfl rfl rfl ?_
  refine EL.assign rfl rfl rfl ?_
  refine EL.assign rfl rfl rfl ?_
  refine EL.assign rfl rfl rfl ?_
  refine .go ?_; repeat constructor
  exact PX.ret rfl Try.results50 (.cons (.tmp rfl) (.cons (.tmp rfl) (.cons (.tmp rfl) .nil))) (fun w hs => ⟨(), rfl, hs.ent (.i (by repeat constructor))⟩)
structure AskR where
  last : Option Mt
  on : Bool
  yes : Bool
  off : Bool
  e : Int
/-- The first address is asked. -/
def askA (ans : List UInt8 → Bool × Int) (last : Option Mt) (c : Chc) (l : Line) : AskR :=
  if (meetsM ans last c.row.A c.a l).e ≠ 0 then ⟨(meetsM ans last c.row.A c.a l).last, c.on, false, false, (meetsM ans last c.row.A c.a l).e⟩
  else
    let on := ((meetsM ans last c.row.A c.a l).ok && !decide (c.row.B.kind = 0)) && beginsM c.row.B l
    ⟨(meetsM ans last c.row.A c.a l).last, on, !((meetsM ans last c.row.A c.a l).ok == c.row.not), !on, 0⟩
def askM (ans : List UInt8 → Bool × Int) (last : Option Mt) (c : Chc) (l : Line) : AskR :=
  if c.on = true then
    if (withinM ans last c l).e ≠ 0 then ⟨(withinM ans last c l).last, c.on, false, false, (withinM ans last c l).e⟩
    else if (withinM ans last c l).in_ = true then ⟨(withinM ans last c l).last, (withinM ans last c l).on, !(true == c.row.not), !(withinM ans last c l).on, 0⟩
    else askA ans (withinM ans last c l).last c l
  else askA ans last c l
theorem meets_in {ans : List UInt8 → Bool × Int} {last m : Option Mt} {a : Ad} {l : Line} {ms : List Mt} (hl : ∀ q, last = some q → q ∈ ms) (hm : ∀ q, m = some q → q ∈ ms) : ∀ q, (meetsM ans last a m l).last = some q → q ∈ ms := fun q hq => by
  unfold meetsM at hq
  split at hq
  · exact hl q hq
  · split at hq
    · exact hl q hq
    · split at hq
      · exact hl q hq
      · cases m with
        | none =>
          simp only [orM] at hq
          cases last with
          | none => cases hq
          | some q' => cases hq; exact hl q rfl
        | some q' => simp only [orM] at hq; cases hq; exact hm q rfl
theorem within_in {ans : List UInt8 → Bool × Int} {last : Option Mt} {c : Chc} {l : Line} {ms : List Mt} (hl : ∀ q, last = some q → q ∈ ms) (hb : ∀ q, c.b = some q → q ∈ ms) : ∀ q, (withinM ans last c l).last = some q → q ∈ ms := fun q hq => by
  unfold withinM at hq
  split at hq
  · exact hl q hq
  · exact meets_in hl hb q hq
theorem ask_c (gp rg : Nat) (cap : Nat) (cs : List Chc) (i : Nat) (c : Chc) (hi : cs[i]? = some c) (last : Option Mt) (ms : List Mt) (l : Line) (ans : List UInt8 → Bool × Int) (hans : AnsAll ms l.s ans) (hl : ∀ q, last = some q → q ∈ ms) (ha : ∀ q, c.a = some q → q ∈ ms) (hb : ∀ q, c.b = some q → q ∈ ms) (w0 : World) (B : Nat) (hG : GR w0 B) :
    MutAt Try.prog 33 #[Pv gp 0, Iv (i : Nat), Iv l.line, .bool l.last, Sv l.s] [PKB gp (some ⟨rg, 0, none⟩) cs.length cap last, CRow (some ⟨rg, 0, none⟩) cap cs, HA.mats ms] (fun _ : Unit => .tuple #[.bool (askM ans last c l).yes, .bool (askM ans last c l).off, Iv (askM ans last c l).e])
      (fun _ => [PKB gp (some ⟨rg, 0, none⟩) cs.length cap (askM ans last c l).last, CRow (some ⟨rg, 0, none⟩) cap (cs.set i { c with on := (askM ans last c l).on }), HA.mats ms]) w0 B := by
  intro R w h
  replace h : Sat w0 B (PKB gp (some ⟨rg, 0, none⟩) cs.length cap last :: CRow (some ⟨rg, 0, none⟩) cap cs :: HA.mats ms :: R) w := h
  have hc := fun j u hj => chs_get hi j u hj
  have hlt : i < cs.length := (List.getElem?_eq_some_iff.1 hi).1
  have hset := chs_set hi
  have hself : cs.set i { c with on := c.on } = cs := by
    apply List.ext_getElem?
    intro j
    rw [List.getElem?_set]
    split
    · rename_i e; subst e; first | exact hi.symm | simp [hlt, hi]
    · rfl
  have hsl : ∀ b, (cs.set i { c with on := b }).length = cs.length := fun b => List.length_set
  have hlen := chsC_len cs
  have hwc := within_c gp rg cap cs i c hi last ms l ans hans hl hb w0 B hG
  have hwin := within_in (ans := ans) (l := l) hl hb
  refine calls_of_ES TB Try.func33 rfl _ Try.ntmps33 rfl h ?_
  refine .go ?_; repeat constructor
  refine EL.assign rfl rfl rfl ?_
  refine EL.assign rfl rfl rfl ?_
  refine EL.assign rfl rfl rfl ?_
  refine .go ?_; repeat constructor
  refine EL.move rfl rfl rfl ?_
  refine EL.eqlPn rfl rfl rfl rfl rfl rfl ?_
  refine .go ?_; repeat constructor
  refine ES.condF rfl ?_
  refine .go ?_; repeat constructor
  refine EL.cutX (X := Unit) (fun _ => [(0, Pv gp 0), (1, Iv (i : Nat)), (2, Iv l.line), (3, .bool l.last), (4, Sv l.s), (32, .bool false)]) (fun _ => PKB gp (some ⟨rg, 0, none⟩) cs.length cap last :: CRow (some ⟨rg, 0, none⟩) cap cs :: HA.mats ms :: R) ?_ (fun _ => ?_)
  · refine .go ?_; repeat constructor
    refine EL.move rfl rfl rfl ?_
    refine EL.lss rfl rfl rfl rfl ?_
    refine EL.move rfl rfl rfl ?_
    refine EL.rew (d := 24) (v' := .bool false) rfl (congrArg Value.bool (decide_eq_false (by omega))) ?_
    refine EL.move rfl rfl rfl ?_
    refine EL.move rfl rfl rfl ?_
    refine EL.nilCheck rfl rfl rfl ?_
    refine EL.fieldAddr rfl rfl rfl rfl rfl rfl rfl rfl ?_
    (apply EL.loadB; exact rfl; exact rfl; exact rfl; exact rfl; exact rfl; (case hm => repeat constructor); exact rfl)
    refine EL.lenL rfl rfl rfl rfl rfl ?_
    refine EL.geq rfl rfl rfl rfl ?_
    refine EL.pickF rfl rfl rfl rfl ?_
    exact EL.endX () ⟨rfl, rfl, rfl, rfl, rfl, getA rfl (congrArg Value.bool (decide_eq_false (by omega))), trivial⟩ (.i (by repeat constructor))
  refine ES.condF rfl ?_
  refine .go ?_; repeat constructor
  refine EL.move rfl rfl rfl ?_
  refine EL.nilCheck rfl rfl rfl ?_
  refine EL.fieldAddr rfl rfl rfl rfl rfl rfl rfl rfl ?_
  (apply EL.loadB; exact rfl; exact rfl; exact rfl; exact rfl; exact rfl; (case hm => repeat constructor); exact rfl)
  refine EL.move rfl rfl rfl ?_
  refine EL.indexAddrL rfl rfl rfl rfl rfl rfl rfl (by omega) ?_
  refine EL.move rfl rfl rfl ?_
  refine EL.move rfl rfl rfl ?_
  refine EL.move rfl rfl rfl ?_
  (apply EL.build3; exact rfl; exact rfl; exact rfl; exact rfl; exact rfl; exact rfl; exact rfl; exact rfl; exact rfl; exact rfl; exact rfl; exact rfl)
  (refine EL.alloc rfl rfl rfl ?_; intro g14)
  refine EL.assign rfl rfl rfl ?_
  (apply EL.storeAll; exact rfl; exact rfl; exact rfl; exact rfl; exact rfl; (case p => repeat constructor); exact rfl; (case h1 => exact (by first | rfl | exact all1 rfl | (intro u hu; simp only [List.mem_cons, List.not_mem_nil, or_false] at hu; rcases hu with rfl | rfl | rfl | rfl <;> rfl) | (intro u hu; simp at hu; rcases hu with rfl | rfl | rfl | rfl <;> rfl) | (intro u hu; simp at hu; rcases hu with rfl | rfl | rfl <;> rfl) | (intro u hu; simp at hu; rcases hu with rfl | rfl <;> rfl) | (intro u hu; simp at hu; obtain ⟨_, _, rfl⟩ := hu; rfl))))
  refine .go ?_; repeat constructor
  refine .go ?_; repeat constructor
  refine EL.move rfl rfl rfl ?_
  refine EL.nilCheck rfl rfl rfl ?_
  refine EL.fieldAddr rfl rfl rfl rfl rfl rfl rfl rfl ?_
  refine EL.loadR rfl rfl rfl rfl rfl (by repeat constructor) (hc 9 _ rfl) ?_
  refine .go ?_; repeat constructor
  refine ES.cutW (X := { last' : Option Mt // askM ans last c l = askA ans last' c l ∧ ∀ q, last' = some q → q ∈ ms }) (fun _ => [(0, Pv gp 0), (13, Pv rg (0 + i * 10)), (14, Pv g14 0)]) (fun x => PKB gp (some ⟨rg, 0, none⟩) cs.length cap x.1 :: CRow (some ⟨rg, 0, none⟩) cap cs :: HA.mats ms :: HA.blk g14 (.cells (lnC l).toArray 126) :: R) ?_ (fun x => ?_)
  · refine ES.cond rfl (fun hon => ?_) (fun hoff => ?_)
    rotate_left
    · have hoff' : c.on = false := hoff
      refine .go ?_; repeat constructor
      exact PX.cutWn ⟨last, by unfold askM; rw [if_neg (by rw [hoff']; simp)], hl⟩ ⟨rfl, rfl, rfl, trivial⟩ (.i (by repeat constructor))
    have hon' : c.on = true := hon
    have hask : askM ans last c l = if (withinM ans last c l).e ≠ 0 then ⟨(withinM ans last c l).last, c.on, false, false, (withinM ans last c l).e⟩
        else if (withinM ans last c l).in_ = true then ⟨(withinM ans last c l).last, (withinM ans last c l).on, !(true == c.row.not), !(withinM ans last c l).on, 0⟩
        else askA ans (withinM ans last c l).last c l := by unfold askM; rw [if_pos hon']
    generalize withinM ans last c l = wr at hask hwc hwin
    refine .go ?_; repeat constructor
    refine EL.move rfl rfl rfl ?_
    refine EL.move rfl rfl rfl ?_
    (apply EL.loadAggB; exact rfl; exact rfl; exact rfl; exact rfl; exact rfl; (case hm => repeat constructor); exact rfl)
    (refine EL.callMw rfl rfl rfl ent50 rfl hwc (by repeat constructor) ?_; intro x)
    refine EL.move rfl rfl rfl ?_
    refine EL.extract rfl rfl rfl rfl ?_
    refine EL.extract rfl rfl rfl rfl ?_
    refine EL.extract rfl rfl rfl rfl ?_
    refine EL.assign rfl rfl rfl ?_
    refine EL.assign rfl rfl rfl ?_
    refine EL.assign rfl rfl rfl ?_
    refine .go ?_; repeat constructor
    refine .go ?_; repeat constructor
    refine EL.move rfl rfl rfl ?_
    refine EL.neqI rfl rfl rfl rfl ?_
    refine .go ?_; repeat constructor
    refine ES.condN rfl (fun hne => ?_) (fun he0 => ?_)
    · rw [if_pos hne] at hask
      refine .go ?_; repeat constructor
      refine EL.move rfl rfl rfl ?_
      refine EL.assign rfl rfl rfl ?_
      refine EL.assign rfl rfl rfl ?_
      refine EL.assign rfl rfl rfl ?_
      refine .go ?_; repeat constructor
      refine PX.cutWr ?_
      rw [hask]
      exact PX.ret rfl Try.results33 (.cons (.tmp rfl) (.cons (.tmp rfl) (.cons (.tmp rfl) .nil))) (fun w hs => ⟨(), rfl, by dsimp only; rw [hself]; exact hs.ent (.i (by repeat constructor))⟩)
    rw [if_neg (fun h => h he0)] at hask
    refine .go ?_; repeat constructor
    refine EL.move rfl rfl rfl ?_
    refine .go ?_; repeat constructor
    refine ES.cond rfl (fun hin => ?_) (fun hout => ?_)
    · have hin' : wr.in_ = true := hin
      rw [if_pos hin'] at hask
      refine .go ?_; repeat constructor
      refine EL.move rfl rfl rfl ?_
      refine EL.move rfl rfl rfl ?_
      refine EL.nilCheck rfl rfl rfl ?_
      refine EL.fieldAddr rfl rfl rfl rfl rfl rfl rfl rfl ?_
      (refine EL.storeR rfl rfl rfl rfl rfl rfl (by repeat constructor) (by rw [hlen]; show 0 + i * 10 + 9 < _; omega) ?_; refine EL.rowEq (v := .slice (some ⟨rg, 0, none⟩) cs.length cap) (by repeat constructor) (hset wr.on) ?_)
      refine .go ?_; repeat constructor
      refine EL.move rfl rfl rfl ?_
      refine EL.move rfl rfl rfl ?_
      refine EL.nilCheck rfl rfl rfl ?_
      refine EL.fieldAddr rfl rfl rfl rfl rfl rfl rfl rfl ?_
      refine EL.fieldAddr rfl rfl rfl rfl rfl rfl rfl rfl ?_
      refine EL.loadR rfl rfl rfl rfl rfl (by repeat constructor) (chs_get (cs := cs.set i { c with on := wr.on }) (c := { c with on := wr.on }) (by rw [List.getElem?_set, if_pos rfl, if_pos hlt]) 6 _ rfl) ?_
      refine EL.neqB rfl rfl rfl rfl rfl rfl ?_
      refine EL.move rfl rfl rfl ?_
      refine EL.not rfl rfl rfl ?_
      refine EL.assign rfl rfl rfl ?_
      refine EL.assign rfl rfl rfl ?_
      refine EL.assign rfl rfl rfl ?_
      refine .go ?_; repeat constructor
      refine PX.cutWr ?_
      rw [hask]
      exact PX.ret rfl Try.results33 (.cons (.tmp rfl) (.cons (.tmp rfl) (.cons (.tmp rfl) .nil))) (fun w hs => ⟨(), by rw [hin']; rfl, by dsimp only; unfold CRow; rw [hsl]; exact hs.ent (.i (by repeat constructor))⟩)
    · have hout' : wr.in_ = false := hout
      rw [if_neg (by rw [hout']; simp)] at hask
      refine .go ?_; repeat constructor
      exact PX.cutWn ⟨wr.last, hask, hwin⟩ ⟨rfl, rfl, rfl, trivial⟩ (.i (by repeat constructor))
  obtain ⟨last', hask, hl'⟩ := x
  dsimp only
  rw [hask]
  have hmc := meets_c gp (some ⟨rg, 0, none⟩) cs.length cap last' c.a ms c.row.A l ans hans hl' ha w0 B hG
  have hA : askA ans last' c l = if (meetsM ans last' c.row.A c.a l).e ≠ 0 then ⟨(meetsM ans last' c.row.A c.a l).last, c.on, false, false, (meetsM ans last' c.row.A c.a l).e⟩
    else ⟨(meetsM ans last' c.row.A c.a l).last, ((meetsM ans last' c.row.A c.a l).ok && !decide (c.row.B.kind = 0)) && beginsM c.row.B l, !((meetsM ans last' c.row.A c.a l).ok == c.row.not), !(((meetsM ans last' c.row.A c.a l).ok && !decide (c.row.B.kind = 0)) && beginsM c.row.B l), 0⟩ := rfl
  generalize meetsM ans last' c.row.A c.a l = r at hmc hA
  refine .g0 ?_; repeat constructor
  refine ES.draw (X := Unit) (fun _ => [(0, Pv gp 0), (13, Pv rg (0 + i * 10)), (14, Pv g14 0), (18, .bool r.ok), (19, Iv r.e)]) (fun _ => PKB gp (some ⟨rg, 0, none⟩) cs.length cap r.last :: CRow (some ⟨rg, 0, none⟩) cap cs :: HA.mats ms :: HA.blk g14 (.cells (lnC l).toArray 126) :: R) (CRow (some ⟨rg, 0, none⟩) cap cs :: HA.blk g14 (.cells (lnC l).toArray 126) :: []) mixed (.i (by repeat constructor)) ?_ (fun _ => ?_)
  · refine ED.take 0 rfl (by decide +kernel) CutX.no_panic (by decide +kernel) rfl rfl rfl (RV.move rfl) ?_
    refine ED.take 1 rfl (by decide +kernel) CutX.no_panic (by decide +kernel) rfl rfl rfl (RV.move rfl) ?_
    refine ED.take 2 rfl (by decide +kernel) CutX.no_panic (by decide +kernel) rfl rfl rfl (RV.nilCheck rfl) ?_
    refine ED.take 3 rfl (by decide +kernel) CutX.no_panic (by decide +kernel) rfl rfl rfl (RV.fieldAddr rfl rfl rfl rfl rfl rfl) ?_
    refine ED.take 4 rfl (by decide +kernel) CutX.no_panic (by decide +kernel) rfl rfl rfl (RV.fieldAddr rfl rfl rfl rfl rfl rfl) ?_
    refine ED.take 5 rfl (by decide +kernel) CutX.no_panic (by decide +kernel) rfl rfl rfl (RV.loadRA (adC c.row.A) rfl rfl rfl rfl (by repeat constructor) (chs_sub hi 0 3 _ (by omega) rfl)) ?_
    refine ED.take 6 rfl (by decide +kernel) CutX.no_panic (by decide +kernel) rfl rfl rfl (RV.move rfl) ?_
    refine ED.take 7 rfl (by decide +kernel) CutX.no_panic (by decide +kernel) rfl rfl rfl (RV.nilCheck rfl) ?_
    refine ED.take 8 rfl (by decide +kernel) CutX.no_panic (by decide +kernel) rfl rfl rfl (RV.fieldAddr rfl rfl rfl rfl rfl rfl) ?_
    refine ED.take 9 rfl (by decide +kernel) CutX.no_panic (by decide +kernel) rfl rfl rfl (RV.loadR rfl rfl rfl (by repeat constructor) (hc 7 _ rfl)) ?_
    refine ED.take 10 rfl (by decide +kernel) CutX.no_panic (by decide +kernel) rfl rfl rfl (RV.loadAggB rfl rfl rfl (by repeat constructor) rfl) ?_
    refine ED.loud 11 rfl (by decide +kernel) ?_
    (refine EL.callMw rfl rfl rfl ent51 rfl hmc (by repeat constructor) ?_; intro x)
    refine ED.next (.i (by repeat constructor)) ?_
    refine ED.take 12 rfl (by decide +kernel) CutX.no_panic (by decide +kernel) rfl rfl rfl (RV.move rfl) ?_
    refine ED.take 13 rfl (by decide +kernel) CutX.no_panic (by decide +kernel) rfl rfl rfl (RV.extract rfl rfl) ?_
    refine ED.take 14 rfl (by decide +kernel) CutX.no_panic (by decide +kernel) rfl rfl rfl (RV.extract rfl rfl) ?_
    refine ED.take 15 rfl (by decide +kernel) CutX.no_panic (by decide +kernel) rfl rfl rfl (RV.assign rfl) ?_
    refine ED.take 16 rfl (by decide +kernel) CutX.no_panic (by decide +kernel) rfl rfl rfl (RV.assign rfl) ?_
    refine ED.done (by decide +kernel) ?_
    exact PX.cutX () ⟨rfl, rfl, rfl, rfl, rfl, trivial⟩ (.i (by repeat constructor))
  refine .go ?_; repeat constructor
  refine EL.move rfl rfl rfl ?_
  refine EL.neqI rfl rfl rfl rfl ?_
  refine .go ?_; repeat constructor
  refine ES.condN rfl (fun hne => ?_) (fun he0 => ?_)
  · rw [if_pos hne] at hA
    rw [hA]
    refine .go ?_; repeat constructor
    refine EL.move rfl rfl rfl ?_
    refine EL.assign rfl rfl rfl ?_
    refine EL.assign rfl rfl rfl ?_
    refine EL.assign rfl rfl rfl ?_
    refine .go ?_; repeat constructor
    exact PX.ret rfl Try.results33 (.cons (.tmp rfl) (.cons (.tmp rfl) (.cons (.tmp rfl) .nil))) (fun w hs => ⟨(), rfl, by dsimp only; rw [hself]; exact hs.ent (.i (by repeat constructor))⟩)
  rw [if_neg (fun h => h he0)] at hA
  obtain ⟨on', hon⟩ : ∃ on', on' = ((r.ok && !decide (c.row.B.kind = 0)) && beginsM c.row.B l) := ⟨_, rfl⟩
  rw [← hon] at hA
  rw [hA]
  refine .g0 ?_; repeat constructor
  refine ES.draw (X := { b : Bool // b = on' }) (fun _ => [(0, Pv gp 0), (13, Pv rg (0 + i * 10)), (14, Pv g14 0), (18, .bool r.ok)]) (fun b => PKB gp (some ⟨rg, 0, none⟩) cs.length cap r.last :: CRow (some ⟨rg, 0, none⟩) cap (cs.set i { c with on := b.1 }) :: HA.mats ms :: HA.blk g14 (.cells (lnC l).toArray 126) :: R) (CRow (some ⟨rg, 0, none⟩) cap cs :: HA.blk g14 (.cells (lnC l).toArray 126) :: []) mixed (.i (by repeat constructor)) ?_ (fun b => ?_)
  · refine ED.take 0 rfl (by decide +kernel) CutX.no_panic (by decide +kernel) rfl rfl rfl (RV.move rfl) ?_
    refine ED.take 1 rfl (by decide +kernel) CutX.no_panic (by decide +kernel) rfl rfl rfl (RV.move rfl) ?_
    refine ED.take 2 rfl (by decide +kernel) CutX.no_panic (by decide +kernel) rfl rfl rfl (RV.move rfl) ?_
    first | refine ED.part (d := 92) rfl (fun hp92 => ?_) (fun hp92 => ?_) | refine ED.partN (d := 92) rfl (fun hp92 => ?_) (fun hp92 => ?_) | refine ED.partB (d := 92) rfl (fun hp92 => ?_) (fun hp92 => ?_)
    · refine ED.take 3 rfl (by decide +kernel) CutX.no_panic (by decide +kernel) rfl rfl rfl (RV.move rfl) ?_
      refine ED.take 4 rfl (by decide +kernel) CutX.no_panic (by decide +kernel) rfl rfl rfl (RV.nilCheck rfl) ?_
      refine ED.take 5 rfl (by decide +kernel) CutX.no_panic (by decide +kernel) rfl rfl rfl (RV.fieldAddr rfl rfl rfl rfl rfl rfl) ?_
      refine ED.take 6 rfl (by decide +kernel) CutX.no_panic (by decide +kernel) rfl rfl rfl (RV.fieldAddr rfl rfl rfl rfl rfl rfl) ?_
      refine ED.take 7 rfl (by decide +kernel) CutX.no_panic (by decide +kernel) rfl rfl rfl (RV.fieldAddr rfl rfl rfl rfl rfl rfl) ?_
      refine ED.take 8 rfl (by decide +kernel) CutX.no_panic (by decide +kernel) rfl rfl rfl (RV.loadR rfl rfl rfl (by repeat constructor) (hc 3 _ rfl)) ?_
      refine ED.take 9 rfl (by decide +kernel) CutX.no_panic (by decide +kernel) rfl rfl rfl (RV.neqI rfl rfl) ?_
      refine ED.take 10 rfl (by decide +kernel) CutX.no_panic (by decide +kernel) rfl rfl rfl (RV.pickT rfl rfl) ?_
      refine ED.take 11 rfl (by decide +kernel) CutX.no_panic (by decide +kernel) rfl rfl rfl (RV.move rfl) ?_
      first | refine ED.part (d := 101) rfl (fun hp101 => ?_) (fun hp101 => ?_) | refine ED.partN (d := 101) rfl (fun hp101 => ?_) (fun hp101 => ?_) | refine ED.partB (d := 101) rfl (fun hp101 => ?_) (fun hp101 => ?_)
      · refine ED.take 12 rfl (by decide +kernel) CutX.no_panic (by decide +kernel) rfl rfl rfl (RV.move rfl) ?_
        refine ED.take 13 rfl (by decide +kernel) CutX.no_panic (by decide +kernel) rfl rfl rfl (RV.nilCheck rfl) ?_
        refine ED.take 14 rfl (by decide +kernel) CutX.no_panic (by decide +kernel) rfl rfl rfl (RV.fieldAddr rfl rfl rfl rfl rfl rfl) ?_
        refine ED.take 15 rfl (by decide +kernel) CutX.no_panic (by decide +kernel) rfl rfl rfl (RV.fieldAddr rfl rfl rfl rfl rfl rfl) ?_
        refine ED.take 16 rfl (by decide +kernel) CutX.no_panic (by decide +kernel) rfl rfl rfl (RV.loadRA (adC c.row.B) rfl rfl rfl rfl (by repeat constructor) (chs_sub hi 3 3 _ (by omega) rfl)) ?_
        refine ED.take 17 rfl (by decide +kernel) CutX.no_panic (by decide +kernel) rfl rfl rfl (RV.loadAggB rfl rfl rfl (by repeat constructor) rfl) ?_
        refine ED.loud 18 rfl (by decide +kernel) ?_
        refine EL.callP rfl rfl rfl ent52 rfl (begins_c c.row.B l) ?_
        refine ED.next (.i (by repeat constructor)) ?_
        refine ED.take 19 rfl (by decide +kernel) CutX.no_panic (by decide +kernel) rfl rfl rfl (RV.pickT rfl rfl) ?_
        refine ED.take 20 rfl (by decide +kernel) CutX.no_panic (by decide +kernel) rfl rfl rfl (RV.nilCheck rfl) ?_
        refine ED.take 21 rfl (by decide +kernel) CutX.no_panic (by decide +kernel) rfl rfl rfl (RV.fieldAddr rfl rfl rfl rfl rfl rfl) ?_
        refine ED.last 22 rfl (by decide +kernel) (by decide +kernel) (by decide +kernel) ?_
        (refine EL.storeR rfl rfl rfl rfl rfl rfl (by repeat constructor) (by rw [hlen]; show 0 + i * 10 + 9 < _; omega) ?_; refine EL.rowEq (v := .slice (some ⟨rg, 0, none⟩) cs.length cap) (by repeat constructor) (hset _) ?_)
        refine EL.endQ ?_
        first | (refine PX.cutX ⟨beginsM c.row.B l, ?_⟩ ⟨rfl, rfl, rfl, rfl, trivial⟩ ?_; rw [hon, hp92]; simp [hp101]; dsimp only; unfold CRow; rw [hsl]; exact (.i (by repeat constructor))) | (refine PX.cutX ⟨false, ?_⟩ ⟨rfl, rfl, rfl, rfl, trivial⟩ ?_; rw [hon, hp92]; simp [hp101]; dsimp only; unfold CRow; rw [hsl]; exact (.i (by repeat constructor))) | (refine PX.cutX ⟨false, ?_⟩ ⟨rfl, rfl, rfl, rfl, trivial⟩ ?_; rw [hon, hp92]; simp; dsimp only; unfold CRow; rw [hsl]; exact (.i (by repeat constructor)))
      · refine ED.pass 12 rfl (by decide +kernel) CutX.no_panic (by decide +kernel) rfl rfl rfl ?_
        refine ED.pass 13 rfl (by decide +kernel) CutX.no_panic (by decide +kernel) rfl rfl rfl ?_
        refine ED.pass 14 rfl (by decide +kernel) CutX.no_panic (by decide +kernel) rfl rfl rfl ?_
        refine ED.pass 15 rfl (by decide +kernel) CutX.no_panic (by decide +kernel) rfl rfl rfl ?_
        refine ED.pass 16 rfl (by decide +kernel) CutX.no_panic (by decide +kernel) rfl rfl rfl ?_
        refine ED.pass 17 rfl (by decide +kernel) CutX.no_panic (by decide +kernel) rfl rfl rfl ?_
        refine ED.pass 18 rfl (by decide +kernel) CutX.no_panic (by decide +kernel) rfl rfl rfl ?_
        refine ED.take 19 rfl (by decide +kernel) CutX.no_panic (by decide +kernel) rfl rfl rfl (RV.pickF rfl rfl) ?_
        refine ED.take 20 rfl (by decide +kernel) CutX.no_panic (by decide +kernel) rfl rfl rfl (RV.nilCheck rfl) ?_
        refine ED.take 21 rfl (by decide +kernel) CutX.no_panic (by decide +kernel) rfl rfl rfl (RV.fieldAddr rfl rfl rfl rfl rfl rfl) ?_
        refine ED.last 22 rfl (by decide +kernel) (by decide +kernel) (by decide +kernel) ?_
        (refine EL.storeR rfl rfl rfl rfl rfl rfl (by repeat constructor) (by rw [hlen]; show 0 + i * 10 + 9 < _; omega) ?_; refine EL.rowEq (v := .slice (some ⟨rg, 0, none⟩) cs.length cap) (by repeat constructor) (hset _) ?_)
        refine EL.endQ ?_
        first | (refine PX.cutX ⟨beginsM c.row.B l, ?_⟩ ⟨rfl, rfl, rfl, rfl, trivial⟩ ?_; rw [hon, hp92]; simp [hp101]; dsimp only; unfold CRow; rw [hsl]; exact (.i (by repeat constructor))) | (refine PX.cutX ⟨false, ?_⟩ ⟨rfl, rfl, rfl, rfl, trivial⟩ ?_; rw [hon, hp92]; simp [hp101]; dsimp only; unfold CRow; rw [hsl]; exact (.i (by repeat constructor))) | (refine PX.cutX ⟨false, ?_⟩ ⟨rfl, rfl, rfl, rfl, trivial⟩ ?_; rw [hon, hp92]; simp; dsimp only; unfold CRow; rw [hsl]; exact (.i (by repeat constructor)))
    · refine ED.pass 3 rfl (by decide +kernel) CutX.no_panic (by decide +kernel) rfl rfl rfl ?_
      refine ED.pass 4 rfl (by decide +kernel) CutX.no_panic (by decide +kernel) rfl rfl rfl ?_
      refine ED.pass 5 rfl (by decide +kernel) CutX.no_panic (by decide +kernel) rfl rfl rfl ?_
      refine ED.pass 6 rfl (by decide +kernel) CutX.no_panic (by decide +kernel) rfl rfl rfl ?_
      refine ED.pass 7 rfl (by decide +kernel) CutX.no_panic (by decide +kernel) rfl rfl rfl ?_
      refine ED.pass 8 rfl (by decide +kernel) CutX.no_panic (by decide +kernel) rfl rfl rfl ?_
      refine ED.pass 9 rfl (by decide +kernel) CutX.no_panic (by decide +kernel) rfl rfl rfl ?_
      refine ED.take 10 rfl (by decide +kernel) CutX.no_panic (by decide +kernel) rfl rfl rfl (RV.pickF rfl rfl) ?_
      refine ED.take 11 rfl (by decide +kernel) CutX.no_panic (by decide +kernel) rfl rfl rfl (RV.move rfl) ?_
      refine ED.pass 12 rfl (by decide +kernel) CutX.no_panic (by decide +kernel) rfl rfl rfl ?_
      refine ED.pass 13 rfl (by decide +kernel) CutX.no_panic (by decide +kernel) rfl rfl rfl ?_
      refine ED.pass 14 rfl (by decide +kernel) CutX.no_panic (by decide +kernel) rfl rfl rfl ?_
      refine ED.pass 15 rfl (by decide +kernel) CutX.no_panic (by decide +kernel) rfl rfl rfl ?_
      refine ED.pass 16 rfl (by decide +kernel) CutX.no_panic (by decide +kernel) rfl rfl rfl ?_
      refine ED.pass 17 rfl (by decide +kernel) CutX.no_panic (by decide +kernel) rfl rfl rfl ?_
      refine ED.pass 18 rfl (by decide +kernel) CutX.no_panic (by decide +kernel) rfl rfl rfl ?_
      refine ED.take 19 rfl (by decide +kernel) CutX.no_panic (by decide +kernel) rfl rfl rfl (RV.pickF rfl rfl) ?_
      refine ED.take 20 rfl (by decide +kernel) CutX.no_panic (by decide +kernel) rfl rfl rfl (RV.nilCheck rfl) ?_
      refine ED.take 21 rfl (by decide +kernel) CutX.no_panic (by decide +kernel) rfl rfl rfl (RV.fieldAddr rfl rfl rfl rfl rfl rfl) ?_
      refine ED.last 22 rfl (by decide +kernel) (by decide +kernel) (by decide +kernel) ?_
      (refine EL.storeR rfl rfl rfl rfl rfl rfl (by repeat constructor) (by rw [hlen]; show 0 + i * 10 + 9 < _; omega) ?_; refine EL.rowEq (v := .slice (some ⟨rg, 0, none⟩) cs.length cap) (by repeat constructor) (hset _) ?_)
      refine EL.endQ ?_
      first | (refine PX.cutX ⟨beginsM c.row.B l, ?_⟩ ⟨rfl, rfl, rfl, rfl, trivial⟩ ?_; rw [hon, hp92]; simp [hp101]; dsimp only; unfold CRow; rw [hsl]; exact (.i (by repeat constructor))) | (refine PX.cutX ⟨false, ?_⟩ ⟨rfl, rfl, rfl, rfl, trivial⟩ ?_; rw [hon, hp92]; simp [hp101]; dsimp only; unfold CRow; rw [hsl]; exact (.i (by repeat constructor))) | (refine PX.cutX ⟨false, ?_⟩ ⟨rfl, rfl, rfl, rfl, trivial⟩ ?_; rw [hon, hp92]; simp; dsimp only; unfold CRow; rw [hsl]; exact (.i (by repeat constructor)))
  obtain ⟨b, rfl⟩ := b
  have hget2 := fun j u hj => chs_get (cs := cs.set i { c with on := b }) (i := i) (c := { c with on := b }) (by rw [List.getElem?_set, if_pos rfl, if_pos hlt]) j u hj
  refine .g0 ?_; repeat constructor
  refine ES.draw (X := Unit) (fun _ => [(10, .bool (!(r.ok == c.row.not))), (11, .bool (!b)), (12, Iv 0)]) (fun _ => PKB gp (some ⟨rg, 0, none⟩) cs.length cap r.last :: CRow (some ⟨rg, 0, none⟩) cap (cs.set i { c with on := b }) :: HA.mats ms :: R) (CRow (some ⟨rg, 0, none⟩) cap (cs.set i { c with on := b }) :: []) mixed (.i (by repeat constructor)) ?_ (fun _ => ?_)
  · refine ED.take 0 rfl (by decide +kernel) CutX.no_panic (by decide +kernel) rfl rfl rfl (RV.move rfl) ?_
    refine ED.take 1 rfl (by decide +kernel) CutX.no_panic (by decide +kernel) rfl rfl rfl (RV.move rfl) ?_
    refine ED.take 2 rfl (by decide +kernel) CutX.no_panic (by decide +kernel) rfl rfl rfl (RV.nilCheck rfl) ?_
    refine ED.take 3 rfl (by decide +kernel) CutX.no_panic (by decide +kernel) rfl rfl rfl (RV.fieldAddr rfl rfl rfl rfl rfl rfl) ?_
    refine ED.take 4 rfl (by decide +kernel) CutX.no_panic (by decide +kernel) rfl rfl rfl (RV.fieldAddr rfl rfl rfl rfl rfl rfl) ?_
    refine ED.take 5 rfl (by decide +kernel) CutX.no_panic (by decide +kernel) rfl rfl rfl (RV.loadR rfl rfl rfl (by repeat constructor) (hget2 6 _ rfl)) ?_
    refine ED.take 6 rfl (by decide +kernel) CutX.no_panic (by decide +kernel) rfl rfl rfl (RV.neqB rfl rfl rfl rfl) ?_
    refine ED.take 7 rfl (by decide +kernel) CutX.no_panic (by decide +kernel) rfl rfl rfl (RV.move rfl) ?_
    refine ED.take 8 rfl (by decide +kernel) CutX.no_panic (by decide +kernel) rfl rfl rfl (RV.nilCheck rfl) ?_
    refine ED.take 9 rfl (by decide +kernel) CutX.no_panic (by decide +kernel) rfl rfl rfl (RV.fieldAddr rfl rfl rfl rfl rfl rfl) ?_
    refine ED.take 10 rfl (by decide +kernel) CutX.no_panic (by decide +kernel) rfl rfl rfl (RV.loadR rfl rfl rfl (by repeat constructor) (hget2 9 _ rfl)) ?_
    refine ED.take 11 rfl (by decide +kernel) CutX.no_panic (by decide +kernel) rfl rfl rfl (RV.not rfl) ?_
    refine ED.take 12 rfl (by decide +kernel) CutX.no_panic (by decide +kernel) rfl rfl rfl (RV.assign rfl) ?_
    refine ED.take 13 rfl (by decide +kernel) CutX.no_panic (by decide +kernel) rfl rfl rfl (RV.assign rfl) ?_
    refine ED.take 14 rfl (by decide +kernel) CutX.no_panic (by decide +kernel) rfl rfl rfl (RV.assign rfl) ?_
    refine ED.done (by decide +kernel) ?_
    exact PX.cutX () ⟨rfl, rfl, rfl, trivial⟩ (.i (by repeat constructor))
  refine .go ?_; repeat constructor
  exact PX.ret rfl Try.results33 (.cons (.tmp rfl) (.cons (.tmp rfl) (.cons (.tmp rfl) .nil))) (fun w hs => ⟨(), rfl, hs.ent (.i (by repeat constructor))⟩)
end Go.Proofs.Ytblpgpgbnlhjlaa
