/- Layer 6 (measure): what is known of a BRE ahead of any subject. -/
import Derived.Test.YtblpgpgbnlhjlaaAb
import Derived.Test.YtblpgpgbnlhjlaaSlj
namespace Go.Proofs.Ytblpgpgbnlhjlaa
open Go Go.RowKit Sl
set_option maxRecDepth 100000
set_option maxHeartbeats 8000000
set_option linter.unusedVariables false
set_option linter.unusedSimpArgs false
attribute [local irreducible] ES EL PX wps

abbrev w64 (x : Int) : Int := IntKind.i64.wrap x
structure Me where
  pos : Int
  grp : Int
  least : Int
  most : Int
  back : Bool
  bol : Bool
  eol : Bool
def Me.cells (m : Me) : List Value := [Iv m.pos, Iv m.grp, Iv m.least, Iv m.most, .bool m.back, .bool m.bol, .bool m.eol]
def Me.zero : Me := ⟨0, 0, 0, 0, false, false, false⟩
def moreM (a b : Int) : Int := if a < 0 ∨ b < 0 then -1 else w64 (a + b)
def manyM (a h : Int) : Int := if a = 0 ∨ h = 0 then 0 else if a < 0 ∨ h < 0 then -1 else w64 (a * h)
def Me.plus (m n : Me) : Me := ⟨w64 (m.pos + n.pos), w64 (m.grp + n.grp), w64 (m.least + n.least), moreM m.most n.most, m.back || n.back, m.bol || n.bol, m.eol || n.eol⟩
def timesI (lo : Nat) (hi : Int) : Int := if hi < 0 then max (lo : Int) 1 else hi
def finM (k lo : Nat) (hi : Int) (m : Me) : Me :=
  if k = 1 then { m with pos := 1, least := 1, most := 1 }
  else if k = 2 then { m with bol := true }
  else if k = 3 then { m with eol := true }
  else if k = 4 then { m with grp := w64 (m.grp + 1) }
  else if k = 6 then { m with pos := 1, most := -1, back := true }
  else if k = 5 then { m with pos := w64 (m.pos * timesI lo hi), least := w64 (m.least * lo), most := manyM m.most hi }
  else m
mutual
def measM : RE → Me
  | .byte _ => finM 1 0 0 Me.zero
  | .bol => finM 2 0 0 Me.zero
  | .eol => finM 3 0 0 Me.zero
  | .back _ => finM 6 0 0 Me.zero
  | .cat ks => measL ks Me.zero
  | .group _ k => finM 4 0 0 (Me.zero.plus (measM k))
  | .rep lo hi k => finM 5 lo hi (Me.zero.plus (measM k))
def measL : List RE → Me → Me
  | [], m => m
  | k :: ks, m => measL ks (m.plus (measM k))
end
theorem meas_eq (r : RE) : measM r = finM r.kind r.lo r.hi (measL r.kids Me.zero) := by
  cases r <;> simp only [RE.kind, RE.lo, RE.hi, RE.kids] <;> rw [measM] <;> first | rfl | (rw [measL]; rfl) | (rw [measL, measL])
theorem more_c (a b : Int) (w : World) : Pure Try.prog 85 #[Iv a, Iv b] (fun _ : Unit => Iv (moreM a b)) (fun _ => []) w := by
  refine calls_of_ES TB Try.func85 rfl _ Try.ntmps85 rfl (Sat.start w) ?_
  refine .go ?_; repeat constructor
  refine EL.assign rfl rfl rfl ?_
  refine .go ?_; repeat constructor
  refine EL.cutX (X := Unit) (fun _ => [(0, Iv a), (1, Iv b), (10, .bool (decide (a < 0 ∨ b < 0)))]) (fun _ => []) ?_ (fun _ => ?_)
  · refine .go ?_; repeat constructor
    refine EL.move rfl rfl rfl ?_
    refine EL.lss rfl rfl rfl rfl ?_
    refine EL.move rfl rfl rfl ?_
    first | refine EL.splitD (d := 7) rfl (fun hp7 => ?_) (fun hp7 => ?_) | refine EL.splitN (d := 7) rfl (fun hp7 => ?_) (fun hp7 => ?_) | refine EL.splitB (d := 7) rfl (fun hp7 => ?_) (fun hp7 => ?_)
    · refine EL.pass rfl rfl rfl ?_
      refine EL.pass rfl rfl rfl ?_
      refine EL.pickT rfl rfl rfl rfl ?_
      exact EL.endX () ⟨rfl, rfl, getA rfl (congrArg Value.bool (by rw [Bool.eq_iff_iff]; simp only [decide_eq_true_eq, true_iff]; omega)), trivial⟩ (.i (by repeat constructor))
    · refine EL.move rfl rfl rfl ?_
      refine EL.lss rfl rfl rfl rfl ?_
      refine EL.pickF rfl rfl rfl rfl ?_
      exact EL.endX () ⟨rfl, rfl, getA rfl (congrArg Value.bool (by rw [Bool.eq_iff_iff]; simp only [decide_eq_true_eq, true_iff]; omega)), trivial⟩ (.i (by repeat constructor))
  refine ES.condD rfl (fun h => ?_) (fun h => ?_)
  · refine .go ?_; repeat constructor
    refine EL.assign rfl rfl rfl ?_
    refine .go ?_; repeat constructor
    exact PX.ret rfl Try.results85 (.cons (.tmp rfl) .nil) (fun w hs => ⟨(), by unfold moreM; rw [if_pos h]; rfl, hs.ent (.i (by repeat constructor))⟩)
  · refine .go ?_; repeat constructor
    refine EL.move rfl rfl rfl ?_
    refine EL.move rfl rfl rfl ?_
    refine EL.add (w64 (a + b)) rfl rfl rfl rfl rfl ?_
    refine EL.assign rfl rfl rfl ?_
    refine .go ?_; repeat constructor
    exact PX.ret rfl Try.results85 (.cons (.tmp rfl) .nil) (fun w hs => ⟨(), by unfold moreM; rw [if_neg h]; rfl, hs.ent (.i (by repeat constructor))⟩)
theorem many_c (a b : Int) (w : World) : Pure Try.prog 86 #[Iv a, Iv b] (fun _ : Unit => Iv (manyM a b)) (fun _ => []) w := by
  refine calls_of_ES TB Try.func86 rfl _ Try.ntmps86 rfl (Sat.start w) ?_
  refine .go ?_; repeat constructor
  refine EL.assign rfl rfl rfl ?_
  refine .go ?_; repeat constructor
  refine EL.cutX (X := Unit) (fun _ => [(0, Iv a), (1, Iv b), (5, .bool (decide (a = 0 ∨ b = 0)))]) (fun _ => []) ?_ (fun _ => ?_)
  · refine .go ?_; repeat constructor
    refine EL.move rfl rfl rfl ?_
    refine EL.eqlI rfl rfl rfl rfl ?_
    refine EL.move rfl rfl rfl ?_
    first | refine EL.splitD (d := 8) rfl (fun hp8 => ?_) (fun hp8 => ?_) | refine EL.splitN (d := 8) rfl (fun hp8 => ?_) (fun hp8 => ?_) | refine EL.splitB (d := 8) rfl (fun hp8 => ?_) (fun hp8 => ?_)
    · refine EL.pass rfl rfl rfl ?_
      refine EL.pass rfl rfl rfl ?_
      refine EL.pickT rfl rfl rfl rfl ?_
      refine EL.assign rfl rfl rfl ?_
      exact EL.endX () ⟨rfl, rfl, getA rfl (congrArg Value.bool (by rw [Bool.eq_iff_iff]; simp only [decide_eq_true_eq, true_iff]; omega)), trivial⟩ (.i (by repeat constructor))
    · refine EL.move rfl rfl rfl ?_
      refine EL.eqlI rfl rfl rfl rfl ?_
      refine EL.pickF rfl rfl rfl rfl ?_
      refine EL.assign rfl rfl rfl ?_
      exact EL.endX () ⟨rfl, rfl, getA rfl (congrArg Value.bool (by rw [Bool.eq_iff_iff]; simp only [decide_eq_true_eq, true_iff]; omega)), trivial⟩ (.i (by repeat constructor))
  refine ES.condD rfl (fun h => ?_) (fun h => ?_)
  · refine .go ?_; repeat constructor
    refine EL.assign rfl rfl rfl ?_
    refine .go ?_; repeat constructor
    exact PX.ret rfl Try.results86 (.cons (.tmp rfl) .nil) (fun w hs => ⟨(), by unfold manyM; rw [if_pos h]; rfl, hs.ent (.i (by repeat constructor))⟩)
  refine .go ?_; repeat constructor
  refine EL.cutX (X := Unit) (fun _ => [(0, Iv a), (1, Iv b), (12, .bool (decide (a < 0 ∨ b < 0)))]) (fun _ => []) ?_ (fun _ => ?_)
  · refine .go ?_; repeat constructor
    refine EL.move rfl rfl rfl ?_
    refine EL.lss rfl rfl rfl rfl ?_
    refine EL.move rfl rfl rfl ?_
    first | refine EL.splitD (d := 15) rfl (fun hp15 => ?_) (fun hp15 => ?_) | refine EL.splitN (d := 15) rfl (fun hp15 => ?_) (fun hp15 => ?_) | refine EL.splitB (d := 15) rfl (fun hp15 => ?_) (fun hp15 => ?_)
    · refine EL.pass rfl rfl rfl ?_
      refine EL.pass rfl rfl rfl ?_
      refine EL.pickT rfl rfl rfl rfl ?_
      refine EL.assign rfl rfl rfl ?_
      exact EL.endX () ⟨rfl, rfl, getA rfl (congrArg Value.bool (by rw [Bool.eq_iff_iff]; simp only [decide_eq_true_eq, true_iff]; omega)), trivial⟩ (.i (by repeat constructor))
    · refine EL.move rfl rfl rfl ?_
      refine EL.lss rfl rfl rfl rfl ?_
      refine EL.pickF rfl rfl rfl rfl ?_
      refine EL.assign rfl rfl rfl ?_
      exact EL.endX () ⟨rfl, rfl, getA rfl (congrArg Value.bool (by rw [Bool.eq_iff_iff]; simp only [decide_eq_true_eq, true_iff]; omega)), trivial⟩ (.i (by repeat constructor))
  refine ES.condD rfl (fun h2 => ?_) (fun h2 => ?_)
  · refine .go ?_; repeat constructor
    refine EL.assign rfl rfl rfl ?_
    refine .go ?_; repeat constructor
    exact PX.ret rfl Try.results86 (.cons (.tmp rfl) .nil) (fun w hs => ⟨(), by unfold manyM; rw [if_neg h, if_pos h2]; rfl, hs.ent (.i (by repeat constructor))⟩)
  · refine .go ?_; repeat constructor
    refine EL.move rfl rfl rfl ?_
    refine EL.move rfl rfl rfl ?_
    refine EL.mul (w64 (a * b)) rfl rfl rfl rfl rfl ?_
    refine EL.assign rfl rfl rfl ?_
    refine .go ?_; repeat constructor
    exact PX.ret rfl Try.results86 (.cons (.tmp rfl) .nil) (fun w hs => ⟨(), by unfold manyM; rw [if_neg h, if_neg h2]; rfl, hs.ent (.i (by repeat constructor))⟩)
structure MS where
  i : Nat
  m : Me
theorem of_n (n : Nat) : ∀ r : RE, r.sz ≤ n → r.fine → ∀ (ad : Option Addr) (cap : Nat) (w : World), KidsRd w w.heap.size r.kids ad →
    Pure Try.prog 63 #[.agg (reCells r (.slice ad r.kids.length cap)).toArray] (fun _ : Unit => .agg (measM r).cells.toArray) (fun _ => []) w := by
  induction n with
  | zero => intro r hr; exact absurd (sz_pos r) (by omega)
  | succ n ih =>
    intro r hsz hfine ad cap w hkids
    have hkl := fine_len hfine
    rw [meas_eq r]
    obtain ⟨KM, hKM⟩ : ∃ KM, KM = measL r.kids Me.zero := ⟨_, rfl⟩
    rw [← hKM]
    refine calls_of_ES TB Try.func63 rfl _ Try.ntmps63 rfl (Sat.start w) ?_
    refine .go ?_; repeat constructor
    (refine EL.box rfl rfl rfl ?_; intro g1)
    (refine EL.alloc rfl rfl rfl ?_; intro g2)
    refine .go ?_; repeat constructor
    (refine EL.alloc rfl rfl rfl ?_; intro g3)
    refine .go ?_; repeat constructor
    refine EL.fieldAddr rfl rfl rfl rfl rfl rfl rfl rfl ?_
    (apply EL.loadB; exact rfl; exact rfl; exact rfl; exact rfl; exact rfl; (case hm => repeat constructor); exact rfl)
    refine EL.lenL rfl rfl rfl rfl rfl ?_
    refine EL.move rfl rfl rfl ?_
    refine .go ?_; repeat constructor
    refine ES.loop (σ := MS) (fun z => z.i ≤ r.kids.length ∧ measL (r.kids.drop z.i) z.m = KM) (fun z => [(1, Pv g1 0), (2, Pv g2 0), (3, Pv g3 0), (9, .slice ad r.kids.length cap), (10, Iv (r.kids.length : Nat)), (11, Iv (z.i : Nat))])
      (fun z => HA.blk g3 (.cells z.m.cells.toArray 93) :: HA.blk g2 (.cells Me.zero.cells.toArray 93) :: HA.blk g1 (.cells (reCells r (.slice ad r.kids.length cap)).toArray 82) :: []) (fun z => r.kids.length - z.i) ⟨0, Me.zero⟩ ⟨Nat.zero_le _, by rw [List.drop_zero]; exact hKM.symm⟩ ⟨rfl, rfl, rfl, rfl, rfl, rfl, trivial⟩ (.i (by repeat constructor)) ?_
    rintro ⟨i, m⟩ ⟨hi, hgo⟩
    dsimp only at hi hgo ⊢
    refine .go ?_; repeat constructor
    refine EL.lss rfl rfl rfl rfl ?_
    refine .go ?_; repeat constructor
    refine ES.condD rfl (fun hlt => ?_) (fun hge => ?_)
    · have hlt' : i < r.kids.length := by omega
      obtain ⟨k, hki⟩ : ∃ k, r.kids[i]? = some k := ⟨_, List.getElem?_eq_getElem hlt'⟩
      have hmem := List.mem_of_getElem? hki
      have hks := kids_lt hmem
      obtain ⟨kg, ko, rfl, hkn⟩ := hkids i k hki
      obtain ⟨kad, kcap, hkrd, hkk⟩ := hkn.kids
      have hkrd2 : Rd w w.heap.size (some ⟨kg, ko + i * 9, none⟩) (reCells k (.slice kad k.kids.length kcap)) := hkrd.rd
      rw [List.drop_eq_getElem_cons hlt', show r.kids[i] = k from (List.getElem?_eq_some_iff.1 hki).2, measL] at hgo
      have hrec := ih k (by omega) (fine_kid hfine hmem) kad kcap
      generalize measM k = n at hgo hrec
      refine .go ?_; repeat constructor
      refine EL.indexAddrL rfl rfl rfl rfl rfl rfl rfl (by omega) ?_
      refine EL.loadOldA (j := 0) (vs := reCells k (.slice kad k.kids.length kcap)) rfl rfl rfl rfl rfl (by simp [reCells]) rfl hkrd2 (fun i u hi => by rw [Nat.zero_add]; exact hi) ?_
      (refine EL.alloc rfl rfl rfl ?_; intro g5)
      (apply EL.storeAll; exact rfl; exact rfl; exact rfl; exact rfl; exact rfl; (case p => repeat constructor); exact rfl; (case h1 => exact (by first | rfl | exact all1 rfl | (intro u hu; simp only [List.mem_cons, List.not_mem_nil, or_false] at hu; rcases hu with rfl | rfl | rfl | rfl <;> rfl) | (intro u hu; simp at hu; rcases hu with rfl | rfl | rfl | rfl <;> rfl) | (intro u hu; simp at hu; rcases hu with rfl | rfl | rfl <;> rfl) | (intro u hu; simp at hu; rcases hu with rfl | rfl <;> rfl) | (intro u hu; simp at hu; obtain ⟨_, _, rfl⟩ := hu; rfl))))
      refine .go ?_; repeat constructor
      refine .go ?_; repeat constructor
      (apply EL.loadAggB; exact rfl; exact rfl; exact rfl; exact rfl; exact rfl; (case hm => repeat constructor); exact rfl)
      refine EL.callPw rfl rfl rfl ent63 rfl (fun w' hs => hrec w' (fun i' k' hi' => by obtain ⟨g', o', e1, e2⟩ := hkk (by intro e; rw [e] at hi'; simp at hi'); exact ⟨g', o', e1, NodeRd.sat (e2 i' k' hi') hs⟩)) ?_
      (refine EL.alloc rfl rfl rfl ?_; intro g6)
      (apply EL.storeAll; exact rfl; exact rfl; exact rfl; exact rfl; exact rfl; (case p => repeat constructor); exact rfl; (case h1 => exact (by first | rfl | exact all1 rfl | (intro u hu; simp only [List.mem_cons, List.not_mem_nil, or_false] at hu; rcases hu with rfl | rfl | rfl | rfl <;> rfl) | (intro u hu; simp at hu; rcases hu with rfl | rfl | rfl | rfl <;> rfl) | (intro u hu; simp at hu; rcases hu with rfl | rfl | rfl <;> rfl) | (intro u hu; simp at hu; rcases hu with rfl | rfl <;> rfl) | (intro u hu; simp at hu; obtain ⟨_, _, rfl⟩ := hu; rfl))))
      refine .go ?_; repeat constructor
      refine .go ?_; repeat constructor
      refine EL.fieldAddr rfl rfl rfl rfl rfl rfl rfl rfl ?_
      (apply EL.loadB; exact rfl; exact rfl; exact rfl; exact rfl; exact rfl; (case hm => repeat constructor); exact rfl)
      refine EL.fieldAddr rfl rfl rfl rfl rfl rfl rfl rfl ?_
      (apply EL.loadB; exact rfl; exact rfl; exact rfl; exact rfl; exact rfl; (case hm => repeat constructor); exact rfl)
      refine EL.add (w64 (m.pos + n.pos)) rfl rfl rfl rfl rfl ?_
      refine EL.fieldAddr rfl rfl rfl rfl rfl rfl rfl rfl ?_
      (apply EL.storeB; exact rfl; exact rfl; exact rfl; exact rfl; exact rfl; exact rfl; (case p => repeat constructor); exact (by first | decide | exact Nat.le_of_ble_eq_true rfl | simp))
      refine .go ?_; repeat constructor
      refine EL.fieldAddr rfl rfl rfl rfl rfl rfl rfl rfl ?_
      (apply EL.loadB; exact rfl; exact rfl; exact rfl; exact rfl; exact rfl; (case hm => repeat constructor); exact rfl)
      refine EL.fieldAddr rfl rfl rfl rfl rfl rfl rfl rfl ?_
      (apply EL.loadB; exact rfl; exact rfl; exact rfl; exact rfl; exact rfl; (case hm => repeat constructor); exact rfl)
      refine EL.add (w64 (m.grp + n.grp)) rfl rfl rfl rfl rfl ?_
      refine EL.fieldAddr rfl rfl rfl rfl rfl rfl rfl rfl ?_
      (apply EL.storeB; exact rfl; exact rfl; exact rfl; exact rfl; exact rfl; exact rfl; (case p => repeat constructor); exact (by first | decide | exact Nat.le_of_ble_eq_true rfl | simp))
      refine .go ?_; repeat constructor
      refine EL.fieldAddr rfl rfl rfl rfl rfl rfl rfl rfl ?_
      (apply EL.loadB; exact rfl; exact rfl; exact rfl; exact rfl; exact rfl; (case hm => repeat constructor); exact rfl)
      refine EL.fieldAddr rfl rfl rfl rfl rfl rfl rfl rfl ?_
      (apply EL.loadB; exact rfl; exact rfl; exact rfl; exact rfl; exact rfl; (case hm => repeat constructor); exact rfl)
      refine EL.add (w64 (m.least + n.least)) rfl rfl rfl rfl rfl ?_
      refine EL.fieldAddr rfl rfl rfl rfl rfl rfl rfl rfl ?_
      (apply EL.storeB; exact rfl; exact rfl; exact rfl; exact rfl; exact rfl; exact rfl; (case p => repeat constructor); exact (by first | decide | exact Nat.le_of_ble_eq_true rfl | simp))
      refine .go ?_; repeat constructor
      refine EL.fieldAddr rfl rfl rfl rfl rfl rfl rfl rfl ?_
      (apply EL.loadB; exact rfl; exact rfl; exact rfl; exact rfl; exact rfl; (case hm => repeat constructor); exact rfl)
      refine EL.fieldAddr rfl rfl rfl rfl rfl rfl rfl rfl ?_
      (apply EL.loadB; exact rfl; exact rfl; exact rfl; exact rfl; exact rfl; (case hm => repeat constructor); exact rfl)
      refine EL.callP rfl rfl rfl ent85 rfl (more_c m.most n.most) ?_
      refine EL.fieldAddr rfl rfl rfl rfl rfl rfl rfl rfl ?_
      (apply EL.storeB; exact rfl; exact rfl; exact rfl; exact rfl; exact rfl; exact rfl; (case p => repeat constructor); exact (by first | decide | exact Nat.le_of_ble_eq_true rfl | simp))
      refine .go ?_; repeat constructor
      refine EL.cutX (X := Unit) (fun _ => [(1, Pv g1 0), (2, Pv g2 0), (3, Pv g3 0), (9, .slice (some ⟨kg, ko, none⟩) r.kids.length cap), (10, Iv (r.kids.length : Nat)), (11, Iv (i : Nat)), (6, Pv g6 0)]) (fun _ => HA.blk g3 (.cells #[Iv (w64 (m.pos + n.pos)), Iv (w64 (m.grp + n.grp)), Iv (w64 (m.least + n.least)), Iv (moreM m.most n.most), .bool (m.back || n.back), .bool (m.bol), .bool (m.eol)] 93) :: HA.blk g6 (.cells n.cells.toArray 93) :: HA.blk g2 (.cells Me.zero.cells.toArray 93) :: HA.blk g1 (.cells (reCells r (.slice (some ⟨kg, ko, none⟩) r.kids.length cap)).toArray 82) :: []) ?_ (fun _ => ?_)
      · refine .go ?_; repeat constructor
        refine EL.fieldAddr rfl rfl rfl rfl rfl rfl rfl rfl ?_
        (apply EL.loadB; exact rfl; exact rfl; exact rfl; exact rfl; exact rfl; (case hm => repeat constructor); exact rfl)
        refine EL.move rfl rfl rfl ?_
        first | refine EL.splitD (d := 43) rfl (fun hp43 => ?_) (fun hp43 => ?_) | refine EL.splitN (d := 43) rfl (fun hp43 => ?_) (fun hp43 => ?_) | refine EL.splitB (d := 43) rfl (fun hp43 => ?_) (fun hp43 => ?_)
        · refine EL.pass rfl rfl rfl ?_
          refine EL.pass rfl rfl rfl ?_
          refine EL.pickT rfl rfl rfl rfl ?_
          refine EL.fieldAddr rfl rfl rfl rfl rfl rfl rfl rfl ?_
          (apply EL.storeB; exact rfl; exact rfl; exact rfl; exact rfl; exact rfl; exact rfl; (case p => repeat constructor); exact (by first | decide | exact Nat.le_of_ble_eq_true rfl | simp))
          exact EL.endX () ⟨rfl, rfl, rfl, rfl, rfl, rfl, rfl, trivial⟩ (by rw [hp43]; exact (.i (by repeat constructor)))
        · refine EL.fieldAddr rfl rfl rfl rfl rfl rfl rfl rfl ?_
          (apply EL.loadB; exact rfl; exact rfl; exact rfl; exact rfl; exact rfl; (case hm => repeat constructor); exact rfl)
          refine EL.pickF rfl rfl rfl rfl ?_
          refine EL.fieldAddr rfl rfl rfl rfl rfl rfl rfl rfl ?_
          (apply EL.storeB; exact rfl; exact rfl; exact rfl; exact rfl; exact rfl; exact rfl; (case p => repeat constructor); exact (by first | decide | exact Nat.le_of_ble_eq_true rfl | simp))
          exact EL.endX () ⟨rfl, rfl, rfl, rfl, rfl, rfl, rfl, trivial⟩ (by rw [hp43]; exact (.i (by repeat constructor)))
      refine .go ?_; repeat constructor
      refine EL.cutX (X := Unit) (fun _ => [(1, Pv g1 0), (2, Pv g2 0), (3, Pv g3 0), (9, .slice (some ⟨kg, ko, none⟩) r.kids.length cap), (10, Iv (r.kids.length : Nat)), (11, Iv (i : Nat)), (6, Pv g6 0)]) (fun _ => HA.blk g3 (.cells #[Iv (w64 (m.pos + n.pos)), Iv (w64 (m.grp + n.grp)), Iv (w64 (m.least + n.least)), Iv (moreM m.most n.most), .bool (m.back || n.back), .bool (m.bol || n.bol), .bool (m.eol)] 93) :: HA.blk g6 (.cells n.cells.toArray 93) :: HA.blk g2 (.cells Me.zero.cells.toArray 93) :: HA.blk g1 (.cells (reCells r (.slice (some ⟨kg, ko, none⟩) r.kids.length cap)).toArray 82) :: []) ?_ (fun _ => ?_)
      · refine .go ?_; repeat constructor
        refine EL.fieldAddr rfl rfl rfl rfl rfl rfl rfl rfl ?_
        (apply EL.loadB; exact rfl; exact rfl; exact rfl; exact rfl; exact rfl; (case hm => repeat constructor); exact rfl)
        refine EL.move rfl rfl rfl ?_
        first | refine EL.splitD (d := 50) rfl (fun hp50 => ?_) (fun hp50 => ?_) | refine EL.splitN (d := 50) rfl (fun hp50 => ?_) (fun hp50 => ?_) | refine EL.splitB (d := 50) rfl (fun hp50 => ?_) (fun hp50 => ?_)
        · refine EL.pass rfl rfl rfl ?_
          refine EL.pass rfl rfl rfl ?_
          refine EL.pickT rfl rfl rfl rfl ?_
          refine EL.fieldAddr rfl rfl rfl rfl rfl rfl rfl rfl ?_
          (apply EL.storeB; exact rfl; exact rfl; exact rfl; exact rfl; exact rfl; exact rfl; (case p => repeat constructor); exact (by first | decide | exact Nat.le_of_ble_eq_true rfl | simp))
          exact EL.endX () ⟨rfl, rfl, rfl, rfl, rfl, rfl, rfl, trivial⟩ (by rw [hp50]; exact (.i (by repeat constructor)))
        · refine EL.fieldAddr rfl rfl rfl rfl rfl rfl rfl rfl ?_
          (apply EL.loadB; exact rfl; exact rfl; exact rfl; exact rfl; exact rfl; (case hm => repeat constructor); exact rfl)
          refine EL.pickF rfl rfl rfl rfl ?_
          refine EL.fieldAddr rfl rfl rfl rfl rfl rfl rfl rfl ?_
          (apply EL.storeB; exact rfl; exact rfl; exact rfl; exact rfl; exact rfl; exact rfl; (case p => repeat constructor); exact (by first | decide | exact Nat.le_of_ble_eq_true rfl | simp))
          exact EL.endX () ⟨rfl, rfl, rfl, rfl, rfl, rfl, rfl, trivial⟩ (by rw [hp50]; exact (.i (by repeat constructor)))
      refine .go ?_; repeat constructor
      refine EL.cutX (X := Unit) (fun _ => [(1, Pv g1 0), (2, Pv g2 0), (3, Pv g3 0), (9, .slice (some ⟨kg, ko, none⟩) r.kids.length cap), (10, Iv (r.kids.length : Nat)), (11, Iv (i : Nat)), (6, Pv g6 0)]) (fun _ => HA.blk g3 (.cells #[Iv (w64 (m.pos + n.pos)), Iv (w64 (m.grp + n.grp)), Iv (w64 (m.least + n.least)), Iv (moreM m.most n.most), .bool (m.back || n.back), .bool (m.bol || n.bol), .bool (m.eol || n.eol)] 93) :: HA.blk g6 (.cells n.cells.toArray 93) :: HA.blk g2 (.cells Me.zero.cells.toArray 93) :: HA.blk g1 (.cells (reCells r (.slice (some ⟨kg, ko, none⟩) r.kids.length cap)).toArray 82) :: []) ?_ (fun _ => ?_)
      · refine .go ?_; repeat constructor
        refine EL.fieldAddr rfl rfl rfl rfl rfl rfl rfl rfl ?_
        (apply EL.loadB; exact rfl; exact rfl; exact rfl; exact rfl; exact rfl; (case hm => repeat constructor); exact rfl)
        refine EL.move rfl rfl rfl ?_
        first | refine EL.splitD (d := 57) rfl (fun hp57 => ?_) (fun hp57 => ?_) | refine EL.splitN (d := 57) rfl (fun hp57 => ?_) (fun hp57 => ?_) | refine EL.splitB (d := 57) rfl (fun hp57 => ?_) (fun hp57 => ?_)
        · refine EL.pass rfl rfl rfl ?_
          refine EL.pass rfl rfl rfl ?_
          refine EL.pickT rfl rfl rfl rfl ?_
          refine EL.fieldAddr rfl rfl rfl rfl rfl rfl rfl rfl ?_
          (apply EL.storeB; exact rfl; exact rfl; exact rfl; exact rfl; exact rfl; exact rfl; (case p => repeat constructor); exact (by first | decide | exact Nat.le_of_ble_eq_true rfl | simp))
          exact EL.endX () ⟨rfl, rfl, rfl, rfl, rfl, rfl, rfl, trivial⟩ (by rw [hp57]; exact (.i (by repeat constructor)))
        · refine EL.fieldAddr rfl rfl rfl rfl rfl rfl rfl rfl ?_
          (apply EL.loadB; exact rfl; exact rfl; exact rfl; exact rfl; exact rfl; (case hm => repeat constructor); exact rfl)
          refine EL.pickF rfl rfl rfl rfl ?_
          refine EL.fieldAddr rfl rfl rfl rfl rfl rfl rfl rfl ?_
          (apply EL.storeB; exact rfl; exact rfl; exact rfl; exact rfl; exact rfl; exact rfl; (case p => repeat constructor); exact (by first | decide | exact Nat.le_of_ble_eq_true rfl | simp))
          exact EL.endX () ⟨rfl, rfl, rfl, rfl, rfl, rfl, rfl, trivial⟩ (by rw [hp57]; exact (.i (by repeat constructor)))
      refine .go ?_; repeat constructor
      refine EL.add1 rfl rfl rfl rfl (by omega) ?_
      refine EL.move rfl rfl rfl ?_
      refine .go ?_; repeat constructor
      exact PX.loop ⟨i + 1, m.plus n⟩ ⟨hlt', hgo⟩ (by simp only; omega) ⟨rfl, rfl, rfl, rfl, rfl, rfl, trivial⟩ (.i (by repeat constructor))
    · obtain rfl : i = r.kids.length := by omega
      rw [List.drop_length, measL] at hgo
      subst hgo
      refine .go ?_; repeat constructor
      refine EL.fieldAddr rfl rfl rfl rfl rfl rfl rfl rfl ?_
      (apply EL.loadB; exact rfl; exact rfl; exact rfl; exact rfl; exact rfl; (case hm => repeat constructor); exact rfl)
      repeat (first | apply EL.nil | apply ES.seq | apply ES.skip)
      refine ES.cutC (X := Unit) (fun _ => [(1, Pv g1 0), (2, Pv g2 0), (3, Pv g3 0)]) (fun _ => HA.blk g3 (.cells (finM r.kind r.lo r.hi m).cells.toArray 93) :: HA.blk g2 (.cells Me.zero.cells.toArray 93) :: HA.blk g1 (.cells (reCells r (.slice ad r.kids.length cap)).toArray 82) :: []) ?_ (fun _ => ?_)
      · refine .go ?_; repeat constructor
        refine EL.eqlI rfl rfl rfl rfl ?_
        refine EL.assign rfl rfl rfl ?_
        refine .go ?_; repeat constructor
        refine ES.condD rfl (fun h1 => ?_) (fun h1 => ?_)
        · have hk : r.kind = 1 := by have h : ((r.kind : Nat) : Int) = 1 := h1; omega
          have e : finM r.kind r.lo r.hi m = { m with pos := 1, least := 1, most := 1 } := by rw [hk]; rfl
          rw [e]
          refine .go ?_; repeat constructor
          refine EL.fieldAddr rfl rfl rfl rfl rfl rfl rfl rfl ?_
          (apply EL.storeB; exact rfl; exact rfl; exact rfl; exact rfl; exact rfl; exact rfl; (case p => repeat constructor); exact (by first | decide | exact Nat.le_of_ble_eq_true rfl | simp))
          refine EL.fieldAddr rfl rfl rfl rfl rfl rfl rfl rfl ?_
          (apply EL.storeB; exact rfl; exact rfl; exact rfl; exact rfl; exact rfl; exact rfl; (case p => repeat constructor); exact (by first | decide | exact Nat.le_of_ble_eq_true rfl | simp))
          refine EL.fieldAddr rfl rfl rfl rfl rfl rfl rfl rfl ?_
          (apply EL.storeB; exact rfl; exact rfl; exact rfl; exact rfl; exact rfl; exact rfl; (case p => repeat constructor); exact (by first | decide | exact Nat.le_of_ble_eq_true rfl | simp))
          refine .go ?_; repeat constructor
          exact PX.cutX () ⟨rfl, rfl, rfl, trivial⟩ (.i (by repeat constructor))
        have hk1 : ¬ r.kind = 1 := by have h : ¬ ((r.kind : Nat) : Int) = 1 := h1; omega
        refine .go ?_; repeat constructor
        refine EL.eqlI rfl rfl rfl rfl ?_
        refine EL.assign rfl rfl rfl ?_
        refine .go ?_; repeat constructor
        refine ES.condD rfl (fun h2 => ?_) (fun h2 => ?_)
        · have hk : r.kind = 2 := by have h : ((r.kind : Nat) : Int) = 2 := h2; omega
          have e : finM r.kind r.lo r.hi m = { m with bol := true } := by rw [hk]; rfl
          rw [e]
          refine .go ?_; repeat constructor
          refine EL.fieldAddr rfl rfl rfl rfl rfl rfl rfl rfl ?_
          (apply EL.storeB; exact rfl; exact rfl; exact rfl; exact rfl; exact rfl; exact rfl; (case p => repeat constructor); exact (by first | decide | exact Nat.le_of_ble_eq_true rfl | simp))
          refine .go ?_; repeat constructor
          exact PX.cutX () ⟨rfl, rfl, rfl, trivial⟩ (.i (by repeat constructor))
        have hk2 : ¬ r.kind = 2 := by have h : ¬ ((r.kind : Nat) : Int) = 2 := h2; omega
        refine .go ?_; repeat constructor
        refine EL.eqlI rfl rfl rfl rfl ?_
        refine EL.assign rfl rfl rfl ?_
        refine .go ?_; repeat constructor
        refine ES.condD rfl (fun h3 => ?_) (fun h3 => ?_)
        · have hk : r.kind = 3 := by have h : ((r.kind : Nat) : Int) = 3 := h3; omega
          have e : finM r.kind r.lo r.hi m = { m with eol := true } := by rw [hk]; rfl
          rw [e]
          refine .go ?_; repeat constructor
          refine EL.fieldAddr rfl rfl rfl rfl rfl rfl rfl rfl ?_
          (apply EL.storeB; exact rfl; exact rfl; exact rfl; exact rfl; exact rfl; exact rfl; (case p => repeat constructor); exact (by first | decide | exact Nat.le_of_ble_eq_true rfl | simp))
          refine .go ?_; repeat constructor
          exact PX.cutX () ⟨rfl, rfl, rfl, trivial⟩ (.i (by repeat constructor))
        have hk3 : ¬ r.kind = 3 := by have h : ¬ ((r.kind : Nat) : Int) = 3 := h3; omega
        refine .go ?_; repeat constructor
        refine EL.eqlI rfl rfl rfl rfl ?_
        refine EL.assign rfl rfl rfl ?_
        refine .go ?_; repeat constructor
        refine ES.condD rfl (fun h4 => ?_) (fun h4 => ?_)
        · have hk : r.kind = 4 := by have h : ((r.kind : Nat) : Int) = 4 := h4; omega
          have e : finM r.kind r.lo r.hi m = { m with grp := w64 (m.grp + 1) } := by rw [hk]; rfl
          rw [e]
          refine .go ?_; repeat constructor
          refine EL.fieldAddr rfl rfl rfl rfl rfl rfl rfl rfl ?_
          (apply EL.loadB; exact rfl; exact rfl; exact rfl; exact rfl; exact rfl; (case hm => repeat constructor); exact rfl)
          refine EL.add (w64 (m.grp + 1)) rfl rfl rfl rfl rfl ?_
          refine EL.fieldAddr rfl rfl rfl rfl rfl rfl rfl rfl ?_
          (apply EL.storeB; exact rfl; exact rfl; exact rfl; exact rfl; exact rfl; exact rfl; (case p => repeat constructor); exact (by first | decide | exact Nat.le_of_ble_eq_true rfl | simp))
          refine .go ?_; repeat constructor
          exact PX.cutX () ⟨rfl, rfl, rfl, trivial⟩ (.i (by repeat constructor))
        have hk4 : ¬ r.kind = 4 := by have h : ¬ ((r.kind : Nat) : Int) = 4 := h4; omega
        refine .go ?_; repeat constructor
        refine EL.eqlI rfl rfl rfl rfl ?_
        refine EL.assign rfl rfl rfl ?_
        refine .go ?_; repeat constructor
        refine ES.condD rfl (fun h6 => ?_) (fun h6 => ?_)
        · have hk : r.kind = 6 := by have h : ((r.kind : Nat) : Int) = 6 := h6; omega
          have e : finM r.kind r.lo r.hi m = { m with pos := 1, most := -1, back := true } := by rw [hk]; rfl
          rw [e]
          refine .go ?_; repeat constructor
          refine EL.fieldAddr rfl rfl rfl rfl rfl rfl rfl rfl ?_
          (apply EL.storeB; exact rfl; exact rfl; exact rfl; exact rfl; exact rfl; exact rfl; (case p => repeat constructor); exact (by first | decide | exact Nat.le_of_ble_eq_true rfl | simp))
          refine EL.fieldAddr rfl rfl rfl rfl rfl rfl rfl rfl ?_
          (apply EL.storeB; exact rfl; exact rfl; exact rfl; exact rfl; exact rfl; exact rfl; (case p => repeat constructor); exact (by first | decide | exact Nat.le_of_ble_eq_true rfl | simp))
          refine EL.fieldAddr rfl rfl rfl rfl rfl rfl rfl rfl ?_
          (apply EL.storeB; exact rfl; exact rfl; exact rfl; exact rfl; exact rfl; exact rfl; (case p => repeat constructor); exact (by first | decide | exact Nat.le_of_ble_eq_true rfl | simp))
          refine .go ?_; repeat constructor
          exact PX.cutX () ⟨rfl, rfl, rfl, trivial⟩ (.i (by repeat constructor))
        have hk6 : ¬ r.kind = 6 := by have h : ¬ ((r.kind : Nat) : Int) = 6 := h6; omega
        refine .go ?_; repeat constructor
        refine EL.eqlI rfl rfl rfl rfl ?_
        refine EL.assign rfl rfl rfl ?_
        refine .go ?_; repeat constructor
        refine ES.condD rfl (fun h5 => ?_) (fun h5 => ?_)
        rotate_left
        · have hk5 : ¬ r.kind = 5 := by have h : ¬ ((r.kind : Nat) : Int) = 5 := h5; omega
          have e : finM r.kind r.lo r.hi m = m := by unfold finM; rw [if_neg hk1, if_neg hk2, if_neg hk3, if_neg hk4, if_neg hk6, if_neg hk5]
          rw [e]
          refine .go ?_; repeat constructor
          exact PX.cutX () ⟨rfl, rfl, rfl, trivial⟩ (.i (by repeat constructor))
        have hk : r.kind = 5 := by have h : ((r.kind : Nat) : Int) = 5 := h5; omega
        have e : finM r.kind r.lo r.hi m = { m with pos := w64 (m.pos * timesI r.lo r.hi), least := w64 (m.least * r.lo), most := manyM m.most r.hi } := by rw [hk]; rfl
        rw [e]
        refine .go ?_; repeat constructor
        refine EL.fieldAddr rfl rfl rfl rfl rfl rfl rfl rfl ?_
        (apply EL.loadB; exact rfl; exact rfl; exact rfl; exact rfl; exact rfl; (case hm => repeat constructor); exact rfl)
        refine EL.assign rfl rfl rfl ?_
        refine .go ?_; repeat constructor
        refine EL.move rfl rfl rfl ?_
        refine EL.lss rfl rfl rfl rfl ?_
        refine .go ?_; repeat constructor
        refine ES.cutC (X := Unit) (fun _ => [(1, Pv g1 0), (2, Pv g2 0), (3, Pv g3 0), (7, Iv (timesI r.lo r.hi))]) (fun _ => HA.blk g3 (.cells m.cells.toArray 93) :: HA.blk g2 (.cells Me.zero.cells.toArray 93) :: HA.blk g1 (.cells (reCells r (.slice ad r.kids.length cap)).toArray 82) :: []) ?_ (fun _ => ?_)
        · refine ES.condD rfl (fun hneg => ?_) (fun hpos => ?_)
          · refine .go ?_; repeat constructor
            refine EL.fieldAddr rfl rfl rfl rfl rfl rfl rfl rfl ?_
            (apply EL.loadB; exact rfl; exact rfl; exact rfl; exact rfl; exact rfl; (case hm => repeat constructor); exact rfl)
            refine EL.ofRV (RV.maxI rfl rfl) rfl rfl rfl (by intro c h; cases h) ?_
            refine EL.assign rfl rfl rfl ?_
            refine .go ?_; repeat constructor
            exact PX.cutX () ⟨rfl, rfl, rfl, getA rfl (congrArg Iv (by unfold timesI; rw [if_pos hneg])), trivial⟩ (.i (by repeat constructor))
          · refine .go ?_; repeat constructor
            exact PX.cutX () ⟨rfl, rfl, rfl, getA rfl (congrArg Iv (by unfold timesI; rw [if_neg hpos])), trivial⟩ (.i (by repeat constructor))
        refine .go ?_; repeat constructor
        refine EL.fieldAddr rfl rfl rfl rfl rfl rfl rfl rfl ?_
        (apply EL.loadB; exact rfl; exact rfl; exact rfl; exact rfl; exact rfl; (case hm => repeat constructor); exact rfl)
        refine EL.move rfl rfl rfl ?_
        refine EL.mul (w64 (m.pos * timesI r.lo r.hi)) rfl rfl rfl rfl rfl ?_
        refine EL.fieldAddr rfl rfl rfl rfl rfl rfl rfl rfl ?_
        (apply EL.storeB; exact rfl; exact rfl; exact rfl; exact rfl; exact rfl; exact rfl; (case p => repeat constructor); exact (by first | decide | exact Nat.le_of_ble_eq_true rfl | simp))
        refine .go ?_; repeat constructor
        refine EL.fieldAddr rfl rfl rfl rfl rfl rfl rfl rfl ?_
        (apply EL.loadB; exact rfl; exact rfl; exact rfl; exact rfl; exact rfl; (case hm => repeat constructor); exact rfl)
        refine EL.fieldAddr rfl rfl rfl rfl rfl rfl rfl rfl ?_
        (apply EL.loadB; exact rfl; exact rfl; exact rfl; exact rfl; exact rfl; (case hm => repeat constructor); exact rfl)
        refine EL.mul (w64 (m.least * r.lo)) rfl rfl rfl rfl rfl ?_
        refine EL.fieldAddr rfl rfl rfl rfl rfl rfl rfl rfl ?_
        (apply EL.storeB; exact rfl; exact rfl; exact rfl; exact rfl; exact rfl; exact rfl; (case p => repeat constructor); exact (by first | decide | exact Nat.le_of_ble_eq_true rfl | simp))
        refine .go ?_; repeat constructor
        refine EL.fieldAddr rfl rfl rfl rfl rfl rfl rfl rfl ?_
        (apply EL.loadB; exact rfl; exact rfl; exact rfl; exact rfl; exact rfl; (case hm => repeat constructor); exact rfl)
        refine EL.fieldAddr rfl rfl rfl rfl rfl rfl rfl rfl ?_
        (apply EL.loadB; exact rfl; exact rfl; exact rfl; exact rfl; exact rfl; (case hm => repeat constructor); exact rfl)
        refine EL.callP rfl rfl rfl ent86 rfl (many_c m.most r.hi) ?_
        refine EL.fieldAddr rfl rfl rfl rfl rfl rfl rfl rfl ?_
        (apply EL.storeB; exact rfl; exact rfl; exact rfl; exact rfl; exact rfl; exact rfl; (case p => repeat constructor); exact (by first | decide | exact Nat.le_of_ble_eq_true rfl | simp))
        refine .go ?_; repeat constructor
        exact PX.cutX () ⟨rfl, rfl, rfl, trivial⟩ (.i (by repeat constructor))
      refine .go ?_; repeat constructor
      (apply EL.loadAggB; exact rfl; exact rfl; exact rfl; exact rfl; exact rfl; (case hm => repeat constructor); exact rfl)
      (apply EL.storeAll; exact rfl; exact rfl; exact rfl; exact rfl; exact rfl; (case p => repeat constructor); exact rfl; (case h1 => exact (by first | rfl | exact all1 rfl | (intro u hu; simp only [List.mem_cons, List.not_mem_nil, or_false] at hu; rcases hu with rfl | rfl | rfl | rfl <;> rfl) | (intro u hu; simp at hu; rcases hu with rfl | rfl | rfl | rfl <;> rfl) | (intro u hu; simp at hu; rcases hu with rfl | rfl | rfl <;> rfl) | (intro u hu; simp at hu; rcases hu with rfl | rfl <;> rfl) | (intro u hu; simp at hu; obtain ⟨_, _, rfl⟩ := hu; rfl))))
      refine .go ?_; repeat constructor
      exact PX.ret rfl Try.results63 (.cons (.blkA rfl rfl rfl (by repeat constructor) rfl) .nil) (fun w hs => ⟨(), rfl, hs.ent (.i (by repeat constructor))⟩)
theorem meas_c (r : RE) (hf : r.fine) (ad : Option Addr) (cap : Nat) (w : World) (h : KidsRd w w.heap.size r.kids ad) : Pure Try.prog 63 #[.agg (reCells r (.slice ad r.kids.length cap)).toArray] (fun _ : Unit => .agg (measM r).cells.toArray) (fun _ => []) w := of_n r.sz r (Nat.le_refl _) hf ad cap w h
def ofM (t : List UInt8) : Me × Int × Nat := if (parseM t).e ≠ 0 then (Me.zero, (parseM t).e, (parseM t).at_) else (measM (parseM t).tree, 0, 0)
theorem measOf_c (t : List UInt8) (ht : t.length ≤ 4611686018427387904) (w : World) (hG : GR w w.heap.size) :
    Pure Try.prog 42 #[Sv t] (fun _ : Unit => .tuple #[.agg (ofM t).1.cells.toArray, .agg #[Iv (ofM t).2.1, Iv ((ofM t).2.2 : Nat)]]) (fun _ => []) w := by
  have hw : ofM t = if (parseM t).e ≠ 0 then (Me.zero, (parseM t).e, (parseM t).at_) else (measM (parseM t).tree, 0, 0) := rfl
  have hpf := parse_fine t
  have hpc := fun w hG => parse_c t ht w hG
  generalize parseM t = p at hw hpf hpc
  obtain ⟨tree, pe, pat⟩ := p
  dsimp only at hw hpf hpc
  refine calls_of_ES TB Try.func42 rfl _ Try.ntmps42 rfl (Sat.start w) ?_
  refine .go ?_; repeat constructor
  (refine EL.alloc rfl rfl rfl ?_; intro g2)
  (refine EL.alloc rfl rfl rfl ?_; intro g3)
  refine .go ?_; repeat constructor
  refine EL.move rfl rfl rfl ?_
  (refine EL.callXw rfl rfl rfl ent40 rfl (fun w hs => hpc w (GR.sat hG hs)) ?_; intro px)
  refine EL.move rfl rfl rfl ?_
  refine EL.extract rfl rfl rfl rfl ?_
  refine EL.extract rfl rfl rfl rfl ?_
  (refine EL.alloc rfl rfl rfl ?_; intro g4)
  (refine EL.alloc rfl rfl rfl ?_; intro g5)
  (apply EL.storeAll; exact rfl; exact rfl; exact rfl; exact rfl; exact rfl; (case p => repeat constructor); exact rfl; (case h1 => exact (by first | rfl | exact all1 rfl | (intro u hu; simp only [List.mem_cons, List.not_mem_nil, or_false] at hu; rcases hu with rfl | rfl | rfl | rfl <;> rfl) | (intro u hu; simp at hu; rcases hu with rfl | rfl | rfl | rfl <;> rfl) | (intro u hu; simp at hu; rcases hu with rfl | rfl | rfl <;> rfl) | (intro u hu; simp at hu; rcases hu with rfl | rfl <;> rfl) | (intro u hu; simp at hu; obtain ⟨_, _, rfl⟩ := hu; rfl))))
  (apply EL.storeAll; exact rfl; exact rfl; exact rfl; exact rfl; exact rfl; (case p => repeat constructor); exact rfl; (case h1 => exact (by first | rfl | exact all1 rfl | (intro u hu; simp only [List.mem_cons, List.not_mem_nil, or_false] at hu; rcases hu with rfl | rfl | rfl | rfl <;> rfl) | (intro u hu; simp at hu; rcases hu with rfl | rfl | rfl | rfl <;> rfl) | (intro u hu; simp at hu; rcases hu with rfl | rfl | rfl <;> rfl) | (intro u hu; simp at hu; rcases hu with rfl | rfl <;> rfl) | (intro u hu; simp at hu; obtain ⟨_, _, rfl⟩ := hu; rfl))))
  refine .go ?_; repeat constructor
  refine .go ?_; repeat constructor
  refine EL.fieldAddr rfl rfl rfl rfl rfl rfl rfl rfl ?_
  (apply EL.loadB; exact rfl; exact rfl; exact rfl; exact rfl; exact rfl; (case hm => repeat constructor); exact rfl)
  refine EL.neqI rfl rfl rfl rfl ?_
  refine .go ?_; repeat constructor
  refine ES.condN rfl (fun hne => ?_) (fun he => ?_)
  · rw [if_pos hne] at hw
    rw [hw]
    refine .g0 ?_; repeat constructor
    refine ES.draw (X := Unit) (fun _ => [(2, Pv g2 0), (3, Pv g3 0)]) (fun _ => HA.blk g2 (.cells Me.zero.cells.toArray 93) :: HA.blk g3 (.cells #[Iv pe, Iv (pat : Nat)] 67) :: []) (HA.blk g5 (.cells #[Iv pe, Iv (pat : Nat)] 67) :: []) mixed (.i (by repeat constructor)) ?_ (fun _ => ?_)
    · refine ED.take 1 rfl (by decide +kernel) CutX.no_panic (by decide +kernel) rfl rfl rfl (RV.loadAggB rfl rfl rfl (by repeat constructor) rfl) ?_
      refine ED.loud 0 rfl (by decide +kernel) ?_
      refine EL.buildZ rfl rfl rfl rfl rfl ?_
      refine ED.next (.i (by repeat constructor)) ?_
      refine ED.loud 2 rfl (by decide +kernel) ?_
      (apply EL.storeAll; exact rfl; exact rfl; exact rfl; exact rfl; exact rfl; (case p => repeat constructor); exact rfl; (case h1 => exact (by first | rfl | exact all1 rfl | (intro u hu; simp only [List.mem_cons, List.not_mem_nil, or_false] at hu; rcases hu with rfl | rfl | rfl | rfl <;> rfl) | (intro u hu; simp at hu; rcases hu with rfl | rfl | rfl | rfl <;> rfl) | (intro u hu; simp at hu; rcases hu with rfl | rfl | rfl <;> rfl) | (intro u hu; simp at hu; rcases hu with rfl | rfl <;> rfl) | (intro u hu; simp at hu; obtain ⟨_, _, rfl⟩ := hu; rfl))))
      refine ED.next (.i (by repeat constructor)) ?_
      refine ED.last 3 rfl (by decide +kernel) (by decide +kernel) (by decide +kernel) ?_
      (apply EL.storeAll; exact rfl; exact rfl; exact rfl; exact rfl; exact rfl; (case p => repeat constructor); exact rfl; (case h1 => exact (by first | rfl | exact all1 rfl | (intro u hu; simp only [List.mem_cons, List.not_mem_nil, or_false] at hu; rcases hu with rfl | rfl | rfl | rfl <;> rfl) | (intro u hu; simp at hu; rcases hu with rfl | rfl | rfl | rfl <;> rfl) | (intro u hu; simp at hu; rcases hu with rfl | rfl | rfl <;> rfl) | (intro u hu; simp at hu; rcases hu with rfl | rfl <;> rfl) | (intro u hu; simp at hu; obtain ⟨_, _, rfl⟩ := hu; rfl))))
      refine EL.endQ ?_
      exact PX.cutX () ⟨rfl, rfl, trivial⟩ (.i (by repeat constructor))
    refine .go ?_; repeat constructor
    exact PX.ret rfl Try.results42 (.cons (.blkA rfl rfl rfl (by repeat constructor) rfl) (.cons (.blkA rfl rfl rfl (by repeat constructor) rfl) .nil)) (fun w hs => ⟨(), rfl, hs.ent (.i (by repeat constructor))⟩)
  rw [if_neg (fun h => h he)] at hw
  rw [hw]
  refine .go ?_; repeat constructor
  (apply EL.loadAggB; exact rfl; exact rfl; exact rfl; exact rfl; exact rfl; (case hm => repeat constructor); exact rfl)
  refine EL.callPw rfl rfl rfl ent63 rfl (fun w hs => meas_c tree hpf px.ad px.cap w (kids_of hs (by repeat constructor))) ?_
  refine EL.buildZ rfl rfl rfl rfl rfl ?_
  (apply EL.storeAll; exact rfl; exact rfl; exact rfl; exact rfl; exact rfl; (case p => repeat constructor); exact rfl; (case h1 => exact (by first | rfl | exact all1 rfl | (intro u hu; simp only [List.mem_cons, List.not_mem_nil, or_false] at hu; rcases hu with rfl | rfl | rfl | rfl <;> rfl) | (intro u hu; simp at hu; rcases hu with rfl | rfl | rfl | rfl <;> rfl) | (intro u hu; simp at hu; rcases hu with rfl | rfl | rfl <;> rfl) | (intro u hu; simp at hu; rcases hu with rfl | rfl <;> rfl) | (intro u hu; simp at hu; obtain ⟨_, _, rfl⟩ := hu; rfl))))
  (apply EL.storeAll; exact rfl; exact rfl; exact rfl; exact rfl; exact rfl; (case p => repeat constructor); exact rfl; (case h1 => exact (by first | rfl | exact all1 rfl | (intro u hu; simp only [List.mem_cons, List.not_mem_nil, or_false] at hu; rcases hu with rfl | rfl | rfl | rfl <;> rfl) | (intro u hu; simp at hu; rcases hu with rfl | rfl | rfl | rfl <;> rfl) | (intro u hu; simp at hu; rcases hu with rfl | rfl | rfl <;> rfl) | (intro u hu; simp at hu; rcases hu with rfl | rfl <;> rfl) | (intro u hu; simp at hu; obtain ⟨_, _, rfl⟩ := hu; rfl))))
  refine .go ?_; repeat constructor
  exact PX.ret rfl Try.results42 (.cons (.blkA rfl rfl rfl (by repeat constructor) rfl) (.cons (.blkA rfl rfl rfl (by repeat constructor) rfl) .nil)) (fun w hs => ⟨(), rfl, hs.ent (.i (by repeat constructor))⟩)
end Go.Proofs.Ytblpgpgbnlhjlaa
