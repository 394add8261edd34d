/- Layer 22 (pick): New. -/
import Derived.Test.YtblpgpgbnlhjlaaQa
namespace Go.Proofs.Ytblpgpgbnlhjlaa
open Go Go.RowKit Sl
set_option maxRecDepth 100000
set_option maxHeartbeats 8000000
set_option linter.unusedVariables false
set_option linter.unusedSimpArgs false
attribute [local irreducible] ES EL PX wps

structure Chc where
  row : Rw
  a : Option Mt
  b : Option Mt
  on : Bool
def chC (c : Chc) : List Value := rwC c.row ++ [ptrV c.a, ptrV c.b, .bool c.on]
def chsC (l : List Chc) : List Value := l.flatMap chC
theorem rwsC_get : ∀ (l : List Rw) (i : Nat) (r : Rw), l[i]? = some r → ∀ j u, (rwC r)[j]? = some u → (rwsC l)[i * 7 + j]? = some u
  | [], i, r, h, _, _, _ => by simp at h
  | r' :: l, 0, r, h, j, u, hj => by
    simp only [List.getElem?_cons_zero, Option.some.injEq] at h
    subst h
    have hlt := (List.getElem?_eq_some_iff.1 hj).1
    rw [Nat.zero_mul, Nat.zero_add]
    show (rwC r' ++ rwsC l)[j]? = some u
    rw [List.getElem?_append_left hlt]; exact hj
  | r' :: l, i + 1, r, h, j, u, hj => by
    simp only [List.getElem?_cons_succ] at h
    have ih := rwsC_get l i r h j u hj
    have hl : (rwC r').length = 7 := rfl
    show (rwC r' ++ rwsC l)[(i + 1) * 7 + j]? = some u
    rw [List.getElem?_append_right (by omega), show (i + 1) * 7 + j - (rwC r').length = i * 7 + j by omega]
    exact ih
theorem rwsC_len : ∀ l : List Rw, (rwsC l).length = l.length * 7
  | [] => rfl
  | r :: l => by
    have := rwsC_len l
    simp only [rwsC, List.flatMap_cons, List.length_append, List.length_cons] at this ⊢
    rw [this, show (rwC r).length = 7 from rfl]; omega
structure PkSt where
  ad : Option Addr
  cap : Nat
  cs : List Chc
  ms : List Mt
structure PkOk (rows : List Rw) (z : PkSt) : Prop where
  row : z.cs.map Chc.row = rows
  on : ∀ c ∈ z.cs, c.on = false
  a : ∀ c ∈ z.cs, MtOf c.row.A c.a ∧ ∀ q, c.a = some q → q ∈ z.ms
  b : ∀ c ∈ z.cs, MtOf c.row.B c.b ∧ ∀ q, c.b = some q → q ∈ z.ms
  src : ∀ q ∈ z.ms, ∃ r ∈ rows, (hasM r.A ∧ q.2 = r.A.re) ∨ (hasM r.B ∧ q.2 = r.B.re)
theorem MtOf.src {a : Ad} {o : Option Mt} (h : MtOf a o) {q : Mt} (e : o = Option.some q) : hasM a ∧ q.2 = a.re := by
  by_cases hm : hasM a
  · obtain ⟨g, hg⟩ := h.some hm
    rw [e] at hg
    cases hg
    exact ⟨hm, rfl⟩
  · have := h.none hm
    rw [e] at this
    cases this
def pkNE (rows : List Rw) : Int := if 4096 < rows.length then 4 else pksE rows
inductive NwX (rows : List Rw) : Type
  | bad (h : pkNE rows ≠ 0)
  | ok (h : pkNE rows = 0) (gp : Nat) (z : PkSt) (hz : PkOk rows z)
abbrev PKB (gp : Nat) (ad : Option Addr) (n cap : Nat) (last : Option Mt) : HA := HA.blk gp (.cells #[.slice ad n cap, ptrV last] 119)
abbrev CRow (ad : Option Addr) (cap : Nat) (cs : List Chc) : HA := HA.row (.slice ad cs.length cap) 123 10 cs.length (chsC cs)
def NwX.val {rows : List Rw} : NwX rows → Value
  | .bad _ => .tuple #[.pointer none, Iv (pkNE rows)]
  | .ok _ gp _ _ => .tuple #[Pv gp 0, Iv 0]
def NwX.H {rows : List Rw} : NwX rows → List HA
  | .bad _ => []
  | .ok _ gp z _ => [PKB gp z.ad z.cs.length z.cap none, CRow z.ad z.cap z.cs, HA.mats z.ms]
theorem RdX.absorb {a : Ad} (x : RdX a) {w0 w : World} {B : Nat} {ms : List Mt} {L R : List HA} (h : Sat w0 B (x.H ++ (L ++ HA.mats ms :: R)) w) : Sat w0 B (L ++ HA.mats (ms ++ x.o.toList) :: R) w := by
  obtain ⟨o, is⟩ := x
  cases o with
  | none =>
    rw [show ms ++ (none : Option Mt).toList = ms from List.append_nil ms]
    exact h
  | some q =>
    have h1 : Sat w0 B (MB q.1 q.2 (meOf q.2) 0 :: HA.mats (ms ++ []) :: (L ++ R)) w := by
      rw [List.append_nil]
      exact Sat.perm h (by
        show (MB q.1 q.2 (meOf q.2) 0 :: (L ++ HA.mats ms :: R)).Perm _
        exact List.perm_middle.cons _)
    have h2 := Sat.matsIn h1
    exact Sat.perm h2 List.perm_middle.symm
theorem pickNew_c (rows : List Rw) (hre : ∀ r ∈ rows, r.A.re.length ≤ 4611686018427387904 ∧ r.B.re.length ≤ 4611686018427387904) (ad0 : Option Addr) (cap0 : Nat) (w : World) (hG : GR w w.heap.size) (hrd : Rd w w.heap.size ad0 (rwsC rows)) :
    Pure Try.prog 31 #[.slice ad0 rows.length cap0] (fun x : NwX rows => x.val) (fun x => x.H) w := by
  have hrl := rwsC_len rows
  refine calls_of_ES TB Try.func31 rfl _ Try.ntmps31 rfl (Sat.start w) ?_
  refine .go ?_; repeat constructor
  refine EL.assign rfl rfl rfl ?_
  refine EL.assign rfl rfl rfl ?_
  refine .go ?_; repeat constructor
  refine EL.move rfl rfl rfl ?_
  refine EL.lenL rfl rfl rfl rfl rfl ?_
  refine EL.gtr rfl rfl rfl rfl ?_
  refine .go ?_; repeat constructor
  refine ES.condD rfl (fun hfull => ?_) (fun hroom => ?_)
  · have he : pkNE rows = 4 := if_pos (by omega)
    refine .go ?_; repeat constructor
    refine EL.assign rfl rfl rfl ?_
    refine EL.assign rfl rfl rfl ?_
    refine .go ?_; repeat constructor
    exact PX.ret rfl Try.results31 (.cons (.tmp rfl) (.cons (.tmp rfl) .nil)) (fun w hs => ⟨.bad (by rw [he]; decide), congrArg (fun e : Int => Ending.returned (.tuple #[.pointer none, Iv e])) he.symm, hs.ent (.i (by repeat constructor))⟩)
  have hne : pkNE rows = pksE rows := if_neg (by omega)
  refine .go ?_; repeat constructor
  refine EL.buildZ rfl rfl rfl rfl rfl ?_
  (refine EL.box rfl rfl rfl ?_; intro g14)
  refine EL.assign rfl rfl rfl ?_
  refine .go ?_; repeat constructor
  refine EL.nilRow 123 10 ?_
  refine EL.imp (H' := PKB g14 none 0 0 none :: CRow none 0 [] :: HA.mats [] :: []) (fun w hs => (Sat.mats0 hs).ent (.i (by repeat constructor))) ?_
  refine .go ?_; repeat constructor
  refine EL.move rfl rfl rfl ?_
  refine EL.lenL rfl rfl rfl rfl rfl ?_
  refine EL.move rfl rfl rfl ?_
  refine .go ?_; repeat constructor
  refine ES.loop (σ := PkSt) (fun z => z.cs.length ≤ rows.length ∧ PkOk (rows.take z.cs.length) z ∧ pksE (rows.drop z.cs.length) = pksE rows) (fun z => [(0, .slice ad0 rows.length cap0), (4, Pv g14 0), (15, .slice ad0 rows.length cap0), (16, Iv (rows.length : Nat)), (17, Iv (z.cs.length : Nat))])
    (fun z => PKB g14 z.ad z.cs.length z.cap none :: CRow z.ad z.cap z.cs :: HA.mats z.ms :: []) (fun z => rows.length - z.cs.length) ⟨none, 0, [], []⟩ ⟨Nat.zero_le _, ⟨rfl, by simp, by simp, by simp, by simp⟩, rfl⟩ ⟨rfl, rfl, rfl, rfl, rfl, trivial⟩ (.i (by repeat constructor)) ?_
  rintro ⟨ad, cap, cs, ms⟩ ⟨hi, hok, hgo⟩
  dsimp only at hi hok hgo ⊢
  obtain ⟨i, hic⟩ : ∃ i, i = cs.length := ⟨_, rfl⟩
  rw [← hic] at hi hok hgo
  unfold CRow
  rw [← hic]
  refine .go ?_; repeat constructor
  refine EL.lss rfl rfl rfl rfl ?_
  refine .go ?_; repeat constructor
  refine ES.condD rfl (fun hlt => ?_) (fun hge => ?_)
  rotate_left
  · obtain rfl : i = rows.length := by omega
    rw [List.drop_length, pksE] at hgo
    rw [List.take_length] at hok
    refine .go ?_; repeat constructor
    refine EL.move rfl rfl rfl ?_
    refine EL.assign rfl rfl rfl ?_
    refine EL.assign rfl rfl rfl ?_
    refine .go ?_; repeat constructor
    exact PX.ret rfl Try.results31 (.cons (.tmp rfl) (.cons (.tmp rfl) .nil)) (fun w hs => ⟨.ok (by rw [hne, ← hgo]) g14 ⟨ad, cap, cs, ms⟩ hok, rfl, by unfold NwX.H CRow; dsimp only; rw [← hic]; exact hs.ent (.i (by repeat constructor))⟩)
  have hlt' : i < rows.length := by omega
  obtain ⟨r, hri⟩ : ∃ r, rows[i]? = some r := ⟨_, List.getElem?_eq_getElem hlt'⟩
  obtain ⟨hra, hrb⟩ := hre r (List.mem_of_getElem? hri)
  rw [List.drop_eq_getElem_cons hlt', show rows[i] = r from (List.getElem?_eq_some_iff.1 hri).2, pksE] at hgo
  obtain ⟨rg, ro, rfl, _⟩ := hrd (fun e => by rw [e] at hrl; simp at hrl; omega)
  refine .go ?_; repeat constructor
  refine EL.indexAddrL rfl rfl rfl rfl rfl rfl rfl (by omega) ?_
  refine EL.ofRV (RV.loadOldA (j := i * 7) (vs := rwC r) rfl rfl rfl rfl (by simp [rwC, adC]) hrd (rwsC_get rows i r hri)) rfl rfl rfl (by intro c h; cases h) ?_
  (refine EL.alloc rfl rfl rfl ?_; intro g6)
  (apply EL.storeAll; exact rfl; exact rfl; exact rfl; exact rfl; exact rfl; (case p => repeat constructor); exact rfl; (case h1 => exact (by first | rfl | exact all1 rfl | (intro u hu; simp only [List.mem_cons, List.not_mem_nil, or_false] at hu; rcases hu with rfl | rfl | rfl | rfl <;> rfl) | (intro u hu; simp at hu; rcases hu with rfl | rfl | rfl | rfl <;> rfl) | (intro u hu; simp at hu; rcases hu with rfl | rfl | rfl <;> rfl) | (intro u hu; simp at hu; rcases hu with rfl | rfl <;> rfl) | (intro u hu; simp at hu; obtain ⟨_, _, rfl⟩ := hu; rfl))))
  refine .go ?_; repeat constructor
  refine .go ?_; repeat constructor
  refine EL.fieldAddr rfl rfl rfl rfl rfl rfl rfl rfl ?_
  refine EL.ofRV (RV.loadBA (adC r.A) rfl rfl rfl rfl (by repeat constructor) rfl) rfl rfl rfl (by intro c h; cases h) ?_
  (refine EL.callXw rfl rfl rfl ent49 rfl (fun w hs => pickRead_c r.A hra w (GR.sat hG hs)) ?_; intro xa; refine EL.imp (H' := HA.blk g6 (.cells (rwC r).toArray 58) :: PKB g14 ad i cap none :: HA.row (.slice ad i cap) 123 10 i (chsC cs) :: HA.mats (ms ++ xa.o.toList) :: []) (fun w hs => RdX.absorb xa (L := [HA.blk g6 (.cells (rwC r).toArray 58), PKB g14 ad i cap none, HA.row (.slice ad i cap) 123 10 i (chsC cs)]) hs) ?_)
  refine EL.move rfl rfl rfl ?_
  refine EL.extract rfl rfl rfl rfl ?_
  refine EL.extract rfl rfl rfl rfl ?_
  refine EL.assign rfl rfl rfl ?_
  refine EL.assign rfl rfl rfl ?_
  refine .go ?_; repeat constructor
  refine .go ?_; repeat constructor
  refine EL.move rfl rfl rfl ?_
  refine EL.neqI rfl rfl rfl rfl ?_
  refine .go ?_; repeat constructor
  refine ES.condN rfl (fun hea => ?_) (fun hea => ?_)
  · have he : pkNE rows = readE r.A := by
      rw [hne, ← hgo]
      unfold pkE
      rw [if_pos hea, if_pos hea]
    refine .go ?_; repeat constructor
    refine EL.move rfl rfl rfl ?_
    refine EL.assign rfl rfl rfl ?_
    refine EL.assign rfl rfl rfl ?_
    refine .go ?_; repeat constructor
    exact PX.ret rfl Try.results31 (.cons (.tmp rfl) (.cons (.tmp rfl) .nil)) (fun w hs => ⟨.bad (by rw [he]; exact hea), congrArg (fun e : Int => Ending.returned (.tuple #[.pointer none, Iv e])) he.symm, hs.ent (.nil _)⟩)
  have hea' : ¬ readE r.A ≠ 0 := fun h => h hea
  refine .go ?_; repeat constructor
  refine EL.fieldAddr rfl rfl rfl rfl rfl rfl rfl rfl ?_
  refine EL.ofRV (RV.loadBA (adC r.B) rfl rfl rfl rfl (by repeat constructor) rfl) rfl rfl rfl (by intro c h; cases h) ?_
  (refine EL.callXw rfl rfl rfl ent49 rfl (fun w hs => pickRead_c r.B hrb w (GR.sat hG hs)) ?_; intro xb; refine EL.imp (H' := HA.blk g6 (.cells (rwC r).toArray 58) :: PKB g14 ad i cap none :: HA.row (.slice ad i cap) 123 10 i (chsC cs) :: HA.mats (ms ++ xa.o.toList ++ xb.o.toList) :: []) (fun w hs => RdX.absorb xb (L := [HA.blk g6 (.cells (rwC r).toArray 58), PKB g14 ad i cap none, HA.row (.slice ad i cap) 123 10 i (chsC cs)]) hs) ?_)
  refine EL.move rfl rfl rfl ?_
  refine EL.extract rfl rfl rfl rfl ?_
  refine EL.extract rfl rfl rfl rfl ?_
  refine EL.assign rfl rfl rfl ?_
  refine EL.assign rfl rfl rfl ?_
  refine .go ?_; repeat constructor
  refine .go ?_; repeat constructor
  refine EL.move rfl rfl rfl ?_
  refine EL.neqI rfl rfl rfl rfl ?_
  refine .go ?_; repeat constructor
  refine ES.condN rfl (fun heb => ?_) (fun heb => ?_)
  · have he : pkNE rows = readE r.B := by
      rw [hne, ← hgo]
      unfold pkE
      rw [if_neg hea', if_pos heb, if_pos heb]
    refine .go ?_; repeat constructor
    refine EL.move rfl rfl rfl ?_
    refine EL.assign rfl rfl rfl ?_
    refine EL.assign rfl rfl rfl ?_
    refine .go ?_; repeat constructor
    exact PX.ret rfl Try.results31 (.cons (.tmp rfl) (.cons (.tmp rfl) .nil)) (fun w hs => ⟨.bad (by rw [he]; exact heb), congrArg (fun e : Int => Ending.returned (.tuple #[.pointer none, Iv e])) he.symm, hs.ent (.nil _)⟩)
  have heb' : ¬ readE r.B ≠ 0 := fun h => h heb
  refine .go ?_; repeat constructor
  refine EL.cutX (X := Unit) (fun _ => [(0, .slice (some ⟨rg, ro, none⟩) rows.length cap0), (4, Pv g14 0), (6, Pv g6 0), (7, ptrV xa.o), (9, ptrV xb.o), (15, .slice (some ⟨rg, ro, none⟩) rows.length cap0), (16, Iv (rows.length : Nat)), (17, Iv (i : Nat)), (48, .bool (decide (r.A.kind = 0 ∧ r.B.kind ≠ 0)))])
    (fun _ => HA.blk g6 (.cells (rwC r).toArray 58) :: PKB g14 ad i cap none :: HA.row (.slice ad i cap) 123 10 i (chsC cs) :: HA.mats (ms ++ xa.o.toList ++ xb.o.toList) :: []) ?_ (fun _ => ?_)
  · refine .go ?_; repeat constructor
    refine EL.fieldAddr rfl rfl rfl rfl rfl rfl rfl rfl ?_
    refine EL.fieldAddr rfl rfl rfl rfl rfl rfl rfl rfl ?_
    (apply EL.loadB; exact rfl; exact rfl; exact rfl; exact rfl; exact rfl; (case hm => repeat constructor); exact rfl)
    refine EL.eqlI rfl rfl rfl rfl ?_
    refine EL.move rfl rfl rfl ?_
    first | refine EL.splitD (d := 43) rfl (fun hp43 => ?_) (fun hp43 => ?_) | refine EL.splitN (d := 43) rfl (fun hp43 => ?_) (fun hp43 => ?_) | refine EL.splitB (d := 43) rfl (fun hp43 => ?_) (fun hp43 => ?_)
    · refine EL.fieldAddr rfl rfl rfl rfl rfl rfl rfl rfl ?_
      refine EL.fieldAddr rfl rfl rfl rfl rfl rfl rfl rfl ?_
      (apply EL.loadB; exact rfl; exact rfl; exact rfl; exact rfl; exact rfl; (case hm => repeat constructor); exact rfl)
      refine EL.neqI rfl rfl rfl rfl ?_
      refine EL.pickT rfl rfl rfl rfl ?_
      exact EL.endX () ⟨rfl, rfl, rfl, rfl, rfl, rfl, rfl, rfl, getA rfl (congrArg Value.bool (by rw [Bool.eq_iff_iff]; simp_all)), trivial⟩ (.i (by repeat constructor))
    · refine EL.pass rfl rfl rfl ?_
      refine EL.pass rfl rfl rfl ?_
      refine EL.pass rfl rfl rfl ?_
      refine EL.pass rfl rfl rfl ?_
      refine EL.pickF rfl rfl rfl rfl ?_
      exact EL.endX () ⟨rfl, rfl, rfl, rfl, rfl, rfl, rfl, rfl, getA rfl (congrArg Value.bool (by rw [Bool.eq_iff_iff]; simp_all)), trivial⟩ (.i (by repeat constructor))
  refine ES.condD rfl (fun hno => ?_) (fun hno => ?_)
  · have he : pkNE rows = 17 := by
      rw [hne, ← hgo]
      unfold pkE
      rw [if_neg hea', if_neg heb', if_pos hno, if_pos (by decide)]
    refine .go ?_; repeat constructor
    refine EL.assign rfl rfl rfl ?_
    refine EL.assign rfl rfl rfl ?_
    refine .go ?_; repeat constructor
    exact PX.ret rfl Try.results31 (.cons (.tmp rfl) (.cons (.tmp rfl) .nil)) (fun w hs => ⟨.bad (by rw [he]; decide), congrArg (fun e : Int => Ending.returned (.tuple #[.pointer none, Iv e])) he.symm, hs.ent (.nil _)⟩)
  have he0 : pkE r = 0 := by
    unfold pkE
    rw [if_neg hea', if_neg heb', if_neg hno]
  rw [he0, if_neg (by simp)] at hgo
  obtain ⟨c, hcd⟩ : ∃ c : Chc, c = ⟨r, xa.o, xb.o, false⟩ := ⟨_, rfl⟩
  have hcell : chC c = [Iv r.A.kind, Iv r.A.line, Sv r.A.re, Iv r.B.kind, Iv r.B.line, Sv r.B.re, .bool r.not, ptrV xa.o, ptrV xb.o, .bool false] := by rw [hcd]; rfl
  have hone : ∀ u ∈ chC c, u.oneCell' = true := by
    have hp : ∀ o : Option Mt, (ptrV o).oneCell' = true := fun o => by cases o <;> rfl
    rw [hcell]
    intro u hu
    simp only [List.mem_cons, List.not_mem_nil, or_false] at hu
    rcases hu with rfl | rfl | rfl | rfl | rfl | rfl | rfl | rfl | rfl | rfl <;> first | rfl | exact hp _
  have hcs : chsC (cs ++ [c]) = chsC cs ++ chC c := by simp [chsC]
  have hlc : (cs ++ [c]).length = i + 1 := by simp [hic]
  refine .g0 ?_; repeat constructor
  refine ES.draw (X := Nat × Nat) (fun _ => [(0, .slice (some ⟨rg, ro, none⟩) rows.length cap0), (4, Pv g14 0), (15, .slice (some ⟨rg, ro, none⟩) rows.length cap0), (16, Iv (rows.length : Nat)), (17, Iv (i : Nat))])
    (fun x => PKB g14 (some ⟨x.1, 0, none⟩) (i + 1) x.2 none :: HA.row (.slice (some ⟨x.1, 0, none⟩) (i + 1) x.2) 123 10 (i + 1) (chsC cs ++ chC c) :: HA.mats (ms ++ xa.o.toList ++ xb.o.toList) :: [])
    (HA.blk g6 (.cells (rwC r).toArray 58) :: PKB g14 ad i cap none :: []) mixed (.i (by repeat constructor)) ?_ (fun x => ?_)
  · refine ED.take 0 rfl (by decide +kernel) CutX.no_panic (by decide +kernel) rfl rfl rfl (RV.move rfl) ?_
    refine ED.take 1 rfl (by decide +kernel) CutX.no_panic (by decide +kernel) rfl rfl rfl (RV.move rfl) ?_
    refine ED.take 2 rfl (by decide +kernel) CutX.no_panic (by decide +kernel) rfl rfl rfl (RV.nilCheck rfl) ?_
    refine ED.take 3 rfl (by decide +kernel) CutX.no_panic (by decide +kernel) rfl rfl rfl (RV.fieldAddr rfl rfl rfl rfl rfl rfl) ?_
    refine ED.take 4 rfl (by decide +kernel) CutX.no_panic (by decide +kernel) rfl rfl rfl (RV.loadB rfl rfl rfl (by repeat constructor) rfl) ?_
    refine ED.take 5 rfl (by decide +kernel) CutX.no_panic (by decide +kernel) rfl rfl rfl (RV.loadAggB rfl rfl rfl (by repeat constructor) rfl) ?_
    refine ED.take 6 rfl (by decide +kernel) CutX.no_panic (by decide +kernel) rfl rfl rfl (RV.move rfl) ?_
    refine ED.take 7 rfl (by decide +kernel) CutX.no_panic (by decide +kernel) rfl rfl rfl (RV.move rfl) ?_
    refine ED.take 8 rfl (by decide +kernel) CutX.no_panic (by decide +kernel) rfl rfl rfl (RV.buildS (chC ⟨r, xa.o, xb.o, false⟩).toArray rfl rfl rfl rfl (by kernel_rfl)) ?_
    refine ED.loud 9 rfl (by decide +kernel) ?_
    (refine EL.buildSlice1 rfl rfl rfl rfl rfl rfl rfl rfl rfl rfl ?_; intro b58)
    refine ED.next (.i (by repeat constructor)) ?_
    refine ED.loud 10 rfl (by decide +kernel) ?_
    (refine EL.append1 (news := chC ⟨r, xa.o, xb.o, false⟩) rfl rfl rfl rfl rfl rfl rfl rfl rfl (by repeat constructor) (by repeat constructor) (hcd ▸ hone) (by rfl) (by unfold maxLen; omega) (by first | omega | (show 1 * _ ≤ _; omega) | (show 8 * _ ≤ _; omega) | (show 16 * _ ≤ _; omega) | (show 24 * _ ≤ _; omega) | (show _ * 1 ≤ _; omega) | (show _ * 8 ≤ _; omega) | (show _ * 16 ≤ _; omega) | (show _ * 24 ≤ _; omega) | exact Nat.le_trans (Nat.mul_le_mul_right _ (show _ ≤ 1073741824 by omega)) (by decide)) ?_; intro a59 c59)
    refine ED.next (.i (by repeat constructor)) ?_
    refine ED.take 11 rfl (by decide +kernel) CutX.no_panic (by decide +kernel) rfl rfl rfl (RV.nilCheck rfl) ?_
    refine ED.take 12 rfl (by decide +kernel) CutX.no_panic (by decide +kernel) rfl rfl rfl (RV.fieldAddr rfl rfl rfl rfl rfl rfl) ?_
    refine ED.last 13 rfl (by decide +kernel) (by decide +kernel) (by decide +kernel) ?_
    (apply EL.storeB; exact rfl; exact rfl; exact rfl; exact rfl; exact rfl; exact rfl; (case p => repeat constructor); exact (by first | decide | exact Nat.le_of_ble_eq_true rfl | simp))
    refine EL.endQ ?_
    exact PX.cutX (a59, c59) ⟨rfl, rfl, rfl, rfl, rfl, trivial⟩ (by rw [hcd]; exact (.i (by repeat constructor)))
  refine .go ?_; repeat constructor
  refine EL.add1 rfl rfl rfl rfl (by omega) ?_
  refine EL.move rfl rfl rfl ?_
  refine .go ?_; repeat constructor
  have hok2 : PkOk (rows.take (i + 1)) ⟨some ⟨x.1, 0, none⟩, x.2, cs ++ [c], ms ++ xa.o.toList ++ xb.o.toList⟩ := by
    obtain ⟨h1, h2, h3, h4, h5⟩ := hok
    have hin : ∀ q, q ∈ ms → q ∈ ms ++ xa.o.toList ++ xb.o.toList := fun q hq => by simp [hq]
    have hrin : r ∈ rows.take (i + 1) := by rw [List.take_succ_eq_append_getElem hlt', show rows[i] = r from (List.getElem?_eq_some_iff.1 hri).2]; simp
    refine ⟨?_, fun c' hc' => ?_, fun c' hc' => ?_, fun c' hc' => ?_, fun q hq => ?_⟩
    · show (cs ++ [c]).map Chc.row = _
      rw [List.map_append, h1, List.take_succ_eq_append_getElem hlt', show rows[i] = r from (List.getElem?_eq_some_iff.1 hri).2, hcd]; rfl
    · rcases List.mem_append.1 hc' with hc' | hc'
      · exact h2 c' hc'
      · rw [List.mem_singleton] at hc'; subst hc'; rw [hcd]
    · rcases List.mem_append.1 hc' with hc' | hc'
      · exact ⟨(h3 c' hc').1, fun q hq => hin q ((h3 c' hc').2 q hq)⟩
      · rw [List.mem_singleton] at hc'; subst hc'; rw [hcd]
        exact ⟨xa.is, fun q hq => by
          have hq : xa.o = some q := hq
          rw [hq]; simp⟩
    · rcases List.mem_append.1 hc' with hc' | hc'
      · exact ⟨(h4 c' hc').1, fun q hq => hin q ((h4 c' hc').2 q hq)⟩
      · rw [List.mem_singleton] at hc'; subst hc'; rw [hcd]
        exact ⟨xb.is, fun q hq => by
          have hq : xb.o = some q := hq
          rw [hq]; simp⟩
    · rcases List.mem_append.1 hq with hq | hq
      · rcases List.mem_append.1 hq with hq | hq
        · obtain ⟨r', hr', h⟩ := h5 q hq
          exact ⟨r', (List.take_subset_take_left _ (by omega)) hr', h⟩
        · exact ⟨r, hrin, .inl (xa.is.src (by simpa using hq))⟩
      · exact ⟨r, hrin, .inr (xb.is.src (by simpa using hq))⟩
  exact PX.loop ⟨some ⟨x.1, 0, none⟩, x.2, cs ++ [c], ms ++ xa.o.toList ++ xb.o.toList⟩ ⟨by rw [hlc]; exact hlt', by rw [hlc]; exact hok2, by rw [hlc]; exact hgo⟩ (by simp only; rw [hlc, ← hic]; omega) ⟨rfl, rfl, rfl, rfl, getA rfl (by dsimp only; rw [hlc]), trivial⟩ (by dsimp only; rw [hlc, hcs]; exact (.i (by repeat constructor)))
end Go.Proofs.Ytblpgpgbnlhjlaa
