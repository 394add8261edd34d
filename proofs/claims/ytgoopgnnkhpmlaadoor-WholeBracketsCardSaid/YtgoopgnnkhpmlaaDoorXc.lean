/- Of all: WholeBrackets: every set of bytes can be written. -/
import Derived.Test.YtgoopgnnkhpmlaaDoorXb
import Derived.Test.YtgoopgnnkhpmlaaDoorSlx
import Derived.Test.YtgoopgnnkhpmlaaDoorCards
import Derived.Test.YtgoopgnnkhpmlaaDoorTie
import Derived.ProofKit
import Derived.OpenShut
import Derived.Deep.DeepHandedRow
import Derived.Lib.LaidTab
namespace Go.Proofs.YtgoopgnnkhpmlaaDoor
open Go.ChangeShapes Go.WideShapes Go.ChangeAt
open Go Go.RowKit Sl
set_option maxRecDepth 100000
set_option maxHeartbeats 8000000
set_option linter.unusedVariables false
set_option linter.unusedSimpArgs false
attribute [local irreducible] ES EL PX wps

theorem textS_len (s : BS) : (textS s).length ≤ 4096 := by
  have hml : (membersM s).length ≤ 256 := memGo_le _ _
  have h1 := fold_len (membersM s) ([91], [])
  have h2 := flush_len ((membersM s).foldl textStep ([91], [])).1 ((membersM s).foldl textStep ([91], [])).2
  simp only [List.length_singleton, List.length_nil] at h1
  unfold textS
  split
  · simp
  · rw [List.length_append, List.length_singleton]
    omega
theorem parse_is {t : List UInt8} {r : Sp} (h : brackM t 0 = r) (ht : t.length ≤ 1073741824) (w : World) (hG : GR w w.heap.size) : Pure Tryd.prog 4 #[Sv t, Iv 0] (fun _ : Unit => .tuple #[Bs r.set, Iv (r.at_ : Nat), Iv r.e]) (fun _ => []) w := by
  have := brParse_c t 0 ht (by omega) w hG
  rw [h] at this
  exact this
theorem brackets_c (s : BS) (w : World) (hT : TabR w w.heap.size) (hG : GR w w.heap.size) : Pure Tryd.prog 3 #[Bs s] (fun _ : Unit => .bool true) (fun _ => []) w := by
  have hb : brackM [91, 98, 93] 0 = ⟨ofS [98], 3, 0⟩ := by kernel_rfl
  have hl1 := textS_len s
  have hl2 := textS_len (notS s)
  refine calls_of_ES TB Tryd.func3 rfl _ Tryd.ntmps3 rfl (Sat.start w) ?_
  refine .go ?_; repeat constructor
  (refine EL.box rfl rfl rfl ?_; intro g1)
  refine EL.assign rfl rfl rfl ?_
  refine .go ?_; repeat constructor
  refine EL.callPw rfl rfl rfl ent4 rfl (fun w hs => parse_is hb (by decide) w (GR.sat hG hs)) ?_
  refine EL.move rfl rfl rfl ?_
  refine EL.extract rfl rfl rfl rfl ?_
  refine EL.extract rfl rfl rfl rfl ?_
  refine EL.extract rfl rfl rfl rfl ?_
  (refine EL.alloc rfl rfl rfl ?_; intro g3)
  (apply EL.storeAll; exact rfl; exact rfl; exact rfl; exact rfl; exact rfl; (case p => repeat constructor); exact rfl; (case h1 => exact (by first | rfl | exact all1 rfl | (intro u hu; simp only [List.mem_cons, List.not_mem_nil, or_false] at hu; rcases hu with rfl | rfl | rfl | rfl <;> rfl) | (intro u hu; simp at hu; rcases hu with rfl | rfl | rfl | rfl <;> rfl) | (intro u hu; simp at hu; rcases hu with rfl | rfl | rfl <;> rfl) | (intro u hu; simp at hu; rcases hu with rfl | rfl <;> rfl) | (intro u hu; simp at hu; obtain ⟨_, _, rfl⟩ := hu; rfl))))
  refine EL.assign rfl rfl rfl ?_
  refine EL.assign rfl rfl rfl ?_
  refine .go ?_; repeat constructor
  refine ES.draw (X := Unit) (fun _ => [(1, Pv g1 0), (27, .bool false)]) (fun _ => [SB g1 s]) [SB g1 s, SB g3 (ofS [98])] mixed (.i (by repeat constructor)) ?_ (fun _ => ?_)
  · refine ED.take 0 rfl (by decide +kernel) CutX.no_panic (by decide +kernel) rfl rfl rfl (RV.move rfl) ?_
    refine ED.take 1 rfl (by decide +kernel) CutX.no_panic (by decide +kernel) rfl rfl rfl (RV.neqI rfl rfl) ?_
    refine ED.take 2 rfl (by decide +kernel) CutX.no_panic (by decide +kernel) rfl rfl rfl (RV.move rfl) ?_
    refine ED.rew (d := 23) (v' := .bool false) rfl (by first | rfl | (decide) | (simp)) ?_
    refine ED.take 3 rfl (by decide +kernel) CutX.no_panic (by decide +kernel) rfl rfl rfl (RV.loadAggB rfl rfl rfl (by repeat constructor) rfl) ?_
    refine ED.loud 4 rfl (by decide +kernel) ?_
    (refine EL.callP rfl rfl rfl ent5 rfl (of_c [98] (by decide)) ?_)
    refine ED.next (.i (by repeat constructor)) ?_
    refine ED.take 5 rfl (by decide +kernel) CutX.no_panic (by decide +kernel) rfl rfl rfl (RV.neqBS (w0 := (ofS [98]).a) (w1 := (ofS [98]).b) (w2 := (ofS [98]).c) (w3 := (ofS [98]).d) (v0 := (ofS [98]).a) (v1 := (ofS [98]).b) (v2 := (ofS [98]).c) (v3 := (ofS [98]).d) rfl rfl eqg24 rfl rfl rfl rfl rfl) ?_
    refine ED.take 6 rfl (by decide +kernel) CutX.no_panic (by decide +kernel) rfl rfl rfl (RV.pickF rfl rfl) ?_
    refine ED.done (by decide +kernel) ?_
    exact PX.cutX () ⟨rfl, getA rfl (by simp), trivial⟩ (.i (by repeat constructor))
  refine ES.condF rfl ?_
  refine .g0 ?_; repeat constructor
  refine ES.draw (X := Unit) (fun _ => [(1, Pv g1 0), (6, Sv (textS s)), (7, Sv (textS (notS s)))]) (fun _ => [SB g1 s]) [SB g1 s] mixed (.i (by repeat constructor)) ?_ (fun _ => ?_)
  · refine ED.take 0 rfl (by decide +kernel) CutX.no_panic (by decide +kernel) rfl rfl rfl (RV.loadAggB rfl rfl rfl (by repeat constructor) rfl) ?_
    refine ED.take 2 rfl (by decide +kernel) CutX.no_panic (by decide +kernel) rfl rfl rfl (RV.loadAggB rfl rfl rfl (by repeat constructor) rfl) ?_
    refine ED.loud 1 rfl (by decide +kernel) ?_
    (refine EL.callPw rfl rfl rfl ent6 rfl (fun w hs => text_c s w (Rd.sat hT hs)) ?_)
    refine ED.next (.i (by repeat constructor)) ?_
    refine ED.loud 3 rfl (by decide +kernel) ?_
    (refine EL.callP rfl rfl rfl ent7 rfl (not_c s) ?_)
    refine ED.next (.i (by repeat constructor)) ?_
    refine ED.loud 4 rfl (by decide +kernel) ?_
    (refine EL.callPw rfl rfl rfl ent6 rfl (fun w hs => text_c (notS s) w (Rd.sat hT hs)) ?_)
    refine ED.next (.i (by repeat constructor)) ?_
    refine ED.take 5 rfl (by decide +kernel) CutX.no_panic (by decide +kernel) rfl rfl rfl (RV.assign rfl) ?_
    refine ED.take 6 rfl (by decide +kernel) CutX.no_panic (by decide +kernel) rfl rfl rfl (RV.assign rfl) ?_
    refine ED.done (by decide +kernel) ?_
    exact PX.cutX () ⟨rfl, rfl, rfl, trivial⟩ (.i (by repeat constructor))
  refine .go ?_; repeat constructor
  refine EL.move rfl rfl rfl ?_
  refine EL.callPw rfl rfl rfl ent4 rfl (fun w hs => parse_is (text_read s) (by omega) w (GR.sat hG hs)) ?_
  refine EL.move rfl rfl rfl ?_
  refine EL.extract rfl rfl rfl rfl ?_
  refine EL.extract rfl rfl rfl rfl ?_
  refine EL.extract rfl rfl rfl rfl ?_
  (refine EL.alloc rfl rfl rfl ?_; intro g8)
  (apply EL.storeAll; exact rfl; exact rfl; exact rfl; exact rfl; exact rfl; (case p => repeat constructor); exact rfl; (case h1 => exact (by first | rfl | exact all1 rfl | (intro u hu; simp only [List.mem_cons, List.not_mem_nil, or_false] at hu; rcases hu with rfl | rfl | rfl | rfl <;> rfl) | (intro u hu; simp at hu; rcases hu with rfl | rfl | rfl | rfl <;> rfl) | (intro u hu; simp at hu; rcases hu with rfl | rfl | rfl <;> rfl) | (intro u hu; simp at hu; rcases hu with rfl | rfl <;> rfl) | (intro u hu; simp at hu; obtain ⟨_, _, rfl⟩ := hu; rfl))))
  refine EL.assign rfl rfl rfl ?_
  refine EL.assign rfl rfl rfl ?_
  refine .go ?_; repeat constructor
  refine EL.move rfl rfl rfl ?_
  refine EL.callPw rfl rfl rfl ent4 rfl (fun w hs => parse_is (text_read (notS s)) (by omega) w (GR.sat hG hs)) ?_
  refine EL.move rfl rfl rfl ?_
  refine EL.extract rfl rfl rfl rfl ?_
  refine EL.extract rfl rfl rfl rfl ?_
  refine EL.extract rfl rfl rfl rfl ?_
  (refine EL.alloc rfl rfl rfl ?_; intro g11)
  (apply EL.storeAll; exact rfl; exact rfl; exact rfl; exact rfl; exact rfl; (case p => repeat constructor); exact rfl; (case h1 => exact (by first | rfl | exact all1 rfl | (intro u hu; simp only [List.mem_cons, List.not_mem_nil, or_false] at hu; rcases hu with rfl | rfl | rfl | rfl <;> rfl) | (intro u hu; simp at hu; rcases hu with rfl | rfl | rfl | rfl <;> rfl) | (intro u hu; simp at hu; rcases hu with rfl | rfl | rfl <;> rfl) | (intro u hu; simp at hu; rcases hu with rfl | rfl <;> rfl) | (intro u hu; simp at hu; obtain ⟨_, _, rfl⟩ := hu; rfl))))
  refine EL.assign rfl rfl rfl ?_
  refine EL.assign rfl rfl rfl ?_
  refine .go ?_; repeat constructor
  refine ES.draw (X := Unit) (fun _ => [(1, Pv g1 0), (6, Sv (textS s)), (11, Pv g11 0), (73, .bool false)]) (fun _ => [SB g1 s, SB g11 (notS s)]) [SB g1 s, SB g8 s, SB g11 (notS s)] mixed (.i (by repeat constructor)) ?_ (fun _ => ?_)
  · refine ED.take 0 rfl (by decide +kernel) CutX.no_panic (by decide +kernel) rfl rfl rfl (RV.move rfl) ?_
    refine ED.take 1 rfl (by decide +kernel) CutX.no_panic (by decide +kernel) rfl rfl rfl (RV.neqI rfl rfl) ?_
    refine ED.take 2 rfl (by decide +kernel) CutX.no_panic (by decide +kernel) rfl rfl rfl (RV.move rfl) ?_
    refine ED.rew (d := 47) (v' := .bool false) rfl (by first | rfl | (decide) | (simp)) ?_
    refine ED.take 3 rfl (by decide +kernel) CutX.no_panic (by decide +kernel) rfl rfl rfl (RV.move rfl) ?_
    refine ED.take 4 rfl (by decide +kernel) CutX.no_panic (by decide +kernel) rfl rfl rfl (RV.neqI rfl rfl) ?_
    refine ED.take 5 rfl (by decide +kernel) CutX.no_panic (by decide +kernel) rfl rfl rfl (RV.pickF rfl rfl) ?_
    refine ED.take 6 rfl (by decide +kernel) CutX.no_panic (by decide +kernel) rfl rfl rfl (RV.move rfl) ?_
    refine ED.rew (d := 51) (v' := .bool false) rfl (by first | rfl | (decide) | (simp)) ?_
    refine ED.take 7 rfl (by decide +kernel) CutX.no_panic (by decide +kernel) rfl rfl rfl (RV.move rfl) ?_
    refine ED.take 8 rfl (by decide +kernel) CutX.no_panic (by decide +kernel) rfl rfl rfl (RV.move rfl) ?_
    refine ED.take 9 rfl (by decide +kernel) CutX.no_panic (by decide +kernel) rfl rfl rfl (RV.lenS rfl rfl rfl) ?_
    refine ED.take 10 rfl (by decide +kernel) CutX.no_panic (by decide +kernel) rfl rfl rfl (RV.neqI rfl rfl) ?_
    refine ED.take 11 rfl (by decide +kernel) CutX.no_panic (by decide +kernel) rfl rfl rfl (RV.pickF rfl rfl) ?_
    refine ED.take 12 rfl (by decide +kernel) CutX.no_panic (by decide +kernel) rfl rfl rfl (RV.move rfl) ?_
    refine ED.rew (d := 57) (v' := .bool false) rfl (by first | rfl | (decide) | (simp)) ?_
    refine ED.take 13 rfl (by decide +kernel) CutX.no_panic (by decide +kernel) rfl rfl rfl (RV.move rfl) ?_
    refine ED.take 14 rfl (by decide +kernel) CutX.no_panic (by decide +kernel) rfl rfl rfl (RV.move rfl) ?_
    refine ED.take 15 rfl (by decide +kernel) CutX.no_panic (by decide +kernel) rfl rfl rfl (RV.lenS rfl rfl rfl) ?_
    refine ED.take 16 rfl (by decide +kernel) CutX.no_panic (by decide +kernel) rfl rfl rfl (RV.neqI rfl rfl) ?_
    refine ED.take 17 rfl (by decide +kernel) CutX.no_panic (by decide +kernel) rfl rfl rfl (RV.pickF rfl rfl) ?_
    refine ED.take 18 rfl (by decide +kernel) CutX.no_panic (by decide +kernel) rfl rfl rfl (RV.move rfl) ?_
    refine ED.rew (d := 63) (v' := .bool false) rfl (by first | rfl | (decide) | (simp)) ?_
    refine ED.take 19 rfl (by decide +kernel) CutX.no_panic (by decide +kernel) rfl rfl rfl (RV.loadAggB rfl rfl rfl (by repeat constructor) rfl) ?_
    refine ED.take 20 rfl (by decide +kernel) CutX.no_panic (by decide +kernel) rfl rfl rfl (RV.loadAggB rfl rfl rfl (by repeat constructor) rfl) ?_
    refine ED.take 21 rfl (by decide +kernel) CutX.no_panic (by decide +kernel) rfl rfl rfl (RV.neqBS (w0 := s.a) (w1 := s.b) (w2 := s.c) (w3 := s.d) (v0 := s.a) (v1 := s.b) (v2 := s.c) (v3 := s.d) rfl rfl eqg24 rfl rfl rfl rfl rfl) ?_
    refine ED.take 22 rfl (by decide +kernel) CutX.no_panic (by decide +kernel) rfl rfl rfl (RV.pickF rfl rfl) ?_
    refine ED.take 23 rfl (by decide +kernel) CutX.no_panic (by decide +kernel) rfl rfl rfl (RV.move rfl) ?_
    refine ED.rew (d := 68) (v' := .bool false) rfl (by first | rfl | (decide) | (simp)) ?_
    refine ED.take 24 rfl (by decide +kernel) CutX.no_panic (by decide +kernel) rfl rfl rfl (RV.loadAggB rfl rfl rfl (by repeat constructor) rfl) ?_
    refine ED.take 25 rfl (by decide +kernel) CutX.no_panic (by decide +kernel) rfl rfl rfl (RV.loadAggB rfl rfl rfl (by repeat constructor) rfl) ?_
    refine ED.loud 26 rfl (by decide +kernel) ?_
    (refine EL.callP rfl rfl rfl ent7 rfl (not_c s) ?_)
    refine ED.next (.i (by repeat constructor)) ?_
    refine ED.take 27 rfl (by decide +kernel) CutX.no_panic (by decide +kernel) rfl rfl rfl (RV.neqBS (w0 := (notS s).a) (w1 := (notS s).b) (w2 := (notS s).c) (w3 := (notS s).d) (v0 := (notS s).a) (v1 := (notS s).b) (v2 := (notS s).c) (v3 := (notS s).d) rfl rfl eqg24 rfl rfl rfl rfl rfl) ?_
    refine ED.take 28 rfl (by decide +kernel) CutX.no_panic (by decide +kernel) rfl rfl rfl (RV.pickF rfl rfl) ?_
    refine ED.done (by decide +kernel) ?_
    exact PX.cutX () ⟨rfl, rfl, rfl, getA rfl (by simp), trivial⟩ (.i (by repeat constructor))
  refine ES.condF rfl ?_
  by_cases hz : s = zeroS
  · have ht : textS s = [91, 94, 0, 45, 255, 93] := if_pos hz
    refine .go ?_; repeat constructor
    refine EL.move rfl rfl rfl ?_
    refine EL.lenS rfl rfl rfl rfl rfl ?_
    refine EL.lss rfl rfl rfl rfl ?_
    refine EL.move rfl rfl rfl ?_
    refine EL.rew (d := 77) (v' := .bool false) rfl (congrArg Value.bool (decide_eq_false (by rw [ht]; decide))) ?_
    refine EL.move rfl rfl rfl ?_
    refine EL.indexSN (i := 1) rfl rfl rfl rfl rfl rfl (by rw [ht]; decide) ?_
    refine EL.eqlI rfl rfl rfl rfl ?_
    refine EL.pickF rfl rfl rfl rfl ?_
    refine .go ?_; repeat constructor
    refine ES.condT (congrArg (fun b => some (Value.bool b)) (decide_eq_true (by rw [ht]; rfl))) ?_
    refine .go ?_; repeat constructor
    (apply EL.loadAggB; exact rfl; exact rfl; exact rfl; exact rfl; exact rfl; (case hm => repeat constructor); exact rfl)
    refine EL.buildZA rfl rfl rfl rfl rfl ?_
    refine EL.eqlBS (w0 := s.a) (w1 := s.b) (w2 := s.c) (w3 := s.d) (v0 := 0) (v1 := 0) (v2 := 0) (v3 := 0) rfl rfl rfl rfl eqg24 rfl rfl rfl rfl rfl ?_
    refine EL.assign rfl rfl rfl ?_
    refine .go ?_; repeat constructor
    exact PX.ret rfl Tryd.results3 (.cons (.tmp (getA rfl (congrArg Value.bool (decide_eq_true hz)))) .nil) (fun w hs => ⟨(), rfl, hs.ent (.nil _)⟩)
  obtain ⟨h1, h2, h3⟩ := text_not s hz
  have hcut : ((textS s).drop 1).take ((textS s).length - 1) = (textS s).drop 1 := List.take_of_length_le (by rw [List.length_drop]; exact Nat.le_refl _)
  refine .go ?_; repeat constructor
  refine EL.move rfl rfl rfl ?_
  refine EL.lenS rfl rfl rfl rfl rfl ?_
  refine EL.lss rfl rfl rfl rfl ?_
  refine EL.move rfl rfl rfl ?_
  refine EL.rew (d := 77) (v' := .bool false) rfl (congrArg Value.bool (decide_eq_false (by omega))) ?_
  refine EL.move rfl rfl rfl ?_
  refine EL.indexSN (i := 1) rfl rfl rfl rfl rfl rfl (by omega) ?_
  refine EL.eqlI rfl rfl rfl rfl ?_
  refine EL.pickF rfl rfl rfl rfl ?_
  refine .go ?_; repeat constructor
  refine ES.condF (congrArg (fun b => some (Value.bool b)) (decide_eq_false (fun e => h2 (UInt8.toNat_inj.1 (by show ((textS s).getD 1 0).toNat = 94; omega))))) ?_
  refine .go ?_; repeat constructor
  refine EL.move rfl rfl rfl ?_
  (refine EL.sliceS (m := 1) (n := (textS s).length) rfl rfl rfl rfl rfl ⟨_, rfl⟩ rfl (by omega) (by omega) ?_; rw [hcut])
  refine EL.cat rfl rfl rfl rfl (by rw [List.length_drop]; show 2 + _ ≤ _; omega) ?_
  refine EL.callPw rfl rfl rfl ent4 rfl (fun w hs => parse_is h3 (by rw [List.length_append, List.length_drop]; show 2 + _ ≤ _; omega) w (GR.sat hG hs)) ?_
  refine EL.move rfl rfl rfl ?_
  refine EL.extract rfl rfl rfl rfl ?_
  refine EL.extract rfl rfl rfl rfl ?_
  refine EL.extract rfl rfl rfl rfl ?_
  (refine EL.alloc rfl rfl rfl ?_; intro g14)
  (apply EL.storeAll; exact rfl; exact rfl; exact rfl; exact rfl; exact rfl; (case p => repeat constructor); exact rfl; (case h1 => exact (by first | rfl | exact all1 rfl | (intro u hu; simp only [List.mem_cons, List.not_mem_nil, or_false] at hu; rcases hu with rfl | rfl | rfl | rfl <;> rfl) | (intro u hu; simp at hu; rcases hu with rfl | rfl | rfl | rfl <;> rfl) | (intro u hu; simp at hu; rcases hu with rfl | rfl | rfl <;> rfl) | (intro u hu; simp at hu; rcases hu with rfl | rfl <;> rfl) | (intro u hu; simp at hu; obtain ⟨_, _, rfl⟩ := hu; rfl))))
  refine EL.assign rfl rfl rfl ?_
  refine EL.assign rfl rfl rfl ?_
  refine .go ?_; repeat constructor
  refine .go ?_; repeat constructor
  refine EL.move rfl rfl rfl ?_
  refine EL.eqlI rfl rfl rfl rfl ?_
  refine EL.move rfl rfl rfl ?_
  refine EL.rew (d := 95) (v' := .bool true) rfl (by first | rfl | (decide) | (simp)) ?_
  (apply EL.loadAggB; exact rfl; exact rfl; exact rfl; exact rfl; exact rfl; (case hm => repeat constructor); exact rfl)
  (apply EL.loadAggB; exact rfl; exact rfl; exact rfl; exact rfl; exact rfl; (case hm => repeat constructor); exact rfl)
  refine EL.eqlBS (w0 := (notS s).a) (w1 := (notS s).b) (w2 := (notS s).c) (w3 := (notS s).d) (v0 := (notS s).a) (v1 := (notS s).b) (v2 := (notS s).c) (v3 := (notS s).d) rfl rfl rfl rfl eqg24 rfl rfl rfl rfl rfl ?_
  refine EL.pickT rfl rfl rfl rfl ?_
  refine EL.assign rfl rfl rfl ?_
  refine .go ?_; repeat constructor
  exact PX.ret rfl Tryd.results3 (.cons (.tmp (getA rfl (by simp))) .nil) (fun w hs => ⟨(), rfl, hs.ent (.nil _)⟩)
theorem gTab : Tryd.prog.globalNamed "math/bits.deBruijn64tab" = some 0 := by kernel_rfl
theorem gTabType : (Tryd.prog.globals[0]?).map (·.type) = some 56 := by kernel_rfl
theorem cellsTab : Tryd.prog.cellsOf 56 = 64 := by kernel_rfl
theorem cellsByte : Tryd.prog.cellsOf 5 = 1 := by kernel_rfl
def tabZ : List Int := Lib.deBruijn64tab.map fun n : Nat => (n : Int)
theorem tabIs {W : World} (h : laidMetH Tryd.prog Rows.wholeBracketsRow.laid W) : Lib.TabIs Tryd.prog W "math/bits.deBruijn64tab" .u8 tabZ :=
  Lib.tabIs_of_head (rest := []) gTab gTabType Tryd.underlying56 Tryd.underlying5 cellsByte cellsTab h
theorem tabR {W : World} (h : laidMetH Tryd.prog Rows.wholeBracketsRow.laid W) : TabR W W.heap.size := by
  have hl : tabZ.length = 64 := by decide
  have hc := fun i hi => (tabIs h).cell gTab i hi
  intro _
  refine ⟨_, _, rfl, World.block_lt_of_cell? _ _ (hc 0 (by omega)), fun j v hj => ?_⟩
  have hlt : j < tabV.length := (List.getElem?_eq_some_iff.1 hj).1
  have hlv : tabV.length = 64 := by decide
  rw [Nat.zero_add, hc j (by omega)]
  unfold tabV at hj
  unfold tabZ
  rw [List.getElem?_map] at hj
  obtain ⟨n, h1, h2⟩ := Option.map_eq_some_iff.1 hj
  rw [← h2, List.getD_eq_getElem?_getD, List.getElem?_map, h1]
  rfl
/-- A world in which the table is laid. -/
noncomputable def laidWorld (os : Os) : World :=
  { World.holding Tryd.prog os ⟨#[], #[], []⟩ with heap := (World.holding Tryd.prog os ⟨#[], #[], []⟩).heap.modify 0 fun
      | .cells _ t frozen => .cells tabV.toArray t frozen
      | o => o }
theorem wholeBrackets_met (os : Os) : laidMet Tryd.prog Rows.wholeBracketsRow.laid ((laidWorld os).forCall (fun _ _ => 0) ⟨#[], #[.agg #[.int .u64 0, .int .u64 0, .int .u64 0, .int .u64 0]], []⟩).memory :=
  laidMet_of_run' 8 (by kernel_rfl) (by kernel_rfl)
theorem wholeBrackets_reads (os : Os) {H : Type} (enc : TypeId × Value → H) : ∃ places, DataW.whole enc Tryd.prog ((laidWorld os).forCall (fun _ _ => 0) ⟨#[], #[.agg #[.int .u64 0, .int .u64 0, .int .u64 0, .int .u64 0]], []⟩).memory Tryd.f3.params.toList Rows.wholeBracketsSpec.vars false (#[.agg #[.int .u64 0, .int .u64 0, .int .u64 0, .int .u64 0]] : Array Value).toList 8 = some ([.agg [.lit (.int .u64 0), .lit (.int .u64 0), .lit (.int .u64 0), .lit (.int .u64 0)]], [], places) :=
  ⟨[], by kernel_rfl⟩
theorem wholeBrackets_lifted (os : Os) (started : os.Started) (H : Type) (enc : TypeId × Value → H) (F : Stop.Interp) :
    ReturnsInHanded {} Tryd.checked os 3 .any ((OpenSpec.ofChange Rows.wholeBracketsSpec).preRow enc Tryd.prog Tryd.f3 Rows.wholeBracketsRow.domain false Rows.wholeBracketsRow.laid) (((OpenSpec.ofChange Rows.wholeBracketsSpec).at F).post enc Tryd.prog Tryd.f3 false true false false) := by
  obtain ⟨places, hx⟩ := wholeBrackets_reads os enc
  refine returnsInHanded_of_row (C := Tryd.checked) (s := OpenSpec.ofChange Rows.wholeBracketsSpec) own started (by kernel_rfl) Tryd.func3
    (witness_row_at (enc := enc) (C := Tryd.checked) false (laidWorld os) #[.agg #[.int .u64 0, .int .u64 0, .int .u64 0, .int .u64 0]] rfl (by kernel_rfl) (by kernel_rfl) (by kernel_rfl)
      (OpenSpec.preRow_of_cond 8 hx (by kernel_rfl) (fun k hk => by cases hk) (by kernel_rfl) (wholeBrackets_met os))) ?_
  intro W base args ds gs before hval0 hW _ _ hsz hL hsh _
  have hk : (DataW.weightsEach Tryd.prog (Tryd.f3.params.toList ++ []) (ds ++ gs)).all (· ≤ reachBytes) = true := hsz
  have hval : ∀ (j : Nat) t v, Tryd.f3.params[j]? = some t → args[j]? = some v → Value.okWide Tryd.prog W .any base t v := hval0
  have hW1 : DataW.Whole enc Tryd.prog Tryd.f3.params.toList Rows.wholeBracketsSpec.vars false W args.toList ds gs before := hW
  have hW' := hW1
  obtain ⟨p, q, hA0, hV, rfl, hfz, hnd⟩ := hW1
  have hA : DataW.TrodAll enc Tryd.prog W 0 (fun _ => true) true Tryd.f3.params.toList args.toList ds p := hA0
  rw [Tryd.params3] at hA hval hk
  obtain ⟨v0, vs0, d0, ds0, p0, q0, hargs0, rfl, rfl, h0, r0⟩ := trodAll_cons hA
  obtain ⟨rfl, rfl, rfl⟩ := trodAll_nil r0
  obtain rfl : args = #[v0] := by cases args; simp_all
  obtain ⟨rfl, rfl⟩ := trodVars_none hV
  obtain ⟨s0, rfl⟩ := open_bs Tryd.underlying24 Tryd.underlying22 (by kernel_rfl) (by kernel_rfl) (hval 0 24 v0 rfl rfl) h0
  refine (brackets_c s0 W (tabR hL) (GR.of hsh)).mono fun e W' ⟨_, he, hs⟩ => ⟨_, he, ?_⟩
  exact law_true (s := Rows.wholeBracketsSpec) laidOut rfl Tryd.underlying4 (by kernel_rfl) rfl false rfl rfl rfl hW' hs.below
theorem wholeBrackets_said : Rows.WholeBracketsSaid :=
  OpenClaim.holds_of_cond 3 Tryd.f3 rfl rfl rfl rfl rfl rfl rfl ⟨rfl, rfl, rfl, rfl, rfl⟩ rfl rfl rfl rfl rfl (by kernel_rfl) Tryd.func3 (by kernel_rfl)
    (of_decide_eq_true (by kernel_rfl)) (by unfold Func.isWrapper; first | (rw [if_pos (by decide +kernel)]; kernel_rfl) | (rw [if_neg (by decide +kernel)]; exact ⟨rfl, rfl⟩))
    (fun os started H enc _ F => by rw [OpenClaim.pre_eq_preRow]; exact wholeBrackets_lifted os started H enc F)
theorem wholeBrackets_plain (f : FuncId) (fn : Func) (hf : Tryd.pinned.checked.prog.funcNamed "runnel/runneltop.WholeBrackets" = some f) (hfn : Tryd.pinned.checked.prog.funcs[f]? = some fn) :
    false = Tryd.pinned.checked.prog.looks [] ∧ ∀ (j : Nat) t, fn.params[j]? = some t → Tryd.pinned.checked.prog.wantsStandIn t = false := by
  obtain rfl : f = 3 := Option.some.inj ((show Tryd.prog.funcNamed "runnel/runneltop.WholeBrackets" = some 3 by kernel_rfl).symm.trans hf) |>.symm
  obtain rfl : fn = Tryd.f3 := (Option.some.inj (Tryd.func3.symm.trans hfn)).symm
  refine ⟨by kernel_rfl, fun j t ht => ?_⟩
  rw [Tryd.params3] at ht
  have hm : t = 24 := by simpa using Array.mem_of_getElem? ht
  subst hm
  exact (show Tryd.prog.wantsStandIn 24 = false by kernel_rfl)
theorem wholeBrackets_holds : Rows.WholeBracketsCardSaid :=
  Claim7.holds_tied_plain_at .later [] _ _ _ _ wholeBrackets_said (fun _ h => by cases h) (by kernel_rfl) (fun _ h => by cases h) wholeBrackets_row_tie rfl ⟨rfl, rfl⟩ (by kernel_rfl) rfl wholeBrackets_plain (by kernel_rfl)
end Go.Proofs.YtgoopgnnkhpmlaaDoor
