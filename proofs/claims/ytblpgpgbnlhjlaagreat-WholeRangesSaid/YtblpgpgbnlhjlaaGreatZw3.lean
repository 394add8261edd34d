/- Texts of this claim, bundled. -/
import Derived.Test.YtblpgpgbnlhjlaaGreatZw2
namespace Go.Proofs.YtblpgpgbnlhjlaaGreat
open Go Go.RowKit Sl
set_option maxRecDepth 100000
set_option maxHeartbeats 8000000
set_option linter.unusedVariables false
set_option linter.unusedSimpArgs false
attribute [local irreducible] ES EL PX wps
def idxB (l : List UInt8) (c : UInt8) : Int := Lib.indexByte l c
def GR (w : World) (B : Nat) : Prop := ∃ m : Int, Rd w B (some ⟨0, 0, none⟩) [Iv m]
theorem GR.sat {w0 w : World} {B : Nat} {H : List HA} (h : GR w0 B) (hs : Sat w0 B H w) : GR w w.heap.size := by
  obtain ⟨m, hm⟩ := h
  exact ⟨m, Rd.sat hm hs⟩
theorem GR.of {w : World} (h : w.ShapedOpen Tryz.prog) : GR w w.heap.size := by
  obtain ⟨m, hm⟩ := Tryz.lays143.s1_3 w h
  have hm' : w.cell? ⟨0, 0, none⟩ = some (.int .i64 m) := hm
  refine ⟨m, fun _ => ⟨_, _, rfl, World.block_lt_of_cell? _ _ hm', fun j v hj => ?_⟩⟩
  cases j with
  | zero => simp only [List.getElem?_cons_zero, Option.some.injEq] at hj; subst hj; exact hm'
  | succ j => simp at hj
theorem sindex_c (l sub : List UInt8) (hl : l.length < 4294967281) (w : World) (hG : GR w w.heap.size) : Pure Tryz.prog 159 #[Sv l, Sv sub] (fun _ : Unit => Iv (Lib.index l sub)) (fun _ => []) w := by
  obtain ⟨m, hm⟩ := hG
  obtain ⟨g, off, h1, _, h3⟩ := hm (by simp)
  have hc : w.cell? ⟨0, 0, none⟩ = some (.int .i64 m) := by
    cases h1; exact h3 0 _ rfl
  exact (Any.strings_Index { Tryz.lays143 with } ⟨l.toArray⟩ ⟨sub.toArray⟩ m w hl hc).mono fun e w' ⟨he, hw⟩ => ⟨(), he, by subst hw; exact Sat.start _⟩
theorem ext_index (l : List UInt8) (c : UInt8) (w : World) : (callFunc 106 #[Sv l, Uv c]).run Tryz.prog w = .ok (.value (Iv (idxB l c))) w := by
  rw [run_callFunc_extern (e := Extern.BytealgIndexByte.indexByte) Tryz.func106 (by kernel_rfl) (by kernel_rfl) (by kernel_rfl) (by kernel_rfl), Lib.run_indexByteString]
  simp [Result.andThen, idxB]
theorem lite_c (l : List UInt8) (c : UInt8) (w : World) : Pure Tryz.prog 73 #[Sv l, Uv c] (fun _ : Unit => Iv (idxB l c)) (fun _ => []) w := by
  refine calls_of_ES TB Tryz.func73 rfl _ Tryz.ntmps73 rfl (Sat.start w) ?_
  refine .go ?_; repeat constructor
  refine EL.assign rfl rfl rfl ?_
  refine .go ?_; repeat constructor
  refine EL.move rfl rfl rfl ?_
  refine EL.move rfl rfl rfl ?_
  refine EL.callE rfl rfl rfl rfl (ext_index l c) ?_
  refine EL.assign rfl rfl rfl ?_
  refine .go ?_; repeat constructor
  exact PX.ret rfl Tryz.results73 (.cons (.tmp rfl) .nil) (fun w hs => ⟨(), rfl, hs.ent (.nil _)⟩)
theorem index_c (l : List UInt8) (c : UInt8) (w : World) : Pure Tryz.prog 51 #[Sv l, Uv c] (fun _ : Unit => Iv (idxB l c)) (fun _ => []) w := by
  refine calls_of_ES TB Tryz.func51 rfl _ Tryz.ntmps51 rfl (Sat.start w) ?_
  refine .go ?_; repeat constructor
  refine EL.assign rfl rfl rfl ?_
  refine .go ?_; repeat constructor
  refine EL.move rfl rfl rfl ?_
  refine EL.move rfl rfl rfl ?_
  refine EL.callP rfl rfl rfl ent73 rfl (lite_c _ _) ?_
  refine EL.assign rfl rfl rfl ?_
  refine .go ?_; repeat constructor
  exact PX.ret rfl Tryz.results51 (.cons (.tmp rfl) .nil) (fun w hs => ⟨(), rfl, hs.ent (.nil _)⟩)
abbrev RD (g : Nat) (t : List UInt8) (a : Nat) (e : Int) : HA := HA.blk g (.cells #[Sv t, Iv (a : Nat), Iv e] 246)
def nmK (t : List UInt8) (a : Nat) : Int := if a + 2 < t.length then Lib.index (t.drop (a + 2 + 1)) [t.getD (a + 1) 0, 93] else -1
def nmN (t : List UInt8) (a : Nat) : List UInt8 := if nmK t a < 0 then [] else (t.drop (a + 2)).take (1 + (nmK t a).toNat)
def nmA (t : List UInt8) (a : Nat) : Nat := if nmK t a < 0 then a else a + 2 + 1 + (nmK t a).toNat + 2
def nmE (t : List UInt8) (a : Nat) : Int := if nmK t a < 0 then 6 else 0
theorem nmK_room (t : List UInt8) (a k : Nat) (h : nmK t a = k) : a + 2 + 1 + k + 2 ≤ t.length := by
  unfold nmK at h
  split at h
  · have := Lib.index_room (t.drop (a + 2 + 1)) [t.getD (a + 1) 0, 93] (by omega)
    rw [h] at this
    simp only [List.length_drop, List.length_cons, List.length_nil] at this
    omega
  · omega
theorem nm_at (t : List UInt8) (a : Nat) (h : a ≤ t.length) : a ≤ nmA t a ∧ nmA t a ≤ t.length := by
  unfold nmA
  split
  · omega
  · have := nmK_room t a (nmK t a).toNat (by omega)
    omega
theorem named_c (g : Nat) (t : List UInt8) (a : Nat) (ha : a + 1 < t.length) (ht : t.length ≤ 1073741824) (w0 : World) (B : Nat) (hG : GR w0 B) :
    MutAt Tryz.prog 155 #[Pv g 0] [RD g t a 0] (fun _ : Unit => .tuple #[Sv (nmN t a), Uv (t.getD (a + 1) 0)]) (fun _ => [RD g t (nmA t a) (nmE t a)]) w0 B := by
  intro R w h
  replace h : Sat w0 B (RD g t a 0 :: R) w := h
  have hroom := nmK_room t a
  refine calls_of_ES TB Tryz.func155 rfl _ Tryz.ntmps155 rfl h ?_
  refine .go ?_; repeat constructor
  refine EL.assign rfl rfl rfl ?_
  refine EL.assign rfl rfl rfl ?_
  refine .go ?_; repeat constructor
  refine ES.draw (X := Unit) (fun _ => [(0, Pv g 0), (4, Uv (t.getD (a + 1) 0))]) (fun _ => RD g t a 0 :: R) (RD g t a 0 :: R) mixed (.i (by repeat constructor)) ?_ (fun _ => ?_)
  · refine ED.take 0 rfl (by decide +kernel) CutX.no_panic (by decide +kernel) rfl rfl rfl (RV.move rfl) ?_
    refine ED.take 1 rfl (by decide +kernel) CutX.no_panic (by decide +kernel) rfl rfl rfl (RV.nilCheck rfl) ?_
    refine ED.take 2 rfl (by decide +kernel) CutX.no_panic (by decide +kernel) rfl rfl rfl (RV.fieldAddr rfl rfl rfl rfl rfl rfl) ?_
    refine ED.take 3 rfl (by decide +kernel) CutX.no_panic (by decide +kernel) rfl rfl rfl (RV.loadB rfl rfl rfl (by repeat constructor) rfl) ?_
    refine ED.take 4 rfl (by decide +kernel) CutX.no_panic (by decide +kernel) rfl rfl rfl (RV.move rfl) ?_
    refine ED.take 5 rfl (by decide +kernel) CutX.no_panic (by decide +kernel) rfl rfl rfl (RV.nilCheck rfl) ?_
    refine ED.take 6 rfl (by decide +kernel) CutX.no_panic (by decide +kernel) rfl rfl rfl (RV.fieldAddr rfl rfl rfl rfl rfl rfl) ?_
    refine ED.take 7 rfl (by decide +kernel) CutX.no_panic (by decide +kernel) rfl rfl rfl (RV.loadB rfl rfl rfl (by repeat constructor) rfl) ?_
    refine ED.take 8 rfl (by decide +kernel) CutX.no_panic (by decide +kernel) rfl rfl rfl (RV.add1 rfl rfl (by omega)) ?_
    refine ED.take 9 rfl (by decide +kernel) CutX.no_panic (by decide +kernel) rfl rfl rfl (RV.indexSN rfl rfl rfl rfl (by omega)) ?_
    refine ED.take 10 rfl (by decide +kernel) CutX.no_panic (by decide +kernel) rfl rfl rfl (RV.assign rfl) ?_
    refine ED.done (by decide +kernel) ?_
    exact PX.cutX () ⟨rfl, rfl, trivial⟩ (.i (by repeat constructor))
  refine .go ?_; repeat constructor
  refine EL.move rfl rfl rfl ?_
  refine EL.nilCheck rfl rfl rfl ?_
  refine EL.fieldAddr rfl rfl rfl rfl rfl rfl rfl rfl ?_
  (apply EL.loadB; exact rfl; exact rfl; exact rfl; exact rfl; exact rfl; (case hm => repeat constructor); exact rfl)
  refine EL.addN (n := 2) rfl rfl rfl rfl rfl (by omega) ?_
  refine EL.assign rfl rfl rfl ?_
  refine .go ?_; repeat constructor
  refine EL.assign rfl rfl rfl ?_
  refine .go ?_; repeat constructor
  refine EL.move rfl rfl rfl ?_
  refine EL.move rfl rfl rfl ?_
  refine EL.nilCheck rfl rfl rfl ?_
  refine EL.fieldAddr rfl rfl rfl rfl rfl rfl rfl rfl ?_
  (apply EL.loadB; exact rfl; exact rfl; exact rfl; exact rfl; exact rfl; (case hm => repeat constructor); exact rfl)
  refine EL.lenS rfl rfl rfl rfl rfl ?_
  refine EL.lss rfl rfl rfl rfl ?_
  refine .go ?_; repeat constructor
  refine ES.cutC (X := Unit) (fun _ => [(0, Pv g 0), (4, Uv (t.getD (a + 1) 0)), (5, Iv ((a + 2 : Nat) : Int)), (6, Iv (nmK t a))]) (fun _ => RD g t a 0 :: R) ?_ (fun _ => ?_)
  · refine ES.condD rfl (fun hlt => ?_) (fun hge => ?_)
    · have hlt' : a + 2 < t.length := by omega
      refine .g0 ?_; repeat constructor
      refine ES.draw (X := Unit) (fun _ => [(0, Pv g 0), (4, Uv (t.getD (a + 1) 0)), (5, Iv ((a + 2 : Nat) : Int)), (6, Iv (nmK t a))]) (fun _ => RD g t a 0 :: R) (RD g t a 0 :: R) mixed (.i (by repeat constructor)) ?_ (fun _ => ?_)
      · refine ED.take 0 rfl (by decide +kernel) CutX.no_panic (by decide +kernel) rfl rfl rfl (RV.move rfl) ?_
        refine ED.take 1 rfl (by decide +kernel) CutX.no_panic (by decide +kernel) rfl rfl rfl (RV.nilCheck rfl) ?_
        refine ED.take 2 rfl (by decide +kernel) CutX.no_panic (by decide +kernel) rfl rfl rfl (RV.fieldAddr rfl rfl rfl rfl rfl rfl) ?_
        refine ED.take 3 rfl (by decide +kernel) CutX.no_panic (by decide +kernel) rfl rfl rfl (RV.loadB rfl rfl rfl (by repeat constructor) rfl) ?_
        refine ED.take 4 rfl (by decide +kernel) CutX.no_panic (by decide +kernel) rfl rfl rfl (RV.move rfl) ?_
        refine ED.take 5 rfl (by decide +kernel) CutX.no_panic (by decide +kernel) rfl rfl rfl (RV.add1 rfl rfl (by omega)) ?_
        refine ED.take 6 rfl (by decide +kernel) CutX.no_panic (by decide +kernel) rfl rfl rfl (RV.sliceS rfl rfl rfl ⟨_, rfl⟩ rfl (by omega) (by omega)) ?_
        refine ED.take 7 rfl (by decide +kernel) CutX.no_panic (by decide +kernel) rfl rfl rfl (RV.move rfl) ?_
        refine ED.loud 8 rfl (by decide +kernel) ?_
        (refine EL.buildSliceS [Uv (t.getD (a + 1) 0), .int .u8 93] rfl rfl rfl rfl rfl rfl rfl rfl rfl rfl (by intro u hu; simp only [List.mem_cons, List.not_mem_nil, or_false] at hu; rcases hu with rfl | rfl <;> rfl) ?_; intro b37)
        refine ED.next (.i (by repeat constructor)) ?_
        refine ED.loud 9 rfl (by decide +kernel) ?_
        (refine EL.bytesS (bs := [t.getD (a + 1) 0, 93]) rfl rfl rfl rfl rfl rfl rfl rfl rfl (by repeat constructor) ?_)
        refine ED.next (.i (by repeat constructor)) ?_
        refine ED.loud 10 rfl (by decide +kernel) ?_
        (refine EL.callPw rfl rfl rfl ent159 rfl (fun w hs => sindex_c _ _ (by simp only [List.length_take, List.length_drop]; omega) w (GR.sat hG hs)) ?_)
        refine ED.next (.i (by repeat constructor)) ?_
        refine ED.take 11 rfl (by decide +kernel) CutX.no_panic (by decide +kernel) rfl rfl rfl (RV.assign rfl) ?_
        refine ED.done (by decide +kernel) ?_
        exact PX.cutX () ⟨rfl, rfl, rfl, getA rfl (congrArg Iv (by unfold nmK; rw [if_pos hlt', List.take_of_length_le (by simp)])), trivial⟩ (.i (by repeat constructor))
      refine .go ?_; repeat constructor
      exact PX.cutX () ⟨rfl, rfl, rfl, rfl, trivial⟩ (.i (by repeat constructor))
    · refine .go ?_; repeat constructor
      exact PX.cutX () ⟨rfl, rfl, rfl, getA rfl (congrArg Iv (by unfold nmK; rw [if_neg (by omega)])), trivial⟩ (.i (by repeat constructor))
  refine .go ?_; repeat constructor
  refine EL.move rfl rfl rfl ?_
  refine EL.lss rfl rfl rfl rfl ?_
  refine .go ?_; repeat constructor
  refine ES.condD rfl (fun hneg => ?_) (fun hpos => ?_)
  · have e1 : nmN t a = [] := by unfold nmN; rw [if_pos hneg]
    have e2 : nmA t a = a := by unfold nmA; rw [if_pos hneg]
    have e3 : nmE t a = 6 := by unfold nmE; rw [if_pos hneg]
    refine .go ?_; repeat constructor
    refine EL.move rfl rfl rfl ?_
    refine EL.nilCheck rfl rfl rfl ?_
    refine EL.fieldAddr rfl rfl rfl rfl rfl rfl rfl rfl ?_
    (apply EL.storeB; exact rfl; exact rfl; exact rfl; exact rfl; exact rfl; exact rfl; (case p => repeat constructor); exact (by first | decide | exact Nat.le_of_ble_eq_true rfl | simp))
    refine .go ?_; repeat constructor
    refine EL.move rfl rfl rfl ?_
    refine EL.assign rfl rfl rfl ?_
    refine EL.assign rfl rfl rfl ?_
    refine .go ?_; repeat constructor
    refine PX.ret rfl Tryz.results155 (.cons (.tmp rfl) (.cons (.tmp rfl) .nil)) (fun w hs => ⟨(), by rw [e1]; rfl, ?_⟩)
    rw [e2, e3]; exact hs
  · obtain ⟨k, hk⟩ : ∃ k : Nat, nmK t a = k := ⟨(nmK t a).toNat, by omega⟩
    have hr := hroom k hk
    have e1 : nmN t a = (t.drop (a + 2)).take (1 + k) := by unfold nmN; rw [hk, if_neg (by omega)]; rfl
    have e2 : nmA t a = a + 2 + 1 + k + 2 := by unfold nmA; rw [hk, if_neg (by omega)]; rfl
    have e3 : nmE t a = 0 := by unfold nmE; rw [if_neg hpos]
    rw [hk, e1, e2, e3]
    refine .go ?_; repeat constructor
    refine EL.move rfl rfl rfl ?_
    refine EL.move rfl rfl rfl ?_
    refine EL.add1 rfl rfl rfl rfl (by omega) ?_
    refine EL.move rfl rfl rfl ?_
    refine EL.addN rfl rfl rfl rfl rfl (by omega) ?_
    refine EL.addN (n := 2) rfl rfl rfl rfl rfl (by omega) ?_
    refine EL.nilCheck rfl rfl rfl ?_
    refine EL.fieldAddr rfl rfl rfl rfl rfl rfl rfl rfl ?_
    (apply EL.storeB; exact rfl; exact rfl; exact rfl; exact rfl; exact rfl; exact rfl; (case p => repeat constructor); exact (by first | decide | exact Nat.le_of_ble_eq_true rfl | simp))
    refine .go ?_; repeat constructor
    refine EL.move rfl rfl rfl ?_
    refine EL.nilCheck rfl rfl rfl ?_
    refine EL.fieldAddr rfl rfl rfl rfl rfl rfl rfl rfl ?_
    (apply EL.loadB; exact rfl; exact rfl; exact rfl; exact rfl; exact rfl; (case hm => repeat constructor); exact rfl)
    refine EL.move rfl rfl rfl ?_
    refine EL.move rfl rfl rfl ?_
    refine EL.add1 rfl rfl rfl rfl (by omega) ?_
    refine EL.move rfl rfl rfl ?_
    refine EL.addN rfl rfl rfl rfl rfl (by omega) ?_
    refine EL.sliceS rfl rfl rfl rfl rfl ⟨_, rfl⟩ ⟨_, rfl⟩ (by omega) (by omega) ?_
    refine EL.move rfl rfl rfl ?_
    refine EL.assign rfl rfl rfl ?_
    refine EL.assign rfl rfl rfl ?_
    refine .go ?_; repeat constructor
    refine PX.ret rfl Tryz.results155 (.cons (.tmp rfl) (.cons (.tmp rfl) .nil)) (fun w hs => ⟨(), ?_, hs⟩)
    rw [show a + 2 + 1 + k - (a + 2) = 1 + k by omega]; rfl
structure It where
  set : BS
  b : UInt8
  single : Bool
  at_ : Nat
  e : Int
def itC (t : List UInt8) (a : Nat) : Bool := !decide (((t.getD a 0).toNat : Int) = 91) || decide ((t.length : Int) ≤ ((a + 1 : Nat) : Int)) || decide (idxB [46, 61, 58] (t.getD (a + 1) 0) < 0)
def itemM (t : List UInt8) (a : Nat) : It :=
  if itC t a = true then ⟨ofS [t.getD a 0], t.getD a 0, true, a + 1, 0⟩
  else if nmE t a ≠ 0 then ⟨zeroS, 0, false, nmA t a, nmE t a⟩
  else if t.getD (a + 1) 0 = 58 then ⟨(classM (nmN t a)).1, 0, false, nmA t a, (classM (nmN t a)).2⟩
  else if (nmN t a).length ≠ 1 then ⟨zeroS, 0, false, nmA t a, 8⟩
  else ⟨ofS (nmN t a), (nmN t a).getD 0 0, decide (t.getD (a + 1) 0 = 46), nmA t a, 0⟩
theorem item_at (t : List UInt8) (a : Nat) (h : a < t.length) : a ≤ (itemM t a).at_ ∧ (itemM t a).at_ ≤ t.length ∧ ((itemM t a).e = 0 → a < (itemM t a).at_) := by
  have hn := nm_at t a (by omega)
  have hs : nmE t a = 0 → a < nmA t a := by
    unfold nmE nmA
    split
    · intro h; cases h
    · intro _; omega
  unfold itemM
  split
  · exact ⟨by simp only; omega, by simp only; omega, fun _ => by simp only; omega⟩
  · split
    · rename_i h1
      exact ⟨hn.1, hn.2, fun h2 => absurd h2 h1⟩
    · rename_i h1
      have := hs (Decidable.of_not_not h1)
      split
      · exact ⟨hn.1, hn.2, fun _ => this⟩
      · split
        · exact ⟨hn.1, hn.2, fun _ => this⟩
        · exact ⟨hn.1, hn.2, fun _ => this⟩
theorem u8_lit (x : UInt8) (n : Nat) (hn : n < 256) : ((x.toNat : Int) = (n : Nat)) ↔ x = UInt8.ofNat n := by
  constructor
  · intro h
    apply UInt8.toNat_inj.1
    have h2 : (UInt8.ofNat n).toNat = n := by simp; omega
    rw [h2]; omega
  · intro h
    subst h
    simp
    omega
theorem item_c (g : Nat) (t : List UInt8) (a : Nat) (ha : a < t.length) (ht : t.length ≤ 1073741824) (w0 : World) (B : Nat) (hG : GR w0 B) :
    MutAt Tryz.prog 146 #[Pv g 0] [RD g t a 0] (fun _ : Unit => .tuple #[Bs (itemM t a).set, Uv (itemM t a).b, .bool (itemM t a).single]) (fun _ => [RD g t (itemM t a).at_ (itemM t a).e]) w0 B := by
  intro R w h
  replace h : Sat w0 B (RD g t a 0 :: R) w := h
  refine calls_of_ES TB Tryz.func146 rfl _ Tryz.ntmps146 rfl h ?_
  refine .go ?_; repeat constructor
  (refine EL.alloc rfl rfl rfl ?_; intro g2)
  refine EL.assign rfl rfl rfl ?_
  refine EL.assign rfl rfl rfl ?_
  refine .go ?_; repeat constructor
  refine ES.draw (X := Unit) (fun _ => [(0, Pv g 0), (2, Pv g2 0), (43, .bool (itC t a))]) (fun _ => SB g2 zeroS :: RD g t a 0 :: R) (SB g2 zeroS :: RD g t a 0 :: R) mixed (.i (by repeat constructor)) ?_ (fun _ => ?_)
  · refine ED.take 0 rfl (by decide +kernel) CutX.no_panic (by decide +kernel) rfl rfl rfl (RV.move rfl) ?_
    refine ED.take 1 rfl (by decide +kernel) CutX.no_panic (by decide +kernel) rfl rfl rfl (RV.nilCheck rfl) ?_
    refine ED.take 2 rfl (by decide +kernel) CutX.no_panic (by decide +kernel) rfl rfl rfl (RV.fieldAddr rfl rfl rfl rfl rfl rfl) ?_
    refine ED.take 3 rfl (by decide +kernel) CutX.no_panic (by decide +kernel) rfl rfl rfl (RV.loadB rfl rfl rfl (by repeat constructor) rfl) ?_
    refine ED.take 4 rfl (by decide +kernel) CutX.no_panic (by decide +kernel) rfl rfl rfl (RV.move rfl) ?_
    refine ED.take 5 rfl (by decide +kernel) CutX.no_panic (by decide +kernel) rfl rfl rfl (RV.nilCheck rfl) ?_
    refine ED.take 6 rfl (by decide +kernel) CutX.no_panic (by decide +kernel) rfl rfl rfl (RV.fieldAddr rfl rfl rfl rfl rfl rfl) ?_
    refine ED.take 7 rfl (by decide +kernel) CutX.no_panic (by decide +kernel) rfl rfl rfl (RV.loadB rfl rfl rfl (by repeat constructor) rfl) ?_
    refine ED.take 8 rfl (by decide +kernel) CutX.no_panic (by decide +kernel) rfl rfl rfl (RV.indexSN rfl rfl rfl rfl (by omega)) ?_
    refine ED.take 9 rfl (by decide +kernel) CutX.no_panic (by decide +kernel) rfl rfl rfl (RV.neqI rfl rfl) ?_
    refine ED.take 10 rfl (by decide +kernel) CutX.no_panic (by decide +kernel) rfl rfl rfl (RV.move rfl) ?_
    first | refine ED.part (d := 17) rfl (fun hp17 => ?_) (fun hp17 => ?_) | refine ED.partN (d := 17) rfl (fun hp17 => ?_) (fun hp17 => ?_) | refine ED.partB (d := 17) rfl (fun hp17 => ?_) (fun hp17 => ?_)
    · refine ED.pass 11 rfl (by decide +kernel) CutX.no_panic (by decide +kernel) rfl rfl rfl ?_
      refine ED.pass 12 rfl (by decide +kernel) CutX.no_panic (by decide +kernel) rfl rfl rfl ?_
      refine ED.pass 13 rfl (by decide +kernel) CutX.no_panic (by decide +kernel) rfl rfl rfl ?_
      refine ED.pass 14 rfl (by decide +kernel) CutX.no_panic (by decide +kernel) rfl rfl rfl ?_
      refine ED.pass 15 rfl (by decide +kernel) CutX.no_panic (by decide +kernel) rfl rfl rfl ?_
      refine ED.pass 16 rfl (by decide +kernel) CutX.no_panic (by decide +kernel) rfl rfl rfl ?_
      refine ED.pass 17 rfl (by decide +kernel) CutX.no_panic (by decide +kernel) rfl rfl rfl ?_
      refine ED.pass 18 rfl (by decide +kernel) CutX.no_panic (by decide +kernel) rfl rfl rfl ?_
      refine ED.pass 19 rfl (by decide +kernel) CutX.no_panic (by decide +kernel) rfl rfl rfl ?_
      refine ED.pass 20 rfl (by decide +kernel) CutX.no_panic (by decide +kernel) rfl rfl rfl ?_
      refine ED.pass 21 rfl (by decide +kernel) CutX.no_panic (by decide +kernel) rfl rfl rfl ?_
      refine ED.take 22 rfl (by decide +kernel) CutX.no_panic (by decide +kernel) rfl rfl rfl (RV.pickT rfl rfl) ?_
      refine ED.take 23 rfl (by decide +kernel) CutX.no_panic (by decide +kernel) rfl rfl rfl (RV.move rfl) ?_
      refine ED.pass 24 rfl (by decide +kernel) CutX.no_panic (by decide +kernel) rfl rfl rfl ?_
      refine ED.pass 25 rfl (by decide +kernel) CutX.no_panic (by decide +kernel) rfl rfl rfl ?_
      refine ED.pass 26 rfl (by decide +kernel) CutX.no_panic (by decide +kernel) rfl rfl rfl ?_
      refine ED.pass 27 rfl (by decide +kernel) CutX.no_panic (by decide +kernel) rfl rfl rfl ?_
      refine ED.pass 28 rfl (by decide +kernel) CutX.no_panic (by decide +kernel) rfl rfl rfl ?_
      refine ED.pass 29 rfl (by decide +kernel) CutX.no_panic (by decide +kernel) rfl rfl rfl ?_
      refine ED.pass 30 rfl (by decide +kernel) CutX.no_panic (by decide +kernel) rfl rfl rfl ?_
      refine ED.pass 31 rfl (by decide +kernel) CutX.no_panic (by decide +kernel) rfl rfl rfl ?_
      refine ED.pass 32 rfl (by decide +kernel) CutX.no_panic (by decide +kernel) rfl rfl rfl ?_
      refine ED.pass 33 rfl (by decide +kernel) CutX.no_panic (by decide +kernel) rfl rfl rfl ?_
      refine ED.pass 34 rfl (by decide +kernel) CutX.no_panic (by decide +kernel) rfl rfl rfl ?_
      refine ED.pass 35 rfl (by decide +kernel) CutX.no_panic (by decide +kernel) rfl rfl rfl ?_
      refine ED.take 36 rfl (by decide +kernel) CutX.no_panic (by decide +kernel) rfl rfl rfl (RV.pickT rfl rfl) ?_
      refine ED.done (by decide +kernel) ?_
      exact PX.cutX () ⟨rfl, rfl, getA rfl (congrArg Value.bool (by unfold itC; simp_all <;> omega)), trivial⟩ (.i (by repeat constructor))
    · refine ED.take 11 rfl (by decide +kernel) CutX.no_panic (by decide +kernel) rfl rfl rfl (RV.move rfl) ?_
      refine ED.take 12 rfl (by decide +kernel) CutX.no_panic (by decide +kernel) rfl rfl rfl (RV.nilCheck rfl) ?_
      refine ED.take 13 rfl (by decide +kernel) CutX.no_panic (by decide +kernel) rfl rfl rfl (RV.fieldAddr rfl rfl rfl rfl rfl rfl) ?_
      refine ED.take 14 rfl (by decide +kernel) CutX.no_panic (by decide +kernel) rfl rfl rfl (RV.loadB rfl rfl rfl (by repeat constructor) rfl) ?_
      refine ED.take 15 rfl (by decide +kernel) CutX.no_panic (by decide +kernel) rfl rfl rfl (RV.add1 rfl rfl (by omega)) ?_
      refine ED.take 16 rfl (by decide +kernel) CutX.no_panic (by decide +kernel) rfl rfl rfl (RV.move rfl) ?_
      refine ED.take 17 rfl (by decide +kernel) CutX.no_panic (by decide +kernel) rfl rfl rfl (RV.nilCheck rfl) ?_
      refine ED.take 18 rfl (by decide +kernel) CutX.no_panic (by decide +kernel) rfl rfl rfl (RV.fieldAddr rfl rfl rfl rfl rfl rfl) ?_
      refine ED.take 19 rfl (by decide +kernel) CutX.no_panic (by decide +kernel) rfl rfl rfl (RV.loadB rfl rfl rfl (by repeat constructor) rfl) ?_
      refine ED.take 20 rfl (by decide +kernel) CutX.no_panic (by decide +kernel) rfl rfl rfl (RV.lenS rfl rfl rfl) ?_
      refine ED.take 21 rfl (by decide +kernel) CutX.no_panic (by decide +kernel) rfl rfl rfl (RV.geq rfl rfl) ?_
      refine ED.take 22 rfl (by decide +kernel) CutX.no_panic (by decide +kernel) rfl rfl rfl (RV.pickF rfl rfl) ?_
      refine ED.take 23 rfl (by decide +kernel) CutX.no_panic (by decide +kernel) rfl rfl rfl (RV.move rfl) ?_
      first | refine ED.part (d := 30) rfl (fun hp30 => ?_) (fun hp30 => ?_) | refine ED.partN (d := 30) rfl (fun hp30 => ?_) (fun hp30 => ?_) | refine ED.partB (d := 30) rfl (fun hp30 => ?_) (fun hp30 => ?_)
      · refine ED.pass 24 rfl (by decide +kernel) CutX.no_panic (by decide +kernel) rfl rfl rfl ?_
        refine ED.pass 25 rfl (by decide +kernel) CutX.no_panic (by decide +kernel) rfl rfl rfl ?_
        refine ED.pass 26 rfl (by decide +kernel) CutX.no_panic (by decide +kernel) rfl rfl rfl ?_
        refine ED.pass 27 rfl (by decide +kernel) CutX.no_panic (by decide +kernel) rfl rfl rfl ?_
        refine ED.pass 28 rfl (by decide +kernel) CutX.no_panic (by decide +kernel) rfl rfl rfl ?_
        refine ED.pass 29 rfl (by decide +kernel) CutX.no_panic (by decide +kernel) rfl rfl rfl ?_
        refine ED.pass 30 rfl (by decide +kernel) CutX.no_panic (by decide +kernel) rfl rfl rfl ?_
        refine ED.pass 31 rfl (by decide +kernel) CutX.no_panic (by decide +kernel) rfl rfl rfl ?_
        refine ED.pass 32 rfl (by decide +kernel) CutX.no_panic (by decide +kernel) rfl rfl rfl ?_
        refine ED.pass 33 rfl (by decide +kernel) CutX.no_panic (by decide +kernel) rfl rfl rfl ?_
        refine ED.pass 34 rfl (by decide +kernel) CutX.no_panic (by decide +kernel) rfl rfl rfl ?_
        refine ED.pass 35 rfl (by decide +kernel) CutX.no_panic (by decide +kernel) rfl rfl rfl ?_
        refine ED.take 36 rfl (by decide +kernel) CutX.no_panic (by decide +kernel) rfl rfl rfl (RV.pickT rfl rfl) ?_
        refine ED.done (by decide +kernel) ?_
        exact PX.cutX () ⟨rfl, rfl, getA rfl (congrArg Value.bool (by unfold itC; simp_all <;> omega)), trivial⟩ (.i (by repeat constructor))
      · refine ED.take 24 rfl (by decide +kernel) CutX.no_panic (by decide +kernel) rfl rfl rfl (RV.move rfl) ?_
        refine ED.take 25 rfl (by decide +kernel) CutX.no_panic (by decide +kernel) rfl rfl rfl (RV.nilCheck rfl) ?_
        refine ED.take 26 rfl (by decide +kernel) CutX.no_panic (by decide +kernel) rfl rfl rfl (RV.fieldAddr rfl rfl rfl rfl rfl rfl) ?_
        refine ED.take 27 rfl (by decide +kernel) CutX.no_panic (by decide +kernel) rfl rfl rfl (RV.loadB rfl rfl rfl (by repeat constructor) rfl) ?_
        refine ED.take 28 rfl (by decide +kernel) CutX.no_panic (by decide +kernel) rfl rfl rfl (RV.move rfl) ?_
        refine ED.take 29 rfl (by decide +kernel) CutX.no_panic (by decide +kernel) rfl rfl rfl (RV.nilCheck rfl) ?_
        refine ED.take 30 rfl (by decide +kernel) CutX.no_panic (by decide +kernel) rfl rfl rfl (RV.fieldAddr rfl rfl rfl rfl rfl rfl) ?_
        refine ED.take 31 rfl (by decide +kernel) CutX.no_panic (by decide +kernel) rfl rfl rfl (RV.loadB rfl rfl rfl (by repeat constructor) rfl) ?_
        refine ED.take 32 rfl (by decide +kernel) CutX.no_panic (by decide +kernel) rfl rfl rfl (RV.add1 rfl rfl (by omega)) ?_
        refine ED.take 33 rfl (by decide +kernel) CutX.no_panic (by decide +kernel) rfl rfl rfl (RV.indexSN rfl rfl rfl rfl (by omega)) ?_
        refine ED.loud 34 rfl (by decide +kernel) ?_
        refine EL.callP rfl rfl rfl ent51 rfl (index_c _ _) ?_
        refine ED.next (.i (by repeat constructor)) ?_
        refine ED.take 35 rfl (by decide +kernel) CutX.no_panic (by decide +kernel) rfl rfl rfl (RV.lss rfl rfl) ?_
        refine ED.take 36 rfl (by decide +kernel) CutX.no_panic (by decide +kernel) rfl rfl rfl (RV.pickF rfl rfl) ?_
        refine ED.done (by decide +kernel) ?_
        exact PX.cutX () ⟨rfl, rfl, getA rfl (congrArg Value.bool (by unfold itC; simp_all <;> omega)), trivial⟩ (.i (by repeat constructor))
  refine ES.cond rfl (fun hc => ?_) (fun hc => ?_)
  · have hi : itemM t a = ⟨ofS [t.getD a 0], t.getD a 0, true, a + 1, 0⟩ := by unfold itemM; rw [if_pos hc]
    rw [hi]
    refine .g0 ?_; repeat constructor
    refine ES.draw (X := Unit) (fun _ => [(0, Pv g 0), (2, Pv g2 0), (3, Uv (t.getD a 0))]) (fun _ => SB g2 zeroS :: RD g t a 0 :: R) (SB g2 zeroS :: RD g t a 0 :: R) mixed (.i (by repeat constructor)) ?_ (fun _ => ?_)
    · refine ED.take 0 rfl (by decide +kernel) CutX.no_panic (by decide +kernel) rfl rfl rfl (RV.move rfl) ?_
      refine ED.take 1 rfl (by decide +kernel) CutX.no_panic (by decide +kernel) rfl rfl rfl (RV.nilCheck rfl) ?_
      refine ED.take 2 rfl (by decide +kernel) CutX.no_panic (by decide +kernel) rfl rfl rfl (RV.fieldAddr rfl rfl rfl rfl rfl rfl) ?_
      refine ED.take 3 rfl (by decide +kernel) CutX.no_panic (by decide +kernel) rfl rfl rfl (RV.loadB rfl rfl rfl (by repeat constructor) rfl) ?_
      refine ED.take 4 rfl (by decide +kernel) CutX.no_panic (by decide +kernel) rfl rfl rfl (RV.move rfl) ?_
      refine ED.take 5 rfl (by decide +kernel) CutX.no_panic (by decide +kernel) rfl rfl rfl (RV.nilCheck rfl) ?_
      refine ED.take 6 rfl (by decide +kernel) CutX.no_panic (by decide +kernel) rfl rfl rfl (RV.fieldAddr rfl rfl rfl rfl rfl rfl) ?_
      refine ED.take 7 rfl (by decide +kernel) CutX.no_panic (by decide +kernel) rfl rfl rfl (RV.loadB rfl rfl rfl (by repeat constructor) rfl) ?_
      refine ED.take 8 rfl (by decide +kernel) CutX.no_panic (by decide +kernel) rfl rfl rfl (RV.indexSN rfl rfl rfl rfl (by omega)) ?_
      refine ED.take 9 rfl (by decide +kernel) CutX.no_panic (by decide +kernel) rfl rfl rfl (RV.assign rfl) ?_
      refine ED.done (by decide +kernel) ?_
      exact PX.cutX () ⟨rfl, rfl, rfl, trivial⟩ (.i (by repeat constructor))
    refine .go ?_; repeat constructor
    refine EL.move rfl rfl rfl ?_
    refine EL.nilCheck rfl rfl rfl ?_
    refine EL.fieldAddr rfl rfl rfl rfl rfl rfl rfl rfl ?_
    (apply EL.loadB; exact rfl; exact rfl; exact rfl; exact rfl; exact rfl; (case hm => repeat constructor); exact rfl)
    refine EL.add1 rfl rfl rfl rfl (by omega) ?_
    refine EL.nilCheck rfl rfl rfl ?_
    refine EL.fieldAddr rfl rfl rfl rfl rfl rfl rfl rfl ?_
    (apply EL.storeB; exact rfl; exact rfl; exact rfl; exact rfl; exact rfl; exact rfl; (case p => repeat constructor); exact (by first | decide | exact Nat.le_of_ble_eq_true rfl | simp))
    refine .go ?_; repeat constructor
    refine EL.move rfl rfl rfl ?_
    (refine EL.buildSlice1 rfl rfl rfl rfl rfl rfl rfl rfl rfl rfl ?_; intro b61)
    (refine EL.bytesS (bs := [t.getD a 0]) rfl rfl rfl rfl rfl rfl rfl rfl rfl (by repeat constructor) ?_)
    refine EL.callP rfl rfl rfl ent132 rfl (of_c [t.getD a 0] (by simp)) ?_
    refine EL.move rfl rfl rfl ?_
    (apply EL.storeAll; exact rfl; exact rfl; exact rfl; exact rfl; exact rfl; (case p => repeat constructor); exact rfl; (case h1 => exact (by first | rfl | exact all1 rfl | (intro u hu; simp only [List.mem_cons, List.not_mem_nil, or_false] at hu; rcases hu with rfl | rfl | rfl | rfl <;> rfl) | (intro u hu; simp at hu; rcases hu with rfl | rfl | rfl | rfl <;> rfl) | (intro u hu; simp at hu; rcases hu with rfl | rfl | rfl <;> rfl) | (intro u hu; simp at hu; rcases hu with rfl | rfl <;> rfl) | (intro u hu; simp at hu; obtain ⟨_, _, rfl⟩ := hu; rfl))))
    refine EL.assign rfl rfl rfl ?_
    refine EL.assign rfl rfl rfl ?_
    refine .go ?_; repeat constructor
    exact PX.ret rfl Tryz.results146 (.cons (.blkA rfl rfl rfl (by repeat constructor) rfl) (.cons (.tmp rfl) (.cons (.tmp rfl) .nil))) (fun w hs => ⟨(), rfl, hs.ent (.i (by repeat constructor))⟩)
  · have hfa : ¬ (((t.getD a 0).toNat : Int) ≠ 91) ∧ a + 1 < t.length := by
      unfold itC at hc
      simp only [Bool.or_eq_false_iff, Bool.not_eq_false', decide_eq_true_eq, decide_eq_false_iff_not] at hc
      exact ⟨fun h => h hc.1.1, by omega⟩
    have hi0 : itemM t a = if nmE t a ≠ 0 then ⟨zeroS, 0, false, nmA t a, nmE t a⟩
        else if t.getD (a + 1) 0 = 58 then ⟨(classM (nmN t a)).1, 0, false, nmA t a, (classM (nmN t a)).2⟩
        else if (nmN t a).length ≠ 1 then ⟨zeroS, 0, false, nmA t a, 8⟩
        else ⟨ofS (nmN t a), (nmN t a).getD 0 0, decide (t.getD (a + 1) 0 = 46), nmA t a, 0⟩ := by
      conv => lhs; unfold itemM
      rw [if_neg (by rw [hc]; decide)]
    have h46 : (((t.getD (a + 1) 0).toNat : Int) = 46) ↔ t.getD (a + 1) 0 = 46 := u8_lit (t.getD (a + 1) 0) 46 (by omega)
    have h58 : (((t.getD (a + 1) 0).toNat : Int) = 58) ↔ t.getD (a + 1) 0 = 58 := u8_lit (t.getD (a + 1) 0) 58 (by omega)
    refine .go ?_; repeat constructor
    refine EL.move rfl rfl rfl ?_
    refine EL.callMw1 rfl rfl rfl ent155 rfl (named_c g t a hfa.2 ht _ _ hG) (by repeat constructor) ?_
    refine EL.move rfl rfl rfl ?_
    refine EL.extract rfl rfl rfl rfl ?_
    refine EL.extract rfl rfl rfl rfl ?_
    refine EL.assign rfl rfl rfl ?_
    refine EL.assign rfl rfl rfl ?_
    refine .go ?_; repeat constructor
    refine .go ?_; repeat constructor
    refine EL.move rfl rfl rfl ?_
    refine EL.nilCheck rfl rfl rfl ?_
    refine EL.fieldAddr rfl rfl rfl rfl rfl rfl rfl rfl ?_
    (apply EL.loadB; exact rfl; exact rfl; exact rfl; exact rfl; exact rfl; (case hm => repeat constructor); exact rfl)
    refine EL.neqI rfl rfl rfl rfl ?_
    refine EL.assign rfl rfl rfl ?_
    refine .go ?_; repeat constructor
    refine ES.condN rfl (fun hne => ?_) (fun heq => ?_)
    · rw [if_pos hne] at hi0
      rw [hi0]
      refine .go ?_; repeat constructor
      (apply EL.loadAggB; exact rfl; exact rfl; exact rfl; exact rfl; exact rfl; (case hm => repeat constructor); exact rfl)
      (apply EL.storeAll; exact rfl; exact rfl; exact rfl; exact rfl; exact rfl; (case p => repeat constructor); exact rfl; (case h1 => exact (by first | rfl | exact all1 rfl | (intro u hu; simp only [List.mem_cons, List.not_mem_nil, or_false] at hu; rcases hu with rfl | rfl | rfl | rfl <;> rfl) | (intro u hu; simp at hu; rcases hu with rfl | rfl | rfl | rfl <;> rfl) | (intro u hu; simp at hu; rcases hu with rfl | rfl | rfl <;> rfl) | (intro u hu; simp at hu; rcases hu with rfl | rfl <;> rfl) | (intro u hu; simp at hu; obtain ⟨_, _, rfl⟩ := hu; rfl))))
      refine EL.assign rfl rfl rfl ?_
      refine EL.assign rfl rfl rfl ?_
      refine .go ?_; repeat constructor
      exact PX.ret rfl Tryz.results146 (.cons (.blkA rfl rfl rfl (by repeat constructor) rfl) (.cons (.tmp rfl) (.cons (.tmp rfl) .nil))) (fun w hs => ⟨(), rfl, hs.ent (.i (by repeat constructor))⟩)
    · rw [if_neg (by simpa using heq)] at hi0
      refine .go ?_; repeat constructor
      refine EL.move rfl rfl rfl ?_
      refine EL.eqlI rfl rfl rfl rfl ?_
      refine EL.assign rfl rfl rfl ?_
      refine .go ?_; repeat constructor
      refine ES.condD rfl (fun h1 => ?_) (fun h1 => ?_)
      · rw [if_pos (h58.1 h1)] at hi0
        rw [hi0]
        refine .go ?_; repeat constructor
        refine EL.move rfl rfl rfl ?_
        refine EL.move rfl rfl rfl ?_
        refine EL.callP rfl rfl rfl ent156 rfl (class_c (nmN t a)) ?_
        refine EL.move rfl rfl rfl ?_
        refine EL.extract rfl rfl rfl rfl ?_
        refine EL.extract rfl rfl rfl rfl ?_
        (apply EL.storeAll; exact rfl; exact rfl; exact rfl; exact rfl; exact rfl; (case p => repeat constructor); exact rfl; (case h1 => exact (by first | rfl | exact all1 rfl | (intro u hu; simp only [List.mem_cons, List.not_mem_nil, or_false] at hu; rcases hu with rfl | rfl | rfl | rfl <;> rfl) | (intro u hu; simp at hu; rcases hu with rfl | rfl | rfl | rfl <;> rfl) | (intro u hu; simp at hu; rcases hu with rfl | rfl | rfl <;> rfl) | (intro u hu; simp at hu; rcases hu with rfl | rfl <;> rfl) | (intro u hu; simp at hu; obtain ⟨_, _, rfl⟩ := hu; rfl))))
        refine EL.nilCheck rfl rfl rfl ?_
        refine EL.fieldAddr rfl rfl rfl rfl rfl rfl rfl rfl ?_
        (apply EL.storeB; exact rfl; exact rfl; exact rfl; exact rfl; exact rfl; exact rfl; (case p => repeat constructor); exact (by first | decide | exact Nat.le_of_ble_eq_true rfl | simp))
        refine .go ?_; repeat constructor
        (apply EL.loadAggB; exact rfl; exact rfl; exact rfl; exact rfl; exact rfl; (case hm => repeat constructor); exact rfl)
        (apply EL.storeAll; exact rfl; exact rfl; exact rfl; exact rfl; exact rfl; (case p => repeat constructor); exact rfl; (case h1 => exact (by first | rfl | exact all1 rfl | (intro u hu; simp only [List.mem_cons, List.not_mem_nil, or_false] at hu; rcases hu with rfl | rfl | rfl | rfl <;> rfl) | (intro u hu; simp at hu; rcases hu with rfl | rfl | rfl | rfl <;> rfl) | (intro u hu; simp at hu; rcases hu with rfl | rfl | rfl <;> rfl) | (intro u hu; simp at hu; rcases hu with rfl | rfl <;> rfl) | (intro u hu; simp at hu; obtain ⟨_, _, rfl⟩ := hu; rfl))))
        refine EL.assign rfl rfl rfl ?_
        refine EL.assign rfl rfl rfl ?_
        refine .go ?_; repeat constructor
        exact PX.ret rfl Tryz.results146 (.cons (.blkA rfl rfl rfl (by repeat constructor) rfl) (.cons (.tmp rfl) (.cons (.tmp rfl) .nil))) (fun w hs => ⟨(), rfl, hs.ent (.i (by repeat constructor))⟩)
      · rw [if_neg (fun h => h1 (h58.2 h))] at hi0
        refine .go ?_; repeat constructor
        refine EL.move rfl rfl rfl ?_
        refine EL.lenS rfl rfl rfl rfl rfl ?_
        refine EL.neqI rfl rfl rfl rfl ?_
        refine EL.assign rfl rfl rfl ?_
        refine .go ?_; repeat constructor
        refine ES.condN rfl (fun h2 => ?_) (fun h2 => ?_)
        · rw [if_pos (by omega)] at hi0
          rw [hi0]
          refine .go ?_; repeat constructor
          refine EL.move rfl rfl rfl ?_
          refine EL.nilCheck rfl rfl rfl ?_
          refine EL.fieldAddr rfl rfl rfl rfl rfl rfl rfl rfl ?_
          (apply EL.storeB; exact rfl; exact rfl; exact rfl; exact rfl; exact rfl; exact rfl; (case p => repeat constructor); exact (by first | decide | exact Nat.le_of_ble_eq_true rfl | simp))
          refine .go ?_; repeat constructor
          (apply EL.loadAggB; exact rfl; exact rfl; exact rfl; exact rfl; exact rfl; (case hm => repeat constructor); exact rfl)
          (apply EL.storeAll; exact rfl; exact rfl; exact rfl; exact rfl; exact rfl; (case p => repeat constructor); exact rfl; (case h1 => exact (by first | rfl | exact all1 rfl | (intro u hu; simp only [List.mem_cons, List.not_mem_nil, or_false] at hu; rcases hu with rfl | rfl | rfl | rfl <;> rfl) | (intro u hu; simp at hu; rcases hu with rfl | rfl | rfl | rfl <;> rfl) | (intro u hu; simp at hu; rcases hu with rfl | rfl | rfl <;> rfl) | (intro u hu; simp at hu; rcases hu with rfl | rfl <;> rfl) | (intro u hu; simp at hu; obtain ⟨_, _, rfl⟩ := hu; rfl))))
          refine EL.assign rfl rfl rfl ?_
          refine EL.assign rfl rfl rfl ?_
          refine .go ?_; repeat constructor
          exact PX.ret rfl Tryz.results146 (.cons (.blkA rfl rfl rfl (by repeat constructor) rfl) (.cons (.tmp rfl) (.cons (.tmp rfl) .nil))) (fun w hs => ⟨(), rfl, hs.ent (.i (by repeat constructor))⟩)
        · rw [if_neg (by omega)] at hi0
          have hl : 0 < (nmN t a).length := by omega
          have hd46 : decide (((t.getD (a + 1) 0).toNat : Int) = 46) = decide (t.getD (a + 1) 0 = 46) := decide_eq_decide.2 h46
          rw [hi0]
          refine .g0 ?_; repeat constructor
          refine ES.draw (X := Unit) (fun _ => [(2, Pv g2 0), (3, Uv ((nmN t a).getD 0 0)), (4, .bool (decide (t.getD (a + 1) 0 = 46)))]) (fun _ => SB g2 (ofS (nmN t a)) :: RD g t (nmA t a) (nmE t a) :: R) (RD g t (nmA t a) (nmE t a) :: R) mixed (.i (by repeat constructor)) ?_ (fun _ => ?_)
          · refine ED.take 0 rfl (by decide +kernel) CutX.no_panic (by decide +kernel) rfl rfl rfl (RV.move rfl) ?_
            refine ED.take 2 rfl (by decide +kernel) CutX.no_panic (by decide +kernel) rfl rfl rfl (RV.move rfl) ?_
            refine ED.take 3 rfl (by decide +kernel) CutX.no_panic (by decide +kernel) rfl rfl rfl (RV.indexSN (i := 0) rfl rfl rfl rfl hl) ?_
            refine ED.take 4 rfl (by decide +kernel) CutX.no_panic (by decide +kernel) rfl rfl rfl (RV.move rfl) ?_
            refine ED.take 5 rfl (by decide +kernel) CutX.no_panic (by decide +kernel) rfl rfl rfl (RV.eqlI rfl rfl) ?_
            refine ED.loud 1 rfl (by decide +kernel) ?_
            refine EL.callP rfl rfl rfl ent132 rfl (of_c (nmN t a) (by omega)) ?_
            refine ED.next (.i (by repeat constructor)) ?_
            refine ED.loud 6 rfl (by decide +kernel) ?_
            (apply EL.storeAll; exact rfl; exact rfl; exact rfl; exact rfl; exact rfl; (case p => repeat constructor); exact rfl; (case h1 => exact (by first | rfl | exact all1 rfl | (intro u hu; simp only [List.mem_cons, List.not_mem_nil, or_false] at hu; rcases hu with rfl | rfl | rfl | rfl <;> rfl) | (intro u hu; simp at hu; rcases hu with rfl | rfl | rfl | rfl <;> rfl) | (intro u hu; simp at hu; rcases hu with rfl | rfl | rfl <;> rfl) | (intro u hu; simp at hu; rcases hu with rfl | rfl <;> rfl) | (intro u hu; simp at hu; obtain ⟨_, _, rfl⟩ := hu; rfl))))
            refine ED.next (.i (by repeat constructor)) ?_
            refine ED.take 7 rfl (by decide +kernel) CutX.no_panic (by decide +kernel) rfl rfl rfl (RV.assign rfl) ?_
            refine ED.take 8 rfl (by decide +kernel) CutX.no_panic (by decide +kernel) rfl rfl rfl (RV.assign rfl) ?_
            refine ED.done (by decide +kernel) ?_
            exact PX.cutX () ⟨rfl, rfl, getA rfl (congrArg Value.bool hd46), trivial⟩ (.i (by repeat constructor))
          refine .go ?_; repeat constructor
          refine PX.ret rfl Tryz.results146 (.cons (.blkA rfl rfl rfl (by repeat constructor) rfl) (.cons (.tmp rfl) (.cons (.tmp rfl) .nil))) (fun w hs => ⟨(), rfl, ?_⟩)
          have he0 : nmE t a = 0 := by simpa using heq
          rw [he0] at hs
          exact hs.ent (.i (by repeat constructor))
end Go.Proofs.YtblpgpgbnlhjlaaGreat
namespace Go.Proofs.YtblpgpgbnlhjlaaGreat
open Go Go.RowKit Sl
set_option maxRecDepth 100000
set_option maxHeartbeats 8000000
set_option linter.unusedVariables false
set_option linter.unusedSimpArgs false
attribute [local irreducible] ES EL PX wps
def dashM (t : List UInt8) (a : Nat) : Bool := (decide ((a : Int) < (t.length : Int)) && decide (((t.getD a 0).toNat : Int) = 45)) && (decide ((t.length : Int) ≤ ((a + 1 : Nat) : Int)) || !decide (((t.getD (a + 1) 0).toNat : Int) = 93))
theorem dash_lt {t : List UInt8} {a : Nat} (h : dashM t a = true) : a < t.length := by
  unfold dashM at h
  simp only [Bool.and_eq_true, decide_eq_true_eq] at h
  omega
theorem dash_c (g : Nat) (t : List UInt8) (a : Nat) (e : Int) (ht : t.length ≤ 1073741824) (ha : a ≤ t.length) (w0 : World) (B : Nat) :
    MutAt Tryz.prog 147 #[Pv g 0] [RD g t a e] (fun _ : Unit => .bool (dashM t a)) (fun _ => [RD g t a e]) w0 B := by
  intro R w h
  replace h : Sat w0 B (RD g t a e :: R) w := h
  refine calls_of_ES TB Tryz.func147 rfl _ Tryz.ntmps147 rfl h ?_
  refine .go ?_; repeat constructor
  refine EL.assign rfl rfl rfl ?_
  refine .go ?_; repeat constructor
  refine ES.draw (X := Unit) (fun _ => [(2, .bool (dashM t a))]) (fun _ => RD g t a e :: R) (RD g t a e :: R) mixed (.i (by repeat constructor)) ?_ (fun _ => ?_)
  · refine ED.take 0 rfl (by decide +kernel) CutX.no_panic (by decide +kernel) rfl rfl rfl (RV.move rfl) ?_
    refine ED.take 1 rfl (by decide +kernel) CutX.no_panic (by decide +kernel) rfl rfl rfl (RV.nilCheck rfl) ?_
    refine ED.take 2 rfl (by decide +kernel) CutX.no_panic (by decide +kernel) rfl rfl rfl (RV.fieldAddr rfl rfl rfl rfl rfl rfl) ?_
    refine ED.take 3 rfl (by decide +kernel) CutX.no_panic (by decide +kernel) rfl rfl rfl (RV.loadB rfl rfl rfl (by repeat constructor) rfl) ?_
    refine ED.take 4 rfl (by decide +kernel) CutX.no_panic (by decide +kernel) rfl rfl rfl (RV.move rfl) ?_
    refine ED.take 5 rfl (by decide +kernel) CutX.no_panic (by decide +kernel) rfl rfl rfl (RV.nilCheck rfl) ?_
    refine ED.take 6 rfl (by decide +kernel) CutX.no_panic (by decide +kernel) rfl rfl rfl (RV.fieldAddr rfl rfl rfl rfl rfl rfl) ?_
    refine ED.take 7 rfl (by decide +kernel) CutX.no_panic (by decide +kernel) rfl rfl rfl (RV.loadB rfl rfl rfl (by repeat constructor) rfl) ?_
    refine ED.take 8 rfl (by decide +kernel) CutX.no_panic (by decide +kernel) rfl rfl rfl (RV.lenS rfl rfl rfl) ?_
    refine ED.take 9 rfl (by decide +kernel) CutX.no_panic (by decide +kernel) rfl rfl rfl (RV.lss rfl rfl) ?_
    refine ED.take 10 rfl (by decide +kernel) CutX.no_panic (by decide +kernel) rfl rfl rfl (RV.move rfl) ?_
    first | refine ED.part (d := 13) rfl (fun hp13 => ?_) (fun hp13 => ?_) | refine ED.partN (d := 13) rfl (fun hp13 => ?_) (fun hp13 => ?_) | refine ED.partB (d := 13) rfl (fun hp13 => ?_) (fun hp13 => ?_)
    · refine ED.take 11 rfl (by decide +kernel) CutX.no_panic (by decide +kernel) rfl rfl rfl (RV.move rfl) ?_
      refine ED.take 12 rfl (by decide +kernel) CutX.no_panic (by decide +kernel) rfl rfl rfl (RV.nilCheck rfl) ?_
      refine ED.take 13 rfl (by decide +kernel) CutX.no_panic (by decide +kernel) rfl rfl rfl (RV.fieldAddr rfl rfl rfl rfl rfl rfl) ?_
      refine ED.take 14 rfl (by decide +kernel) CutX.no_panic (by decide +kernel) rfl rfl rfl (RV.loadB rfl rfl rfl (by repeat constructor) rfl) ?_
      refine ED.take 15 rfl (by decide +kernel) CutX.no_panic (by decide +kernel) rfl rfl rfl (RV.move rfl) ?_
      refine ED.take 16 rfl (by decide +kernel) CutX.no_panic (by decide +kernel) rfl rfl rfl (RV.nilCheck rfl) ?_
      refine ED.take 17 rfl (by decide +kernel) CutX.no_panic (by decide +kernel) rfl rfl rfl (RV.fieldAddr rfl rfl rfl rfl rfl rfl) ?_
      refine ED.take 18 rfl (by decide +kernel) CutX.no_panic (by decide +kernel) rfl rfl rfl (RV.loadB rfl rfl rfl (by repeat constructor) rfl) ?_
      refine ED.take 19 rfl (by decide +kernel) CutX.no_panic (by decide +kernel) rfl rfl rfl (RV.indexSN rfl rfl rfl rfl (by omega)) ?_
      refine ED.take 20 rfl (by decide +kernel) CutX.no_panic (by decide +kernel) rfl rfl rfl (RV.eqlI rfl rfl) ?_
      refine ED.take 21 rfl (by decide +kernel) CutX.no_panic (by decide +kernel) rfl rfl rfl (RV.pickT rfl rfl) ?_
      refine ED.take 22 rfl (by decide +kernel) CutX.no_panic (by decide +kernel) rfl rfl rfl (RV.move rfl) ?_
      first | refine ED.part (d := 25) rfl (fun hp25 => ?_) (fun hp25 => ?_) | refine ED.partN (d := 25) rfl (fun hp25 => ?_) (fun hp25 => ?_) | refine ED.partB (d := 25) rfl (fun hp25 => ?_) (fun hp25 => ?_)
      · refine ED.take 23 rfl (by decide +kernel) CutX.no_panic (by decide +kernel) rfl rfl rfl (RV.move rfl) ?_
        refine ED.take 24 rfl (by decide +kernel) CutX.no_panic (by decide +kernel) rfl rfl rfl (RV.nilCheck rfl) ?_
        refine ED.take 25 rfl (by decide +kernel) CutX.no_panic (by decide +kernel) rfl rfl rfl (RV.fieldAddr rfl rfl rfl rfl rfl rfl) ?_
        refine ED.take 26 rfl (by decide +kernel) CutX.no_panic (by decide +kernel) rfl rfl rfl (RV.loadB rfl rfl rfl (by repeat constructor) rfl) ?_
        refine ED.take 27 rfl (by decide +kernel) CutX.no_panic (by decide +kernel) rfl rfl rfl (RV.add1 rfl rfl (by omega)) ?_
        refine ED.take 28 rfl (by decide +kernel) CutX.no_panic (by decide +kernel) rfl rfl rfl (RV.move rfl) ?_
        refine ED.take 29 rfl (by decide +kernel) CutX.no_panic (by decide +kernel) rfl rfl rfl (RV.nilCheck rfl) ?_
        refine ED.take 30 rfl (by decide +kernel) CutX.no_panic (by decide +kernel) rfl rfl rfl (RV.fieldAddr rfl rfl rfl rfl rfl rfl) ?_
        refine ED.take 31 rfl (by decide +kernel) CutX.no_panic (by decide +kernel) rfl rfl rfl (RV.loadB rfl rfl rfl (by repeat constructor) rfl) ?_
        refine ED.take 32 rfl (by decide +kernel) CutX.no_panic (by decide +kernel) rfl rfl rfl (RV.lenS rfl rfl rfl) ?_
        refine ED.take 33 rfl (by decide +kernel) CutX.no_panic (by decide +kernel) rfl rfl rfl (RV.geq rfl rfl) ?_
        refine ED.take 34 rfl (by decide +kernel) CutX.no_panic (by decide +kernel) rfl rfl rfl (RV.move rfl) ?_
        first | refine ED.part (d := 37) rfl (fun hp37 => ?_) (fun hp37 => ?_) | refine ED.partN (d := 37) rfl (fun hp37 => ?_) (fun hp37 => ?_) | refine ED.partB (d := 37) rfl (fun hp37 => ?_) (fun hp37 => ?_)
        · refine ED.pass 35 rfl (by decide +kernel) CutX.no_panic (by decide +kernel) rfl rfl rfl ?_
          refine ED.pass 36 rfl (by decide +kernel) CutX.no_panic (by decide +kernel) rfl rfl rfl ?_
          refine ED.pass 37 rfl (by decide +kernel) CutX.no_panic (by decide +kernel) rfl rfl rfl ?_
          refine ED.pass 38 rfl (by decide +kernel) CutX.no_panic (by decide +kernel) rfl rfl rfl ?_
          refine ED.pass 39 rfl (by decide +kernel) CutX.no_panic (by decide +kernel) rfl rfl rfl ?_
          refine ED.pass 40 rfl (by decide +kernel) CutX.no_panic (by decide +kernel) rfl rfl rfl ?_
          refine ED.pass 41 rfl (by decide +kernel) CutX.no_panic (by decide +kernel) rfl rfl rfl ?_
          refine ED.pass 42 rfl (by decide +kernel) CutX.no_panic (by decide +kernel) rfl rfl rfl ?_
          refine ED.pass 43 rfl (by decide +kernel) CutX.no_panic (by decide +kernel) rfl rfl rfl ?_
          refine ED.pass 44 rfl (by decide +kernel) CutX.no_panic (by decide +kernel) rfl rfl rfl ?_
          refine ED.pass 45 rfl (by decide +kernel) CutX.no_panic (by decide +kernel) rfl rfl rfl ?_
          refine ED.take 46 rfl (by decide +kernel) CutX.no_panic (by decide +kernel) rfl rfl rfl (RV.pickT rfl rfl) ?_
          refine ED.take 47 rfl (by decide +kernel) CutX.no_panic (by decide +kernel) rfl rfl rfl (RV.pickT rfl rfl) ?_
          refine ED.take 48 rfl (by decide +kernel) CutX.no_panic (by decide +kernel) rfl rfl rfl (RV.assign rfl) ?_
          refine ED.done (by decide +kernel) ?_
          exact PX.cutX () ⟨getA rfl (congrArg Value.bool (by unfold dashM; simp_all <;> omega)), trivial⟩ (.i (by repeat constructor))
        · refine ED.take 35 rfl (by decide +kernel) CutX.no_panic (by decide +kernel) rfl rfl rfl (RV.move rfl) ?_
          refine ED.take 36 rfl (by decide +kernel) CutX.no_panic (by decide +kernel) rfl rfl rfl (RV.nilCheck rfl) ?_
          refine ED.take 37 rfl (by decide +kernel) CutX.no_panic (by decide +kernel) rfl rfl rfl (RV.fieldAddr rfl rfl rfl rfl rfl rfl) ?_
          refine ED.take 38 rfl (by decide +kernel) CutX.no_panic (by decide +kernel) rfl rfl rfl (RV.loadB rfl rfl rfl (by repeat constructor) rfl) ?_
          refine ED.take 39 rfl (by decide +kernel) CutX.no_panic (by decide +kernel) rfl rfl rfl (RV.move rfl) ?_
          refine ED.take 40 rfl (by decide +kernel) CutX.no_panic (by decide +kernel) rfl rfl rfl (RV.nilCheck rfl) ?_
          refine ED.take 41 rfl (by decide +kernel) CutX.no_panic (by decide +kernel) rfl rfl rfl (RV.fieldAddr rfl rfl rfl rfl rfl rfl) ?_
          refine ED.take 42 rfl (by decide +kernel) CutX.no_panic (by decide +kernel) rfl rfl rfl (RV.loadB rfl rfl rfl (by repeat constructor) rfl) ?_
          refine ED.take 43 rfl (by decide +kernel) CutX.no_panic (by decide +kernel) rfl rfl rfl (RV.add1 rfl rfl (by omega)) ?_
          refine ED.take 44 rfl (by decide +kernel) CutX.no_panic (by decide +kernel) rfl rfl rfl (RV.indexSN rfl rfl rfl rfl (by omega)) ?_
          refine ED.take 45 rfl (by decide +kernel) CutX.no_panic (by decide +kernel) rfl rfl rfl (RV.neqI rfl rfl) ?_
          refine ED.take 46 rfl (by decide +kernel) CutX.no_panic (by decide +kernel) rfl rfl rfl (RV.pickF rfl rfl) ?_
          refine ED.take 47 rfl (by decide +kernel) CutX.no_panic (by decide +kernel) rfl rfl rfl (RV.pickT rfl rfl) ?_
          refine ED.take 48 rfl (by decide +kernel) CutX.no_panic (by decide +kernel) rfl rfl rfl (RV.assign rfl) ?_
          refine ED.done (by decide +kernel) ?_
          exact PX.cutX () ⟨getA rfl (congrArg Value.bool (by unfold dashM; simp_all <;> omega)), trivial⟩ (.i (by repeat constructor))
      · refine ED.pass 23 rfl (by decide +kernel) CutX.no_panic (by decide +kernel) rfl rfl rfl ?_
        refine ED.pass 24 rfl (by decide +kernel) CutX.no_panic (by decide +kernel) rfl rfl rfl ?_
        refine ED.pass 25 rfl (by decide +kernel) CutX.no_panic (by decide +kernel) rfl rfl rfl ?_
        refine ED.pass 26 rfl (by decide +kernel) CutX.no_panic (by decide +kernel) rfl rfl rfl ?_
        refine ED.pass 27 rfl (by decide +kernel) CutX.no_panic (by decide +kernel) rfl rfl rfl ?_
        refine ED.pass 28 rfl (by decide +kernel) CutX.no_panic (by decide +kernel) rfl rfl rfl ?_
        refine ED.pass 29 rfl (by decide +kernel) CutX.no_panic (by decide +kernel) rfl rfl rfl ?_
        refine ED.pass 30 rfl (by decide +kernel) CutX.no_panic (by decide +kernel) rfl rfl rfl ?_
        refine ED.pass 31 rfl (by decide +kernel) CutX.no_panic (by decide +kernel) rfl rfl rfl ?_
        refine ED.pass 32 rfl (by decide +kernel) CutX.no_panic (by decide +kernel) rfl rfl rfl ?_
        refine ED.pass 33 rfl (by decide +kernel) CutX.no_panic (by decide +kernel) rfl rfl rfl ?_
        refine ED.pass 34 rfl (by decide +kernel) CutX.no_panic (by decide +kernel) rfl rfl rfl ?_
        refine ED.pass 35 rfl (by decide +kernel) CutX.no_panic (by decide +kernel) rfl rfl rfl ?_
        refine ED.pass 36 rfl (by decide +kernel) CutX.no_panic (by decide +kernel) rfl rfl rfl ?_
        refine ED.pass 37 rfl (by decide +kernel) CutX.no_panic (by decide +kernel) rfl rfl rfl ?_
        refine ED.pass 38 rfl (by decide +kernel) CutX.no_panic (by decide +kernel) rfl rfl rfl ?_
        refine ED.pass 39 rfl (by decide +kernel) CutX.no_panic (by decide +kernel) rfl rfl rfl ?_
        refine ED.pass 40 rfl (by decide +kernel) CutX.no_panic (by decide +kernel) rfl rfl rfl ?_
        refine ED.pass 41 rfl (by decide +kernel) CutX.no_panic (by decide +kernel) rfl rfl rfl ?_
        refine ED.pass 42 rfl (by decide +kernel) CutX.no_panic (by decide +kernel) rfl rfl rfl ?_
        refine ED.pass 43 rfl (by decide +kernel) CutX.no_panic (by decide +kernel) rfl rfl rfl ?_
        refine ED.pass 44 rfl (by decide +kernel) CutX.no_panic (by decide +kernel) rfl rfl rfl ?_
        refine ED.pass 45 rfl (by decide +kernel) CutX.no_panic (by decide +kernel) rfl rfl rfl ?_
        refine ED.pass 46 rfl (by decide +kernel) CutX.no_panic (by decide +kernel) rfl rfl rfl ?_
        refine ED.take 47 rfl (by decide +kernel) CutX.no_panic (by decide +kernel) rfl rfl rfl (RV.pickF rfl rfl) ?_
        refine ED.take 48 rfl (by decide +kernel) CutX.no_panic (by decide +kernel) rfl rfl rfl (RV.assign rfl) ?_
        refine ED.done (by decide +kernel) ?_
        exact PX.cutX () ⟨getA rfl (congrArg Value.bool (by unfold dashM; simp_all <;> omega)), trivial⟩ (.i (by repeat constructor))
    · refine ED.pass 11 rfl (by decide +kernel) CutX.no_panic (by decide +kernel) rfl rfl rfl ?_
      refine ED.pass 12 rfl (by decide +kernel) CutX.no_panic (by decide +kernel) rfl rfl rfl ?_
      refine ED.pass 13 rfl (by decide +kernel) CutX.no_panic (by decide +kernel) rfl rfl rfl ?_
      refine ED.pass 14 rfl (by decide +kernel) CutX.no_panic (by decide +kernel) rfl rfl rfl ?_
      refine ED.pass 15 rfl (by decide +kernel) CutX.no_panic (by decide +kernel) rfl rfl rfl ?_
      refine ED.pass 16 rfl (by decide +kernel) CutX.no_panic (by decide +kernel) rfl rfl rfl ?_
      refine ED.pass 17 rfl (by decide +kernel) CutX.no_panic (by decide +kernel) rfl rfl rfl ?_
      refine ED.pass 18 rfl (by decide +kernel) CutX.no_panic (by decide +kernel) rfl rfl rfl ?_
      refine ED.pass 19 rfl (by decide +kernel) CutX.no_panic (by decide +kernel) rfl rfl rfl ?_
      refine ED.pass 20 rfl (by decide +kernel) CutX.no_panic (by decide +kernel) rfl rfl rfl ?_
      refine ED.take 21 rfl (by decide +kernel) CutX.no_panic (by decide +kernel) rfl rfl rfl (RV.pickF rfl rfl) ?_
      refine ED.take 22 rfl (by decide +kernel) CutX.no_panic (by decide +kernel) rfl rfl rfl (RV.move rfl) ?_
      refine ED.pass 23 rfl (by decide +kernel) CutX.no_panic (by decide +kernel) rfl rfl rfl ?_
      refine ED.pass 24 rfl (by decide +kernel) CutX.no_panic (by decide +kernel) rfl rfl rfl ?_
      refine ED.pass 25 rfl (by decide +kernel) CutX.no_panic (by decide +kernel) rfl rfl rfl ?_
      refine ED.pass 26 rfl (by decide +kernel) CutX.no_panic (by decide +kernel) rfl rfl rfl ?_
      refine ED.pass 27 rfl (by decide +kernel) CutX.no_panic (by decide +kernel) rfl rfl rfl ?_
      refine ED.pass 28 rfl (by decide +kernel) CutX.no_panic (by decide +kernel) rfl rfl rfl ?_
      refine ED.pass 29 rfl (by decide +kernel) CutX.no_panic (by decide +kernel) rfl rfl rfl ?_
      refine ED.pass 30 rfl (by decide +kernel) CutX.no_panic (by decide +kernel) rfl rfl rfl ?_
      refine ED.pass 31 rfl (by decide +kernel) CutX.no_panic (by decide +kernel) rfl rfl rfl ?_
      refine ED.pass 32 rfl (by decide +kernel) CutX.no_panic (by decide +kernel) rfl rfl rfl ?_
      refine ED.pass 33 rfl (by decide +kernel) CutX.no_panic (by decide +kernel) rfl rfl rfl ?_
      refine ED.pass 34 rfl (by decide +kernel) CutX.no_panic (by decide +kernel) rfl rfl rfl ?_
      refine ED.pass 35 rfl (by decide +kernel) CutX.no_panic (by decide +kernel) rfl rfl rfl ?_
      refine ED.pass 36 rfl (by decide +kernel) CutX.no_panic (by decide +kernel) rfl rfl rfl ?_
      refine ED.pass 37 rfl (by decide +kernel) CutX.no_panic (by decide +kernel) rfl rfl rfl ?_
      refine ED.pass 38 rfl (by decide +kernel) CutX.no_panic (by decide +kernel) rfl rfl rfl ?_
      refine ED.pass 39 rfl (by decide +kernel) CutX.no_panic (by decide +kernel) rfl rfl rfl ?_
      refine ED.pass 40 rfl (by decide +kernel) CutX.no_panic (by decide +kernel) rfl rfl rfl ?_
      refine ED.pass 41 rfl (by decide +kernel) CutX.no_panic (by decide +kernel) rfl rfl rfl ?_
      refine ED.pass 42 rfl (by decide +kernel) CutX.no_panic (by decide +kernel) rfl rfl rfl ?_
      refine ED.pass 43 rfl (by decide +kernel) CutX.no_panic (by decide +kernel) rfl rfl rfl ?_
      refine ED.pass 44 rfl (by decide +kernel) CutX.no_panic (by decide +kernel) rfl rfl rfl ?_
      refine ED.pass 45 rfl (by decide +kernel) CutX.no_panic (by decide +kernel) rfl rfl rfl ?_
      refine ED.pass 46 rfl (by decide +kernel) CutX.no_panic (by decide +kernel) rfl rfl rfl ?_
      refine ED.take 47 rfl (by decide +kernel) CutX.no_panic (by decide +kernel) rfl rfl rfl (RV.pickF rfl rfl) ?_
      refine ED.take 48 rfl (by decide +kernel) CutX.no_panic (by decide +kernel) rfl rfl rfl (RV.assign rfl) ?_
      refine ED.done (by decide +kernel) ?_
      exact PX.cutX () ⟨getA rfl (congrArg Value.bool (by unfold dashM; simp_all <;> omega)), trivial⟩ (.i (by repeat constructor))
  refine .go ?_; repeat constructor
  exact PX.ret rfl Tryz.results147 (.cons (.tmp rfl) .nil) (fun w hs => ⟨(), rfl, hs.ent (.i (by repeat constructor))⟩)
structure Sp where
  set : BS
  at_ : Nat
  e : Int
def spanT (t : List UInt8) (a : Nat) : Sp :=
  let i := itemM t a
  if i.e ≠ 0 ∨ dashM t i.at_ = false then ⟨i.set, i.at_, i.e⟩
  else if t.length ≤ i.at_ + 1 then ⟨i.set, i.at_ + 1, 6⟩
  else if i.single = false then ⟨i.set, i.at_ + 1, 7⟩
  else
    let j := itemM t (i.at_ + 1)
    if j.e ≠ 0 then ⟨i.set, j.at_, j.e⟩
    else if j.single = false then ⟨i.set, j.at_, 7⟩
    else if (spanM i.b j.b).2 = 0 ∧ dashM t j.at_ = true then ⟨(spanM i.b j.b).1, j.at_, 7⟩ else ⟨(spanM i.b j.b).1, j.at_, (spanM i.b j.b).2⟩
theorem span_at (t : List UInt8) (a : Nat) (h : a < t.length) : a ≤ (spanT t a).at_ ∧ (spanT t a).at_ ≤ t.length ∧ ((spanT t a).e = 0 → a < (spanT t a).at_) := by
  have h1 := item_at t a h
  unfold spanT
  dsimp only
  split
  · exact h1
  · rename_i hd
    have hd1 : (itemM t a).e = 0 ∧ dashM t (itemM t a).at_ = true := by
      simp only [not_or, Decidable.not_not, Bool.not_eq_false] at hd
      exact hd
    have hlt := dash_lt hd1.2
    have h2 := h1.2.2 hd1.1
    split
    · exact ⟨by simp only; omega, by simp only; omega, fun _ => by simp only; omega⟩
    · rename_i hl
      have h3 := item_at t ((itemM t a).at_ + 1) (by omega)
      split
      · exact ⟨by simp only; omega, by simp only; omega, fun _ => by simp only; omega⟩
      · split
        · exact ⟨by simp only; omega, h3.2.1, fun _ => by simp only; omega⟩
        · split
          · exact ⟨by simp only; omega, h3.2.1, fun _ => by simp only; omega⟩
          · split
            · exact ⟨by simp only; omega, h3.2.1, fun _ => by simp only; omega⟩
            · exact ⟨by simp only; omega, h3.2.1, fun _ => by simp only; omega⟩
theorem spanR_c (g : Nat) (t : List UInt8) (a : Nat) (ha : a < t.length) (ht : t.length ≤ 1073741824) (w0 : World) (B : Nat) (hG : GR w0 B) :
    MutAt Tryz.prog 131 #[Pv g 0] [RD g t a 0] (fun _ : Unit => Bs (spanT t a).set) (fun _ => [RD g t (spanT t a).at_ (spanT t a).e]) w0 B := by
  intro R w h
  replace h : Sat w0 B (RD g t a 0 :: R) w := h
  have hia := item_at t a ha
  have hic := item_c g t a ha ht w0 B hG
  have hsp : spanT t a = (let i := itemM t a
    if i.e ≠ 0 ∨ dashM t i.at_ = false then ⟨i.set, i.at_, i.e⟩
    else if t.length ≤ i.at_ + 1 then ⟨i.set, i.at_ + 1, 6⟩
    else if i.single = false then ⟨i.set, i.at_ + 1, 7⟩
    else
      let j := itemM t (i.at_ + 1)
      if j.e ≠ 0 then ⟨i.set, j.at_, j.e⟩
      else if j.single = false then ⟨i.set, j.at_, 7⟩
      else if (spanM i.b j.b).2 = 0 ∧ dashM t j.at_ = true then ⟨(spanM i.b j.b).1, j.at_, 7⟩ else ⟨(spanM i.b j.b).1, j.at_, (spanM i.b j.b).2⟩) := rfl
  obtain ⟨r, hr⟩ : ∃ r, r = spanT t a := ⟨_, rfl⟩
  rw [← hr] at hsp ⊢
  dsimp only at hsp
  generalize itemM t a = i at hia hic hsp
  obtain ⟨⟨s0, s1, s2, s3⟩, ib, ising, ia, ie⟩ := i
  dsimp only at hia hic hsp
  refine calls_of_ES TB Tryz.func131 rfl _ Tryz.ntmps131 rfl h ?_
  refine .go ?_; repeat constructor
  (refine EL.alloc rfl rfl rfl ?_; intro g2)
  refine .go ?_; repeat constructor
  refine EL.move rfl rfl rfl ?_
  refine EL.callMw1 rfl rfl rfl ent146 rfl hic (by repeat constructor) ?_
  refine EL.move rfl rfl rfl ?_
  refine EL.extract rfl rfl rfl rfl ?_
  refine EL.extract rfl rfl rfl rfl ?_
  refine EL.extract rfl rfl rfl rfl ?_
  (refine EL.alloc rfl rfl rfl ?_; intro g3)
  (apply EL.storeAll; exact rfl; exact rfl; exact rfl; exact rfl; exact rfl; (case p => repeat constructor); exact rfl; (case h1 => exact (by first | rfl | exact all1 rfl | (intro u hu; simp only [List.mem_cons, List.not_mem_nil, or_false] at hu; rcases hu with rfl | rfl | rfl | rfl <;> rfl) | (intro u hu; simp at hu; rcases hu with rfl | rfl | rfl | rfl <;> rfl) | (intro u hu; simp at hu; rcases hu with rfl | rfl | rfl <;> rfl) | (intro u hu; simp at hu; rcases hu with rfl | rfl <;> rfl) | (intro u hu; simp at hu; obtain ⟨_, _, rfl⟩ := hu; rfl))))
  refine EL.assign rfl rfl rfl ?_
  refine EL.assign rfl rfl rfl ?_
  refine .go ?_; repeat constructor
  refine EL.cutX (X := Unit) (fun _ => [(0, Pv g 0), (2, Pv g2 0), (3, Pv g3 0), (4, Uv ib), (5, .bool ising), (23, .bool (!decide (ie = 0) || !dashM t ia))]) (fun _ => SB g3 ⟨s0, s1, s2, s3⟩ :: RD g t ia ie :: SB g2 zeroS :: R) ?_ (fun _ => ?_)
  · refine .go ?_; repeat constructor
    refine EL.move rfl rfl rfl ?_
    refine EL.nilCheck rfl rfl rfl ?_
    refine EL.fieldAddr rfl rfl rfl rfl rfl rfl rfl rfl ?_
    (apply EL.loadB; exact rfl; exact rfl; exact rfl; exact rfl; exact rfl; (case hm => repeat constructor); exact rfl)
    refine EL.neqI rfl rfl rfl rfl ?_
    refine EL.move rfl rfl rfl ?_
    first | refine EL.splitD (d := 19) rfl (fun hp19 => ?_) (fun hp19 => ?_) | refine EL.splitN (d := 19) rfl (fun hp19 => ?_) (fun hp19 => ?_) | refine EL.splitB (d := 19) rfl (fun hp19 => ?_) (fun hp19 => ?_)
    · refine EL.pass rfl rfl rfl ?_
      refine EL.pass rfl rfl rfl ?_
      refine EL.pass rfl rfl rfl ?_
      refine EL.pickT rfl rfl rfl rfl ?_
      exact EL.endX () ⟨rfl, rfl, rfl, rfl, rfl, getA rfl (congrArg Value.bool (by simp_all)), trivial⟩ (.i (by repeat constructor))
    · refine EL.move rfl rfl rfl ?_
      refine EL.callMw1 rfl rfl rfl ent147 rfl (dash_c g t ia ie ht hia.2.1 _ _) (by repeat constructor) ?_
      refine EL.not rfl rfl rfl ?_
      refine EL.pickF rfl rfl rfl rfl ?_
      exact EL.endX () ⟨rfl, rfl, rfl, rfl, rfl, getA rfl (congrArg Value.bool (by simp_all)), trivial⟩ (.i (by repeat constructor))
  refine ES.cond rfl (fun hc => ?_) (fun hc => ?_)
  · rw [if_pos (by
      rcases Bool.or_eq_true_iff.1 hc with h1 | h1
      · exact .inl (by simpa using h1)
      · exact .inr (by simpa using h1))] at hsp
    rw [hsp]
    refine .go ?_; repeat constructor
    (apply EL.loadAggB; exact rfl; exact rfl; exact rfl; exact rfl; exact rfl; (case hm => repeat constructor); exact rfl)
    (apply EL.storeAll; exact rfl; exact rfl; exact rfl; exact rfl; exact rfl; (case p => repeat constructor); exact rfl; (case h1 => exact (by first | rfl | exact all1 rfl | (intro u hu; simp only [List.mem_cons, List.not_mem_nil, or_false] at hu; rcases hu with rfl | rfl | rfl | rfl <;> rfl) | (intro u hu; simp at hu; rcases hu with rfl | rfl | rfl | rfl <;> rfl) | (intro u hu; simp at hu; rcases hu with rfl | rfl | rfl <;> rfl) | (intro u hu; simp at hu; rcases hu with rfl | rfl <;> rfl) | (intro u hu; simp at hu; obtain ⟨_, _, rfl⟩ := hu; rfl))))
    refine .go ?_; repeat constructor
    exact PX.ret rfl Tryz.results131 (.cons (.blkA rfl rfl rfl (by repeat constructor) rfl) .nil) (fun w hs => ⟨(), rfl, hs.ent (.i (by repeat constructor))⟩)
  rw [Bool.or_eq_false_iff] at hc
  have he0 : ie = 0 := by simpa using hc.1
  have hda : dashM t ia = true := by simpa using hc.2
  subst he0
  rw [if_neg (by rw [hda]; simp)] at hsp
  have hlt := dash_lt hda
  refine .go ?_; repeat constructor
  refine EL.move rfl rfl rfl ?_
  refine EL.nilCheck rfl rfl rfl ?_
  refine EL.fieldAddr rfl rfl rfl rfl rfl rfl rfl rfl ?_
  (apply EL.loadB; exact rfl; exact rfl; exact rfl; exact rfl; exact rfl; (case hm => repeat constructor); exact rfl)
  refine EL.add1 rfl rfl rfl rfl (by omega) ?_
  refine EL.nilCheck rfl rfl rfl ?_
  refine EL.fieldAddr rfl rfl rfl rfl rfl rfl rfl rfl ?_
  (apply EL.storeB; exact rfl; exact rfl; exact rfl; exact rfl; exact rfl; exact rfl; (case p => repeat constructor); exact (by first | decide | exact Nat.le_of_ble_eq_true rfl | simp))
  refine .go ?_; repeat constructor
  refine ES.draw (X := Unit) (fun _ => [(0, Pv g 0), (2, Pv g2 0), (3, Pv g3 0), (4, Uv ib), (5, .bool ising), (41, .bool (decide ((t.length : Int) ≤ ((ia + 1 : Nat) : Int))))]) (fun _ => SB g3 ⟨s0, s1, s2, s3⟩ :: RD g t (ia + 1) 0 :: SB g2 zeroS :: R) (SB g3 ⟨s0, s1, s2, s3⟩ :: RD g t (ia + 1) 0 :: SB g2 zeroS :: R) mixed (.i (by repeat constructor)) ?_ (fun _ => ?_)
  · refine ED.take 0 rfl (by decide +kernel) CutX.no_panic (by decide +kernel) rfl rfl rfl (RV.move rfl) ?_
    refine ED.take 1 rfl (by decide +kernel) CutX.no_panic (by decide +kernel) rfl rfl rfl (RV.nilCheck rfl) ?_
    refine ED.take 2 rfl (by decide +kernel) CutX.no_panic (by decide +kernel) rfl rfl rfl (RV.fieldAddr rfl rfl rfl rfl rfl rfl) ?_
    refine ED.take 3 rfl (by decide +kernel) CutX.no_panic (by decide +kernel) rfl rfl rfl (RV.loadB rfl rfl rfl (by repeat constructor) rfl) ?_
    refine ED.take 4 rfl (by decide +kernel) CutX.no_panic (by decide +kernel) rfl rfl rfl (RV.move rfl) ?_
    refine ED.take 5 rfl (by decide +kernel) CutX.no_panic (by decide +kernel) rfl rfl rfl (RV.nilCheck rfl) ?_
    refine ED.take 6 rfl (by decide +kernel) CutX.no_panic (by decide +kernel) rfl rfl rfl (RV.fieldAddr rfl rfl rfl rfl rfl rfl) ?_
    refine ED.take 7 rfl (by decide +kernel) CutX.no_panic (by decide +kernel) rfl rfl rfl (RV.loadB rfl rfl rfl (by repeat constructor) rfl) ?_
    refine ED.take 8 rfl (by decide +kernel) CutX.no_panic (by decide +kernel) rfl rfl rfl (RV.lenS rfl rfl rfl) ?_
    refine ED.take 9 rfl (by decide +kernel) CutX.no_panic (by decide +kernel) rfl rfl rfl (RV.geq rfl rfl) ?_
    refine ED.done (by decide +kernel) ?_
    exact PX.cutX () ⟨rfl, rfl, rfl, rfl, rfl, rfl, trivial⟩ (.i (by repeat constructor))
  refine ES.condD rfl (fun hge => ?_) (fun hlt2 => ?_)
  · rw [if_pos (by omega)] at hsp
    rw [hsp]
    refine .go ?_; repeat constructor
    refine EL.move rfl rfl rfl ?_
    refine EL.nilCheck rfl rfl rfl ?_
    refine EL.fieldAddr rfl rfl rfl rfl rfl rfl rfl rfl ?_
    (apply EL.storeB; exact rfl; exact rfl; exact rfl; exact rfl; exact rfl; exact rfl; (case p => repeat constructor); exact (by first | decide | exact Nat.le_of_ble_eq_true rfl | simp))
    refine .go ?_; repeat constructor
    (apply EL.loadAggB; exact rfl; exact rfl; exact rfl; exact rfl; exact rfl; (case hm => repeat constructor); exact rfl)
    (apply EL.storeAll; exact rfl; exact rfl; exact rfl; exact rfl; exact rfl; (case p => repeat constructor); exact rfl; (case h1 => exact (by first | rfl | exact all1 rfl | (intro u hu; simp only [List.mem_cons, List.not_mem_nil, or_false] at hu; rcases hu with rfl | rfl | rfl | rfl <;> rfl) | (intro u hu; simp at hu; rcases hu with rfl | rfl | rfl | rfl <;> rfl) | (intro u hu; simp at hu; rcases hu with rfl | rfl | rfl <;> rfl) | (intro u hu; simp at hu; rcases hu with rfl | rfl <;> rfl) | (intro u hu; simp at hu; obtain ⟨_, _, rfl⟩ := hu; rfl))))
    refine .go ?_; repeat constructor
    exact PX.ret rfl Tryz.results131 (.cons (.blkA rfl rfl rfl (by repeat constructor) rfl) .nil) (fun w hs => ⟨(), rfl, hs.ent (.i (by repeat constructor))⟩)
  rw [if_neg (by omega)] at hsp
  refine .go ?_; repeat constructor
  refine EL.move rfl rfl rfl ?_
  refine EL.not rfl rfl rfl ?_
  refine .go ?_; repeat constructor
  refine ES.cond rfl (fun hs1 => ?_) (fun hs1 => ?_)
  · rw [if_pos (by simpa using hs1)] at hsp
    rw [hsp]
    refine .go ?_; repeat constructor
    refine EL.move rfl rfl rfl ?_
    refine EL.nilCheck rfl rfl rfl ?_
    refine EL.fieldAddr rfl rfl rfl rfl rfl rfl rfl rfl ?_
    (apply EL.storeB; exact rfl; exact rfl; exact rfl; exact rfl; exact rfl; exact rfl; (case p => repeat constructor); exact (by first | decide | exact Nat.le_of_ble_eq_true rfl | simp))
    refine .go ?_; repeat constructor
    (apply EL.loadAggB; exact rfl; exact rfl; exact rfl; exact rfl; exact rfl; (case hm => repeat constructor); exact rfl)
    (apply EL.storeAll; exact rfl; exact rfl; exact rfl; exact rfl; exact rfl; (case p => repeat constructor); exact rfl; (case h1 => exact (by first | rfl | exact all1 rfl | (intro u hu; simp only [List.mem_cons, List.not_mem_nil, or_false] at hu; rcases hu with rfl | rfl | rfl | rfl <;> rfl) | (intro u hu; simp at hu; rcases hu with rfl | rfl | rfl | rfl <;> rfl) | (intro u hu; simp at hu; rcases hu with rfl | rfl | rfl <;> rfl) | (intro u hu; simp at hu; rcases hu with rfl | rfl <;> rfl) | (intro u hu; simp at hu; obtain ⟨_, _, rfl⟩ := hu; rfl))))
    refine .go ?_; repeat constructor
    exact PX.ret rfl Tryz.results131 (.cons (.blkA rfl rfl rfl (by repeat constructor) rfl) .nil) (fun w hs => ⟨(), rfl, hs.ent (.i (by repeat constructor))⟩)
  rw [if_neg (by simpa using hs1)] at hsp
  have hja := item_at t (ia + 1) (by omega)
  have hjc := item_c g t (ia + 1) (by omega) ht w0 B hG
  generalize itemM t (ia + 1) = j at hja hjc hsp
  obtain ⟨⟨u0, u1, u2, u3⟩, jb, jsing, ja, je⟩ := j
  dsimp only at hja hjc hsp
  refine .go ?_; repeat constructor
  refine EL.move rfl rfl rfl ?_
  refine EL.callMw1 rfl rfl rfl ent146 rfl hjc (by repeat constructor) ?_
  refine EL.move rfl rfl rfl ?_
  refine EL.extract rfl rfl rfl rfl ?_
  refine EL.extract rfl rfl rfl rfl ?_
  refine EL.extract rfl rfl rfl rfl ?_
  (refine EL.alloc rfl rfl rfl ?_; intro g6)
  (apply EL.storeAll; exact rfl; exact rfl; exact rfl; exact rfl; exact rfl; (case p => repeat constructor); exact rfl; (case h1 => exact (by first | rfl | exact all1 rfl | (intro u hu; simp only [List.mem_cons, List.not_mem_nil, or_false] at hu; rcases hu with rfl | rfl | rfl | rfl <;> rfl) | (intro u hu; simp at hu; rcases hu with rfl | rfl | rfl | rfl <;> rfl) | (intro u hu; simp at hu; rcases hu with rfl | rfl | rfl <;> rfl) | (intro u hu; simp at hu; rcases hu with rfl | rfl <;> rfl) | (intro u hu; simp at hu; obtain ⟨_, _, rfl⟩ := hu; rfl))))
  refine EL.assign rfl rfl rfl ?_
  refine EL.assign rfl rfl rfl ?_
  refine .go ?_; repeat constructor
  refine EL.move rfl rfl rfl ?_
  refine EL.nilCheck rfl rfl rfl ?_
  refine EL.fieldAddr rfl rfl rfl rfl rfl rfl rfl rfl ?_
  (apply EL.loadB; exact rfl; exact rfl; exact rfl; exact rfl; exact rfl; (case hm => repeat constructor); exact rfl)
  refine EL.neqI rfl rfl rfl rfl ?_
  refine .go ?_; repeat constructor
  refine ES.condN rfl (fun hne => ?_) (fun heq => ?_)
  · rw [if_pos hne] at hsp
    rw [hsp]
    refine .go ?_; repeat constructor
    (apply EL.loadAggB; exact rfl; exact rfl; exact rfl; exact rfl; exact rfl; (case hm => repeat constructor); exact rfl)
    (apply EL.storeAll; exact rfl; exact rfl; exact rfl; exact rfl; exact rfl; (case p => repeat constructor); exact rfl; (case h1 => exact (by first | rfl | exact all1 rfl | (intro u hu; simp only [List.mem_cons, List.not_mem_nil, or_false] at hu; rcases hu with rfl | rfl | rfl | rfl <;> rfl) | (intro u hu; simp at hu; rcases hu with rfl | rfl | rfl | rfl <;> rfl) | (intro u hu; simp at hu; rcases hu with rfl | rfl | rfl <;> rfl) | (intro u hu; simp at hu; rcases hu with rfl | rfl <;> rfl) | (intro u hu; simp at hu; obtain ⟨_, _, rfl⟩ := hu; rfl))))
    refine .go ?_; repeat constructor
    exact PX.ret rfl Tryz.results131 (.cons (.blkA rfl rfl rfl (by repeat constructor) rfl) .nil) (fun w hs => ⟨(), rfl, hs.ent (.i (by repeat constructor))⟩)
  rw [if_neg (by simpa using heq)] at hsp
  subst heq
  refine .go ?_; repeat constructor
  refine EL.move rfl rfl rfl ?_
  refine EL.not rfl rfl rfl ?_
  refine .go ?_; repeat constructor
  refine ES.cond rfl (fun hs2 => ?_) (fun hs2 => ?_)
  · rw [if_pos (by simpa using hs2)] at hsp
    rw [hsp]
    refine .go ?_; repeat constructor
    refine EL.move rfl rfl rfl ?_
    refine EL.nilCheck rfl rfl rfl ?_
    refine EL.fieldAddr rfl rfl rfl rfl rfl rfl rfl rfl ?_
    (apply EL.storeB; exact rfl; exact rfl; exact rfl; exact rfl; exact rfl; exact rfl; (case p => repeat constructor); exact (by first | decide | exact Nat.le_of_ble_eq_true rfl | simp))
    refine .go ?_; repeat constructor
    (apply EL.loadAggB; exact rfl; exact rfl; exact rfl; exact rfl; exact rfl; (case hm => repeat constructor); exact rfl)
    (apply EL.storeAll; exact rfl; exact rfl; exact rfl; exact rfl; exact rfl; (case p => repeat constructor); exact rfl; (case h1 => exact (by first | rfl | exact all1 rfl | (intro u hu; simp only [List.mem_cons, List.not_mem_nil, or_false] at hu; rcases hu with rfl | rfl | rfl | rfl <;> rfl) | (intro u hu; simp at hu; rcases hu with rfl | rfl | rfl | rfl <;> rfl) | (intro u hu; simp at hu; rcases hu with rfl | rfl | rfl <;> rfl) | (intro u hu; simp at hu; rcases hu with rfl | rfl <;> rfl) | (intro u hu; simp at hu; obtain ⟨_, _, rfl⟩ := hu; rfl))))
    refine .go ?_; repeat constructor
    exact PX.ret rfl Tryz.results131 (.cons (.blkA rfl rfl rfl (by repeat constructor) rfl) .nil) (fun w hs => ⟨(), rfl, hs.ent (.i (by repeat constructor))⟩)
  rw [if_neg (by simpa using hs2)] at hsp
  have hspc := span_c ib jb
  obtain ⟨q, hq⟩ : ∃ q, q = spanM ib jb := ⟨_, rfl⟩
  rw [← hq] at hspc hsp
  obtain ⟨⟨v0, v1, v2, v3⟩, qe⟩ := q
  dsimp only at hspc hsp
  refine .go ?_; repeat constructor
  refine EL.move rfl rfl rfl ?_
  refine EL.move rfl rfl rfl ?_
  refine EL.move rfl rfl rfl ?_
  refine EL.callP rfl rfl rfl ent148 rfl hspc ?_
  refine EL.move rfl rfl rfl ?_
  refine EL.extract rfl rfl rfl rfl ?_
  refine EL.extract rfl rfl rfl rfl ?_
  (apply EL.storeAll; exact rfl; exact rfl; exact rfl; exact rfl; exact rfl; (case p => repeat constructor); exact rfl; (case h1 => exact (by first | rfl | exact all1 rfl | (intro u hu; simp only [List.mem_cons, List.not_mem_nil, or_false] at hu; rcases hu with rfl | rfl | rfl | rfl <;> rfl) | (intro u hu; simp at hu; rcases hu with rfl | rfl | rfl | rfl <;> rfl) | (intro u hu; simp at hu; rcases hu with rfl | rfl | rfl <;> rfl) | (intro u hu; simp at hu; rcases hu with rfl | rfl <;> rfl) | (intro u hu; simp at hu; obtain ⟨_, _, rfl⟩ := hu; rfl))))
  refine EL.nilCheck rfl rfl rfl ?_
  refine EL.fieldAddr rfl rfl rfl rfl rfl rfl rfl rfl ?_
  (apply EL.storeB; exact rfl; exact rfl; exact rfl; exact rfl; exact rfl; exact rfl; (case p => repeat constructor); exact (by first | decide | exact Nat.le_of_ble_eq_true rfl | simp))
  refine .go ?_; repeat constructor
  refine EL.cutX (X := Unit) (fun _ => [(0, Pv g 0), (2, Pv g2 0), (3, Pv g3 0), (87, .bool (decide (qe = 0) && dashM t ja))]) (fun _ => SB g3 ⟨v0, v1, v2, v3⟩ :: RD g t ja qe :: SB g2 zeroS :: R) ?_ (fun _ => ?_)
  · refine .go ?_; repeat constructor
    refine EL.move rfl rfl rfl ?_
    refine EL.nilCheck rfl rfl rfl ?_
    refine EL.fieldAddr rfl rfl rfl rfl rfl rfl rfl rfl ?_
    (apply EL.loadB; exact rfl; exact rfl; exact rfl; exact rfl; exact rfl; (case hm => repeat constructor); exact rfl)
    refine EL.eqlI rfl rfl rfl rfl ?_
    refine EL.move rfl rfl rfl ?_
    first | refine EL.splitD (d := 84) rfl (fun hp84 => ?_) (fun hp84 => ?_) | refine EL.splitN (d := 84) rfl (fun hp84 => ?_) (fun hp84 => ?_) | refine EL.splitB (d := 84) rfl (fun hp84 => ?_) (fun hp84 => ?_)
    · refine EL.move rfl rfl rfl ?_
      refine EL.callMw1 rfl rfl rfl ent147 rfl (dash_c g t ja qe ht hja.2.1 _ _) (by repeat constructor) ?_
      refine EL.pickT rfl rfl rfl rfl ?_
      exact EL.endX () ⟨rfl, rfl, rfl, getA rfl (congrArg Value.bool (by simp_all)), trivial⟩ (.i (by repeat constructor))
    · refine EL.pass rfl rfl rfl ?_
      refine EL.pass rfl rfl rfl ?_
      refine EL.pickF rfl rfl rfl rfl ?_
      exact EL.endX () ⟨rfl, rfl, rfl, getA rfl (congrArg Value.bool (by simp_all)), trivial⟩ (.i (by repeat constructor))
  refine ES.cond rfl (fun hb => ?_) (fun hb => ?_)
  · rw [if_pos (by simpa using hb)] at hsp
    rw [hsp]
    refine .go ?_; repeat constructor
    refine EL.move rfl rfl rfl ?_
    refine EL.nilCheck rfl rfl rfl ?_
    refine EL.fieldAddr rfl rfl rfl rfl rfl rfl rfl rfl ?_
    (apply EL.storeB; exact rfl; exact rfl; exact rfl; exact rfl; exact rfl; exact rfl; (case p => repeat constructor); exact (by first | decide | exact Nat.le_of_ble_eq_true rfl | simp))
    refine .go ?_; repeat constructor
    (apply EL.loadAggB; exact rfl; exact rfl; exact rfl; exact rfl; exact rfl; (case hm => repeat constructor); exact rfl)
    (apply EL.storeAll; exact rfl; exact rfl; exact rfl; exact rfl; exact rfl; (case p => repeat constructor); exact rfl; (case h1 => exact (by first | rfl | exact all1 rfl | (intro u hu; simp only [List.mem_cons, List.not_mem_nil, or_false] at hu; rcases hu with rfl | rfl | rfl | rfl <;> rfl) | (intro u hu; simp at hu; rcases hu with rfl | rfl | rfl | rfl <;> rfl) | (intro u hu; simp at hu; rcases hu with rfl | rfl | rfl <;> rfl) | (intro u hu; simp at hu; rcases hu with rfl | rfl <;> rfl) | (intro u hu; simp at hu; obtain ⟨_, _, rfl⟩ := hu; rfl))))
    refine .go ?_; repeat constructor
    exact PX.ret rfl Tryz.results131 (.cons (.blkA rfl rfl rfl (by repeat constructor) rfl) .nil) (fun w hs => ⟨(), rfl, hs.ent (.i (by repeat constructor))⟩)
  · rw [if_neg (by intro hh; rw [hh.1, hh.2] at hb; simp at hb)] at hsp
    rw [hsp]
    refine .go ?_; repeat constructor
    (apply EL.loadAggB; exact rfl; exact rfl; exact rfl; exact rfl; exact rfl; (case hm => repeat constructor); exact rfl)
    (apply EL.storeAll; exact rfl; exact rfl; exact rfl; exact rfl; exact rfl; (case p => repeat constructor); exact rfl; (case h1 => exact (by first | rfl | exact all1 rfl | (intro u hu; simp only [List.mem_cons, List.not_mem_nil, or_false] at hu; rcases hu with rfl | rfl | rfl | rfl <;> rfl) | (intro u hu; simp at hu; rcases hu with rfl | rfl | rfl | rfl <;> rfl) | (intro u hu; simp at hu; rcases hu with rfl | rfl | rfl <;> rfl) | (intro u hu; simp at hu; rcases hu with rfl | rfl <;> rfl) | (intro u hu; simp at hu; obtain ⟨_, _, rfl⟩ := hu; rfl))))
    refine .go ?_; repeat constructor
    exact PX.ret rfl Tryz.results131 (.cons (.blkA rfl rfl rfl (by repeat constructor) rfl) .nil) (fun w hs => ⟨(), rfl, hs.ent (.i (by repeat constructor))⟩)
def brBad (t : List UInt8) (a : Nat) : Bool := decide ((t.length : Int) ≤ (a : Int)) || !decide (((t.getD a 0).toNat : Int) = 91)
def brNot (t : List UInt8) (a : Nat) : Bool := decide (((a + 1 : Nat) : Int) < (t.length : Int)) && decide (((t.getD (a + 1) 0).toNat : Int) = 94)
def brEnd (t : List UInt8) (a : Nat) (first : Bool) : Bool := decide (((t.getD a 0).toNat : Int) = 93) && !first
theorem brBad_false {t : List UInt8} {a : Nat} (h : brBad t a = false) : a < t.length ∧ (t.getD a 0).toNat = 91 := by
  unfold brBad at h
  simp only [Bool.or_eq_false_iff, Bool.not_eq_false', decide_eq_true_eq, decide_eq_false_iff_not] at h
  exact ⟨by omega, by omega⟩
theorem brNot_true {t : List UInt8} {a : Nat} (h : brNot t a = true) : a + 1 < t.length := by
  unfold brNot at h
  simp only [Bool.and_eq_true, decide_eq_true_eq] at h
  omega
def brGo (t : List UInt8) : Nat → Nat → Bool → BS → Sp
  | 0, _, _, _ => ⟨zeroS, 0, 6⟩
  | n + 1, a, first, s =>
    if t.length ≤ a then ⟨zeroS, 0, 6⟩
    else if brEnd t a first = true then ⟨s, a + 1, 0⟩
    else if (spanT t a).e ≠ 0 then ⟨zeroS, 0, (spanT t a).e⟩
    else brGo t n (spanT t a).at_ false (orS s (spanT t a).set)
def brFrom (t : List UInt8) (a : Nat) : Sp := brGo t (t.length + 1 - a) a true zeroS
def brackM (t : List UInt8) (a : Nat) : Sp :=
  if brBad t a = true then ⟨zeroS, 0, 1⟩
  else if brNot t a = true then ⟨if (brFrom t (a + 2)).e = 0 then notS (brFrom t (a + 2)).set else (brFrom t (a + 2)).set, (brFrom t (a + 2)).at_, (brFrom t (a + 2)).e⟩
  else brFrom t (a + 1)
def brOut (nt : Bool) (r : Sp) : Sp := if nt = true then ⟨if r.e = 0 then notS r.set else r.set, r.at_, r.e⟩ else r
theorem brOut_bad (nt : Bool) (e : Int) (h : e ≠ 0) : brOut nt ⟨zeroS, 0, e⟩ = ⟨zeroS, 0, e⟩ := by
  unfold brOut
  split
  · simp [h]
  · rfl
theorem brGo_next (t : List UInt8) : ∀ (n a : Nat) (f : Bool) (s : BS), a ≤ t.length → (brGo t n a f s).e = 0 → a < (brGo t n a f s).at_ ∧ (brGo t n a f s).at_ ≤ t.length
  | 0, _, _, _, _, h => by simp [brGo] at h
  | n + 1, a, f, s, ha, h => by
    rw [brGo] at h ⊢
    split at h
    · simp at h
    · rename_i h1
      rw [if_neg h1]
      split at h
      · rename_i h2
        rw [if_pos h2]
        simp only
        omega
      · rename_i h2
        rw [if_neg h2]
        split at h
        · rename_i h3; exact absurd h h3
        · rename_i h3
          rw [if_neg h3]
          have hs := span_at t a (by omega)
          have := brGo_next t n _ _ _ hs.2.1 h
          have := hs.2.2 (by simpa using h3)
          omega
theorem brack_next (t : List UInt8) (a : Nat) (h : (brackM t a).e = 0) : a + 1 < (brackM t a).at_ ∧ (brackM t a).at_ ≤ t.length := by
  unfold brackM at h ⊢
  split at h
  · simp at h
  · rename_i h1
    have hb := brBad_false (by simpa using h1)
    rw [if_neg h1]
    split at h
    · rename_i h2
      have := brNot_true h2
      rw [if_pos h2]
      have := brGo_next t _ (a + 2) true zeroS (by omega) h
      exact ⟨by have := this.1; simp only [brFrom]; omega, this.2⟩
    · rename_i h2
      rw [if_neg h2]
      have := brGo_next t _ (a + 1) true zeroS (by omega) h
      exact this
def BrI (t : List UInt8) (res : Sp) (a : Nat) (first : Bool) (s : BS) (e : Int) : Prop :=
  (e = 0 ∧ a ≤ t.length + 1 ∧ ∃ n, t.length + 1 ≤ n + a ∧ brGo t n a first s = res) ∨ (e ≠ 0 ∧ res = ⟨zeroS, 0, e⟩)
theorem brParse_c (t : List UInt8) (a : Nat) (ht : t.length ≤ 1073741824) (ha : a ≤ 1073741824) (w : World) (hG : GR w w.heap.size) :
    Pure Tryz.prog 108 #[Sv t, Iv (a : Nat)] (fun _ : Unit => .tuple #[Bs (brackM t a).set, Iv ((brackM t a).at_ : Nat), Iv (brackM t a).e]) (fun _ => []) w := by
  refine calls_of_ES TB Tryz.func108 rfl _ Tryz.ntmps108 rfl (Sat.start w) ?_
  refine .go ?_; repeat constructor
  (refine EL.alloc rfl rfl rfl ?_; intro g4)
  refine EL.assign rfl rfl rfl ?_
  refine EL.assign rfl rfl rfl ?_
  refine .go ?_; repeat constructor
  refine EL.cutX (X := Unit) (fun _ => [(0, Sv t), (1, Iv (a : Nat)), (4, Pv g4 0), (24, .bool (brBad t a))]) (fun _ => [SB g4 zeroS]) ?_ (fun _ => ?_)
  · refine .go ?_; repeat constructor
    refine EL.move rfl rfl rfl ?_
    refine EL.lss rfl rfl rfl rfl ?_
    refine EL.move rfl rfl rfl ?_
    refine EL.rew (d := 13) (v' := .bool false) rfl (congrArg Value.bool (decide_eq_false (by omega))) ?_
    refine EL.move rfl rfl rfl ?_
    refine EL.move rfl rfl rfl ?_
    refine EL.lenS rfl rfl rfl rfl rfl ?_
    refine EL.geq rfl rfl rfl rfl ?_
    refine EL.pickF rfl rfl rfl rfl ?_
    refine EL.move rfl rfl rfl ?_
    first | refine EL.splitD (d := 19) rfl (fun hp19 => ?_) (fun hp19 => ?_) | refine EL.splitN (d := 19) rfl (fun hp19 => ?_) (fun hp19 => ?_) | refine EL.splitB (d := 19) rfl (fun hp19 => ?_) (fun hp19 => ?_)
    · refine EL.pass rfl rfl rfl ?_
      refine EL.pass rfl rfl rfl ?_
      refine EL.pass rfl rfl rfl ?_
      refine EL.pass rfl rfl rfl ?_
      refine EL.pickT rfl rfl rfl rfl ?_
      exact EL.endX () ⟨rfl, rfl, rfl, getA rfl (congrArg Value.bool (by unfold brBad; simp_all <;> omega)), trivial⟩ (.i (by repeat constructor))
    · refine EL.move rfl rfl rfl ?_
      refine EL.move rfl rfl rfl ?_
      refine EL.indexSN rfl rfl rfl rfl rfl rfl (by omega) ?_
      refine EL.neqI rfl rfl rfl rfl ?_
      refine EL.pickF rfl rfl rfl rfl ?_
      exact EL.endX () ⟨rfl, rfl, rfl, getA rfl (congrArg Value.bool (by unfold brBad; simp_all <;> omega)), trivial⟩ (.i (by repeat constructor))
  refine ES.cond rfl (fun hbad => ?_) (fun hok => ?_)
  · have hm : brackM t a = ⟨zeroS, 0, 1⟩ := by unfold brackM; rw [if_pos hbad]
    rw [hm]
    refine .go ?_; repeat constructor
    refine EL.buildZA rfl rfl rfl rfl rfl ?_
    (apply EL.storeAll; exact rfl; exact rfl; exact rfl; exact rfl; exact rfl; (case p => repeat constructor); exact rfl; (case h1 => exact (by first | rfl | exact all1 rfl | (intro u hu; simp only [List.mem_cons, List.not_mem_nil, or_false] at hu; rcases hu with rfl | rfl | rfl | rfl <;> rfl) | (intro u hu; simp at hu; rcases hu with rfl | rfl | rfl | rfl <;> rfl) | (intro u hu; simp at hu; rcases hu with rfl | rfl | rfl <;> rfl) | (intro u hu; simp at hu; rcases hu with rfl | rfl <;> rfl) | (intro u hu; simp at hu; obtain ⟨_, _, rfl⟩ := hu; rfl))))
    refine EL.assign rfl rfl rfl ?_
    refine EL.assign rfl rfl rfl ?_
    refine .go ?_; repeat constructor
    exact PX.ret rfl Tryz.results108 (.cons (.blkA rfl rfl rfl (by repeat constructor) rfl) (.cons (.tmp rfl) (.cons (.tmp rfl) .nil))) (fun w hs => ⟨(), rfl, hs.ent (.i (by repeat constructor))⟩)
  have hok2 := brBad_false hok
  obtain ⟨nt, hnt⟩ : ∃ nt, nt = brNot t a := ⟨_, rfl⟩
  refine .go ?_; repeat constructor
  refine EL.move rfl rfl rfl ?_
  refine EL.move rfl rfl rfl ?_
  refine EL.add1 rfl rfl rfl rfl (by omega) ?_
  refine EL.buildS #[Sv t, Iv ((a + 1 : Nat) : Int), Iv 0] rfl rfl rfl rfl rfl rfl rfl ?_
  (refine EL.box rfl rfl rfl ?_; intro g30)
  refine EL.assign rfl rfl rfl ?_
  refine .go ?_; repeat constructor
  refine EL.cutX (X := Unit) (fun _ => [(0, Sv t), (4, Pv g4 0), (7, Pv g30 0), (8, .bool nt)]) (fun _ => [RD g30 t (a + 1) 0, SB g4 zeroS]) ?_ (fun _ => ?_)
  · refine .go ?_; repeat constructor
    refine EL.move rfl rfl rfl ?_
    refine EL.nilCheck rfl rfl rfl ?_
    refine EL.fieldAddr rfl rfl rfl rfl rfl rfl rfl rfl ?_
    (apply EL.loadB; exact rfl; exact rfl; exact rfl; exact rfl; exact rfl; (case hm => repeat constructor); exact rfl)
    refine EL.move rfl rfl rfl ?_
    refine EL.lenS rfl rfl rfl rfl rfl ?_
    refine EL.lss rfl rfl rfl rfl ?_
    refine EL.move rfl rfl rfl ?_
    first | refine EL.splitD (d := 38) rfl (fun hp38 => ?_) (fun hp38 => ?_) | refine EL.splitN (d := 38) rfl (fun hp38 => ?_) (fun hp38 => ?_) | refine EL.splitB (d := 38) rfl (fun hp38 => ?_) (fun hp38 => ?_)
    · refine EL.move rfl rfl rfl ?_
      refine EL.move rfl rfl rfl ?_
      refine EL.nilCheck rfl rfl rfl ?_
      refine EL.fieldAddr rfl rfl rfl rfl rfl rfl rfl rfl ?_
      (apply EL.loadB; exact rfl; exact rfl; exact rfl; exact rfl; exact rfl; (case hm => repeat constructor); exact rfl)
      refine EL.indexSN rfl rfl rfl rfl rfl rfl (by omega) ?_
      refine EL.eqlI rfl rfl rfl rfl ?_
      refine EL.pickT rfl rfl rfl rfl ?_
      refine EL.assign rfl rfl rfl ?_
      exact EL.endX () ⟨rfl, rfl, rfl, getA rfl (congrArg Value.bool (by rw [hnt]; unfold brNot; simp_all <;> omega)), trivial⟩ (.i (by repeat constructor))
    · refine EL.pass rfl rfl rfl ?_
      refine EL.pass rfl rfl rfl ?_
      refine EL.pass rfl rfl rfl ?_
      refine EL.pass rfl rfl rfl ?_
      refine EL.pass rfl rfl rfl ?_
      refine EL.pass rfl rfl rfl ?_
      refine EL.pass rfl rfl rfl ?_
      refine EL.pickF rfl rfl rfl rfl ?_
      refine EL.assign rfl rfl rfl ?_
      exact EL.endX () ⟨rfl, rfl, rfl, getA rfl (congrArg Value.bool (by rw [hnt]; unfold brNot; simp_all <;> omega)), trivial⟩ (.i (by repeat constructor))
  refine .go ?_; repeat constructor
  refine EL.move rfl rfl rfl ?_
  refine .go ?_; repeat constructor
  refine ES.cutC (X := Unit) (fun _ => [(0, Sv t), (4, Pv g4 0), (7, Pv g30 0), (8, .bool nt)]) (fun _ => [RD g30 t (if nt = true then a + 2 else a + 1) 0, SB g4 zeroS]) ?_ (fun _ => ?_)
  · refine ES.cond rfl (fun hn => ?_) (fun hn => ?_)
    · rw [if_pos hn]
      refine .go ?_; repeat constructor
      refine EL.move rfl rfl rfl ?_
      refine EL.nilCheck rfl rfl rfl ?_
      refine EL.fieldAddr rfl rfl rfl rfl rfl rfl rfl rfl ?_
      (apply EL.loadB; exact rfl; exact rfl; exact rfl; exact rfl; exact rfl; (case hm => repeat constructor); exact rfl)
      refine EL.add1 rfl rfl rfl rfl (by omega) ?_
      refine EL.nilCheck rfl rfl rfl ?_
      refine EL.fieldAddr rfl rfl rfl rfl rfl rfl rfl rfl ?_
      (apply EL.storeB; exact rfl; exact rfl; exact rfl; exact rfl; exact rfl; exact rfl; (case p => repeat constructor); exact (by first | decide | exact Nat.le_of_ble_eq_true rfl | simp))
      refine .go ?_; repeat constructor
      exact PX.cutX () ⟨rfl, rfl, rfl, rfl, trivial⟩ (.i (by repeat constructor))
    · rw [if_neg (by rw [hn]; decide)]
      refine .go ?_; repeat constructor
      exact PX.cutX () ⟨rfl, rfl, rfl, rfl, trivial⟩ (.i (by repeat constructor))
  have hm : brackM t a = brOut nt (brFrom t (if nt = true then a + 2 else a + 1)) := by
    unfold brackM brOut
    rw [if_neg (by rw [hok]; decide), ← hnt]
    split <;> rfl
  rw [hm]
  have hfrom : (if nt = true then a + 2 else a + 1) ≤ t.length := by
    split
    · rename_i hn
      rw [hnt] at hn
      have := brNot_true hn
      omega
    · omega
  generalize (if nt = true then a + 2 else a + 1) = from_ at hfrom ⊢
  obtain ⟨res, hres⟩ : ∃ res, res = brFrom t from_ := ⟨_, rfl⟩
  rw [← hres]
  refine .go ?_; repeat constructor
  (refine EL.alloc rfl rfl rfl ?_; intro g9)
  refine .go ?_; repeat constructor
  refine EL.assign rfl rfl rfl ?_
  refine .go ?_; repeat constructor
  refine ES.loop (σ := Nat × Bool × BS × Int) (fun (a, first, s, e) => BrI t res a first s e) (fun (a, first, s, e) => [(0, Sv t), (4, Pv g4 0), (7, Pv g30 0), (8, .bool nt), (9, Pv g9 0), (10, .bool first)])
    (fun (a, first, s, e) => [RD g30 t a e, SB g9 s, SB g4 zeroS]) (fun (a, first, s, e) => if e = 0 then t.length + 2 - a else 0) (from_, true, zeroS, 0) (.inl ⟨rfl, by omega, t.length + 1 - from_, by omega, by rw [hres]; rfl⟩) ⟨rfl, rfl, rfl, rfl, rfl, rfl, trivial⟩ (.i (by repeat constructor)) ?_
  rintro ⟨a, first, s, e⟩ hI
  dsimp only at hI ⊢
  refine .go ?_; repeat constructor
  refine EL.move rfl rfl rfl ?_
  refine EL.nilCheck rfl rfl rfl ?_
  refine EL.fieldAddr rfl rfl rfl rfl rfl rfl rfl rfl ?_
  (apply EL.loadB; exact rfl; exact rfl; exact rfl; exact rfl; exact rfl; (case hm => repeat constructor); exact rfl)
  refine EL.eqlI rfl rfl rfl rfl ?_
  refine .go ?_; repeat constructor
  refine ES.condD rfl (fun he => ?_) (fun hne => ?_)
  · subst he
    obtain ⟨hale, n, hn, hgo⟩ : a ≤ t.length + 1 ∧ ∃ n, t.length + 1 ≤ n + a ∧ brGo t n a first s = res := by
      rcases hI with ⟨_, h⟩ | ⟨hh, _⟩
      · exact h
      · exact absurd rfl hh
    refine .go ?_; repeat constructor
    refine EL.move rfl rfl rfl ?_
    refine EL.nilCheck rfl rfl rfl ?_
    refine EL.fieldAddr rfl rfl rfl rfl rfl rfl rfl rfl ?_
    (apply EL.loadB; exact rfl; exact rfl; exact rfl; exact rfl; exact rfl; (case hm => repeat constructor); exact rfl)
    refine EL.move rfl rfl rfl ?_
    refine EL.lenS rfl rfl rfl rfl rfl ?_
    refine EL.geq rfl rfl rfl rfl ?_
    refine .go ?_; repeat constructor
    refine ES.condD rfl (fun hge => ?_) (fun hlt => ?_)
    · have hr : res = ⟨zeroS, 0, 6⟩ := by
        rw [← hgo]
        cases n with
        | zero => rfl
        | succ n => rw [brGo, if_pos (by omega)]
      rw [hr, brOut_bad nt 6 (by decide)]
      refine .go ?_; repeat constructor
      refine EL.move rfl rfl rfl ?_
      refine EL.nilCheck rfl rfl rfl ?_
      refine EL.fieldAddr rfl rfl rfl rfl rfl rfl rfl rfl ?_
      (apply EL.storeB; exact rfl; exact rfl; exact rfl; exact rfl; exact rfl; exact rfl; (case p => repeat constructor); exact (by first | decide | exact Nat.le_of_ble_eq_true rfl | simp))
      refine .go ?_; repeat constructor
      refine ES.draw (X := Unit) (fun _ => [(4, Pv g4 0), (5, Iv 0), (6, Iv 6)]) (fun _ => [SB g4 zeroS]) [RD g30 t a 6] mixed (.i (by repeat constructor)) ?_ (fun _ => ?_)
      · refine ED.take 1 rfl (by decide +kernel) CutX.no_panic (by decide +kernel) rfl rfl rfl (RV.move rfl) ?_
        refine ED.take 2 rfl (by decide +kernel) CutX.no_panic (by decide +kernel) rfl rfl rfl (RV.nilCheck rfl) ?_
        refine ED.take 3 rfl (by decide +kernel) CutX.no_panic (by decide +kernel) rfl rfl rfl (RV.fieldAddr rfl rfl rfl rfl rfl rfl) ?_
        refine ED.take 4 rfl (by decide +kernel) CutX.no_panic (by decide +kernel) rfl rfl rfl (RV.loadB rfl rfl rfl (by repeat constructor) rfl) ?_
        refine ED.loud 0 rfl (by decide +kernel) ?_
        refine EL.buildZA rfl rfl rfl rfl rfl ?_
        refine ED.next (.i (by repeat constructor)) ?_
        refine ED.loud 5 rfl (by decide +kernel) ?_
        (apply EL.storeAll; exact rfl; exact rfl; exact rfl; exact rfl; exact rfl; (case p => repeat constructor); exact rfl; (case h1 => exact (by first | rfl | exact all1 rfl | (intro u hu; simp only [List.mem_cons, List.not_mem_nil, or_false] at hu; rcases hu with rfl | rfl | rfl | rfl <;> rfl) | (intro u hu; simp at hu; rcases hu with rfl | rfl | rfl | rfl <;> rfl) | (intro u hu; simp at hu; rcases hu with rfl | rfl | rfl <;> rfl) | (intro u hu; simp at hu; rcases hu with rfl | rfl <;> rfl) | (intro u hu; simp at hu; obtain ⟨_, _, rfl⟩ := hu; rfl))))
        refine ED.next (.i (by repeat constructor)) ?_
        refine ED.take 6 rfl (by decide +kernel) CutX.no_panic (by decide +kernel) rfl rfl rfl (RV.assign rfl) ?_
        refine ED.take 7 rfl (by decide +kernel) CutX.no_panic (by decide +kernel) rfl rfl rfl (RV.assign rfl) ?_
        refine ED.done (by decide +kernel) ?_
        exact PX.cutX () ⟨rfl, rfl, rfl, trivial⟩ (.i (by repeat constructor))
      refine .go ?_; repeat constructor
      exact PX.ret rfl Tryz.results108 (.cons (.blkA rfl rfl rfl (by repeat constructor) rfl) (.cons (.tmp rfl) (.cons (.tmp rfl) .nil))) (fun w hs => ⟨(), rfl, hs.ent (.i (by repeat constructor))⟩)
    · have hlt' : a < t.length := by omega
      obtain ⟨m, rfl⟩ : ∃ m, n = m + 1 := ⟨n - 1, by omega⟩
      rw [brGo, if_neg (by omega)] at hgo
      have hsa := span_at t a hlt'
      have hsc := spanR_c g30 t a hlt' ht _ _ hG
      refine .go ?_; repeat constructor
      refine EL.cutX (X := Unit) (fun _ => [(0, Sv t), (4, Pv g4 0), (7, Pv g30 0), (8, .bool nt), (9, Pv g9 0), (80, .bool (brEnd t a first))]) (fun _ => [RD g30 t a 0, SB g9 s, SB g4 zeroS]) ?_ (fun _ => ?_)
      · refine .go ?_; repeat constructor
        refine EL.move rfl rfl rfl ?_
        refine EL.move rfl rfl rfl ?_
        refine EL.nilCheck rfl rfl rfl ?_
        refine EL.fieldAddr rfl rfl rfl rfl rfl rfl rfl rfl ?_
        (apply EL.loadB; exact rfl; exact rfl; exact rfl; exact rfl; exact rfl; (case hm => repeat constructor); exact rfl)
        refine EL.indexSN rfl rfl rfl rfl rfl rfl (by omega) ?_
        refine EL.eqlI rfl rfl rfl rfl ?_
        refine EL.move rfl rfl rfl ?_
        first | refine EL.splitD (d := 77) rfl (fun hp77 => ?_) (fun hp77 => ?_) | refine EL.splitN (d := 77) rfl (fun hp77 => ?_) (fun hp77 => ?_) | refine EL.splitB (d := 77) rfl (fun hp77 => ?_) (fun hp77 => ?_)
        · refine EL.move rfl rfl rfl ?_
          refine EL.not rfl rfl rfl ?_
          refine EL.pickT rfl rfl rfl rfl ?_
          exact EL.endX () ⟨rfl, rfl, rfl, rfl, rfl, getA rfl (congrArg Value.bool (by unfold brEnd; simp_all <;> omega)), trivial⟩ (.i (by repeat constructor))
        · refine EL.pass rfl rfl rfl ?_
          refine EL.pass rfl rfl rfl ?_
          refine EL.pickF rfl rfl rfl rfl ?_
          exact EL.endX () ⟨rfl, rfl, rfl, rfl, rfl, getA rfl (congrArg Value.bool (by unfold brEnd; simp_all <;> omega)), trivial⟩ (.i (by repeat constructor))
      refine ES.cond rfl (fun hend => ?_) (fun hnend => ?_)
      · rw [if_pos hend] at hgo
        rw [← hgo]
        refine .go ?_; repeat constructor
        refine EL.move rfl rfl rfl ?_
        refine .go ?_; repeat constructor
        cases nt
        · refine ES.condF rfl ?_
          refine .g0 ?_; repeat constructor
          refine ES.draw (X := Unit) (fun _ => [(4, Pv g4 0), (5, Iv ((a + 1 : Nat) : Int)), (6, Iv 0)]) (fun _ => [SB g4 s]) [RD g30 t a 0, SB g9 s] mixed (.i (by repeat constructor)) ?_ (fun _ => ?_)
          · refine ED.take 0 rfl (by decide +kernel) CutX.no_panic (by decide +kernel) rfl rfl rfl (RV.loadAggB rfl rfl rfl (by repeat constructor) rfl) ?_
            refine ED.take 1 rfl (by decide +kernel) CutX.no_panic (by decide +kernel) rfl rfl rfl (RV.move rfl) ?_
            refine ED.take 2 rfl (by decide +kernel) CutX.no_panic (by decide +kernel) rfl rfl rfl (RV.nilCheck rfl) ?_
            refine ED.take 3 rfl (by decide +kernel) CutX.no_panic (by decide +kernel) rfl rfl rfl (RV.fieldAddr rfl rfl rfl rfl rfl rfl) ?_
            refine ED.take 4 rfl (by decide +kernel) CutX.no_panic (by decide +kernel) rfl rfl rfl (RV.loadB rfl rfl rfl (by repeat constructor) rfl) ?_
            refine ED.take 5 rfl (by decide +kernel) CutX.no_panic (by decide +kernel) rfl rfl rfl (RV.add1 rfl rfl (by omega)) ?_
            refine ED.loud 6 rfl (by decide +kernel) ?_
            (apply EL.storeAll; exact rfl; exact rfl; exact rfl; exact rfl; exact rfl; (case p => repeat constructor); exact rfl; (case h1 => exact (by first | rfl | exact all1 rfl | (intro u hu; simp only [List.mem_cons, List.not_mem_nil, or_false] at hu; rcases hu with rfl | rfl | rfl | rfl <;> rfl) | (intro u hu; simp at hu; rcases hu with rfl | rfl | rfl | rfl <;> rfl) | (intro u hu; simp at hu; rcases hu with rfl | rfl | rfl <;> rfl) | (intro u hu; simp at hu; rcases hu with rfl | rfl <;> rfl) | (intro u hu; simp at hu; obtain ⟨_, _, rfl⟩ := hu; rfl))))
            refine ED.next (.i (by repeat constructor)) ?_
            refine ED.take 7 rfl (by decide +kernel) CutX.no_panic (by decide +kernel) rfl rfl rfl (RV.assign rfl) ?_
            refine ED.take 8 rfl (by decide +kernel) CutX.no_panic (by decide +kernel) rfl rfl rfl (RV.assign rfl) ?_
            refine ED.done (by decide +kernel) ?_
            exact PX.cutX () ⟨rfl, rfl, rfl, trivial⟩ (.i (by repeat constructor))
          refine .go ?_; repeat constructor
          exact PX.ret rfl Tryz.results108 (.cons (.blkA rfl rfl rfl (by repeat constructor) rfl) (.cons (.tmp rfl) (.cons (.tmp rfl) .nil))) (fun w hs => ⟨(), rfl, hs.ent (.i (by repeat constructor))⟩)
        · refine ES.condT rfl ?_
          refine .go ?_; repeat constructor
          (apply EL.loadAggB; exact rfl; exact rfl; exact rfl; exact rfl; exact rfl; (case hm => repeat constructor); exact rfl)
          refine EL.callP rfl rfl rfl ent87 rfl (not_c s) ?_
          (apply EL.storeAll; exact rfl; exact rfl; exact rfl; exact rfl; exact rfl; (case p => repeat constructor); exact rfl; (case h1 => exact (by first | rfl | exact all1 rfl | (intro u hu; simp only [List.mem_cons, List.not_mem_nil, or_false] at hu; rcases hu with rfl | rfl | rfl | rfl <;> rfl) | (intro u hu; simp at hu; rcases hu with rfl | rfl | rfl | rfl <;> rfl) | (intro u hu; simp at hu; rcases hu with rfl | rfl | rfl <;> rfl) | (intro u hu; simp at hu; rcases hu with rfl | rfl <;> rfl) | (intro u hu; simp at hu; obtain ⟨_, _, rfl⟩ := hu; rfl))))
          refine .go ?_; repeat constructor
          refine ES.draw (X := Unit) (fun _ => [(4, Pv g4 0), (5, Iv ((a + 1 : Nat) : Int)), (6, Iv 0)]) (fun _ => [SB g4 (notS s)]) [RD g30 t a 0, SB g9 (notS s)] mixed (.i (by repeat constructor)) ?_ (fun _ => ?_)
          · refine ED.take 0 rfl (by decide +kernel) CutX.no_panic (by decide +kernel) rfl rfl rfl (RV.loadAggB rfl rfl rfl (by repeat constructor) rfl) ?_
            refine ED.take 1 rfl (by decide +kernel) CutX.no_panic (by decide +kernel) rfl rfl rfl (RV.move rfl) ?_
            refine ED.take 2 rfl (by decide +kernel) CutX.no_panic (by decide +kernel) rfl rfl rfl (RV.nilCheck rfl) ?_
            refine ED.take 3 rfl (by decide +kernel) CutX.no_panic (by decide +kernel) rfl rfl rfl (RV.fieldAddr rfl rfl rfl rfl rfl rfl) ?_
            refine ED.take 4 rfl (by decide +kernel) CutX.no_panic (by decide +kernel) rfl rfl rfl (RV.loadB rfl rfl rfl (by repeat constructor) rfl) ?_
            refine ED.take 5 rfl (by decide +kernel) CutX.no_panic (by decide +kernel) rfl rfl rfl (RV.add1 rfl rfl (by omega)) ?_
            refine ED.loud 6 rfl (by decide +kernel) ?_
            (apply EL.storeAll; exact rfl; exact rfl; exact rfl; exact rfl; exact rfl; (case p => repeat constructor); exact rfl; (case h1 => exact (by first | rfl | exact all1 rfl | (intro u hu; simp only [List.mem_cons, List.not_mem_nil, or_false] at hu; rcases hu with rfl | rfl | rfl | rfl <;> rfl) | (intro u hu; simp at hu; rcases hu with rfl | rfl | rfl | rfl <;> rfl) | (intro u hu; simp at hu; rcases hu with rfl | rfl | rfl <;> rfl) | (intro u hu; simp at hu; rcases hu with rfl | rfl <;> rfl) | (intro u hu; simp at hu; obtain ⟨_, _, rfl⟩ := hu; rfl))))
            refine ED.next (.i (by repeat constructor)) ?_
            refine ED.take 7 rfl (by decide +kernel) CutX.no_panic (by decide +kernel) rfl rfl rfl (RV.assign rfl) ?_
            refine ED.take 8 rfl (by decide +kernel) CutX.no_panic (by decide +kernel) rfl rfl rfl (RV.assign rfl) ?_
            refine ED.done (by decide +kernel) ?_
            exact PX.cutX () ⟨rfl, rfl, rfl, trivial⟩ (.i (by repeat constructor))
          refine .go ?_; repeat constructor
          exact PX.ret rfl Tryz.results108 (.cons (.blkA rfl rfl rfl (by repeat constructor) rfl) (.cons (.tmp rfl) (.cons (.tmp rfl) .nil))) (fun w hs => ⟨(), rfl, hs.ent (.i (by repeat constructor))⟩)
      · rw [if_neg (by rw [hnend]; decide)] at hgo
        refine .g0 ?_; repeat constructor
        refine ES.draw (X := Unit) (fun _ => [(0, Sv t), (4, Pv g4 0), (7, Pv g30 0), (8, .bool nt), (9, Pv g9 0)]) (fun _ => [RD g30 t (spanT t a).at_ (spanT t a).e, SB g9 (orS s (spanT t a).set), SB g4 zeroS]) [SB g9 s, SB g4 zeroS] mixed (.i (by repeat constructor)) ?_ (fun _ => ?_)
        · refine ED.take 0 rfl (by decide +kernel) CutX.no_panic (by decide +kernel) rfl rfl rfl (RV.loadAggB rfl rfl rfl (by repeat constructor) rfl) ?_
          refine ED.take 1 rfl (by decide +kernel) CutX.no_panic (by decide +kernel) rfl rfl rfl (RV.move rfl) ?_
          refine ED.loud 2 rfl (by decide +kernel) ?_
          refine EL.callMw1 rfl rfl rfl ent131 rfl hsc (by repeat constructor) ?_
          refine ED.next (.i (by repeat constructor)) ?_
          refine ED.loud 3 rfl (by decide +kernel) ?_
          refine EL.callP rfl rfl rfl ent130 rfl (or_c s (spanT t a).set) ?_
          refine ED.next (.i (by repeat constructor)) ?_
          refine ED.last 4 rfl (by decide +kernel) (by decide +kernel) (by decide +kernel) ?_
          (apply EL.storeAll; exact rfl; exact rfl; exact rfl; exact rfl; exact rfl; (case p => repeat constructor); exact rfl; (case h1 => exact (by first | rfl | exact all1 rfl | (intro u hu; simp only [List.mem_cons, List.not_mem_nil, or_false] at hu; rcases hu with rfl | rfl | rfl | rfl <;> rfl) | (intro u hu; simp at hu; rcases hu with rfl | rfl | rfl | rfl <;> rfl) | (intro u hu; simp at hu; rcases hu with rfl | rfl | rfl <;> rfl) | (intro u hu; simp at hu; rcases hu with rfl | rfl <;> rfl) | (intro u hu; simp at hu; obtain ⟨_, _, rfl⟩ := hu; rfl))))
          refine EL.endQ ?_
          exact PX.cutX () ⟨rfl, rfl, rfl, rfl, rfl, trivial⟩ (.i (by repeat constructor))
        refine .go ?_; repeat constructor
        refine EL.assign rfl rfl rfl ?_
        refine .go ?_; repeat constructor
        refine PX.loop ((spanT t a).at_, false, orS s (spanT t a).set, (spanT t a).e) ?_ ?_ ⟨rfl, rfl, rfl, rfl, rfl, rfl, trivial⟩ (.i (by repeat constructor))
        · by_cases he : (spanT t a).e = 0
          · rw [if_neg (by simpa using he)] at hgo
            have := hsa.2.2 he
            exact .inl ⟨he, by omega, m, by omega, hgo⟩
          · rw [if_pos he] at hgo
            exact .inr ⟨he, hgo.symm⟩
        · simp only [if_true]
          split
          · rename_i he
            have := hsa.2.2 he
            omega
          · omega
  · rcases hI with ⟨hh, _⟩ | ⟨_, hr⟩
    · exact absurd hh hne
    rw [hr, brOut_bad nt e hne]
    refine .g0 ?_; repeat constructor
    refine ES.draw (X := Unit) (fun _ => [(4, Pv g4 0), (5, Iv 0), (6, Iv e)]) (fun _ => [SB g4 zeroS]) [RD g30 t a e] mixed (.i (by repeat constructor)) ?_ (fun _ => ?_)
    · refine ED.take 1 rfl (by decide +kernel) CutX.no_panic (by decide +kernel) rfl rfl rfl (RV.move rfl) ?_
      refine ED.take 2 rfl (by decide +kernel) CutX.no_panic (by decide +kernel) rfl rfl rfl (RV.nilCheck rfl) ?_
      refine ED.take 3 rfl (by decide +kernel) CutX.no_panic (by decide +kernel) rfl rfl rfl (RV.fieldAddr rfl rfl rfl rfl rfl rfl) ?_
      refine ED.take 4 rfl (by decide +kernel) CutX.no_panic (by decide +kernel) rfl rfl rfl (RV.loadB rfl rfl rfl (by repeat constructor) rfl) ?_
      refine ED.loud 0 rfl (by decide +kernel) ?_
      refine EL.buildZA rfl rfl rfl rfl rfl ?_
      refine ED.next (.i (by repeat constructor)) ?_
      refine ED.loud 5 rfl (by decide +kernel) ?_
      (apply EL.storeAll; exact rfl; exact rfl; exact rfl; exact rfl; exact rfl; (case p => repeat constructor); exact rfl; (case h1 => exact (by first | rfl | exact all1 rfl | (intro u hu; simp only [List.mem_cons, List.not_mem_nil, or_false] at hu; rcases hu with rfl | rfl | rfl | rfl <;> rfl) | (intro u hu; simp at hu; rcases hu with rfl | rfl | rfl | rfl <;> rfl) | (intro u hu; simp at hu; rcases hu with rfl | rfl | rfl <;> rfl) | (intro u hu; simp at hu; rcases hu with rfl | rfl <;> rfl) | (intro u hu; simp at hu; obtain ⟨_, _, rfl⟩ := hu; rfl))))
      refine ED.next (.i (by repeat constructor)) ?_
      refine ED.take 6 rfl (by decide +kernel) CutX.no_panic (by decide +kernel) rfl rfl rfl (RV.assign rfl) ?_
      refine ED.take 7 rfl (by decide +kernel) CutX.no_panic (by decide +kernel) rfl rfl rfl (RV.assign rfl) ?_
      refine ED.done (by decide +kernel) ?_
      exact PX.cutX () ⟨rfl, rfl, rfl, trivial⟩ (.i (by repeat constructor))
    refine .go ?_; repeat constructor
    exact PX.ret rfl Tryz.results108 (.cons (.blkA rfl rfl rfl (by repeat constructor) rfl) (.cons (.tmp rfl) (.cons (.tmp rfl) .nil))) (fun w hs => ⟨(), rfl, hs.ent (.i (by repeat constructor))⟩)
end Go.Proofs.YtblpgpgbnlhjlaaGreat
namespace Go.Proofs.YtblpgpgbnlhjlaaGreat
open Go Go.RowKit Sl
set_option maxRecDepth 100000
set_option maxHeartbeats 8000000
set_option linter.unusedVariables false
set_option linter.unusedSimpArgs false
attribute [local irreducible] ES EL PX wps
inductive RE where
  | cat (ks : List RE)
  | byte (s : BS)
  | bol
  | eol
  | group (n : Nat) (k : RE)
  | rep (lo : Nat) (hi : Int) (k : RE)
  | back (n : Nat)
deriving Inhabited
def RE.kind : RE → Nat
  | .cat _ => 0
  | .byte _ => 1
  | .bol => 2
  | .eol => 3
  | .group .. => 4
  | .rep .. => 5
  | .back _ => 6
def RE.set : RE → BS
  | .byte s => s
  | _ => zeroS
def RE.lo : RE → Nat
  | .rep lo _ _ => lo
  | _ => 0
def RE.hi : RE → Int
  | .rep _ hi _ => hi
  | _ => 0
def RE.num : RE → Nat
  | .group n _ => n
  | .back n => n
  | _ => 0
def RE.kids : RE → List RE
  | .cat ks => ks
  | .group _ k => [k]
  | .rep _ _ k => [k]
  | _ => []
structure Tok where
  kind : Nat
  at_ : Nat
  set : BS
  lo : Int
  hi : Int
  e : Int
def badT (a : Nat) (e : Int) : Tok := ⟨7, a, zeroS, 0, 0, e⟩
def byteT (a : Nat) (s : BS) : Tok := ⟨0, a, s, 0, 0, 0⟩
def oneT (a : Nat) (b : UInt8) : Tok := byteT a (ofS [b])
def isDig (b : UInt8) : Bool := decide (48 ≤ b.toNat ∧ b.toNat ≤ 57)
def numGo (t : List UInt8) : Nat → Nat → Nat → Nat × Nat
  | 0, n, a => (n, a)
  | k + 1, n, a => if a < t.length ∧ isDig (t.getD a 0) = true then numGo t k (min (10 * n + ((t.getD a 0).toNat - 48)) 256) (a + 1) else (n, a)
def numM (t : List UInt8) (a : Nat) : Int × Nat :=
  let r := numGo t (t.length - a) 0 a
  (if r.2 = a then -1 else (r.1 : Int), r.2)
def ivM (t : List UInt8) (a : Nat) : Option (Nat × Int × Nat) :=
  let l := numM t a
  let h := if l.2 < t.length ∧ t.getD l.2 0 = 44 then numM t (l.2 + 1) else l
  if l.1 < 0 ∨ 255 < l.1 ∨ 255 < h.1 ∨ (0 ≤ h.1 ∧ h.1 < l.1) then none
  else if t.length < h.2 + 2 ∨ (t.drop h.2).take 2 ≠ [92, 125] then none
  else some (l.1.toNat, h.1, h.2 + 2)
def isAln (b : UInt8) : Bool := isDig b || decide (97 ≤ (b ||| 32).toNat ∧ (b ||| 32).toNat ≤ 122)
def escT (t : List UInt8) (a : Nat) (begin_ : Bool) : Tok × Nat :=
  if a + 1 = t.length then (badT a 6, a)
  else
    let b := t.getD (a + 1) 0
    if b.toNat = 40 then (⟨3, a, zeroS, 0, 0, 0⟩, a + 2)
    else if b.toNat = 41 then (⟨4, a, zeroS, 0, 0, 0⟩, a + 2)
    else if b.toNat = 123 then
      match ivM t (a + 2) with
      | none => (badT a 9, a)
      | some (lo, hi, n) => if begin_ = true then (badT a 9, a) else (⟨5, a, zeroS, (lo : Int), hi, 0⟩, n)
    else if b.toNat = 125 then (badT a 9, a)
    else if b.toNat = 110 then (oneT a 10, a + 2)
    else if 49 ≤ b.toNat ∧ b.toNat ≤ 57 then (⟨6, a, zeroS, ((b.toNat - 48 : Nat) : Int), 0, 0⟩, a + 2)
    else if isAln b = true then (badT a 12, a)
    else (oneT a b, a + 2)
def eolM (t : List UInt8) (a : Nat) : Bool := decide (a + 1 = t.length) || (decide (a + 2 < t.length) && decide ((t.drop (a + 1)).take 2 = [92, 41]))
def readT (t : List UInt8) (a : Nat) (first begin_ : Bool) : Tok × Nat :=
  let b := t.getD a 0
  if b.toNat = 92 then escT t a begin_
  else if b.toNat = 91 then (if (brackM t a).e ≠ 0 then (badT a (brackM t a).e, a) else (byteT a (brackM t a).set, (brackM t a).at_))
  else if b.toNat = 46 then (byteT a (notS zeroS), a + 1)
  else if b.toNat = 42 ∧ begin_ = false then (⟨5, a, zeroS, 0, -1, 0⟩, a + 1)
  else if b.toNat = 94 ∧ first = true then (⟨1, a, zeroS, 0, 0, 0⟩, a + 1)
  else if b.toNat = 36 ∧ eolM t a = true then (⟨2, a, zeroS, 0, 0, 0⟩, a + 1)
  else (oneT a b, a + 1)
def toksGo (t : List UInt8) : Nat → Nat → Bool → Bool → List Tok
  | 0, _, _, _ => []
  | n + 1, a, first, begin_ =>
    if t.length ≤ a then []
    else
      let r := readT t a first begin_
      if r.1.kind = 7 then [r.1] else r.1 :: toksGo t n r.2 (decide (r.1.kind = 3)) (decide (r.1.kind = 3) || decide (r.1.kind = 1))
def toksM (t : List UInt8) : List Tok := toksGo t t.length 0 true true
structure Frame where
  kids : List RE
  sizes : List Nat
  group : Nat
  at_ : Nat
structure PS where
  top : Frame
  rest : List Frame
  groups : Nat
  shut : List Bool
  size : Nat
def Frame.put (f : Frame) (r : RE) (n : Nat) : Frame := { f with kids := f.kids ++ [r], sizes := f.sizes ++ [n] }
def growE (n : Nat) : Int := if 256 < n then 13 else 0
def timesM (lo : Nat) (hi : Int) : Nat := if hi < 0 then max lo 1 else hi.toNat
def takeM (p : PS) (k : Tok) : PS × Int :=
  match k.kind with
  | 0 => ({ p with top := p.top.put (.byte k.set) 1, size := p.size + 1 }, growE (p.size + 1))
  | 1 => ({ p with top := p.top.put .bol 0 }, 0)
  | 2 => ({ p with top := p.top.put .eol 0 }, 0)
  | 3 => if p.groups = 9 then (p, 4) else ({ p with top := ⟨[], [], p.groups + 1, k.at_⟩, rest := p.top :: p.rest, groups := p.groups + 1 }, 0)
  | 4 => match p.rest with
    | [] => (p, 10)
    | f :: r => ({ p with top := f.put (.group p.top.group (.cat p.top.kids)) p.top.sizes.sum, rest := r, shut := p.shut.set p.top.group true }, 0)
  | 5 =>
    let old := p.top.sizes.getLastD 0
    let f := { p.top with kids := p.top.kids.dropLast ++ [.rep k.lo.toNat k.hi (p.top.kids.getLastD .bol)], sizes := p.top.sizes.dropLast ++ [old * timesM k.lo.toNat k.hi] }
    ({ p with top := f, size := p.size - old + old * timesM k.lo.toNat k.hi }, growE (p.size - old + old * timesM k.lo.toNat k.hi))
  | 6 => if p.shut.getD k.lo.toNat false = true then ({ p with top := p.top.put (.back k.lo.toNat) 1, size := p.size + 1 }, growE (p.size + 1)) else (p, 11)
  | _ => (p, k.e)
structure Parsed where
  tree : RE
  e : Int
  at_ : Nat
def endM (p : PS) : Parsed := match p.rest with
  | [] => ⟨.cat p.top.kids, 0, 0⟩
  | _ => ⟨.cat [], 10, p.top.at_⟩
def parseGo : List Tok → PS → Parsed
  | [], p => endM p
  | k :: ks, p => if (takeM p k).2 ≠ 0 then ⟨.cat [], (takeM p k).2, k.at_⟩ else parseGo ks (takeM p k).1
def ps0 : PS := ⟨⟨[], [], 0, 0⟩, [], 0, List.replicate 10 false, 0⟩
def parseM (t : List UInt8) : Parsed := if 512 < t.length then ⟨.cat [], 2, 0⟩ else parseGo (toksM t) ps0
def Frame.tot (f : Frame) : Nat := f.sizes.sum
structure PS.Ok (p : PS) : Prop where
  len : ∀ f ∈ p.top :: p.rest, f.kids.length = f.sizes.length
  tot : p.size = p.top.tot + (p.rest.map Frame.tot).sum
  le : p.size ≤ 256
  shut : p.shut.length = 10
  groups : p.groups ≤ 9
  num : ∀ f ∈ p.top :: p.rest, f.group ≤ 9
theorem ps0_ok : ps0.Ok := ⟨by simp [ps0], by simp [ps0, Frame.tot], by simp [ps0], by simp [ps0], by simp [ps0], by simp [ps0]⟩
end Go.Proofs.YtblpgpgbnlhjlaaGreat
namespace Go.Proofs.YtblpgpgbnlhjlaaGreat
open Go Go.RowKit Sl
set_option maxRecDepth 100000
set_option maxHeartbeats 8000000
set_option linter.unusedVariables false
set_option linter.unusedSimpArgs false
attribute [local irreducible] ES EL PX wps
def reCells (r : RE) (kv : Value) : List Value := [Iv (r.kind : Nat), Wv r.set.a, Wv r.set.b, Wv r.set.c, Wv r.set.d, Iv (r.lo : Nat), Iv r.hi, Iv (r.num : Nat), kv]
def Reads (S : Nat → Prop) (w : World) (ad : Option Addr) (cs : List Value) : Prop :=
  cs ≠ [] → ∃ g off, ad = some ⟨g, off, none⟩ ∧ S g ∧ ∃ ca ta, w.heap[g]? = some (.cells ca ta (0, 0)) ∧ ∀ j v, cs[j]? = some v → ca[off + j]? = some v
theorem Reads.nil {S : Nat → Prop} {w : World} {ad : Option Addr} : Reads S w ad [] := fun h => absurd rfl h
theorem Reads.mono {S S' : Nat → Prop} {w : World} {ad : Option Addr} {cs : List Value} (h : Reads S w ad cs) (hs : ∀ g, S g → S' g) : Reads S' w ad cs := fun hne => by
  obtain ⟨g, off, h1, h2, h3⟩ := h hne
  exact ⟨g, off, h1, hs g h2, h3⟩
theorem Reads.loc {S : Nat → Prop} {w w' : World} {ad : Option Addr} {cs : List Value} (h : Reads S w ad cs) (hl : ∀ g, S g → w'.heap[g]? = w.heap[g]?) : Reads S w' ad cs := fun hne => by
  obtain ⟨g, off, h1, h2, ca, ta, h3, h4⟩ := h hne
  exact ⟨g, off, h1, h2, ca, ta, by rw [hl g h2]; exact h3, h4⟩
theorem Reads.cell {S : Nat → Prop} {w : World} {g off : Nat} {cs : List Value} (h : Reads S w (some ⟨g, off, none⟩) cs) (j : Nat) (v : Value) (hj : cs[j]? = some v) : w.cell? ⟨g, off + j, none⟩ = some v := by
  obtain ⟨g', off', h1, _, ca, ta, h3, h4⟩ := h (fun e => by subst e; simp at hj)
  simp only [Option.some.injEq, Addr.mk.injEq] at h1
  obtain ⟨rfl, rfl, _⟩ := h1
  simp only [World.cell?, h3]
  exact h4 j v hj
theorem Reads.rd {w : World} {B : Nat} {ad : Option Addr} {cs : List Value} (h : Reads (· < B) w ad cs) : Rd w B ad cs := fun hne => by
  obtain ⟨g, off, h1, h2, ca, ta, h3, h4⟩ := h hne
  exact ⟨g, off, h1, h2, fun j v hj => by simp only [World.cell?, h3]; exact h4 j v hj⟩
theorem row_reads {w : World} {e sz g n cap : Nat} {cs : List Value} (h : w.ownsRow 0 e sz (.slice (some ⟨g, 0, none⟩) n cap) n cs) : ∃ ca ta, w.heap[g]? = some (.cells ca ta (0, 0)) ∧ ∀ j v, cs[j]? = some v → ca[0 + j]? = some v := by
  obtain ⟨_, (⟨h', _⟩ | ⟨g', cap', cur, hv, _, hh, _, _, _, ht⟩)⟩ := h
  · cases h'
  · simp only [Value.slice.injEq, Option.some.injEq, Addr.mk.injEq] at hv
    obtain ⟨⟨rfl, _⟩, _, _⟩ := hv
    refine ⟨cur, e, hh, fun j v hj => ?_⟩
    rw [← ht] at hj
    rw [Nat.zero_add]
    rw [List.getElem?_take] at hj
    split at hj
    · simpa using hj
    · cases hj
inductive Forest (S : Nat → Prop) (w : World) : List RE → List Value → Prop
  | nil : Forest S w [] []
  | cons (r : RE) (ks : List RE) (ad : Option Addr) (cap : Nat) (cs0 cs : List Value) (hc : r.kids.length ≤ cap) (h0 : Forest S w r.kids cs0) (hr : Reads S w ad cs0) (h : Forest S w ks cs) : Forest S w (r :: ks) (reCells r (.slice ad r.kids.length cap) ++ cs)
theorem Forest.len {S : Nat → Prop} {w : World} {ks : List RE} {cs : List Value} (h : Forest S w ks cs) : cs.length = ks.length * 9 := by
  induction h with
  | nil => rfl
  | cons r ks ad cap cs0 cs hc h0 hr h ih0 ih => simp only [List.length_append, ih, List.length_cons, reCells, List.length_nil]; omega
theorem Forest.mono {S S' : Nat → Prop} {w : World} {ks : List RE} {cs : List Value} (h : Forest S w ks cs) (hs : ∀ g, S g → S' g) : Forest S' w ks cs := by
  induction h with
  | nil => exact .nil
  | cons r ks ad cap cs0 cs hc h0 hr h ih0 ih => exact .cons r ks ad cap cs0 cs hc ih0 (hr.mono hs) ih
theorem Forest.loc {S : Nat → Prop} {w w' : World} {ks : List RE} {cs : List Value} (h : Forest S w ks cs) (hl : ∀ g, S g → w'.heap[g]? = w.heap[g]?) : Forest S w' ks cs := by
  induction h with
  | nil => exact .nil
  | cons r ks ad cap cs0 cs hc h0 hr h ih0 ih => exact .cons r ks ad cap cs0 cs hc ih0 (hr.loc hl) ih
theorem Forest.append {S : Nat → Prop} {w : World} {ks ks' : List RE} {cs cs' : List Value} (h : Forest S w ks cs) (h' : Forest S w ks' cs') : Forest S w (ks ++ ks') (cs ++ cs') := by
  induction h with
  | nil => exact h'
  | cons r ks ad cap cs0 cs hc h0 hr h ih0 ih => rw [List.append_assoc]; exact .cons r _ ad cap cs0 _ hc h0 hr ih
theorem Forest.one {S : Nat → Prop} {w : World} (r : RE) (ad : Option Addr) (cap : Nat) (cs0 : List Value) (hc : r.kids.length ≤ cap) (h0 : Forest S w r.kids cs0) (hr : Reads S w ad cs0) : Forest S w [r] (reCells r (.slice ad r.kids.length cap)) := by
  have := Forest.cons r [] ad cap cs0 [] hc h0 hr .nil
  simpa using this
theorem Forest.leaf {S : Nat → Prop} {w : World} (r : RE) (h : r.kids = []) : Forest S w [r] (reCells r (.slice none 0 0)) := by
  have := Forest.one (S := S) (w := w) r none 0 [] (by rw [h]; exact Nat.le_refl _) (by rw [h]; exact .nil) Reads.nil
  rw [h] at this; exact this
theorem drop9 (c cs : List Value) (h : c.length = 9) (i : Nat) : (c ++ cs).drop ((i + 1) * 9) = cs.drop (i * 9) := by
  rw [List.drop_append, List.drop_of_length_le (by omega), List.nil_append]
  congr 1; omega
theorem take9 (c cs : List Value) (h : c.length = 9) (i : Nat) : (c ++ cs).take ((i + 1) * 9) = c ++ cs.take (i * 9) := by
  rw [List.take_append, List.take_of_length_le (by omega)]
  congr 2; omega
theorem Forest.get {S : Nat → Prop} {w : World} {ks : List RE} {cs : List Value} (h : Forest S w ks cs) : ∀ (i : Nat) (r : RE), ks[i]? = some r → ∃ ad cap cs0, (cs.drop (i * 9)).take 9 = reCells r (.slice ad r.kids.length cap) ∧ Forest S w r.kids cs0 ∧ Reads S w ad cs0 ∧ r.kids.length ≤ cap := by
  induction h with
  | nil => intro i r hi; simp at hi
  | cons r ks ad cap cs0 cs hc h0 hr h ih0 ih =>
    intro i r' hi
    cases i with
    | zero =>
      simp only [List.getElem?_cons_zero, Option.some.injEq] at hi
      subst hi
      exact ⟨ad, cap, cs0, by simp [reCells], h0, hr, hc⟩
    | succ i =>
      simp only [List.getElem?_cons_succ] at hi
      obtain ⟨ad', cap', cs1, h1, h2, h3⟩ := ih i r' hi
      refine ⟨ad', cap', cs1, ?_, h2, h3⟩
      rw [drop9 _ _ rfl]
      exact h1
theorem Forest.drop {S : Nat → Prop} {w : World} {ks : List RE} {cs : List Value} (h : Forest S w ks cs) : ∀ i, Forest S w (ks.drop i) (cs.drop (i * 9)) := by
  induction h with
  | nil => intro i; simp; exact .nil
  | cons r ks ad cap cs0 cs hc h0 hr h ih0 ih =>
    intro i
    cases i with
    | zero => simp only [List.drop_zero, Nat.zero_mul]; exact .cons r ks ad cap cs0 cs hc h0 hr h
    | succ i =>
      rw [drop9 _ _ rfl]
      exact ih i
theorem Forest.take {S : Nat → Prop} {w : World} {ks : List RE} {cs : List Value} (h : Forest S w ks cs) : ∀ i, Forest S w (ks.take i) (cs.take (i * 9)) := by
  induction h with
  | nil => intro i; simp; exact .nil
  | cons r ks ad cap cs0 cs hc h0 hr h ih0 ih =>
    intro i
    cases i with
    | zero => simp only [List.take_zero, Nat.zero_mul]; exact .nil
    | succ i =>
      rw [take9 _ _ rfl]
      exact Forest.cons r _ ad cap cs0 _ hc h0 hr (ih i)
def HA.forest (fp : List Nat) (ks : List RE) (cs : List Value) : HA := ⟨fp, fun w => Forest (· ∈ fp) w ks cs, fun w w' h hw => hw.loc (fun g hg => h g hg)⟩
theorem Sat.rule {w0 w : World} {B : Nat} {Hs R : List HA} {A : HA} (h : Sat w0 B (Hs ++ R) w) (hf : (fps Hs).Perm A.fp) (hA : (∀ X ∈ Hs, X.holds w) → A.holds w) : Sat w0 B (A :: R) w := by
  have hp : (fps (Hs ++ R)).Perm (fps (A :: R)) := by rw [fps_append, fps_cons]; exact hf.append_right _
  refine ⟨h.below, h.base, hp.nodup_iff.1 h.nodup, fun g hg => h.lo g (hp.mem_iff.2 hg), fun X hX => ?_⟩
  rcases List.mem_cons.1 hX with rfl | hX
  · exact hA (fun Y hY => h.all Y (by simp [hY]))
  · exact h.all X (by simp [hX])
theorem Sat.forest0 {w0 w : World} {B : Nat} {H : List HA} (h : Sat w0 B H w) (ks : List RE) (cs : List Value) (hf : ∀ S w, Forest S w ks cs) : Sat w0 B (HA.forest [] ks cs :: H) w :=
  Sat.rule (Hs := []) h (by simp only [fps, List.flatMap_cons, List.flatMap_nil, HA.forest, HA.row, List.append_nil]; exact List.Perm.refl _) (fun _ => hf _ _)
theorem Sat.forestApp {w0 w : World} {B : Nat} {R : List HA} {fp fp' : List Nat} {ks ks' : List RE} {cs cs' : List Value} (h : Sat w0 B (HA.forest fp ks cs :: HA.forest fp' ks' cs' :: R) w) : Sat w0 B (HA.forest (fp ++ fp') (ks ++ ks') (cs ++ cs') :: R) w :=
  Sat.rule (Hs := [HA.forest fp ks cs, HA.forest fp' ks' cs']) h (by simp only [fps, List.flatMap_cons, List.flatMap_nil, HA.forest, HA.row, List.append_nil]; exact List.Perm.refl _) (fun hh => by
    have h1 : Forest (· ∈ fp) w ks cs := hh (HA.forest fp ks cs) (by simp)
    have h2 : Forest (· ∈ fp') w ks' cs' := hh (HA.forest fp' ks' cs') (by simp)
    exact (h1.mono (fun g hg => by simp [hg])).append (h2.mono (fun g hg => by simp [hg])))
theorem Sat.seal {w0 w : World} {B : Nat} {R : List HA} {fp : List Nat} {ks : List RE} {cs : List Value} {ad : Option Addr} {n cap e : Nat} (r : RE) (hr : r.kids = ks) (h : Sat w0 B (HA.row (.slice ad n cap) e 9 ks.length cs :: HA.forest fp ks cs :: R) w) :
    Sat w0 B (HA.forest ((Value.slice ad n cap).ownBlock.toList ++ fp) [r] (reCells r (.slice ad ks.length cap)) :: R) w :=
  Sat.rule (Hs := [HA.row (.slice ad n cap) e 9 ks.length cs, HA.forest fp ks cs]) h (by simp only [fps, List.flatMap_cons, List.flatMap_nil, HA.forest, HA.row, List.append_nil]; exact List.Perm.refl _) (fun hh => by
    have h1 : w.ownsRow 0 e 9 (.slice ad n cap) ks.length cs := hh (HA.row (.slice ad n cap) e 9 ks.length cs) (by simp)
    have h2 : Forest (· ∈ fp) w ks cs := hh (HA.forest fp ks cs) (by simp)
    subst hr
    refine Forest.one r ad cap cs (row_form h1).2.1 (h2.mono (fun g hg => by simp [hg])) (fun hne => ?_)
    obtain ⟨hl2, _, _, hl, hform⟩ := row_form h1
    obtain ⟨g, rfl⟩ := hform (by
      rcases Nat.eq_zero_or_pos r.kids.length with h0 | h0
      · rw [h0] at hl; exact absurd (List.eq_nil_of_length_eq_zero (by omega)) hne
      · exact h0)
    exact ⟨g, 0, rfl, by simp [Value.ownBlock], row_reads (by obtain rfl := hl2; exact h1)⟩)
theorem Sat.forestEq {w0 w : World} {B : Nat} {R : List HA} {fp : List Nat} {ks ks' : List RE} {cs cs' : List Value} (h : Sat w0 B (HA.forest fp ks cs :: R) w) (hf : ∀ S w, Forest S w ks cs → Forest S w ks' cs') : Sat w0 B (HA.forest fp ks' cs' :: R) w :=
  Sat.rule (Hs := [HA.forest fp ks cs]) h (by simp only [fps, List.flatMap_cons, List.flatMap_nil, HA.forest, HA.row, List.append_nil]; exact List.Perm.refl _) (fun hh => hf _ _ (hh (HA.forest fp ks cs) (by simp)))
abbrev ForestRd (w : World) (B : Nat) (ks : List RE) (cs : List Value) : Prop := Forest (· < B) w ks cs
theorem Forest.sat {w0 w : World} {B : Nat} {H : List HA} {fp : List Nat} {ks : List RE} {cs : List Value} (hs : Sat w0 B H w) (hm : Mem H (HA.forest fp ks cs)) : ForestRd w w.heap.size ks cs := by
  have h : Forest (· ∈ fp) w ks cs := hs.all _ hm.mem
  exact h.mono (fun g hg => (hs.lo g (List.mem_flatMap.2 ⟨_, hm.mem, hg⟩)).2)
theorem Forest.beneath {w0 w : World} {B B' : Nat} {ks : List RE} {cs : List Value} (h : ForestRd w0 B ks cs) (hb : Below B w0 w) (hB : B ≤ B') : ForestRd w B' ks cs :=
  (h.loc (fun g hg => hb.block g hg)).mono (fun g hg => Nat.lt_of_lt_of_le hg hB)
end Go.Proofs.YtblpgpgbnlhjlaaGreat
namespace Go.Proofs.YtblpgpgbnlhjlaaGreat
open Go Go.RowKit Sl
set_option maxRecDepth 100000
set_option maxHeartbeats 8000000
set_option linter.unusedVariables false
set_option linter.unusedSimpArgs false
attribute [local irreducible] ES EL PX wps
theorem isDig_int (b : UInt8) : isDig b = (decide (48 ≤ (b.toNat : Int)) && decide ((b.toNat : Int) ≤ 57)) := by
  unfold isDig
  rw [Bool.eq_iff_iff]
  simp only [decide_eq_true_eq, Bool.and_eq_true]
  omega
theorem numGo_le (t : List UInt8) : ∀ (k n a : Nat), n ≤ 256 → a + k ≤ t.length → (numGo t k n a).1 ≤ 256 ∧ a ≤ (numGo t k n a).2 ∧ (numGo t k n a).2 ≤ a + k
  | 0, n, a, hn, _ => ⟨hn, Nat.le_refl _, Nat.le_refl _⟩
  | k + 1, n, a, hn, ha => by
    rw [numGo]
    split
    · have := numGo_le t k (min (10 * n + ((t.getD a 0).toNat - 48)) 256) (a + 1) (by omega) (by omega)
      omega
    · exact ⟨hn, Nat.le_refl _, by simp only; omega⟩
theorem numM_le (t : List UInt8) (a : Nat) (h : a ≤ t.length) : -1 ≤ (numM t a).1 ∧ (numM t a).1 ≤ 256 ∧ a ≤ (numM t a).2 ∧ (numM t a).2 ≤ t.length := by
  have := numGo_le t (t.length - a) 0 a (by omega) (by omega)
  unfold numM
  dsimp only
  split <;> omega
theorem number_c (t : List UInt8) (a : Nat) (ha : a ≤ t.length) (ht : t.length ≤ 1073741824) (w : World) : Pure Tryz.prog 144 #[Sv t, Iv (a : Nat)] (fun _ : Unit => .tuple #[Iv (numM t a).1, Iv ((numM t a).2 : Nat)]) (fun _ => []) w := by
  refine calls_of_ES TB Tryz.func144 rfl _ Tryz.ntmps144 rfl (Sat.start w) ?_
  refine .go ?_; repeat constructor
  refine EL.assign rfl rfl rfl ?_
  refine EL.assign rfl rfl rfl ?_
  refine .go ?_; repeat constructor
  refine EL.move rfl rfl rfl ?_
  refine EL.assign rfl rfl rfl ?_
  refine EL.assign rfl rfl rfl ?_
  refine .go ?_; repeat constructor
  obtain ⟨res, hres⟩ : ∃ res, res = numGo t (t.length - a) 0 a := ⟨_, rfl⟩
  have hm : numM t a = (if res.2 = a then -1 else (res.1 : Int), res.2) := by rw [hres]; rfl
  rw [hm]
  refine ES.loop (σ := Nat × Nat) (fun (n, c) => n ≤ 256 ∧ a ≤ c ∧ c ≤ t.length ∧ numGo t (t.length - c) n c = res) (fun (n, c) => [(0, Sv t), (1, Iv (c : Nat)), (6, Iv (n : Nat)), (7, Iv (a : Nat))]) (fun _ => []) (fun (n, c) => t.length - c) (0, a) ⟨by omega, Nat.le_refl _, ha, hres.symm⟩ ⟨rfl, rfl, rfl, rfl, trivial⟩ (.i (by repeat constructor)) ?_
  rintro ⟨n, c⟩ ⟨hn, hac, hc, hgo⟩
  dsimp only at hn hac hc hgo ⊢
  refine .go ?_; repeat constructor
  refine EL.cutX (X := Unit) (fun _ => [(0, Sv t), (1, Iv (c : Nat)), (6, Iv (n : Nat)), (7, Iv (a : Nat)), (24, .bool (decide ((c : Int) < (t.length : Int)) && isDig (t.getD c 0)))]) (fun _ => []) ?_ (fun _ => ?_)
  · refine .go ?_; repeat constructor
    refine EL.move rfl rfl rfl ?_
    refine EL.move rfl rfl rfl ?_
    refine EL.lenS rfl rfl rfl rfl rfl ?_
    refine EL.lss rfl rfl rfl rfl ?_
    refine EL.move rfl rfl rfl ?_
    first | refine EL.splitD (d := 13) rfl (fun hp13 => ?_) (fun hp13 => ?_) | refine EL.splitN (d := 13) rfl (fun hp13 => ?_) (fun hp13 => ?_) | refine EL.splitB (d := 13) rfl (fun hp13 => ?_) (fun hp13 => ?_)
    · refine EL.move rfl rfl rfl ?_
      refine EL.move rfl rfl rfl ?_
      refine EL.indexSN rfl rfl rfl rfl rfl rfl (by omega) ?_
      refine EL.geq rfl rfl rfl rfl ?_
      refine EL.pickT rfl rfl rfl rfl ?_
      refine EL.move rfl rfl rfl ?_
      first | refine EL.splitD (d := 19) rfl (fun hp19 => ?_) (fun hp19 => ?_) | refine EL.splitN (d := 19) rfl (fun hp19 => ?_) (fun hp19 => ?_) | refine EL.splitB (d := 19) rfl (fun hp19 => ?_) (fun hp19 => ?_)
      · refine EL.move rfl rfl rfl ?_
        refine EL.move rfl rfl rfl ?_
        refine EL.indexSN rfl rfl rfl rfl rfl rfl (by omega) ?_
        refine EL.leq rfl rfl rfl rfl ?_
        refine EL.pickT rfl rfl rfl rfl ?_
        exact EL.endX () ⟨rfl, rfl, rfl, rfl, getA rfl (congrArg Value.bool (by rw [isDig_int]; simp_all <;> omega)), trivial⟩ (.i (by repeat constructor))
      · refine EL.pass rfl rfl rfl ?_
        refine EL.pass rfl rfl rfl ?_
        refine EL.pass rfl rfl rfl ?_
        refine EL.pass rfl rfl rfl ?_
        refine EL.pickF rfl rfl rfl rfl ?_
        exact EL.endX () ⟨rfl, rfl, rfl, rfl, getA rfl (congrArg Value.bool (by rw [isDig_int]; simp_all <;> omega)), trivial⟩ (.i (by repeat constructor))
    · refine EL.pass rfl rfl rfl ?_
      refine EL.pass rfl rfl rfl ?_
      refine EL.pass rfl rfl rfl ?_
      refine EL.pass rfl rfl rfl ?_
      refine EL.pickF rfl rfl rfl rfl ?_
      refine EL.move rfl rfl rfl ?_
      refine EL.pass rfl rfl rfl ?_
      refine EL.pass rfl rfl rfl ?_
      refine EL.pass rfl rfl rfl ?_
      refine EL.pass rfl rfl rfl ?_
      refine EL.pickF rfl rfl rfl rfl ?_
      exact EL.endX () ⟨rfl, rfl, rfl, rfl, getA rfl (congrArg Value.bool (by rw [isDig_int]; simp_all <;> omega)), trivial⟩ (.i (by repeat constructor))
  refine ES.cond rfl (fun hd => ?_) (fun hd => ?_)
  · rw [Bool.and_eq_true, decide_eq_true_eq] at hd
    have hlt : c < t.length := by omega
    have hdig := hd.2
    have hb : 48 ≤ (t.getD c 0).toNat ∧ (t.getD c 0).toNat ≤ 57 := by unfold isDig at hdig; exact of_decide_eq_true hdig
    obtain ⟨k, hk⟩ : ∃ k, t.length - c = k + 1 := ⟨t.length - c - 1, by omega⟩
    rw [hk, numGo, if_pos ⟨hlt, hd.2⟩] at hgo
    refine .go ?_; repeat constructor
    refine EL.move rfl rfl rfl ?_
    refine EL.mulN (m := 10) rfl rfl rfl rfl rfl (by omega) ?_
    refine EL.move rfl rfl rfl ?_
    refine EL.move rfl rfl rfl ?_
    refine EL.indexSN rfl rfl rfl rfl rfl rfl (by omega) ?_
    refine EL.ofRV (RV.subK (n := 48) rfl rfl (by omega) (by simp only [kmax]; omega)) rfl rfl rfl (by intro c h; cases h) ?_
    refine EL.convN rfl rfl rfl rfl rfl rfl (by simp only [kmax]; omega) ?_
    refine EL.addN rfl rfl rfl rfl rfl (by omega) ?_
    refine EL.ofRV (RV.minI rfl rfl) rfl rfl rfl (by intro c h; cases h) ?_
    refine EL.assign rfl rfl rfl ?_
    refine .go ?_; repeat constructor
    refine EL.move rfl rfl rfl ?_
    refine EL.add1 rfl rfl rfl rfl (by omega) ?_
    refine EL.assign rfl rfl rfl ?_
    refine .go ?_; repeat constructor
    refine PX.loop (min (10 * n + ((t.getD c 0).toNat - 48)) 256, c + 1) ⟨by simp only; omega, by simp only; omega, by simp only; omega, by simp only; rw [show t.length - (c + 1) = k by omega]; exact hgo⟩ (by simp only; omega) ⟨rfl, rfl, getA rfl (congrArg Iv (by omega)), rfl, trivial⟩ (.i (by repeat constructor))
  · have hr : res = (n, c) := by
      rw [← hgo]
      cases hk : t.length - c with
      | zero => rfl
      | succ k =>
        rw [numGo, if_neg]
        rintro ⟨h1, h2⟩
        rw [h2, decide_eq_true (by omega)] at hd
        cases hd
    rw [hr]
    refine .go ?_; repeat constructor
    refine EL.move rfl rfl rfl ?_
    refine EL.move rfl rfl rfl ?_
    refine EL.eqlI rfl rfl rfl rfl ?_
    refine .go ?_; repeat constructor
    refine ES.cutC (X := Unit) (fun _ => [(1, Iv (c : Nat)), (6, Iv (if c = a then -1 else (n : Int)))]) (fun _ => []) ?_ (fun _ => ?_)
    · refine ES.condD rfl (fun he => ?_) (fun hne => ?_)
      · refine .go ?_; repeat constructor
        refine EL.assign rfl rfl rfl ?_
        refine .go ?_; repeat constructor
        exact PX.cutX () ⟨rfl, getA rfl (congrArg Iv (by rw [if_pos (by omega)])), trivial⟩ (.i (by repeat constructor))
      · refine .go ?_; repeat constructor
        exact PX.cutX () ⟨rfl, getA rfl (congrArg Iv (by rw [if_neg (by omega)])), trivial⟩ (.i (by repeat constructor))
    refine .go ?_; repeat constructor
    refine EL.move rfl rfl rfl ?_
    refine EL.move rfl rfl rfl ?_
    refine EL.assign rfl rfl rfl ?_
    refine EL.assign rfl rfl rfl ?_
    refine .go ?_; repeat constructor
    exact PX.ret rfl Tryz.results144 (.cons (.tmp rfl) (.cons (.tmp rfl) .nil)) (fun w hs => ⟨(), rfl, hs.ent (.i (by repeat constructor))⟩)
def ivV (o : Option (Nat × Int × Nat)) : Value := match o with
  | none => .tuple #[Iv 0, Iv 0, Iv 0, .bool false]
  | some (lo, hi, n) => .tuple #[Iv (lo : Nat), Iv hi, Iv (n : Nat), .bool true]
theorem iv_le {t : List UInt8} {a lo n : Nat} {hi : Int} (h : ivM t a = some (lo, hi, n)) : lo ≤ 255 ∧ -1 ≤ hi ∧ hi ≤ 255 ∧ (0 ≤ hi → (lo : Int) ≤ hi) ∧ a < n ∧ n ≤ t.length := by
  have hbeyond : t.length < a → numM t a = (-1, a) := fun h => by
    unfold numM
    rw [show t.length - a = 0 by omega]
    simp [numGo]
  have h1 := numM_le t a
  unfold ivM at h
  dsimp only at h
  obtain ⟨h2, hh⟩ : ∃ h2, h2 = (if (numM t a).2 < t.length ∧ t.getD (numM t a).2 0 = 44 then numM t ((numM t a).2 + 1) else numM t a) := ⟨_, rfl⟩
  rw [← hh] at h
  generalize hl : numM t a = l at h h1 hh hbeyond
  by_cases hb : l.1 < 0 ∨ 255 < l.1 ∨ 255 < h2.1 ∨ (0 ≤ h2.1 ∧ h2.1 < l.1)
  · rw [if_pos hb] at h; cases h
  rw [if_neg hb] at h
  by_cases hb2 : t.length < h2.2 + 2 ∨ (t.drop h2.2).take 2 ≠ [92, 125]
  · rw [if_pos hb2] at h; cases h
  rw [if_neg hb2] at h
  simp only [Option.some.injEq, Prod.mk.injEq] at h
  obtain ⟨rfl, rfl, rfl⟩ := h
  simp only [not_or, Nat.not_lt] at hb hb2
  have ha : a ≤ t.length := by
    rcases Nat.lt_or_ge t.length a with h3 | h3
    · have := hbeyond h3
      subst this
      simp only at hb
      omega
    · exact h3
  have h4 := h1 ha
  have h5 : -1 ≤ h2.1 ∧ a ≤ h2.2 := by
    rw [hh]
    split
    · have := numM_le t (l.2 + 1) (by omega); omega
    · omega
  omega
theorem interval_c (t : List UInt8) (a : Nat) (ha : a ≤ t.length) (ht : t.length ≤ 1073741824) (w : World) : Pure Tryz.prog 128 #[Sv t, Iv (a : Nat)] (fun _ : Unit => ivV (ivM t a)) (fun _ => []) w := by
  have hl := numM_le t a ha
  have hnc := number_c t a ha ht
  have hiv : ivM t a = (let l := numM t a
    let h := if l.2 < t.length ∧ t.getD l.2 0 = 44 then numM t (l.2 + 1) else l
    if l.1 < 0 ∨ 255 < l.1 ∨ 255 < h.1 ∨ (0 ≤ h.1 ∧ h.1 < l.1) then none
    else if t.length < h.2 + 2 ∨ (t.drop h.2).take 2 ≠ [92, 125] then none
    else some (l.1.toNat, h.1, h.2 + 2)) := rfl
  dsimp only at hiv
  generalize numM t a = l at hl hnc hiv
  obtain ⟨l1, l2⟩ := l
  dsimp only at hl hnc hiv
  have h44 : (((t.getD l2 0).toNat : Int) = 44) ↔ t.getD l2 0 = 44 := u8_lit (t.getD l2 0) 44 (by omega)
  refine calls_of_ES TB Tryz.func128 rfl _ Tryz.ntmps128 rfl (Sat.start w) ?_
  refine .go ?_; repeat constructor
  refine EL.assign rfl rfl rfl ?_
  refine EL.assign rfl rfl rfl ?_
  refine EL.assign rfl rfl rfl ?_
  refine EL.assign rfl rfl rfl ?_
  refine .go ?_; repeat constructor
  refine EL.move rfl rfl rfl ?_
  refine EL.move rfl rfl rfl ?_
  refine EL.callP rfl rfl rfl ent144 rfl hnc ?_
  refine EL.move rfl rfl rfl ?_
  refine EL.extract rfl rfl rfl rfl ?_
  refine EL.extract rfl rfl rfl rfl ?_
  refine EL.assign rfl rfl rfl ?_
  refine EL.assign rfl rfl rfl ?_
  refine .go ?_; repeat constructor
  refine EL.move rfl rfl rfl ?_
  refine EL.assign rfl rfl rfl ?_
  refine .go ?_; repeat constructor
  refine EL.cutX (X := Unit) (fun _ => [(0, Sv t), (1, Iv (l2 : Nat)), (4, Iv l1), (5, Iv l1), (24, .bool (decide (l2 < t.length ∧ t.getD l2 0 = 44)))]) (fun _ => []) ?_ (fun _ => ?_)
  · refine .go ?_; repeat constructor
    refine EL.move rfl rfl rfl ?_
    refine EL.move rfl rfl rfl ?_
    refine EL.lenS rfl rfl rfl rfl rfl ?_
    refine EL.lss rfl rfl rfl rfl ?_
    refine EL.move rfl rfl rfl ?_
    first | refine EL.splitD (d := 19) rfl (fun hp19 => ?_) (fun hp19 => ?_) | refine EL.splitN (d := 19) rfl (fun hp19 => ?_) (fun hp19 => ?_) | refine EL.splitB (d := 19) rfl (fun hp19 => ?_) (fun hp19 => ?_)
    · refine EL.move rfl rfl rfl ?_
      refine EL.move rfl rfl rfl ?_
      refine EL.indexSN rfl rfl rfl rfl rfl rfl (by omega) ?_
      refine EL.eqlI rfl rfl rfl rfl ?_
      refine EL.pickT rfl rfl rfl rfl ?_
      exact EL.endX () ⟨rfl, rfl, rfl, rfl, getA rfl (congrArg Value.bool (by rw [Bool.eq_iff_iff]; simp only [decide_eq_true_eq, ← h44]; first | omega | (simp only [Bool.false_eq_true, false_iff]; omega))), trivial⟩ (.i (by repeat constructor))
    · refine EL.pass rfl rfl rfl ?_
      refine EL.pass rfl rfl rfl ?_
      refine EL.pass rfl rfl rfl ?_
      refine EL.pass rfl rfl rfl ?_
      refine EL.pickF rfl rfl rfl rfl ?_
      exact EL.endX () ⟨rfl, rfl, rfl, rfl, getA rfl (congrArg Value.bool (by rw [Bool.eq_iff_iff]; simp only [decide_eq_true_eq, ← h44]; first | omega | (simp only [Bool.false_eq_true, false_iff]; omega))), trivial⟩ (.i (by repeat constructor))
  obtain ⟨h, hh⟩ : ∃ h, h = (if l2 < t.length ∧ t.getD l2 0 = 44 then numM t (l2 + 1) else (l1, l2)) := ⟨_, rfl⟩
  rw [← hh] at hiv
  have hle : -1 ≤ h.1 ∧ h.1 ≤ 256 ∧ h.2 ≤ t.length := by
    rw [hh]
    split
    · have := numM_le t (l2 + 1) (by omega); omega
    · omega
  refine ES.cutC (X := Unit) (fun _ => [(0, Sv t), (1, Iv (h.2 : Nat)), (4, Iv l1), (5, Iv h.1)]) (fun _ => []) ?_ (fun _ => ?_)
  · refine ES.condD rfl (fun hc => ?_) (fun hc => ?_)
    · rw [if_pos hc] at hh
      subst hh
      have hnc2 := number_c t (l2 + 1) (by omega) ht
      refine .go ?_; repeat constructor
      refine EL.move rfl rfl rfl ?_
      refine EL.move rfl rfl rfl ?_
      refine EL.add1 rfl rfl rfl rfl (by omega) ?_
      refine EL.callP rfl rfl rfl ent144 rfl hnc2 ?_
      refine EL.move rfl rfl rfl ?_
      refine EL.extract rfl rfl rfl rfl ?_
      refine EL.extract rfl rfl rfl rfl ?_
      refine EL.assign rfl rfl rfl ?_
      refine EL.assign rfl rfl rfl ?_
      refine .go ?_; repeat constructor
      exact PX.cutX () ⟨rfl, rfl, rfl, rfl, trivial⟩ (.i (by repeat constructor))
    · rw [if_neg hc] at hh
      subst hh
      refine .go ?_; repeat constructor
      exact PX.cutX () ⟨rfl, rfl, rfl, rfl, trivial⟩ (.i (by repeat constructor))
  obtain ⟨h1, h2⟩ := h
  dsimp only at hiv hle ⊢
  refine .go ?_; repeat constructor
  refine EL.cutX (X := Unit) (fun _ => [(0, Sv t), (1, Iv (h2 : Nat)), (4, Iv l1), (5, Iv h1), (50, .bool (decide (l1 < 0 ∨ 255 < l1 ∨ 255 < h1 ∨ (0 ≤ h1 ∧ h1 < l1))))]) (fun _ => []) ?_ (fun _ => ?_)
  · refine .go ?_; repeat constructor
    refine EL.move rfl rfl rfl ?_
    refine EL.lss rfl rfl rfl rfl ?_
    refine EL.move rfl rfl rfl ?_
    first | refine EL.splitD (d := 34) rfl (fun hp34 => ?_) (fun hp34 => ?_) | refine EL.splitN (d := 34) rfl (fun hp34 => ?_) (fun hp34 => ?_) | refine EL.splitB (d := 34) rfl (fun hp34 => ?_) (fun hp34 => ?_)
    · refine EL.pass rfl rfl rfl ?_
      refine EL.pass rfl rfl rfl ?_
      refine EL.pickT rfl rfl rfl rfl ?_
      refine EL.move rfl rfl rfl ?_
      refine EL.pass rfl rfl rfl ?_
      refine EL.pass rfl rfl rfl ?_
      refine EL.pickT rfl rfl rfl rfl ?_
      refine EL.move rfl rfl rfl ?_
      refine EL.pass rfl rfl rfl ?_
      refine EL.pass rfl rfl rfl ?_
      refine EL.pass rfl rfl rfl ?_
      refine EL.pass rfl rfl rfl ?_
      refine EL.pass rfl rfl rfl ?_
      refine EL.pass rfl rfl rfl ?_
      refine EL.pass rfl rfl rfl ?_
      refine EL.pickT rfl rfl rfl rfl ?_
      exact EL.endX () ⟨rfl, rfl, rfl, rfl, getA rfl (congrArg Value.bool (by rw [Bool.eq_iff_iff]; simp only [decide_eq_true_eq, true_iff, Bool.false_eq_true, false_iff]; omega)), trivial⟩ (.i (by repeat constructor))
    · refine EL.move rfl rfl rfl ?_
      refine EL.gtr rfl rfl rfl rfl ?_
      refine EL.pickF rfl rfl rfl rfl ?_
      refine EL.move rfl rfl rfl ?_
      first | refine EL.splitD (d := 38) rfl (fun hp38 => ?_) (fun hp38 => ?_) | refine EL.splitN (d := 38) rfl (fun hp38 => ?_) (fun hp38 => ?_) | refine EL.splitB (d := 38) rfl (fun hp38 => ?_) (fun hp38 => ?_)
      · refine EL.pass rfl rfl rfl ?_
        refine EL.pass rfl rfl rfl ?_
        refine EL.pickT rfl rfl rfl rfl ?_
        refine EL.move rfl rfl rfl ?_
        refine EL.pass rfl rfl rfl ?_
        refine EL.pass rfl rfl rfl ?_
        refine EL.pass rfl rfl rfl ?_
        refine EL.pass rfl rfl rfl ?_
        refine EL.pass rfl rfl rfl ?_
        refine EL.pass rfl rfl rfl ?_
        refine EL.pass rfl rfl rfl ?_
        refine EL.pickT rfl rfl rfl rfl ?_
        exact EL.endX () ⟨rfl, rfl, rfl, rfl, getA rfl (congrArg Value.bool (by rw [Bool.eq_iff_iff]; simp only [decide_eq_true_eq, true_iff, Bool.false_eq_true, false_iff]; omega)), trivial⟩ (.i (by repeat constructor))
      · refine EL.move rfl rfl rfl ?_
        refine EL.gtr rfl rfl rfl rfl ?_
        refine EL.pickF rfl rfl rfl rfl ?_
        refine EL.move rfl rfl rfl ?_
        first | refine EL.splitD (d := 42) rfl (fun hp42 => ?_) (fun hp42 => ?_) | refine EL.splitN (d := 42) rfl (fun hp42 => ?_) (fun hp42 => ?_) | refine EL.splitB (d := 42) rfl (fun hp42 => ?_) (fun hp42 => ?_)
        · refine EL.pass rfl rfl rfl ?_
          refine EL.pass rfl rfl rfl ?_
          refine EL.pass rfl rfl rfl ?_
          refine EL.pass rfl rfl rfl ?_
          refine EL.pass rfl rfl rfl ?_
          refine EL.pass rfl rfl rfl ?_
          refine EL.pass rfl rfl rfl ?_
          refine EL.pickT rfl rfl rfl rfl ?_
          exact EL.endX () ⟨rfl, rfl, rfl, rfl, getA rfl (congrArg Value.bool (by rw [Bool.eq_iff_iff]; simp only [decide_eq_true_eq, true_iff, Bool.false_eq_true, false_iff]; omega)), trivial⟩ (.i (by repeat constructor))
        · refine EL.move rfl rfl rfl ?_
          refine EL.geq rfl rfl rfl rfl ?_
          refine EL.move rfl rfl rfl ?_
          first | refine EL.splitD (d := 45) rfl (fun hp45 => ?_) (fun hp45 => ?_) | refine EL.splitN (d := 45) rfl (fun hp45 => ?_) (fun hp45 => ?_) | refine EL.splitB (d := 45) rfl (fun hp45 => ?_) (fun hp45 => ?_)
          · refine EL.move rfl rfl rfl ?_
            refine EL.move rfl rfl rfl ?_
            refine EL.lss rfl rfl rfl rfl ?_
            refine EL.pickT rfl rfl rfl rfl ?_
            refine EL.pickF rfl rfl rfl rfl ?_
            exact EL.endX () ⟨rfl, rfl, rfl, rfl, getA rfl (congrArg Value.bool (by rw [Bool.eq_iff_iff]; simp only [decide_eq_true_eq, true_iff, Bool.false_eq_true, false_iff]; omega)), trivial⟩ (.i (by repeat constructor))
          · refine EL.pass rfl rfl rfl ?_
            refine EL.pass rfl rfl rfl ?_
            refine EL.pass rfl rfl rfl ?_
            refine EL.pickF rfl rfl rfl rfl ?_
            refine EL.pickF rfl rfl rfl rfl ?_
            exact EL.endX () ⟨rfl, rfl, rfl, rfl, getA rfl (congrArg Value.bool (by rw [Bool.eq_iff_iff]; simp only [decide_eq_true_eq, true_iff, Bool.false_eq_true, false_iff]; omega)), trivial⟩ (.i (by repeat constructor))
  refine ES.condD rfl (fun hc => ?_) (fun hc => ?_)
  · rw [if_pos hc] at hiv
    rw [hiv]
    refine .go ?_; repeat constructor
    refine EL.assign rfl rfl rfl ?_
    refine EL.assign rfl rfl rfl ?_
    refine EL.assign rfl rfl rfl ?_
    refine EL.assign rfl rfl rfl ?_
    refine .go ?_; repeat constructor
    exact PX.ret rfl Tryz.results128 (.cons (.tmp rfl) (.cons (.tmp rfl) (.cons (.tmp rfl) (.cons (.tmp rfl) .nil)))) (fun w hs => ⟨(), rfl, hs.ent (.i (by repeat constructor))⟩)
  rw [if_neg hc] at hiv
  refine .go ?_; repeat constructor
  refine EL.cutX (X := Unit) (fun _ => [(0, Sv t), (1, Iv (h2 : Nat)), (4, Iv l1), (5, Iv h1), (63, .bool (decide (t.length < h2 + 2 ∨ (t.drop h2).take 2 ≠ [92, 125])))]) (fun _ => []) ?_ (fun _ => ?_)
  · refine .go ?_; repeat constructor
    refine EL.move rfl rfl rfl ?_
    refine EL.addN (n := 2) rfl rfl rfl rfl rfl (by omega) ?_
    refine EL.move rfl rfl rfl ?_
    refine EL.lenS rfl rfl rfl rfl rfl ?_
    refine EL.gtr rfl rfl rfl rfl ?_
    refine EL.move rfl rfl rfl ?_
    first | refine EL.splitD (d := 56) rfl (fun hp56 => ?_) (fun hp56 => ?_) | refine EL.splitN (d := 56) rfl (fun hp56 => ?_) (fun hp56 => ?_) | refine EL.splitB (d := 56) rfl (fun hp56 => ?_) (fun hp56 => ?_)
    · refine EL.pass rfl rfl rfl ?_
      refine EL.pass rfl rfl rfl ?_
      refine EL.pass rfl rfl rfl ?_
      refine EL.pass rfl rfl rfl ?_
      refine EL.pass rfl rfl rfl ?_
      refine EL.pass rfl rfl rfl ?_
      refine EL.pickT rfl rfl rfl rfl ?_
      exact EL.endX () ⟨rfl, rfl, rfl, rfl, getA rfl (congrArg Value.bool (by rw [Bool.eq_iff_iff]; simp only [decide_eq_true_eq, true_iff, Bool.not_eq_true', decide_eq_false_iff_not]; first | exact .inl (by omega) | exact ⟨fun hx => .inr (by rw [show h2 + 2 - h2 = 2 by omega] at hx; exact hx), fun hx => hx.elim (fun h => absurd h (by omega)) (fun h => by rw [show h2 + 2 - h2 = 2 by omega]; exact h)⟩)), trivial⟩ (.i (by repeat constructor))
    · refine EL.move rfl rfl rfl ?_
      refine EL.move rfl rfl rfl ?_
      refine EL.move rfl rfl rfl ?_
      refine EL.addN (n := 2) rfl rfl rfl rfl rfl (by omega) ?_
      refine EL.sliceS rfl rfl rfl rfl rfl ⟨_, rfl⟩ ⟨_, rfl⟩ (by omega) (by omega) ?_
      refine EL.neqS rfl rfl rfl rfl ?_
      refine EL.pickF rfl rfl rfl rfl ?_
      exact EL.endX () ⟨rfl, rfl, rfl, rfl, getA rfl (congrArg Value.bool (by rw [Bool.eq_iff_iff]; simp only [decide_eq_true_eq, true_iff, Bool.not_eq_true', decide_eq_false_iff_not]; first | exact .inl (by omega) | exact ⟨fun hx => .inr (by rw [show h2 + 2 - h2 = 2 by omega] at hx; exact hx), fun hx => hx.elim (fun h => absurd h (by omega)) (fun h => by rw [show h2 + 2 - h2 = 2 by omega]; exact h)⟩)), trivial⟩ (.i (by repeat constructor))
  refine ES.condD rfl (fun hc2 => ?_) (fun hc2 => ?_)
  · rw [if_pos hc2] at hiv
    rw [hiv]
    refine .go ?_; repeat constructor
    refine EL.assign rfl rfl rfl ?_
    refine EL.assign rfl rfl rfl ?_
    refine EL.assign rfl rfl rfl ?_
    refine EL.assign rfl rfl rfl ?_
    refine .go ?_; repeat constructor
    exact PX.ret rfl Tryz.results128 (.cons (.tmp rfl) (.cons (.tmp rfl) (.cons (.tmp rfl) (.cons (.tmp rfl) .nil)))) (fun w hs => ⟨(), rfl, hs.ent (.i (by repeat constructor))⟩)
  · rw [if_neg hc2] at hiv
    rw [hiv]
    have hl1 : ((l1.toNat : Nat) : Int) = l1 := by omega
    refine .go ?_; repeat constructor
    refine EL.move rfl rfl rfl ?_
    refine EL.move rfl rfl rfl ?_
    refine EL.move rfl rfl rfl ?_
    refine EL.addN (n := 2) rfl rfl rfl rfl rfl (by omega) ?_
    refine EL.assign rfl rfl rfl ?_
    refine EL.assign rfl rfl rfl ?_
    refine EL.assign rfl rfl rfl ?_
    refine EL.assign rfl rfl rfl ?_
    refine .go ?_; repeat constructor
    refine PX.ret rfl Tryz.results128 (.cons (.tmp rfl) (.cons (.tmp rfl) (.cons (.tmp rfl) (.cons (.tmp rfl) .nil)))) (fun w hs => ⟨(), ?_, hs.ent (.i (by repeat constructor))⟩)
    simp only [ivV, hl1]
    rfl
theorem alnum_c (b : UInt8) (w : World) : Pure Tryz.prog 129 #[Uv b] (fun _ : Unit => .bool (isAln b)) (fun _ => []) w := by
  have hd := isDig_int b
  refine calls_of_ES TB Tryz.func129 rfl _ Tryz.ntmps129 rfl (Sat.start w) ?_
  refine .go ?_; repeat constructor
  refine EL.assign rfl rfl rfl ?_
  refine .go ?_; repeat constructor
  refine EL.cutX (X := Unit) (fun _ => [(2, .bool (isAln b))]) (fun _ => []) ?_ (fun _ => ?_)
  · refine .go ?_; repeat constructor
    refine EL.move rfl rfl rfl ?_
    refine EL.geq rfl rfl rfl rfl ?_
    refine EL.move rfl rfl rfl ?_
    first | refine EL.splitD (d := 5) rfl (fun hp5 => ?_) (fun hp5 => ?_) | refine EL.splitN (d := 5) rfl (fun hp5 => ?_) (fun hp5 => ?_) | refine EL.splitB (d := 5) rfl (fun hp5 => ?_) (fun hp5 => ?_)
    · refine EL.move rfl rfl rfl ?_
      refine EL.leq rfl rfl rfl rfl ?_
      refine EL.pickT rfl rfl rfl rfl ?_
      refine EL.move rfl rfl rfl ?_
      first | refine EL.splitD (d := 9) rfl (fun hp9 => ?_) (fun hp9 => ?_) | refine EL.splitN (d := 9) rfl (fun hp9 => ?_) (fun hp9 => ?_) | refine EL.splitB (d := 9) rfl (fun hp9 => ?_) (fun hp9 => ?_)
      · refine EL.pass rfl rfl rfl ?_
        refine EL.pass rfl rfl rfl ?_
        refine EL.pass rfl rfl rfl ?_
        refine EL.pass rfl rfl rfl ?_
        refine EL.pass rfl rfl rfl ?_
        refine EL.pass rfl rfl rfl ?_
        refine EL.pass rfl rfl rfl ?_
        refine EL.pass rfl rfl rfl ?_
        refine EL.pickT rfl rfl rfl rfl ?_
        refine EL.assign rfl rfl rfl ?_
        exact EL.endX () ⟨getA rfl (congrArg Value.bool (by unfold isAln; rw [hd, Bool.eq_iff_iff]; simp only [decide_eq_true_eq, true_iff, Bool.false_eq_true, false_iff, Bool.or_eq_true, Bool.and_eq_true, not_or, not_and]; omega)), trivial⟩ (.i (by repeat constructor))
      · refine EL.move rfl rfl rfl ?_
        refine EL.orU8 32 rfl rfl rfl rfl rfl ?_
        refine EL.geq rfl rfl rfl rfl ?_
        refine EL.move rfl rfl rfl ?_
        first | refine EL.splitD (d := 13) rfl (fun hp13 => ?_) (fun hp13 => ?_) | refine EL.splitN (d := 13) rfl (fun hp13 => ?_) (fun hp13 => ?_) | refine EL.splitB (d := 13) rfl (fun hp13 => ?_) (fun hp13 => ?_)
        · refine EL.move rfl rfl rfl ?_
          refine EL.orU8 32 rfl rfl rfl rfl rfl ?_
          refine EL.leq rfl rfl rfl rfl ?_
          refine EL.pickT rfl rfl rfl rfl ?_
          refine EL.pickF rfl rfl rfl rfl ?_
          refine EL.assign rfl rfl rfl ?_
          exact EL.endX () ⟨getA rfl (congrArg Value.bool (by unfold isAln; rw [hd, Bool.eq_iff_iff]; simp only [decide_eq_true_eq, true_iff, Bool.false_eq_true, false_iff, Bool.or_eq_true, Bool.and_eq_true, not_or, not_and]; omega)), trivial⟩ (.i (by repeat constructor))
        · refine EL.pass rfl rfl rfl ?_
          refine EL.pass rfl rfl rfl ?_
          refine EL.pass rfl rfl rfl ?_
          refine EL.pickF rfl rfl rfl rfl ?_
          refine EL.pickF rfl rfl rfl rfl ?_
          refine EL.assign rfl rfl rfl ?_
          exact EL.endX () ⟨getA rfl (congrArg Value.bool (by unfold isAln; rw [hd, Bool.eq_iff_iff]; simp only [decide_eq_true_eq, true_iff, Bool.false_eq_true, false_iff, Bool.or_eq_true, Bool.and_eq_true, not_or, not_and]; omega)), trivial⟩ (.i (by repeat constructor))
    · refine EL.pass rfl rfl rfl ?_
      refine EL.pass rfl rfl rfl ?_
      refine EL.pickF rfl rfl rfl rfl ?_
      refine EL.move rfl rfl rfl ?_
      refine EL.move rfl rfl rfl ?_
      refine EL.orU8 32 rfl rfl rfl rfl rfl ?_
      refine EL.geq rfl rfl rfl rfl ?_
      refine EL.move rfl rfl rfl ?_
      first | refine EL.splitD (d := 13) rfl (fun hp13 => ?_) (fun hp13 => ?_) | refine EL.splitN (d := 13) rfl (fun hp13 => ?_) (fun hp13 => ?_) | refine EL.splitB (d := 13) rfl (fun hp13 => ?_) (fun hp13 => ?_)
      · refine EL.move rfl rfl rfl ?_
        refine EL.orU8 32 rfl rfl rfl rfl rfl ?_
        refine EL.leq rfl rfl rfl rfl ?_
        refine EL.pickT rfl rfl rfl rfl ?_
        refine EL.pickF rfl rfl rfl rfl ?_
        refine EL.assign rfl rfl rfl ?_
        exact EL.endX () ⟨getA rfl (congrArg Value.bool (by unfold isAln; rw [hd, Bool.eq_iff_iff]; simp only [decide_eq_true_eq, true_iff, Bool.false_eq_true, false_iff, Bool.or_eq_true, Bool.and_eq_true, not_or, not_and]; omega)), trivial⟩ (.i (by repeat constructor))
      · refine EL.pass rfl rfl rfl ?_
        refine EL.pass rfl rfl rfl ?_
        refine EL.pass rfl rfl rfl ?_
        refine EL.pickF rfl rfl rfl rfl ?_
        refine EL.pickF rfl rfl rfl rfl ?_
        refine EL.assign rfl rfl rfl ?_
        exact EL.endX () ⟨getA rfl (congrArg Value.bool (by unfold isAln; rw [hd, Bool.eq_iff_iff]; simp only [decide_eq_true_eq, true_iff, Bool.false_eq_true, false_iff, Bool.or_eq_true, Bool.and_eq_true, not_or, not_and]; omega)), trivial⟩ (.i (by repeat constructor))
  refine .go ?_; repeat constructor
  exact PX.ret rfl Tryz.results129 (.cons (.tmp rfl) .nil) (fun w hs => ⟨(), rfl, hs.ent (.i (by repeat constructor))⟩)
def tokCells (k : Tok) : Array Value := #[Iv (k.kind : Nat), Iv (k.at_ : Nat), Wv k.set.a, Wv k.set.b, Wv k.set.c, Wv k.set.d, Iv k.lo, Iv k.hi, Iv k.e]
abbrev tokV (k : Tok) : Value := .agg (tokCells k)
theorem bad_c (a : Nat) (e : Int) (w : World) : Pure Tryz.prog 109 #[Iv (a : Nat), Iv e] (fun _ : Unit => tokV (badT a e)) (fun _ => []) w := by
  refine calls_of_ES TB Tryz.func109 rfl _ Tryz.ntmps109 rfl (Sat.start w) ?_
  refine .go ?_; repeat constructor
  (refine EL.alloc rfl rfl rfl ?_; intro g4)
  refine .go ?_; repeat constructor
  refine EL.move rfl rfl rfl ?_
  refine EL.move rfl rfl rfl ?_
  refine EL.buildS (tokCells (badT a e)) rfl rfl rfl rfl rfl rfl rfl ?_
  (apply EL.storeAll; exact rfl; exact rfl; exact rfl; exact rfl; exact rfl; (case p => repeat constructor); exact rfl; (case h1 => exact (by first | rfl | exact all1 rfl | (intro u hu; simp only [List.mem_cons, List.not_mem_nil, or_false] at hu; rcases hu with rfl | rfl | rfl | rfl <;> rfl) | (intro u hu; simp at hu; rcases hu with rfl | rfl | rfl | rfl <;> rfl) | (intro u hu; simp at hu; rcases hu with rfl | rfl | rfl <;> rfl) | (intro u hu; simp at hu; rcases hu with rfl | rfl <;> rfl) | (intro u hu; simp at hu; obtain ⟨_, _, rfl⟩ := hu; rfl))))
  refine .go ?_; repeat constructor
  exact PX.ret rfl Tryz.results109 (.cons (.blkA rfl rfl rfl (by repeat constructor) rfl) .nil) (fun w hs => ⟨(), rfl, hs.ent (.i (by repeat constructor))⟩)
theorem one_c (a : Nat) (b : UInt8) (w : World) : Pure Tryz.prog 110 #[Iv (a : Nat), Uv b] (fun _ : Unit => tokV (oneT a b)) (fun _ => []) w := by
  refine calls_of_ES TB Tryz.func110 rfl _ Tryz.ntmps110 rfl (Sat.start w) ?_
  refine .go ?_; repeat constructor
  (refine EL.alloc rfl rfl rfl ?_; intro g4)
  refine .go ?_; repeat constructor
  refine EL.move rfl rfl rfl ?_
  refine EL.move rfl rfl rfl ?_
  (refine EL.buildSlice1 rfl rfl rfl rfl rfl rfl rfl rfl rfl rfl ?_; intro b7)
  refine EL.bytesS (bs := [b]) rfl rfl rfl rfl rfl rfl rfl rfl rfl (by repeat constructor) ?_
  refine EL.callP rfl rfl rfl ent132 rfl (of_c [b] (by simp)) ?_
  refine EL.buildS (tokCells (oneT a b)) rfl rfl rfl rfl rfl rfl rfl ?_
  (apply EL.storeAll; exact rfl; exact rfl; exact rfl; exact rfl; exact rfl; (case p => repeat constructor); exact rfl; (case h1 => exact (by first | rfl | exact all1 rfl | (intro u hu; simp only [List.mem_cons, List.not_mem_nil, or_false] at hu; rcases hu with rfl | rfl | rfl | rfl <;> rfl) | (intro u hu; simp at hu; rcases hu with rfl | rfl | rfl | rfl <;> rfl) | (intro u hu; simp at hu; rcases hu with rfl | rfl | rfl <;> rfl) | (intro u hu; simp at hu; rcases hu with rfl | rfl <;> rfl) | (intro u hu; simp at hu; obtain ⟨_, _, rfl⟩ := hu; rfl))))
  refine .go ?_; repeat constructor
  exact PX.ret rfl Tryz.results110 (.cons (.blkA rfl rfl rfl (by repeat constructor) rfl) .nil) (fun w hs => ⟨(), rfl, hs.ent (.i (by repeat constructor))⟩)
end Go.Proofs.YtblpgpgbnlhjlaaGreat
namespace Go.Proofs.YtblpgpgbnlhjlaaGreat
open Go Go.RowKit Sl
set_option maxRecDepth 100000
set_option maxHeartbeats 8000000
set_option linter.unusedVariables false
set_option linter.unusedSimpArgs false
attribute [local irreducible] ES EL PX wps
theorem escT_at (t : List UInt8) (a : Nat) (b : Bool) (ha : a < t.length) : (escT t a b).1.kind ≠ 7 → a < (escT t a b).2 ∧ (escT t a b).2 ≤ t.length := by
  unfold escT
  dsimp only
  split
  · intro h; exact absurd rfl h
  repeat' split
  all_goals (intro h; first | exact absurd rfl h | (simp only; omega) | skip)
  rename_i lo hi n h2 h3
  have := iv_le h2
  simp only; omega
theorem readT_at (t : List UInt8) (a : Nat) (f b : Bool) (ha : a < t.length) : (readT t a f b).1.kind ≠ 7 → a < (readT t a f b).2 ∧ (readT t a f b).2 ≤ t.length := by
  unfold readT
  dsimp only
  split
  · exact escT_at t a b ha
  · split
    · split
      · intro h; exact absurd rfl h
      · rename_i h1
        intro _
        have := brack_next t a (by simpa using h1)
        simp only; omega
    · repeat' split
      all_goals (intro _; simp only; omega)
theorem escaped_c (t : List UInt8) (a : Nat) (bg : Bool) (ha : a < t.length) (ht : t.length ≤ 1073741824) (w : World) :
    Pure Tryz.prog 107 #[Sv t, Iv (a : Nat), .bool bg] (fun _ : Unit => .tuple #[tokV (escT t a bg).1, Iv ((escT t a bg).2 : Nat)]) (fun _ => []) w := by
  have hesc : escT t a bg = (if a + 1 = t.length then (badT a 6, a)
    else
      let b := t.getD (a + 1) 0
      if b.toNat = 40 then (⟨3, a, zeroS, 0, 0, 0⟩, a + 2)
      else if b.toNat = 41 then (⟨4, a, zeroS, 0, 0, 0⟩, a + 2)
      else if b.toNat = 123 then
        match ivM t (a + 2) with
        | none => (badT a 9, a)
        | some (lo, hi, n) => if bg = true then (badT a 9, a) else (⟨5, a, zeroS, (lo : Int), hi, 0⟩, n)
      else if b.toNat = 125 then (badT a 9, a)
      else if b.toNat = 110 then (oneT a 10, a + 2)
      else if 49 ≤ b.toNat ∧ b.toNat ≤ 57 then (⟨6, a, zeroS, ((b.toNat - 48 : Nat) : Int), 0, 0⟩, a + 2)
      else if isAln b = true then (badT a 12, a)
      else (oneT a b, a + 2)) := rfl
  obtain ⟨b, hb⟩ : ∃ b, b = t.getD (a + 1) 0 := ⟨_, rfl⟩
  have hb8 := b.toNat_lt
  rw [← hb] at hesc
  dsimp only at hesc
  generalize escT t a bg = r at hesc ⊢
  refine calls_of_ES TB Tryz.func107 rfl _ Tryz.ntmps107 rfl (Sat.start w) ?_
  refine .go ?_; repeat constructor
  (refine EL.alloc rfl rfl rfl ?_; intro g6)
  refine EL.assign rfl rfl rfl ?_
  refine .go ?_; repeat constructor
  refine EL.move rfl rfl rfl ?_
  refine EL.add1 rfl rfl rfl rfl (by omega) ?_
  refine EL.move rfl rfl rfl ?_
  refine EL.lenS rfl rfl rfl rfl rfl ?_
  refine EL.eqlI rfl rfl rfl rfl ?_
  refine .go ?_; repeat constructor
  refine ES.condD rfl (fun he => ?_) (fun hne => ?_)
  · rw [if_pos (by omega)] at hesc
    subst hesc
    refine .go ?_; repeat constructor
    refine EL.move rfl rfl rfl ?_
    refine EL.callP rfl rfl rfl ent109 rfl (bad_c a 6) ?_
    refine EL.move rfl rfl rfl ?_
    (apply EL.storeAll; exact rfl; exact rfl; exact rfl; exact rfl; exact rfl; (case p => repeat constructor); exact rfl; (case h1 => exact (by first | rfl | exact all1 rfl | (intro u hu; simp only [List.mem_cons, List.not_mem_nil, or_false] at hu; rcases hu with rfl | rfl | rfl | rfl <;> rfl) | (intro u hu; simp at hu; rcases hu with rfl | rfl | rfl | rfl <;> rfl) | (intro u hu; simp at hu; rcases hu with rfl | rfl | rfl <;> rfl) | (intro u hu; simp at hu; rcases hu with rfl | rfl <;> rfl) | (intro u hu; simp at hu; obtain ⟨_, _, rfl⟩ := hu; rfl))))
    refine EL.assign rfl rfl rfl ?_
    refine .go ?_; repeat constructor
    exact PX.ret rfl Tryz.results107 (.cons (.blkA rfl rfl rfl (by repeat constructor) rfl) (.cons (.tmp rfl) .nil)) (fun w hs => ⟨(), rfl, hs.ent (.i (by repeat constructor))⟩)
  rw [if_neg (by omega)] at hesc
  have hlt : a + 1 < t.length := by omega
  refine .go ?_; repeat constructor
  refine EL.move rfl rfl rfl ?_
  refine EL.move rfl rfl rfl ?_
  refine EL.add1 rfl rfl rfl rfl (by omega) ?_
  refine EL.indexSN rfl rfl rfl rfl rfl rfl (by omega) ?_
  refine EL.rew (d := 24) (v' := Uv b) rfl (by rw [hb]) ?_
  refine EL.assign rfl rfl rfl ?_
  refine .go ?_; repeat constructor
  refine .go ?_; repeat constructor
  refine EL.move rfl rfl rfl ?_
  refine EL.eqlI rfl rfl rfl rfl ?_
  refine EL.assign rfl rfl rfl ?_
  refine .go ?_; repeat constructor
  refine ES.condD rfl (fun h1 => ?_) (fun h1 => ?_)
  · rw [if_pos (by omega)] at hesc
    subst hesc
    refine .go ?_; repeat constructor
    refine EL.move rfl rfl rfl ?_
    refine EL.buildS (tokCells ⟨3, a, zeroS, 0, 0, 0⟩) rfl rfl rfl rfl rfl rfl rfl ?_
    refine EL.move rfl rfl rfl ?_
    refine EL.addN (n := 2) rfl rfl rfl rfl rfl (by omega) ?_
    (apply EL.storeAll; exact rfl; exact rfl; exact rfl; exact rfl; exact rfl; (case p => repeat constructor); exact rfl; (case h1 => exact (by first | rfl | exact all1 rfl | (intro u hu; simp only [List.mem_cons, List.not_mem_nil, or_false] at hu; rcases hu with rfl | rfl | rfl | rfl <;> rfl) | (intro u hu; simp at hu; rcases hu with rfl | rfl | rfl | rfl <;> rfl) | (intro u hu; simp at hu; rcases hu with rfl | rfl | rfl <;> rfl) | (intro u hu; simp at hu; rcases hu with rfl | rfl <;> rfl) | (intro u hu; simp at hu; obtain ⟨_, _, rfl⟩ := hu; rfl))))
    refine EL.assign rfl rfl rfl ?_
    refine .go ?_; repeat constructor
    exact PX.ret rfl Tryz.results107 (.cons (.blkA rfl rfl rfl (by repeat constructor) rfl) (.cons (.tmp rfl) .nil)) (fun w hs => ⟨(), rfl, hs.ent (.i (by repeat constructor))⟩)
  rw [if_neg (by omega)] at hesc
  refine .go ?_; repeat constructor
  refine EL.move rfl rfl rfl ?_
  refine EL.eqlI rfl rfl rfl rfl ?_
  refine EL.assign rfl rfl rfl ?_
  refine .go ?_; repeat constructor
  refine ES.condD rfl (fun h2 => ?_) (fun h2 => ?_)
  · rw [if_pos (by omega)] at hesc
    subst hesc
    refine .go ?_; repeat constructor
    refine EL.move rfl rfl rfl ?_
    refine EL.buildS (tokCells ⟨4, a, zeroS, 0, 0, 0⟩) rfl rfl rfl rfl rfl rfl rfl ?_
    refine EL.move rfl rfl rfl ?_
    refine EL.addN (n := 2) rfl rfl rfl rfl rfl (by omega) ?_
    (apply EL.storeAll; exact rfl; exact rfl; exact rfl; exact rfl; exact rfl; (case p => repeat constructor); exact rfl; (case h1 => exact (by first | rfl | exact all1 rfl | (intro u hu; simp only [List.mem_cons, List.not_mem_nil, or_false] at hu; rcases hu with rfl | rfl | rfl | rfl <;> rfl) | (intro u hu; simp at hu; rcases hu with rfl | rfl | rfl | rfl <;> rfl) | (intro u hu; simp at hu; rcases hu with rfl | rfl | rfl <;> rfl) | (intro u hu; simp at hu; rcases hu with rfl | rfl <;> rfl) | (intro u hu; simp at hu; obtain ⟨_, _, rfl⟩ := hu; rfl))))
    refine EL.assign rfl rfl rfl ?_
    refine .go ?_; repeat constructor
    exact PX.ret rfl Tryz.results107 (.cons (.blkA rfl rfl rfl (by repeat constructor) rfl) (.cons (.tmp rfl) .nil)) (fun w hs => ⟨(), rfl, hs.ent (.i (by repeat constructor))⟩)
  rw [if_neg (by omega)] at hesc
  refine .go ?_; repeat constructor
  refine EL.move rfl rfl rfl ?_
  refine EL.eqlI rfl rfl rfl rfl ?_
  refine EL.assign rfl rfl rfl ?_
  refine .go ?_; repeat constructor
  refine ES.condD rfl (fun h3 => ?_) (fun h3 => ?_)
  · rw [if_pos (by omega)] at hesc
    have hic := interval_c t (a + 2) (by omega) ht
    cases hiv : ivM t (a + 2) with
    | none =>
      rw [hiv] at hesc hic
      dsimp only at hesc
      subst hesc
      refine .go ?_; repeat constructor
      refine EL.move rfl rfl rfl ?_
      refine EL.move rfl rfl rfl ?_
      refine EL.addN (n := 2) rfl rfl rfl rfl rfl (by omega) ?_
      refine EL.callP rfl rfl rfl ent128 rfl hic ?_
      refine EL.move rfl rfl rfl ?_
      refine EL.extract rfl rfl rfl rfl ?_
      refine EL.extract rfl rfl rfl rfl ?_
      refine EL.extract rfl rfl rfl rfl ?_
      refine EL.extract rfl rfl rfl rfl ?_
      refine EL.assign rfl rfl rfl ?_
      refine EL.assign rfl rfl rfl ?_
      refine EL.assign rfl rfl rfl ?_
      refine EL.assign rfl rfl rfl ?_
      refine .go ?_; repeat constructor
      refine EL.move rfl rfl rfl ?_
      refine EL.not rfl rfl rfl ?_
      refine EL.move rfl rfl rfl ?_
      refine EL.rew (d := 58) (v' := .bool true) rfl (by first | rfl | (decide) | (simp)) ?_
      refine EL.pass rfl rfl rfl ?_
      refine EL.pickT rfl rfl rfl rfl ?_
      refine .go ?_; repeat constructor
      refine ES.condT rfl ?_
      refine .go ?_; repeat constructor
      refine EL.move rfl rfl rfl ?_
      refine EL.callP rfl rfl rfl ent109 rfl (bad_c a 9) ?_
      refine EL.move rfl rfl rfl ?_
      (apply EL.storeAll; exact rfl; exact rfl; exact rfl; exact rfl; exact rfl; (case p => repeat constructor); exact rfl; (case h1 => exact (by first | rfl | exact all1 rfl | (intro u hu; simp only [List.mem_cons, List.not_mem_nil, or_false] at hu; rcases hu with rfl | rfl | rfl | rfl <;> rfl) | (intro u hu; simp at hu; rcases hu with rfl | rfl | rfl | rfl <;> rfl) | (intro u hu; simp at hu; rcases hu with rfl | rfl | rfl <;> rfl) | (intro u hu; simp at hu; rcases hu with rfl | rfl <;> rfl) | (intro u hu; simp at hu; obtain ⟨_, _, rfl⟩ := hu; rfl))))
      refine EL.assign rfl rfl rfl ?_
      refine .go ?_; repeat constructor
      exact PX.ret rfl Tryz.results107 (.cons (.blkA rfl rfl rfl (by repeat constructor) rfl) (.cons (.tmp rfl) .nil)) (fun w hs => ⟨(), rfl, hs.ent (.i (by repeat constructor))⟩)
    | some x =>
      obtain ⟨lo, hi, n⟩ := x
      have hle := iv_le hiv
      rw [hiv] at hesc hic
      dsimp only at hesc
      refine .go ?_; repeat constructor
      refine EL.move rfl rfl rfl ?_
      refine EL.move rfl rfl rfl ?_
      refine EL.addN (n := 2) rfl rfl rfl rfl rfl (by omega) ?_
      refine EL.callP rfl rfl rfl ent128 rfl hic ?_
      refine EL.move rfl rfl rfl ?_
      refine EL.extract rfl rfl rfl rfl ?_
      refine EL.extract rfl rfl rfl rfl ?_
      refine EL.extract rfl rfl rfl rfl ?_
      refine EL.extract rfl rfl rfl rfl ?_
      refine EL.assign rfl rfl rfl ?_
      refine EL.assign rfl rfl rfl ?_
      refine EL.assign rfl rfl rfl ?_
      refine EL.assign rfl rfl rfl ?_
      refine .go ?_; repeat constructor
      refine EL.move rfl rfl rfl ?_
      refine EL.not rfl rfl rfl ?_
      refine EL.move rfl rfl rfl ?_
      refine EL.rew (d := 58) (v' := .bool false) rfl (by first | rfl | (decide) | (simp)) ?_
      refine EL.move rfl rfl rfl ?_
      refine EL.pickF rfl rfl rfl rfl ?_
      refine .go ?_; repeat constructor
      refine ES.cond rfl (fun hbg => ?_) (fun hbg => ?_)
      · rw [if_pos hbg] at hesc
        subst hesc
        refine .go ?_; repeat constructor
        refine EL.move rfl rfl rfl ?_
        refine EL.callP rfl rfl rfl ent109 rfl (bad_c a 9) ?_
        refine EL.move rfl rfl rfl ?_
        (apply EL.storeAll; exact rfl; exact rfl; exact rfl; exact rfl; exact rfl; (case p => repeat constructor); exact rfl; (case h1 => exact (by first | rfl | exact all1 rfl | (intro u hu; simp only [List.mem_cons, List.not_mem_nil, or_false] at hu; rcases hu with rfl | rfl | rfl | rfl <;> rfl) | (intro u hu; simp at hu; rcases hu with rfl | rfl | rfl | rfl <;> rfl) | (intro u hu; simp at hu; rcases hu with rfl | rfl | rfl <;> rfl) | (intro u hu; simp at hu; rcases hu with rfl | rfl <;> rfl) | (intro u hu; simp at hu; obtain ⟨_, _, rfl⟩ := hu; rfl))))
        refine EL.assign rfl rfl rfl ?_
        refine .go ?_; repeat constructor
        exact PX.ret rfl Tryz.results107 (.cons (.blkA rfl rfl rfl (by repeat constructor) rfl) (.cons (.tmp rfl) .nil)) (fun w hs => ⟨(), rfl, hs.ent (.i (by repeat constructor))⟩)
      · rw [if_neg (by rw [hbg]; decide)] at hesc
        subst hesc
        refine .go ?_; repeat constructor
        refine EL.move rfl rfl rfl ?_
        refine EL.move rfl rfl rfl ?_
        refine EL.move rfl rfl rfl ?_
        refine EL.buildS (tokCells ⟨5, a, zeroS, (lo : Int), hi, 0⟩) rfl rfl rfl rfl rfl rfl rfl ?_
        refine EL.move rfl rfl rfl ?_
        (apply EL.storeAll; exact rfl; exact rfl; exact rfl; exact rfl; exact rfl; (case p => repeat constructor); exact rfl; (case h1 => exact (by first | rfl | exact all1 rfl | (intro u hu; simp only [List.mem_cons, List.not_mem_nil, or_false] at hu; rcases hu with rfl | rfl | rfl | rfl <;> rfl) | (intro u hu; simp at hu; rcases hu with rfl | rfl | rfl | rfl <;> rfl) | (intro u hu; simp at hu; rcases hu with rfl | rfl | rfl <;> rfl) | (intro u hu; simp at hu; rcases hu with rfl | rfl <;> rfl) | (intro u hu; simp at hu; obtain ⟨_, _, rfl⟩ := hu; rfl))))
        refine EL.assign rfl rfl rfl ?_
        refine .go ?_; repeat constructor
        exact PX.ret rfl Tryz.results107 (.cons (.blkA rfl rfl rfl (by repeat constructor) rfl) (.cons (.tmp rfl) .nil)) (fun w hs => ⟨(), rfl, hs.ent (.i (by repeat constructor))⟩)
  rw [if_neg (by omega)] at hesc
  refine .go ?_; repeat constructor
  refine EL.move rfl rfl rfl ?_
  refine EL.eqlI rfl rfl rfl rfl ?_
  refine EL.assign rfl rfl rfl ?_
  refine .go ?_; repeat constructor
  refine ES.condD rfl (fun h4 => ?_) (fun h4 => ?_)
  · rw [if_pos (by omega)] at hesc
    subst hesc
    refine .go ?_; repeat constructor
    refine EL.move rfl rfl rfl ?_
    refine EL.callP rfl rfl rfl ent109 rfl (bad_c a 9) ?_
    refine EL.move rfl rfl rfl ?_
    (apply EL.storeAll; exact rfl; exact rfl; exact rfl; exact rfl; exact rfl; (case p => repeat constructor); exact rfl; (case h1 => exact (by first | rfl | exact all1 rfl | (intro u hu; simp only [List.mem_cons, List.not_mem_nil, or_false] at hu; rcases hu with rfl | rfl | rfl | rfl <;> rfl) | (intro u hu; simp at hu; rcases hu with rfl | rfl | rfl | rfl <;> rfl) | (intro u hu; simp at hu; rcases hu with rfl | rfl | rfl <;> rfl) | (intro u hu; simp at hu; rcases hu with rfl | rfl <;> rfl) | (intro u hu; simp at hu; obtain ⟨_, _, rfl⟩ := hu; rfl))))
    refine EL.assign rfl rfl rfl ?_
    refine .go ?_; repeat constructor
    exact PX.ret rfl Tryz.results107 (.cons (.blkA rfl rfl rfl (by repeat constructor) rfl) (.cons (.tmp rfl) .nil)) (fun w hs => ⟨(), rfl, hs.ent (.i (by repeat constructor))⟩)
  rw [if_neg (by omega)] at hesc
  refine .go ?_; repeat constructor
  refine EL.move rfl rfl rfl ?_
  refine EL.eqlI rfl rfl rfl rfl ?_
  refine EL.assign rfl rfl rfl ?_
  refine .go ?_; repeat constructor
  refine ES.condD rfl (fun h5 => ?_) (fun h5 => ?_)
  · rw [if_pos (by omega)] at hesc
    subst hesc
    refine .go ?_; repeat constructor
    refine EL.move rfl rfl rfl ?_
    refine EL.callP rfl rfl rfl ent110 rfl (one_c a 10) ?_
    refine EL.move rfl rfl rfl ?_
    refine EL.addN (n := 2) rfl rfl rfl rfl rfl (by omega) ?_
    (apply EL.storeAll; exact rfl; exact rfl; exact rfl; exact rfl; exact rfl; (case p => repeat constructor); exact rfl; (case h1 => exact (by first | rfl | exact all1 rfl | (intro u hu; simp only [List.mem_cons, List.not_mem_nil, or_false] at hu; rcases hu with rfl | rfl | rfl | rfl <;> rfl) | (intro u hu; simp at hu; rcases hu with rfl | rfl | rfl | rfl <;> rfl) | (intro u hu; simp at hu; rcases hu with rfl | rfl | rfl <;> rfl) | (intro u hu; simp at hu; rcases hu with rfl | rfl <;> rfl) | (intro u hu; simp at hu; obtain ⟨_, _, rfl⟩ := hu; rfl))))
    refine EL.assign rfl rfl rfl ?_
    refine .go ?_; repeat constructor
    exact PX.ret rfl Tryz.results107 (.cons (.blkA rfl rfl rfl (by repeat constructor) rfl) (.cons (.tmp rfl) .nil)) (fun w hs => ⟨(), rfl, hs.ent (.i (by repeat constructor))⟩)
  rw [if_neg (by omega)] at hesc
  refine .go ?_; repeat constructor
  refine EL.cutX (X := Unit) (fun _ => [(0, Sv t), (1, Iv (a : Nat)), (6, Pv g6 0), (8, Uv b), (82, .bool (decide (49 ≤ b.toNat ∧ b.toNat ≤ 57)))]) (fun _ => [HA.blk g6 (.cells #[.int .i64 0, .int .i64 0, .int .u64 0, .int .u64 0, .int .u64 0, .int .u64 0, .int .i64 0, .int .i64 0, .int .i64 0] 156)]) ?_ (fun _ => ?_)
  · refine .go ?_; repeat constructor
    refine EL.move rfl rfl rfl ?_
    refine EL.geq rfl rfl rfl rfl ?_
    refine EL.move rfl rfl rfl ?_
    first | refine EL.splitD (d := 85) rfl (fun hp85 => ?_) (fun hp85 => ?_) | refine EL.splitN (d := 85) rfl (fun hp85 => ?_) (fun hp85 => ?_) | refine EL.splitB (d := 85) rfl (fun hp85 => ?_) (fun hp85 => ?_)
    · refine EL.move rfl rfl rfl ?_
      refine EL.leq rfl rfl rfl rfl ?_
      refine EL.pickT rfl rfl rfl rfl ?_
      refine EL.assign rfl rfl rfl ?_
      exact EL.endX () ⟨rfl, rfl, rfl, rfl, getA rfl (congrArg Value.bool (by rw [Bool.eq_iff_iff]; simp only [decide_eq_true_eq, true_iff, Bool.false_eq_true, false_iff]; omega)), trivial⟩ (.i (by repeat constructor))
    · refine EL.pass rfl rfl rfl ?_
      refine EL.pass rfl rfl rfl ?_
      refine EL.pickF rfl rfl rfl rfl ?_
      refine EL.assign rfl rfl rfl ?_
      exact EL.endX () ⟨rfl, rfl, rfl, rfl, getA rfl (congrArg Value.bool (by rw [Bool.eq_iff_iff]; simp only [decide_eq_true_eq, true_iff, Bool.false_eq_true, false_iff]; omega)), trivial⟩ (.i (by repeat constructor))
  refine ES.condD rfl (fun h6 => ?_) (fun h6 => ?_)
  · rw [if_pos h6] at hesc
    subst hesc
    refine .go ?_; repeat constructor
    refine EL.move rfl rfl rfl ?_
    refine EL.move rfl rfl rfl ?_
    refine EL.ofRV (RV.subK (n := 48) rfl rfl (by omega) (by simp only [kmax]; omega)) rfl rfl rfl (by intro c h; cases h) ?_
    refine EL.convN rfl rfl rfl rfl rfl rfl (by simp only [kmax]; omega) ?_
    refine EL.buildS (tokCells ⟨6, a, zeroS, ((b.toNat - 48 : Nat) : Int), 0, 0⟩) rfl rfl rfl rfl rfl rfl rfl ?_
    refine EL.move rfl rfl rfl ?_
    refine EL.addN (n := 2) rfl rfl rfl rfl rfl (by omega) ?_
    (apply EL.storeAll; exact rfl; exact rfl; exact rfl; exact rfl; exact rfl; (case p => repeat constructor); exact rfl; (case h1 => exact (by first | rfl | exact all1 rfl | (intro u hu; simp only [List.mem_cons, List.not_mem_nil, or_false] at hu; rcases hu with rfl | rfl | rfl | rfl <;> rfl) | (intro u hu; simp at hu; rcases hu with rfl | rfl | rfl | rfl <;> rfl) | (intro u hu; simp at hu; rcases hu with rfl | rfl | rfl <;> rfl) | (intro u hu; simp at hu; rcases hu with rfl | rfl <;> rfl) | (intro u hu; simp at hu; obtain ⟨_, _, rfl⟩ := hu; rfl))))
    refine EL.assign rfl rfl rfl ?_
    refine .go ?_; repeat constructor
    exact PX.ret rfl Tryz.results107 (.cons (.blkA rfl rfl rfl (by repeat constructor) rfl) (.cons (.tmp rfl) .nil)) (fun w hs => ⟨(), rfl, hs.ent (.i (by repeat constructor))⟩)
  rw [if_neg h6] at hesc
  refine .go ?_; repeat constructor
  refine EL.move rfl rfl rfl ?_
  refine EL.callP rfl rfl rfl ent129 rfl (alnum_c b) ?_
  refine EL.assign rfl rfl rfl ?_
  refine .go ?_; repeat constructor
  refine ES.cond rfl (fun h7 => ?_) (fun h7 => ?_)
  · rw [if_pos h7] at hesc
    subst hesc
    refine .go ?_; repeat constructor
    refine EL.move rfl rfl rfl ?_
    refine EL.callP rfl rfl rfl ent109 rfl (bad_c a 12) ?_
    refine EL.move rfl rfl rfl ?_
    (apply EL.storeAll; exact rfl; exact rfl; exact rfl; exact rfl; exact rfl; (case p => repeat constructor); exact rfl; (case h1 => exact (by first | rfl | exact all1 rfl | (intro u hu; simp only [List.mem_cons, List.not_mem_nil, or_false] at hu; rcases hu with rfl | rfl | rfl | rfl <;> rfl) | (intro u hu; simp at hu; rcases hu with rfl | rfl | rfl | rfl <;> rfl) | (intro u hu; simp at hu; rcases hu with rfl | rfl | rfl <;> rfl) | (intro u hu; simp at hu; rcases hu with rfl | rfl <;> rfl) | (intro u hu; simp at hu; obtain ⟨_, _, rfl⟩ := hu; rfl))))
    refine EL.assign rfl rfl rfl ?_
    refine .go ?_; repeat constructor
    exact PX.ret rfl Tryz.results107 (.cons (.blkA rfl rfl rfl (by repeat constructor) rfl) (.cons (.tmp rfl) .nil)) (fun w hs => ⟨(), rfl, hs.ent (.i (by repeat constructor))⟩)
  · rw [if_neg (by rw [h7]; decide)] at hesc
    subst hesc
    refine .go ?_; repeat constructor
    refine EL.move rfl rfl rfl ?_
    refine EL.move rfl rfl rfl ?_
    refine EL.callP rfl rfl rfl ent110 rfl (one_c a b) ?_
    refine EL.move rfl rfl rfl ?_
    refine EL.addN (n := 2) rfl rfl rfl rfl rfl (by omega) ?_
    (apply EL.storeAll; exact rfl; exact rfl; exact rfl; exact rfl; exact rfl; (case p => repeat constructor); exact rfl; (case h1 => exact (by first | rfl | exact all1 rfl | (intro u hu; simp only [List.mem_cons, List.not_mem_nil, or_false] at hu; rcases hu with rfl | rfl | rfl | rfl <;> rfl) | (intro u hu; simp at hu; rcases hu with rfl | rfl | rfl | rfl <;> rfl) | (intro u hu; simp at hu; rcases hu with rfl | rfl | rfl <;> rfl) | (intro u hu; simp at hu; rcases hu with rfl | rfl <;> rfl) | (intro u hu; simp at hu; obtain ⟨_, _, rfl⟩ := hu; rfl))))
    refine EL.assign rfl rfl rfl ?_
    refine .go ?_; repeat constructor
    exact PX.ret rfl Tryz.results107 (.cons (.blkA rfl rfl rfl (by repeat constructor) rfl) (.cons (.tmp rfl) .nil)) (fun w hs => ⟨(), rfl, hs.ent (.i (by repeat constructor))⟩)
theorem readTok_c (t : List UInt8) (a : Nat) (fi bg : Bool) (ha : a < t.length) (ht : t.length ≤ 1073741824) (w : World) (hG : GR w w.heap.size) :
    Pure Tryz.prog 76 #[Sv t, Iv (a : Nat), .bool fi, .bool bg] (fun _ : Unit => .tuple #[tokV (readT t a fi bg).1, Iv ((readT t a fi bg).2 : Nat)]) (fun _ => []) w := by
  have hrd : readT t a fi bg = (let b := t.getD a 0
    if b.toNat = 92 then escT t a bg
    else if b.toNat = 91 then (if (brackM t a).e ≠ 0 then (badT a (brackM t a).e, a) else (byteT a (brackM t a).set, (brackM t a).at_))
    else if b.toNat = 46 then (byteT a (notS zeroS), a + 1)
    else if b.toNat = 42 ∧ bg = false then (⟨5, a, zeroS, 0, -1, 0⟩, a + 1)
    else if b.toNat = 94 ∧ fi = true then (⟨1, a, zeroS, 0, 0, 0⟩, a + 1)
    else if b.toNat = 36 ∧ eolM t a = true then (⟨2, a, zeroS, 0, 0, 0⟩, a + 1)
    else (oneT a b, a + 1)) := rfl
  obtain ⟨b, hb⟩ : ∃ b, b = t.getD a 0 := ⟨_, rfl⟩
  have hb8 := b.toNat_lt
  rw [← hb] at hrd
  dsimp only at hrd
  generalize readT t a fi bg = r at hrd ⊢
  refine calls_of_ES TB Tryz.func76 rfl _ Tryz.ntmps76 rfl (Sat.start w) ?_
  refine .go ?_; repeat constructor
  (refine EL.alloc rfl rfl rfl ?_; intro g8)
  refine EL.assign rfl rfl rfl ?_
  refine .go ?_; repeat constructor
  refine .go ?_; repeat constructor
  refine EL.move rfl rfl rfl ?_
  refine EL.move rfl rfl rfl ?_
  refine EL.indexSN rfl rfl rfl rfl rfl rfl (by omega) ?_
  refine EL.rew (d := 16) (v' := Uv b) rfl (by rw [hb]) ?_
  refine EL.assign rfl rfl rfl ?_
  refine .go ?_; repeat constructor
  refine .go ?_; repeat constructor
  refine EL.move rfl rfl rfl ?_
  refine EL.eqlI rfl rfl rfl rfl ?_
  refine EL.assign rfl rfl rfl ?_
  refine .go ?_; repeat constructor
  refine ES.condD rfl (fun h1 => ?_) (fun h1 => ?_)
  · rw [if_pos (by omega)] at hrd
    subst hrd
    refine .go ?_; repeat constructor
    refine EL.move rfl rfl rfl ?_
    refine EL.move rfl rfl rfl ?_
    refine EL.move rfl rfl rfl ?_
    refine EL.callP rfl rfl rfl ent107 rfl (escaped_c t a bg ha ht) ?_
    refine EL.extract rfl rfl rfl rfl ?_
    refine EL.extract rfl rfl rfl rfl ?_
    (apply EL.storeAll; exact rfl; exact rfl; exact rfl; exact rfl; exact rfl; (case p => repeat constructor); exact rfl; (case h1 => exact (by first | rfl | exact all1 rfl | (intro u hu; simp only [List.mem_cons, List.not_mem_nil, or_false] at hu; rcases hu with rfl | rfl | rfl | rfl <;> rfl) | (intro u hu; simp at hu; rcases hu with rfl | rfl | rfl | rfl <;> rfl) | (intro u hu; simp at hu; rcases hu with rfl | rfl | rfl <;> rfl) | (intro u hu; simp at hu; rcases hu with rfl | rfl <;> rfl) | (intro u hu; simp at hu; obtain ⟨_, _, rfl⟩ := hu; rfl))))
    refine EL.assign rfl rfl rfl ?_
    refine .go ?_; repeat constructor
    exact PX.ret rfl Tryz.results76 (.cons (.blkA rfl rfl rfl (by repeat constructor) rfl) (.cons (.tmp rfl) .nil)) (fun w hs => ⟨(), rfl, hs.ent (.i (by repeat constructor))⟩)
  rw [if_neg (by omega)] at hrd
  refine .go ?_; repeat constructor
  refine EL.move rfl rfl rfl ?_
  refine EL.eqlI rfl rfl rfl rfl ?_
  refine EL.assign rfl rfl rfl ?_
  refine .go ?_; repeat constructor
  refine ES.condD rfl (fun h2 => ?_) (fun h2 => ?_)
  · rw [if_pos (by omega)] at hrd
    have hbp := brParse_c t a ht (by omega)
    generalize brackM t a = q at hrd hbp
    obtain ⟨⟨s0, s1, s2, s3⟩, qa, qe⟩ := q
    dsimp only at hrd hbp
    refine .go ?_; repeat constructor
    refine EL.move rfl rfl rfl ?_
    refine EL.move rfl rfl rfl ?_
    refine EL.callPw rfl rfl rfl ent108 rfl (fun w hs => hbp w (GR.sat hG hs)) ?_
    refine EL.move rfl rfl rfl ?_
    refine EL.extract rfl rfl rfl rfl ?_
    refine EL.extract rfl rfl rfl rfl ?_
    refine EL.extract rfl rfl rfl rfl ?_
    (refine EL.alloc rfl rfl rfl ?_; intro g11)
    (apply EL.storeAll; exact rfl; exact rfl; exact rfl; exact rfl; exact rfl; (case p => repeat constructor); exact rfl; (case h1 => exact (by first | rfl | exact all1 rfl | (intro u hu; simp only [List.mem_cons, List.not_mem_nil, or_false] at hu; rcases hu with rfl | rfl | rfl | rfl <;> rfl) | (intro u hu; simp at hu; rcases hu with rfl | rfl | rfl | rfl <;> rfl) | (intro u hu; simp at hu; rcases hu with rfl | rfl | rfl <;> rfl) | (intro u hu; simp at hu; rcases hu with rfl | rfl <;> rfl) | (intro u hu; simp at hu; obtain ⟨_, _, rfl⟩ := hu; rfl))))
    refine EL.assign rfl rfl rfl ?_
    refine EL.assign rfl rfl rfl ?_
    refine .go ?_; repeat constructor
    refine EL.move rfl rfl rfl ?_
    refine EL.neqI rfl rfl rfl rfl ?_
    refine .go ?_; repeat constructor
    refine ES.condN rfl (fun h3 => ?_) (fun h3 => ?_)
    · rw [if_pos h3] at hrd
      subst hrd
      refine .go ?_; repeat constructor
      refine EL.move rfl rfl rfl ?_
      refine EL.move rfl rfl rfl ?_
      refine EL.callP rfl rfl rfl ent109 rfl (bad_c a qe) ?_
      refine EL.move rfl rfl rfl ?_
      (apply EL.storeAll; exact rfl; exact rfl; exact rfl; exact rfl; exact rfl; (case p => repeat constructor); exact rfl; (case h1 => exact (by first | rfl | exact all1 rfl | (intro u hu; simp only [List.mem_cons, List.not_mem_nil, or_false] at hu; rcases hu with rfl | rfl | rfl | rfl <;> rfl) | (intro u hu; simp at hu; rcases hu with rfl | rfl | rfl | rfl <;> rfl) | (intro u hu; simp at hu; rcases hu with rfl | rfl | rfl <;> rfl) | (intro u hu; simp at hu; rcases hu with rfl | rfl <;> rfl) | (intro u hu; simp at hu; obtain ⟨_, _, rfl⟩ := hu; rfl))))
      refine EL.assign rfl rfl rfl ?_
      refine .go ?_; repeat constructor
      exact PX.ret rfl Tryz.results76 (.cons (.blkA rfl rfl rfl (by repeat constructor) rfl) (.cons (.tmp rfl) .nil)) (fun w hs => ⟨(), rfl, hs.ent (.i (by repeat constructor))⟩)
    · rw [if_neg (by simpa using h3)] at hrd
      subst hrd
      refine .go ?_; repeat constructor
      refine EL.move rfl rfl rfl ?_
      (apply EL.loadAggB; exact rfl; exact rfl; exact rfl; exact rfl; exact rfl; (case hm => repeat constructor); exact rfl)
      refine EL.buildS (tokCells (byteT a ⟨s0, s1, s2, s3⟩)) rfl rfl rfl rfl rfl rfl rfl ?_
      refine EL.move rfl rfl rfl ?_
      (apply EL.storeAll; exact rfl; exact rfl; exact rfl; exact rfl; exact rfl; (case p => repeat constructor); exact rfl; (case h1 => exact (by first | rfl | exact all1 rfl | (intro u hu; simp only [List.mem_cons, List.not_mem_nil, or_false] at hu; rcases hu with rfl | rfl | rfl | rfl <;> rfl) | (intro u hu; simp at hu; rcases hu with rfl | rfl | rfl | rfl <;> rfl) | (intro u hu; simp at hu; rcases hu with rfl | rfl | rfl <;> rfl) | (intro u hu; simp at hu; rcases hu with rfl | rfl <;> rfl) | (intro u hu; simp at hu; obtain ⟨_, _, rfl⟩ := hu; rfl))))
      refine EL.assign rfl rfl rfl ?_
      refine .go ?_; repeat constructor
      exact PX.ret rfl Tryz.results76 (.cons (.blkA rfl rfl rfl (by repeat constructor) rfl) (.cons (.tmp rfl) .nil)) (fun w hs => ⟨(), rfl, hs.ent (.i (by repeat constructor))⟩)
  rw [if_neg (by omega)] at hrd
  refine .go ?_; repeat constructor
  refine EL.move rfl rfl rfl ?_
  refine EL.eqlI rfl rfl rfl rfl ?_
  refine EL.assign rfl rfl rfl ?_
  refine .go ?_; repeat constructor
  refine ES.condD rfl (fun h3 => ?_) (fun h3 => ?_)
  · rw [if_pos (by omega)] at hrd
    subst hrd
    refine .go ?_; repeat constructor
    refine EL.move rfl rfl rfl ?_
    refine EL.buildZA rfl rfl rfl rfl rfl ?_
    refine EL.callP rfl rfl rfl ent87 rfl (not_c zeroS) ?_
    refine EL.buildS (tokCells (byteT a (notS zeroS))) rfl rfl rfl rfl rfl rfl rfl ?_
    refine EL.move rfl rfl rfl ?_
    refine EL.add1 rfl rfl rfl rfl (by omega) ?_
    (apply EL.storeAll; exact rfl; exact rfl; exact rfl; exact rfl; exact rfl; (case p => repeat constructor); exact rfl; (case h1 => exact (by first | rfl | exact all1 rfl | (intro u hu; simp only [List.mem_cons, List.not_mem_nil, or_false] at hu; rcases hu with rfl | rfl | rfl | rfl <;> rfl) | (intro u hu; simp at hu; rcases hu with rfl | rfl | rfl | rfl <;> rfl) | (intro u hu; simp at hu; rcases hu with rfl | rfl | rfl <;> rfl) | (intro u hu; simp at hu; rcases hu with rfl | rfl <;> rfl) | (intro u hu; simp at hu; obtain ⟨_, _, rfl⟩ := hu; rfl))))
    refine EL.assign rfl rfl rfl ?_
    refine .go ?_; repeat constructor
    exact PX.ret rfl Tryz.results76 (.cons (.blkA rfl rfl rfl (by repeat constructor) rfl) (.cons (.tmp rfl) .nil)) (fun w hs => ⟨(), rfl, hs.ent (.i (by repeat constructor))⟩)
  rw [if_neg (by omega)] at hrd
  refine .go ?_; repeat constructor
  refine EL.cutX (X := Unit) (fun _ => [(0, Sv t), (1, Iv (a : Nat)), (2, .bool fi), (8, Pv g8 0), (10, Uv b), (60, .bool (decide ((b.toNat : Int) = 42) && !bg))]) (fun _ => [HA.blk g8 (.cells #[.int .i64 0, .int .i64 0, .int .u64 0, .int .u64 0, .int .u64 0, .int .u64 0, .int .i64 0, .int .i64 0, .int .i64 0] 156)]) ?_ (fun _ => ?_)
  · refine .go ?_; repeat constructor
    refine EL.move rfl rfl rfl ?_
    refine EL.eqlI rfl rfl rfl rfl ?_
    refine EL.move rfl rfl rfl ?_
    first | refine EL.splitD (d := 63) rfl (fun hp63 => ?_) (fun hp63 => ?_) | refine EL.splitN (d := 63) rfl (fun hp63 => ?_) (fun hp63 => ?_) | refine EL.splitB (d := 63) rfl (fun hp63 => ?_) (fun hp63 => ?_)
    · refine EL.move rfl rfl rfl ?_
      refine EL.not rfl rfl rfl ?_
      refine EL.pickT rfl rfl rfl rfl ?_
      refine EL.assign rfl rfl rfl ?_
      exact EL.endX () ⟨rfl, rfl, rfl, rfl, rfl, getA rfl (congrArg Value.bool (by simp_all)), trivial⟩ (.i (by repeat constructor))
    · refine EL.pass rfl rfl rfl ?_
      refine EL.pass rfl rfl rfl ?_
      refine EL.pickF rfl rfl rfl rfl ?_
      refine EL.assign rfl rfl rfl ?_
      exact EL.endX () ⟨rfl, rfl, rfl, rfl, rfl, getA rfl (congrArg Value.bool (by simp_all)), trivial⟩ (.i (by repeat constructor))
  refine ES.cond rfl (fun h4 => ?_) (fun h4 => ?_)
  · rw [Bool.and_eq_true, decide_eq_true_eq] at h4
    rw [if_pos ⟨by omega, by simpa using h4.2⟩] at hrd
    subst hrd
    refine .go ?_; repeat constructor
    refine EL.move rfl rfl rfl ?_
    refine EL.buildS (tokCells ⟨5, a, zeroS, 0, -1, 0⟩) rfl rfl rfl rfl rfl rfl rfl ?_
    refine EL.move rfl rfl rfl ?_
    refine EL.add1 rfl rfl rfl rfl (by omega) ?_
    (apply EL.storeAll; exact rfl; exact rfl; exact rfl; exact rfl; exact rfl; (case p => repeat constructor); exact rfl; (case h1 => exact (by first | rfl | exact all1 rfl | (intro u hu; simp only [List.mem_cons, List.not_mem_nil, or_false] at hu; rcases hu with rfl | rfl | rfl | rfl <;> rfl) | (intro u hu; simp at hu; rcases hu with rfl | rfl | rfl | rfl <;> rfl) | (intro u hu; simp at hu; rcases hu with rfl | rfl | rfl <;> rfl) | (intro u hu; simp at hu; rcases hu with rfl | rfl <;> rfl) | (intro u hu; simp at hu; obtain ⟨_, _, rfl⟩ := hu; rfl))))
    refine EL.assign rfl rfl rfl ?_
    refine .go ?_; repeat constructor
    exact PX.ret rfl Tryz.results76 (.cons (.blkA rfl rfl rfl (by repeat constructor) rfl) (.cons (.tmp rfl) .nil)) (fun w hs => ⟨(), rfl, hs.ent (.i (by repeat constructor))⟩)
  rw [if_neg (by rintro ⟨h5, h6⟩; rw [decide_eq_true (by omega), h6] at h4; cases h4)] at hrd
  refine .go ?_; repeat constructor
  refine EL.cutX (X := Unit) (fun _ => [(0, Sv t), (1, Iv (a : Nat)), (8, Pv g8 0), (10, Uv b), (71, .bool (decide ((b.toNat : Int) = 94) && fi))]) (fun _ => [HA.blk g8 (.cells #[.int .i64 0, .int .i64 0, .int .u64 0, .int .u64 0, .int .u64 0, .int .u64 0, .int .i64 0, .int .i64 0, .int .i64 0] 156)]) ?_ (fun _ => ?_)
  · refine .go ?_; repeat constructor
    refine EL.move rfl rfl rfl ?_
    refine EL.eqlI rfl rfl rfl rfl ?_
    refine EL.move rfl rfl rfl ?_
    first | refine EL.splitD (d := 74) rfl (fun hp74 => ?_) (fun hp74 => ?_) | refine EL.splitN (d := 74) rfl (fun hp74 => ?_) (fun hp74 => ?_) | refine EL.splitB (d := 74) rfl (fun hp74 => ?_) (fun hp74 => ?_)
    · refine EL.move rfl rfl rfl ?_
      refine EL.pickT rfl rfl rfl rfl ?_
      refine EL.assign rfl rfl rfl ?_
      exact EL.endX () ⟨rfl, rfl, rfl, rfl, getA rfl (congrArg Value.bool (by simp_all)), trivial⟩ (.i (by repeat constructor))
    · refine EL.pass rfl rfl rfl ?_
      refine EL.pickF rfl rfl rfl rfl ?_
      refine EL.assign rfl rfl rfl ?_
      exact EL.endX () ⟨rfl, rfl, rfl, rfl, getA rfl (congrArg Value.bool (by simp_all)), trivial⟩ (.i (by repeat constructor))
  refine ES.cond rfl (fun h5 => ?_) (fun h5 => ?_)
  · rw [Bool.and_eq_true, decide_eq_true_eq] at h5
    rw [if_pos ⟨by omega, h5.2⟩] at hrd
    subst hrd
    refine .go ?_; repeat constructor
    refine EL.move rfl rfl rfl ?_
    refine EL.buildS (tokCells ⟨1, a, zeroS, 0, 0, 0⟩) rfl rfl rfl rfl rfl rfl rfl ?_
    refine EL.move rfl rfl rfl ?_
    refine EL.add1 rfl rfl rfl rfl (by omega) ?_
    (apply EL.storeAll; exact rfl; exact rfl; exact rfl; exact rfl; exact rfl; (case p => repeat constructor); exact rfl; (case h1 => exact (by first | rfl | exact all1 rfl | (intro u hu; simp only [List.mem_cons, List.not_mem_nil, or_false] at hu; rcases hu with rfl | rfl | rfl | rfl <;> rfl) | (intro u hu; simp at hu; rcases hu with rfl | rfl | rfl | rfl <;> rfl) | (intro u hu; simp at hu; rcases hu with rfl | rfl | rfl <;> rfl) | (intro u hu; simp at hu; rcases hu with rfl | rfl <;> rfl) | (intro u hu; simp at hu; obtain ⟨_, _, rfl⟩ := hu; rfl))))
    refine EL.assign rfl rfl rfl ?_
    refine .go ?_; repeat constructor
    exact PX.ret rfl Tryz.results76 (.cons (.blkA rfl rfl rfl (by repeat constructor) rfl) (.cons (.tmp rfl) .nil)) (fun w hs => ⟨(), rfl, hs.ent (.i (by repeat constructor))⟩)
  rw [if_neg (by rintro ⟨h6, h7⟩; rw [decide_eq_true (by omega), h7] at h5; cases h5)] at hrd
  refine .go ?_; repeat constructor
  refine EL.cutX (X := Unit) (fun _ => [(0, Sv t), (1, Iv (a : Nat)), (8, Pv g8 0), (10, Uv b), (81, .bool (decide ((b.toNat : Int) = 36) && eolM t a))]) (fun _ => [HA.blk g8 (.cells #[.int .i64 0, .int .i64 0, .int .u64 0, .int .u64 0, .int .u64 0, .int .u64 0, .int .i64 0, .int .i64 0, .int .i64 0] 156)]) ?_ (fun _ => ?_)
  · refine .go ?_; repeat constructor
    refine EL.move rfl rfl rfl ?_
    refine EL.eqlI rfl rfl rfl rfl ?_
    refine EL.move rfl rfl rfl ?_
    first | refine EL.splitD (d := 84) rfl (fun hp84 => ?_) (fun hp84 => ?_) | refine EL.splitN (d := 84) rfl (fun hp84 => ?_) (fun hp84 => ?_) | refine EL.splitB (d := 84) rfl (fun hp84 => ?_) (fun hp84 => ?_)
    · refine EL.move rfl rfl rfl ?_
      refine EL.add1 rfl rfl rfl rfl (by omega) ?_
      refine EL.move rfl rfl rfl ?_
      refine EL.lenS rfl rfl rfl rfl rfl ?_
      refine EL.eqlI rfl rfl rfl rfl ?_
      refine EL.move rfl rfl rfl ?_
      first | refine EL.splitD (d := 90) rfl (fun hp90 => ?_) (fun hp90 => ?_) | refine EL.splitN (d := 90) rfl (fun hp90 => ?_) (fun hp90 => ?_) | refine EL.splitB (d := 90) rfl (fun hp90 => ?_) (fun hp90 => ?_)
      · refine EL.pass rfl rfl rfl ?_
        refine EL.pass rfl rfl rfl ?_
        refine EL.pass rfl rfl rfl ?_
        refine EL.pass rfl rfl rfl ?_
        refine EL.pass rfl rfl rfl ?_
        refine EL.pass rfl rfl rfl ?_
        refine EL.pass rfl rfl rfl ?_
        refine EL.pass rfl rfl rfl ?_
        refine EL.pass rfl rfl rfl ?_
        refine EL.pass rfl rfl rfl ?_
        refine EL.pass rfl rfl rfl ?_
        refine EL.pass rfl rfl rfl ?_
        refine EL.pass rfl rfl rfl ?_
        refine EL.pass rfl rfl rfl ?_
        refine EL.pickT rfl rfl rfl rfl ?_
        refine EL.pickT rfl rfl rfl rfl ?_
        refine EL.assign rfl rfl rfl ?_
        exact EL.endX () ⟨rfl, rfl, rfl, rfl, getA rfl (congrArg Value.bool (by unfold eolM; rw [Bool.eq_iff_iff]; simp only [decide_eq_true_eq, Bool.and_eq_true, Bool.or_eq_true, true_iff, Bool.false_eq_true, false_iff]; first | omega | exact ⟨by omega, .inl (by omega)⟩ | (rw [show a + 3 - (a + 1) = 2 by omega]; exact ⟨fun h => ⟨by omega, .inr ⟨by omega, h⟩⟩, fun h => h.2.elim (fun h => absurd h (by omega)) (fun h => h.2)⟩) | exact fun h => h.2.elim (fun h => absurd h (by omega)) (fun h => absurd h.1 (by omega)))), trivial⟩ (.i (by repeat constructor))
      · refine EL.move rfl rfl rfl ?_
        refine EL.addN (n := 2) rfl rfl rfl rfl rfl (by omega) ?_
        refine EL.move rfl rfl rfl ?_
        refine EL.lenS rfl rfl rfl rfl rfl ?_
        refine EL.lss rfl rfl rfl rfl ?_
        refine EL.move rfl rfl rfl ?_
        first | refine EL.splitD (d := 96) rfl (fun hp96 => ?_) (fun hp96 => ?_) | refine EL.splitN (d := 96) rfl (fun hp96 => ?_) (fun hp96 => ?_) | refine EL.splitB (d := 96) rfl (fun hp96 => ?_) (fun hp96 => ?_)
        · refine EL.move rfl rfl rfl ?_
          refine EL.move rfl rfl rfl ?_
          refine EL.add1 rfl rfl rfl rfl (by omega) ?_
          refine EL.move rfl rfl rfl ?_
          refine EL.addN (n := 3) rfl rfl rfl rfl rfl (by omega) ?_
          refine EL.sliceS rfl rfl rfl rfl rfl ⟨_, rfl⟩ ⟨_, rfl⟩ (by omega) (by omega) ?_
          refine EL.eqlS rfl rfl rfl rfl ?_
          refine EL.pickT rfl rfl rfl rfl ?_
          refine EL.pickF rfl rfl rfl rfl ?_
          refine EL.pickT rfl rfl rfl rfl ?_
          refine EL.assign rfl rfl rfl ?_
          exact EL.endX () ⟨rfl, rfl, rfl, rfl, getA rfl (congrArg Value.bool (by unfold eolM; rw [Bool.eq_iff_iff]; simp only [decide_eq_true_eq, Bool.and_eq_true, Bool.or_eq_true, true_iff, Bool.false_eq_true, false_iff]; first | omega | exact ⟨by omega, .inl (by omega)⟩ | (rw [show a + 3 - (a + 1) = 2 by omega]; exact ⟨fun h => ⟨by omega, .inr ⟨by omega, h⟩⟩, fun h => h.2.elim (fun h => absurd h (by omega)) (fun h => h.2)⟩) | exact fun h => h.2.elim (fun h => absurd h (by omega)) (fun h => absurd h.1 (by omega)))), trivial⟩ (.i (by repeat constructor))
        · refine EL.pass rfl rfl rfl ?_
          refine EL.pass rfl rfl rfl ?_
          refine EL.pass rfl rfl rfl ?_
          refine EL.pass rfl rfl rfl ?_
          refine EL.pass rfl rfl rfl ?_
          refine EL.pass rfl rfl rfl ?_
          refine EL.pass rfl rfl rfl ?_
          refine EL.pickF rfl rfl rfl rfl ?_
          refine EL.pickF rfl rfl rfl rfl ?_
          refine EL.pickT rfl rfl rfl rfl ?_
          refine EL.assign rfl rfl rfl ?_
          exact EL.endX () ⟨rfl, rfl, rfl, rfl, getA rfl (congrArg Value.bool (by unfold eolM; rw [Bool.eq_iff_iff]; simp only [decide_eq_true_eq, Bool.and_eq_true, Bool.or_eq_true, true_iff, Bool.false_eq_true, false_iff]; first | omega | exact ⟨by omega, .inl (by omega)⟩ | (rw [show a + 3 - (a + 1) = 2 by omega]; exact ⟨fun h => ⟨by omega, .inr ⟨by omega, h⟩⟩, fun h => h.2.elim (fun h => absurd h (by omega)) (fun h => h.2)⟩) | exact fun h => h.2.elim (fun h => absurd h (by omega)) (fun h => absurd h.1 (by omega)))), trivial⟩ (.i (by repeat constructor))
    · refine EL.pass rfl rfl rfl ?_
      refine EL.pass rfl rfl rfl ?_
      refine EL.pass rfl rfl rfl ?_
      refine EL.pass rfl rfl rfl ?_
      refine EL.pass rfl rfl rfl ?_
      refine EL.pass rfl rfl rfl ?_
      refine EL.pass rfl rfl rfl ?_
      refine EL.pass rfl rfl rfl ?_
      refine EL.pass rfl rfl rfl ?_
      refine EL.pass rfl rfl rfl ?_
      refine EL.pass rfl rfl rfl ?_
      refine EL.pass rfl rfl rfl ?_
      refine EL.pass rfl rfl rfl ?_
      refine EL.pass rfl rfl rfl ?_
      refine EL.pass rfl rfl rfl ?_
      refine EL.pass rfl rfl rfl ?_
      refine EL.pass rfl rfl rfl ?_
      refine EL.pass rfl rfl rfl ?_
      refine EL.pass rfl rfl rfl ?_
      refine EL.pass rfl rfl rfl ?_
      refine EL.pass rfl rfl rfl ?_
      refine EL.pickF rfl rfl rfl rfl ?_
      refine EL.assign rfl rfl rfl ?_
      exact EL.endX () ⟨rfl, rfl, rfl, rfl, getA rfl (congrArg Value.bool (by unfold eolM; rw [Bool.eq_iff_iff]; simp only [decide_eq_true_eq, Bool.and_eq_true, Bool.or_eq_true, true_iff, Bool.false_eq_true, false_iff]; first | omega | exact ⟨by omega, .inl (by omega)⟩ | (rw [show a + 3 - (a + 1) = 2 by omega]; exact ⟨fun h => ⟨by omega, .inr ⟨by omega, h⟩⟩, fun h => h.2.elim (fun h => absurd h (by omega)) (fun h => h.2)⟩) | exact fun h => h.2.elim (fun h => absurd h (by omega)) (fun h => absurd h.1 (by omega)))), trivial⟩ (.i (by repeat constructor))
  refine ES.cond rfl (fun h6 => ?_) (fun h6 => ?_)
  · rw [Bool.and_eq_true, decide_eq_true_eq] at h6
    rw [if_pos ⟨by omega, h6.2⟩] at hrd
    subst hrd
    refine .go ?_; repeat constructor
    refine EL.move rfl rfl rfl ?_
    refine EL.buildS (tokCells ⟨2, a, zeroS, 0, 0, 0⟩) rfl rfl rfl rfl rfl rfl rfl ?_
    refine EL.move rfl rfl rfl ?_
    refine EL.add1 rfl rfl rfl rfl (by omega) ?_
    (apply EL.storeAll; exact rfl; exact rfl; exact rfl; exact rfl; exact rfl; (case p => repeat constructor); exact rfl; (case h1 => exact (by first | rfl | exact all1 rfl | (intro u hu; simp only [List.mem_cons, List.not_mem_nil, or_false] at hu; rcases hu with rfl | rfl | rfl | rfl <;> rfl) | (intro u hu; simp at hu; rcases hu with rfl | rfl | rfl | rfl <;> rfl) | (intro u hu; simp at hu; rcases hu with rfl | rfl | rfl <;> rfl) | (intro u hu; simp at hu; rcases hu with rfl | rfl <;> rfl) | (intro u hu; simp at hu; obtain ⟨_, _, rfl⟩ := hu; rfl))))
    refine EL.assign rfl rfl rfl ?_
    refine .go ?_; repeat constructor
    exact PX.ret rfl Tryz.results76 (.cons (.blkA rfl rfl rfl (by repeat constructor) rfl) (.cons (.tmp rfl) .nil)) (fun w hs => ⟨(), rfl, hs.ent (.i (by repeat constructor))⟩)
  · rw [if_neg (by rintro ⟨h7, h8⟩; rw [decide_eq_true (by omega), h8] at h6; cases h6)] at hrd
    subst hrd
    refine .go ?_; repeat constructor
    refine EL.move rfl rfl rfl ?_
    refine EL.move rfl rfl rfl ?_
    refine EL.callP rfl rfl rfl ent110 rfl (one_c a b) ?_
    refine EL.move rfl rfl rfl ?_
    refine EL.add1 rfl rfl rfl rfl (by omega) ?_
    (apply EL.storeAll; exact rfl; exact rfl; exact rfl; exact rfl; exact rfl; (case p => repeat constructor); exact rfl; (case h1 => exact (by first | rfl | exact all1 rfl | (intro u hu; simp only [List.mem_cons, List.not_mem_nil, or_false] at hu; rcases hu with rfl | rfl | rfl | rfl <;> rfl) | (intro u hu; simp at hu; rcases hu with rfl | rfl | rfl | rfl <;> rfl) | (intro u hu; simp at hu; rcases hu with rfl | rfl | rfl <;> rfl) | (intro u hu; simp at hu; rcases hu with rfl | rfl <;> rfl) | (intro u hu; simp at hu; obtain ⟨_, _, rfl⟩ := hu; rfl))))
    refine EL.assign rfl rfl rfl ?_
    refine .go ?_; repeat constructor
    exact PX.ret rfl Tryz.results76 (.cons (.blkA rfl rfl rfl (by repeat constructor) rfl) (.cons (.tmp rfl) .nil)) (fun w hs => ⟨(), rfl, hs.ent (.i (by repeat constructor))⟩)
end Go.Proofs.YtblpgpgbnlhjlaaGreat
namespace Go.Proofs.YtblpgpgbnlhjlaaGreat
open Go Go.RowKit Sl
set_option maxRecDepth 100000
set_option maxHeartbeats 8000000
set_option linter.unusedVariables false
set_option linter.unusedSimpArgs false
attribute [local irreducible] ES EL PX wps
abbrev yt (t : List UInt8) : List (List Value) := (toksM t).map fun k => [tokV k]
theorem toks_len (t : List UInt8) : ∀ (n a : Nat) (f b : Bool), (toksGo t n a f b).length ≤ n
  | 0, _, _, _ => Nat.zero_le _
  | n + 1, a, f, b => by
    rw [toksGo]
    split
    · simp
    · dsimp only
      split
      · simp
      · have := toks_len t n (readT t a f b).2 (decide ((readT t a f b).1.kind = 3)) (decide ((readT t a f b).1.kind = 3) || decide ((readT t a f b).1.kind = 1))
        simp only [List.length_cons]; omega
theorem tok1_iter (gs : Nat) (t : List UInt8) (ht : t.length ≤ 1073741824) (W0 : World) (B0 : Nat) (hG : GR W0 B0) : Iter Tryz.prog 75 #[Pv gs 0] (yt t) [HA.blk gs (.cells #[Sv t] 9)] W0 B0 := by
  intro l I Ix hY A R W hI hs
  replace hs : Sat W0 B0 (HA.blk gs (.cells #[Sv t] 9) :: A :: R) W := hs
  refine calls_of_ES TB Tryz.func75 rfl _ Tryz.ntmps75 rfl hs ?_
  refine .go ?_; repeat constructor
  refine EL.assign rfl rfl rfl ?_
  refine EL.assign rfl rfl rfl ?_
  refine .go ?_; repeat constructor
  refine EL.assign rfl rfl rfl ?_
  refine .go ?_; repeat constructor
  refine ES.loop (σ := Nat × Nat × Nat × Bool × Bool × HA) (fun (i, n, a, f, b, A) => a ≤ t.length ∧ t.length ≤ n + a ∧ toksGo t n a f b = (toksM t).drop i ∧ i ≤ (toksM t).length ∧ I i A) (fun (i, n, a, f, b, A) => [(0, .func (.yield l) #[] #[]), (1, Pv gs 0), (3, .bool f), (4, .bool b), (5, Iv (a : Nat))])
    (fun (i, n, a, f, b, A) => HA.blk gs (.cells #[Sv t] 9) :: A :: R) (fun (i, n, a, f, b, A) => t.length - a) (0, t.length, 0, true, true, A) ⟨Nat.zero_le _, by omega, rfl, Nat.zero_le _, hI⟩ ⟨rfl, rfl, rfl, rfl, rfl, trivial⟩ (.i (by repeat constructor)) ?_
  rintro ⟨i, n, a, f, b, A⟩ ⟨ha, hn, hgo, hi, hI⟩
  dsimp only at ha hn hgo hi hI ⊢
  refine .go ?_; repeat constructor
  refine EL.move rfl rfl rfl ?_
  (apply EL.loadB; exact rfl; exact rfl; exact rfl; exact rfl; exact rfl; (case hm => repeat constructor); exact rfl)
  refine EL.lenS rfl rfl rfl rfl rfl ?_
  refine EL.lss rfl rfl rfl rfl ?_
  refine .go ?_; repeat constructor
  refine ES.condD rfl (fun hlt => ?_) (fun hge => ?_)
  · have hlt' : a < t.length := by omega
    obtain ⟨m, rfl⟩ : ∃ m, n = m + 1 := ⟨n - 1, by omega⟩
    rw [toksGo, if_neg (by omega)] at hgo
    dsimp only at hgo
    have hnx := readT_at t a f b hlt'
    have hrc := readTok_c t a f b hlt' ht
    generalize readT t a f b = r at hgo hnx hrc
    obtain ⟨k, nx⟩ := r
    dsimp only at hgo hnx hrc
    have hat : (toksM t)[i]? = some k := by
      have : ((toksM t).drop i)[0]? = some k := by rw [← hgo]; split <;> rfl
      simpa using this
    have hilt : i < (toksM t).length := (List.getElem?_eq_some_iff.1 hat).1
    have hx : (yt t)[i]? = some [tokV k] := by rw [List.getElem?_map, hat]; rfl
    refine .go ?_; repeat constructor
    (apply EL.loadB; exact rfl; exact rfl; exact rfl; exact rfl; exact rfl; (case hm => repeat constructor); exact rfl)
    refine EL.move rfl rfl rfl ?_
    refine EL.move rfl rfl rfl ?_
    refine EL.move rfl rfl rfl ?_
    refine EL.callPw rfl rfl rfl ent76 rfl (fun w hs => hrc w (GR.sat hG hs)) ?_
    refine EL.move rfl rfl rfl ?_
    refine EL.extract rfl rfl rfl rfl ?_
    refine EL.extract rfl rfl rfl rfl ?_
    (refine EL.alloc rfl rfl rfl ?_; intro g6)
    (apply EL.storeAll; exact rfl; exact rfl; exact rfl; exact rfl; exact rfl; (case p => repeat constructor); exact rfl; (case h1 => exact (by first | rfl | exact all1 rfl | (intro u hu; simp only [List.mem_cons, List.not_mem_nil, or_false] at hu; rcases hu with rfl | rfl | rfl | rfl <;> rfl) | (intro u hu; simp at hu; rcases hu with rfl | rfl | rfl | rfl <;> rfl) | (intro u hu; simp at hu; rcases hu with rfl | rfl | rfl <;> rfl) | (intro u hu; simp at hu; rcases hu with rfl | rfl <;> rfl) | (intro u hu; simp at hu; obtain ⟨_, _, rfl⟩ := hu; rfl))))
    refine EL.assign rfl rfl rfl ?_
    refine .go ?_; repeat constructor
    refine EL.fieldAddr rfl rfl rfl rfl rfl rfl rfl rfl ?_
    (apply EL.loadB; exact rfl; exact rfl; exact rfl; exact rfl; exact rfl; (case hm => repeat constructor); exact rfl)
    refine EL.eqlI rfl rfl rfl rfl ?_
    refine EL.assign rfl rfl rfl ?_
    refine .go ?_; repeat constructor
    refine EL.cutX (X := Unit) (fun _ => [(0, .func (.yield l) #[] #[]), (1, Pv gs 0), (3, .bool (decide (k.kind = 3))), (4, .bool (decide (k.kind = 3) || decide (k.kind = 1))), (6, Pv g6 0), (7, Iv (nx : Nat))]) (fun _ => HA.blk g6 (.cells (tokCells k) 156) :: HA.blk gs (.cells #[Sv t] 9) :: A :: R) ?_ (fun _ => ?_)
    · refine .go ?_; repeat constructor
      refine EL.move rfl rfl rfl ?_
      refine EL.move rfl rfl rfl ?_
      first | refine EL.splitD (d := 24) rfl (fun hp24 => ?_) (fun hp24 => ?_) | refine EL.splitN (d := 24) rfl (fun hp24 => ?_) (fun hp24 => ?_) | refine EL.splitB (d := 24) rfl (fun hp24 => ?_) (fun hp24 => ?_)
      · refine EL.pass rfl rfl rfl ?_
        refine EL.pass rfl rfl rfl ?_
        refine EL.pass rfl rfl rfl ?_
        refine EL.pickT rfl rfl rfl rfl ?_
        refine EL.assign rfl rfl rfl ?_
        exact EL.endX () ⟨rfl, rfl, getA rfl (congrArg Value.bool (by rw [Bool.eq_iff_iff]; simp only [decide_eq_true_eq]; omega)), getA rfl (congrArg Value.bool (by rw [Bool.eq_iff_iff]; simp only [decide_eq_true_eq, Bool.or_eq_true, true_iff]; omega)), rfl, rfl, trivial⟩ (.i (by repeat constructor))
      · refine EL.fieldAddr rfl rfl rfl rfl rfl rfl rfl rfl ?_
        (apply EL.loadB; exact rfl; exact rfl; exact rfl; exact rfl; exact rfl; (case hm => repeat constructor); exact rfl)
        refine EL.eqlI rfl rfl rfl rfl ?_
        refine EL.pickF rfl rfl rfl rfl ?_
        refine EL.assign rfl rfl rfl ?_
        exact EL.endX () ⟨rfl, rfl, getA rfl (congrArg Value.bool (by rw [Bool.eq_iff_iff]; simp only [decide_eq_true_eq]; omega)), getA rfl (congrArg Value.bool (by rw [Bool.eq_iff_iff]; simp only [decide_eq_true_eq, Bool.or_eq_true, true_iff]; omega)), rfl, rfl, trivial⟩ (.i (by repeat constructor))
    refine .go ?_; repeat constructor
    refine EL.move rfl rfl rfl ?_
    (apply EL.loadAggB; exact rfl; exact rfl; exact rfl; exact rfl; exact rfl; (case hm => repeat constructor); exact rfl)
    refine EL.yield rfl rfl rfl rfl hY hI hx (by repeat constructor) (fun A' hI' => ?_) (fun A' hX' => ?_)
    · refine EL.not rfl rfl rfl ?_
      refine EL.move rfl rfl rfl ?_
      refine EL.rew (d := 33) (v' := .bool false) rfl (by first | rfl | (decide) | (simp)) ?_
      refine EL.fieldAddr rfl rfl rfl rfl rfl rfl rfl rfl ?_
      (apply EL.loadB; exact rfl; exact rfl; exact rfl; exact rfl; exact rfl; (case hm => repeat constructor); exact rfl)
      refine EL.eqlI rfl rfl rfl rfl ?_
      refine EL.pickF rfl rfl rfl rfl ?_
      refine .go ?_; repeat constructor
      refine ES.condD rfl (fun h7 => ?_) (fun h7 => ?_)
      · rw [if_pos (by omega)] at hgo
        have hlen : (yt t).length = i + 1 := by
          have := congrArg List.length hgo
          simp only [List.length_cons, List.length_nil, List.length_drop] at this
          simp only [List.length_map]; omega
        refine .go ?_; repeat constructor
        exact PX.ret rfl Tryz.results75 .nil (fun w hs => ⟨⟨_, rfl⟩, .inl ⟨A', by rw [hlen]; exact hI', hs.ent (.i (by repeat constructor))⟩⟩)
      · rw [if_neg (by omega)] at hgo
        have hb2 := hnx (by omega)
        refine .go ?_; repeat constructor
        refine EL.move rfl rfl rfl ?_
        refine EL.assign rfl rfl rfl ?_
        refine .go ?_; repeat constructor
        refine PX.loop (i + 1, m, nx, decide (k.kind = 3), decide (k.kind = 3) || decide (k.kind = 1), A') ⟨hb2.2, by simp only; omega, by simp only; have := congrArg List.tail hgo; simpa [List.tail_drop] using this, by simp only; omega, hI'⟩ (by simp only; omega) ⟨rfl, rfl, rfl, rfl, rfl, trivial⟩ (.i (by repeat constructor))
    · refine EL.not rfl rfl rfl ?_
      refine EL.move rfl rfl rfl ?_
      refine EL.rew (d := 33) (v' := .bool true) rfl (by first | rfl | (decide) | (simp)) ?_
      refine EL.pass rfl rfl rfl ?_
      refine EL.pass rfl rfl rfl ?_
      refine EL.pass rfl rfl rfl ?_
      refine EL.pickT rfl rfl rfl rfl ?_
      refine .go ?_; repeat constructor
      refine ES.condT rfl ?_
      refine .go ?_; repeat constructor
      exact PX.ret rfl Tryz.results75 .nil (fun w hs => ⟨⟨_, rfl⟩, .inr ⟨_, A', hX', hs.ent (.i (by repeat constructor))⟩⟩)
  · have hlen : (yt t).length = i := by
      have h1 : toksGo t n a f b = [] := by
        cases n with
        | zero => rfl
        | succ n => rw [toksGo, if_pos (by omega)]
      rw [h1] at hgo
      have := congrArg List.length hgo
      simp only [List.length_nil, List.length_drop] at this
      simp only [List.length_map]; omega
    refine .go ?_; repeat constructor
    exact PX.end rfl Tryz.results75 .nil (fun w hs => ⟨⟨_, rfl⟩, .inl ⟨A, by rw [hlen]; exact hI, hs.ent (.i (by repeat constructor))⟩⟩)
theorem tokens_c (t : List UInt8) (w : World) : Pure Tryz.prog 58 #[Sv t] (fun g : Nat => .func (.func 75) #[] #[Pv g 0]) (fun g => [HA.blk g (.cells #[Sv t] 9)]) w := by
  refine calls_of_ES TB Tryz.func58 rfl _ Tryz.ntmps58 rfl (Sat.start w) ?_
  refine .go ?_; repeat constructor
  (refine EL.box rfl rfl rfl ?_; intro g1)
  refine EL.assign rfl rfl rfl ?_
  refine .go ?_; repeat constructor
  refine EL.makeFunc rfl rfl rfl ?_
  refine EL.assign rfl rfl rfl ?_
  refine .go ?_; repeat constructor
  exact PX.ret rfl Tryz.results58 (.cons (.tmp rfl) .nil) (fun w hs => ⟨g1, rfl, hs.ent (.i (by repeat constructor))⟩)
def frC (kad : Option Addr) (n kcap : Nat) (sad : Option Addr) (m scap gr at_ : Nat) : List Value := [.slice kad n kcap, .slice sad m scap, Iv (gr : Nat), Iv (at_ : Nat)]
theorem pre_at (pre cs : List Value) (k i : Nat) (h : pre.length = k) : (pre ++ cs)[k + i]? = cs[i]? := by
  rw [List.getElem?_append_right (by omega), h]; congr 1; omega
theorem pre_set (pre cs : List Value) (k i : Nat) (u : Value) (h : pre.length = k) : (pre ++ cs).set (k + i) u = pre ++ cs.set i u := by
  rw [List.set_append_right _ _ (by omega), h]; congr 2; omega
abbrev FB (fg m fcap : Nat) (cs : List Value) : HA := HA.row (.slice (some ⟨fg, 0, none⟩) m fcap) 147 4 m cs
abbrev PB (g fg m fcap : Nat) (rest : List Value) : HA := HA.blk g (.cells (Value.slice (some ⟨fg, 0, none⟩) m fcap :: rest).toArray 151)
abbrev KR (kad : Option Addr) (n kcap : Nat) (kcs : List Value) : HA := HA.row (.slice kad n kcap) 46 9 n kcs
abbrev ZR (sad : Option Addr) (scap : Nat) (zs : List Nat) : HA := HA.row (.slice sad zs.length scap) 3 1 zs.length (zs.map fun z : Nat => Iv (z : Nat))
theorem put_end (kcs z9 rc : List Value) (off : Nat) (h1 : kcs.length = off) (h2 : z9.length = rc.length) : putAt (kcs ++ z9) off rc = kcs ++ rc := by
  unfold putAt
  rw [List.take_left' h1, List.drop_of_length_le (by rw [List.length_append]; omega), List.append_nil]
theorem top_c (g fg k fcap : Nat) (rest cs : List Value) (hk : k ≤ 4096) :
    Mut Tryz.prog 60 #[Pv g 0] [PB g fg (k + 1) fcap rest, FB fg (k + 1) fcap cs] (fun _ : Unit => Pv fg (k * 4)) (fun _ => [PB g fg (k + 1) fcap rest, FB fg (k + 1) fcap cs]) := by
  intro w0 B R w h
  replace h : Sat w0 B (PB g fg (k + 1) fcap rest :: FB fg (k + 1) fcap cs :: R) w := h
  refine calls_of_ES TB Tryz.func60 rfl _ Tryz.ntmps60 rfl h ?_
  refine .go ?_; repeat constructor
  refine EL.assign rfl rfl rfl ?_
  refine .go ?_; repeat constructor
  refine ES.draw (X := Unit) (fun _ => [(2, Pv fg (k * 4))]) (fun _ => PB g fg (k + 1) fcap rest :: FB fg (k + 1) fcap cs :: R) (PB g fg (k + 1) fcap rest :: FB fg (k + 1) fcap cs :: R) mixed (.i (by repeat constructor)) ?_ (fun _ => ?_)
  · refine ED.take 0 rfl (by decide +kernel) CutX.no_panic (by decide +kernel) rfl rfl rfl (RV.move rfl) ?_
    refine ED.take 1 rfl (by decide +kernel) CutX.no_panic (by decide +kernel) rfl rfl rfl (RV.nilCheck rfl) ?_
    refine ED.take 2 rfl (by decide +kernel) CutX.no_panic (by decide +kernel) rfl rfl rfl (RV.fieldAddr rfl rfl rfl rfl rfl rfl) ?_
    refine ED.take 3 rfl (by decide +kernel) CutX.no_panic (by decide +kernel) rfl rfl rfl (RV.loadB rfl rfl rfl (by repeat constructor) rfl) ?_
    refine ED.take 4 rfl (by decide +kernel) CutX.no_panic (by decide +kernel) rfl rfl rfl (RV.move rfl) ?_
    refine ED.take 5 rfl (by decide +kernel) CutX.no_panic (by decide +kernel) rfl rfl rfl (RV.nilCheck rfl) ?_
    refine ED.take 6 rfl (by decide +kernel) CutX.no_panic (by decide +kernel) rfl rfl rfl (RV.fieldAddr rfl rfl rfl rfl rfl rfl) ?_
    refine ED.take 7 rfl (by decide +kernel) CutX.no_panic (by decide +kernel) rfl rfl rfl (RV.loadB rfl rfl rfl (by repeat constructor) rfl) ?_
    refine ED.take 8 rfl (by decide +kernel) CutX.no_panic (by decide +kernel) rfl rfl rfl (RV.lenL rfl rfl rfl) ?_
    refine ED.take 9 rfl (by decide +kernel) CutX.no_panic (by decide +kernel) rfl rfl rfl (RV.sub1 rfl rfl (by omega) (by omega)) ?_
    refine ED.take 10 rfl (by decide +kernel) CutX.no_panic (by decide +kernel) rfl rfl rfl (RV.indexAddrL rfl rfl rfl rfl rfl (by omega)) ?_
    refine ED.take 11 rfl (by decide +kernel) CutX.no_panic (by decide +kernel) rfl rfl rfl (RV.assign rfl) ?_
    refine ED.done (by decide +kernel) ?_
    exact PX.cutX () ⟨getA rfl (congrArg (Pv fg) (Nat.zero_add _)), trivial⟩ (.i (by repeat constructor))
  refine .go ?_; repeat constructor
  exact PX.ret rfl Tryz.results60 (.cons (.tmp rfl) .nil) (fun w hs => ⟨(), rfl, hs.ent (.i (by repeat constructor))⟩)
theorem put_c (g fg k fcap : Nat) (rest pre : List Value) (hpre : pre.length = k * 4) (hk : k ≤ 4096) (kad : Option Addr) (n kcap : Nat) (sad : Option Addr) (scap gr at_ : Nat) (kcs rc : List Value) (zs : List Nat) (z : Nat) (hn : n ≤ 65536) (hz : zs.length ≤ 65536) (hkl : kcs.length = n * 9) (hrc : rc.length = 9) (h1 : ∀ u ∈ rc, u.oneCell' = true) :
    Mut Tryz.prog 77 #[Pv g 0, .agg rc.toArray, Iv (z : Nat)] [PB g fg (k + 1) fcap rest, FB fg (k + 1) fcap (pre ++ frC kad n kcap sad zs.length scap gr at_), KR kad n kcap kcs, ZR sad scap zs]
      (fun _ : (Option Addr × Nat) × (Option Addr × Nat) => Iv 0)
      (fun x => [PB g fg (k + 1) fcap rest, FB fg (k + 1) fcap (pre ++ frC x.1.1 (n + 1) x.1.2 x.2.1 (zs.length + 1) x.2.2 gr at_), KR x.1.1 (n + 1) x.1.2 (kcs ++ rc), ZR x.2.1 x.2.2 (zs ++ [z])]) := by
  intro w0 B R w h
  replace h : Sat w0 B (PB g fg (k + 1) fcap rest :: FB fg (k + 1) fcap (pre ++ frC kad n kcap sad zs.length scap gr at_) :: KR kad n kcap kcs :: ZR sad scap zs :: R) w := h
  have htop := top_c g fg k fcap rest (pre ++ frC kad n kcap sad zs.length scap gr at_) hk
  refine calls_of_ES TB Tryz.func77 rfl _ Tryz.ntmps77 rfl h ?_
  refine .go ?_; repeat constructor
  (refine EL.box rfl rfl rfl ?_; intro g4)
  refine EL.assign rfl rfl rfl ?_
  refine .go ?_; repeat constructor
  refine EL.move rfl rfl rfl ?_
  refine EL.callM1 rfl rfl rfl ent60 rfl htop (by repeat constructor) ?_
  refine EL.assign rfl rfl rfl ?_
  refine .go ?_; repeat constructor
  refine ES.drawG (X := Nat × Nat) (fun x => [(0, Pv g 0), (2, Iv (z : Nat)), (7, Pv fg (k * 4))]) (fun x => PB g fg (k + 1) fcap rest :: FB fg (k + 1) fcap (pre ++ frC (some ⟨x.1, 0, none⟩) (n + 1) x.2 sad zs.length scap gr at_) :: KR (some ⟨x.1, 0, none⟩) (n + 1) x.2 (kcs ++ rc) :: ZR sad scap zs :: R) 7
    (HA.blk g4 (.cells rc.toArray 46) :: FB fg (k + 1) fcap (pre ++ frC kad n kcap sad zs.length scap gr at_) :: R) mixed (by decide +kernel) (.i (by repeat constructor)) ?_ (fun x => ?_)
  · refine EG.take 0 rfl (by decide +kernel) CutX.no_panic (by decide +kernel) rfl rfl rfl (RV.move rfl) ?_
    refine EG.take 1 rfl (by decide +kernel) CutX.no_panic (by decide +kernel) rfl rfl rfl (RV.nilCheck rfl) ?_
    refine EG.take 2 rfl (by decide +kernel) CutX.no_panic (by decide +kernel) rfl rfl rfl (RV.fieldAddr rfl rfl rfl rfl rfl rfl) ?_
    refine EG.take 3 rfl (by decide +kernel) CutX.no_panic (by decide +kernel) rfl rfl rfl (RV.loadR rfl rfl rfl (by repeat constructor) (pre_at pre _ (k * 4) 0 hpre)) ?_
    refine EG.take 4 rfl (by decide +kernel) CutX.no_panic (by decide +kernel) rfl rfl rfl (RV.loadBA rc rfl rfl rfl (by rw [hrc]; rfl) (by repeat constructor) (by simp)) ?_
    refine EG.take 5 rfl (by decide +kernel) CutX.no_panic (by decide +kernel) rfl rfl rfl (RV.lenL rfl rfl rfl) ?_
    refine EG.loud 6 rfl (by decide +kernel) ?_
    (refine EL.buildSlice1 rfl rfl rfl rfl rfl rfl rfl rfl rfl rfl ?_; intro b16)
    refine EG.next (by decide +kernel) rfl (.i (by repeat constructor)) ?_
    refine EG.loud 7 rfl (by decide +kernel) ?_
    (refine EL.append1 rfl rfl rfl rfl rfl rfl rfl rfl rfl (by repeat constructor) (by repeat constructor) (by first | (intro u hu; simp [Value.cells] at hu; subst hu; rfl) | exact all1 rfl) (by rfl) (by unfold maxLen; omega) (by first | omega | (show 1 * _ ≤ _; omega) | (show 8 * _ ≤ _; omega) | (show 16 * _ ≤ _; omega) | (show 24 * _ ≤ _; omega) | (show _ * 1 ≤ _; omega) | (show _ * 8 ≤ _; omega) | (show _ * 16 ≤ _; omega) | (show _ * 24 ≤ _; omega) | exact Nat.le_trans (Nat.mul_le_mul_right _ (show _ ≤ 1073741824 by omega)) (by decide)) ?_; intro a17 c17)
    refine EG.nextL (by decide +kernel) rfl (by decide +kernel) ?_
    refine EG.take 8 rfl (by decide +kernel) CutX.no_panic (by decide +kernel) rfl rfl rfl (RV.indexAddrL (i := n) rfl rfl rfl rfl rfl (by omega)) ?_
    refine EG.take 10 rfl (by decide +kernel) CutX.no_panic (by decide +kernel) rfl rfl rfl (RV.nilCheck rfl) ?_
    refine EG.take 11 rfl (by decide +kernel) CutX.no_panic (by decide +kernel) rfl rfl rfl (RV.fieldAddr rfl rfl rfl rfl rfl rfl) ?_
    refine EG.fork 9 [12] (by decide +kernel) ⟨⟨_, rfl, ?_⟩, ⟨_, rfl, ?_⟩, trivial⟩
    · (refine EL.storeRA (vs := rc) rfl rfl rfl rfl (by rw [hrc]; rfl) (by repeat constructor) (by rw [List.length_append, hkl, hrc]; exact Nat.le_of_eq (by show 0 + n * 9 + 9 = n * 9 + 9; omega)) h1 ?_; refine EL.rowEq (v := .slice (some ⟨a17, 0, none⟩) (n + 1) c17) (by repeat constructor) (put_end _ _ _ _ (by rw [hkl]; show n * 9 = 0 + n * 9; omega) (by rw [hrc]; rfl)) ?_)
      refine EG.nextL (by decide +kernel) rfl (by decide +kernel) ?_
      refine EG.loud 12 rfl (by decide +kernel) ?_
      (refine EL.storeR rfl rfl rfl rfl rfl rfl (by repeat constructor) (by rw [List.length_append, hpre]; show k * 4 + 0 < k * 4 + 4; omega) ?_; refine EL.rowEq (v := .slice (some ⟨fg, 0, none⟩) (k + 1) fcap) (by repeat constructor) (pre_set pre _ (k * 4) 0 _ hpre) ?_)
      refine EG.nextL (by decide +kernel) rfl (by decide +kernel) ?_
      refine EG.done (by decide +kernel) ?_
      exact PX.cutX (a17, c17) ⟨rfl, rfl, rfl, trivial⟩ (.i (by repeat constructor))
    · (refine EL.storeR rfl rfl rfl rfl rfl rfl (by repeat constructor) (by rw [List.length_append, hpre]; show k * 4 + 0 < k * 4 + 4; omega) ?_; refine EL.rowEq (v := .slice (some ⟨fg, 0, none⟩) (k + 1) fcap) (by repeat constructor) (pre_set pre _ (k * 4) 0 _ hpre) ?_)
      refine EG.nextL (by decide +kernel) rfl (by decide +kernel) ?_
      refine EG.loud 9 rfl (by decide +kernel) ?_
      (refine EL.storeRA (vs := rc) rfl rfl rfl rfl (by rw [hrc]; rfl) (by repeat constructor) (by rw [List.length_append, hkl, hrc]; exact Nat.le_of_eq (by show 0 + n * 9 + 9 = n * 9 + 9; omega)) h1 ?_; refine EL.rowEq (v := .slice (some ⟨a17, 0, none⟩) (n + 1) c17) (by repeat constructor) (put_end _ _ _ _ (by rw [hkl]; show n * 9 = 0 + n * 9; omega) (by rw [hrc]; rfl)) ?_)
      refine EG.nextL (by decide +kernel) rfl (by decide +kernel) ?_
      refine EG.done (by decide +kernel) ?_
      exact PX.cutX (a17, c17) ⟨rfl, rfl, rfl, trivial⟩ (.i (by repeat constructor))
  obtain ⟨kg, kc⟩ := x
  dsimp only
  refine .go ?_; repeat constructor
  refine EL.move rfl rfl rfl ?_
  refine EL.move rfl rfl rfl ?_
  refine EL.nilCheck rfl rfl rfl ?_
  refine EL.fieldAddr rfl rfl rfl rfl rfl rfl rfl rfl ?_
  refine EL.loadR rfl rfl rfl rfl rfl (by repeat constructor) (pre_at pre _ (k * 4) 1 hpre) ?_
  refine EL.move rfl rfl rfl ?_
  (refine EL.buildSlice1 rfl rfl rfl rfl rfl rfl rfl rfl rfl rfl ?_; intro b27)
  (refine EL.append1 rfl rfl rfl rfl rfl rfl rfl rfl rfl (by repeat constructor) (by repeat constructor) (by first | (intro u hu; simp [Value.cells] at hu; subst hu; rfl) | exact all1 rfl) (by rfl) (by unfold maxLen; omega) (by first | omega | (show 1 * _ ≤ _; omega) | (show 8 * _ ≤ _; omega) | (show 16 * _ ≤ _; omega) | (show 24 * _ ≤ _; omega) | (show _ * 1 ≤ _; omega) | (show _ * 8 ≤ _; omega) | (show _ * 16 ≤ _; omega) | (show _ * 24 ≤ _; omega) | exact Nat.le_trans (Nat.mul_le_mul_right _ (show _ ≤ 1073741824 by omega)) (by decide)) ?_; intro a28 c28)
  refine EL.nilCheck rfl rfl rfl ?_
  refine EL.fieldAddr rfl rfl rfl rfl rfl rfl rfl rfl ?_
  (refine EL.storeR rfl rfl rfl rfl rfl rfl (by repeat constructor) (by rw [List.length_append, hpre]; show k * 4 + 1 < k * 4 + 4; omega) ?_; refine EL.rowEq (v := .slice (some ⟨fg, 0, none⟩) (k + 1) fcap) (by repeat constructor) (pre_set pre _ (k * 4) 1 _ hpre) ?_)
  refine .go ?_; repeat constructor
  refine EL.assign rfl rfl rfl ?_
  refine .go ?_; repeat constructor
  refine PX.ret rfl Tryz.results77 (.cons (.tmp rfl) .nil) (fun w hs => ⟨((some ⟨kg, 0, none⟩, kc), (some ⟨a28, 0, none⟩, c28)), rfl, ?_⟩)
  show Sat w0 B (PB g fg (k + 1) fcap rest :: FB fg (k + 1) fcap (pre ++ frC (some ⟨kg, 0, none⟩) (n + 1) kc (some ⟨a28, 0, none⟩) (zs.length + 1) c28 gr at_) :: KR (some ⟨kg, 0, none⟩) (n + 1) kc (kcs ++ rc) :: HA.row (.slice (some ⟨a28, 0, none⟩) (zs ++ [z]).length c28) 3 1 (zs ++ [z]).length ((zs ++ [z]).map fun z : Nat => Iv (z : Nat)) :: R) w
  rw [List.length_append, List.length_singleton, List.map_append]
  exact hs.ent (.i (by repeat constructor))
end Go.Proofs.YtblpgpgbnlhjlaaGreat
