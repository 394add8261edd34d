/- Layer 3 (bracket): bracket expressions, item by item. -/
import Derived.Test.YtgoopgnnkhpmlaaDoorDc
import Derived.Test.YtgoopgnnkhpmlaaDoorSlm
import Derived.Test.YtgoopgnnkhpmlaaDoorShelf
import Derived.Lib.IndexMore
namespace Go.Proofs.YtgoopgnnkhpmlaaDoor
open Go Go.RowKit Sl
set_option maxRecDepth 100000
set_option maxHeartbeats 8000000
set_option linter.unusedVariables false
set_option linter.unusedSimpArgs false
attribute [local irreducible] ES EL PX wps

/-! the library's searches -/
def idxB (l : List UInt8) (c : UInt8) : Int := Lib.indexByte l c
theorem idxB_nonneg (l : List UInt8) (c : UInt8) : 0 ≤ idxB l c ↔ c ∈ l := by
  unfold idxB
  induction l with
  | nil => simp [Lib.indexByte]
  | cons b l ih =>
    have hge := Lib.indexByte_ge l c
    by_cases h : b = c
    · subst h; simp [Lib.indexByte]
    · have h' : c ≠ b := fun e => h e.symm
      simp only [Lib.indexByte, beq_iff_eq, h, if_false, List.mem_cons, h', false_or]
      rw [← ih]
      by_cases h2 : Lib.indexByte l c = -1
      · rw [if_pos h2, h2]
      · rw [if_neg h2]; omega
/-- What the library's MaxLen holds, whatever it be. -/
def GR (w : World) (B : Nat) : Prop := ∃ m : Int, Rd w B (some ⟨1, 0, none⟩) [Iv m]
theorem GR.sat {w0 w : World} {B : Nat} {H : List HA} (h : GR w0 B) (hs : Sat w0 B H w) : GR w w.heap.size := by
  obtain ⟨m, hm⟩ := h
  exact ⟨m, Rd.sat hm hs⟩
theorem GR.of {w : World} (h : w.ShapedOpen Tryd.prog) : GR w w.heap.size := by
  obtain ⟨m, hm⟩ := Tryd.lays143.s1_3 w h
  have hm' : w.cell? ⟨1, 0, none⟩ = some (.int .i64 m) := hm
  refine ⟨m, fun _ => ⟨_, _, rfl, World.block_lt_of_cell? _ _ hm', fun j v hj => ?_⟩⟩
  cases j with
  | zero => simp only [List.getElem?_cons_zero, Option.some.injEq] at hj; subst hj; exact hm'
  | succ j => simp at hj
theorem sindex_c (l sub : List UInt8) (hl : l.length < 4294967281) (w : World) (hG : GR w w.heap.size) : Pure Tryd.prog 26 #[Sv l, Sv sub] (fun _ : Unit => Iv (Lib.index l sub)) (fun _ => []) w := by
  obtain ⟨m, hm⟩ := hG
  obtain ⟨g, off, h1, _, h3⟩ := hm (by simp)
  have hc : w.cell? ⟨1, 0, none⟩ = some (.int .i64 m) := by
    cases h1; exact h3 0 _ rfl
  exact (Any.strings_Index { Tryd.lays143 with } ⟨l.toArray⟩ ⟨sub.toArray⟩ m w hl hc).mono fun e w' ⟨he, hw⟩ => ⟨(), he, by subst hw; exact Sat.start _⟩
theorem ext_index (l : List UInt8) (c : UInt8) (w : World) : (callFunc 28 #[Sv l, Uv c]).run Tryd.prog w = .ok (.value (Iv (idxB l c))) w := by
  rw [run_callFunc_extern (e := Extern.BytealgIndexByte.indexByte) Tryd.func28 (by kernel_rfl) (by kernel_rfl) (by kernel_rfl) (by kernel_rfl), Lib.run_indexByteString]
  simp [Result.andThen, idxB]
theorem lite_c (l : List UInt8) (c : UInt8) (w : World) : Pure Tryd.prog 25 #[Sv l, Uv c] (fun _ : Unit => Iv (idxB l c)) (fun _ => []) w := by
  refine calls_of_ES TB Tryd.func25 rfl _ Tryd.ntmps25 rfl (Sat.start w) ?_
  refine .go ?_; repeat constructor
  refine EL.assign rfl rfl rfl ?_
  refine .go ?_; repeat constructor
  refine EL.move rfl rfl rfl ?_
  refine EL.move rfl rfl rfl ?_
  refine EL.callE rfl rfl rfl rfl (ext_index l c) ?_
  refine EL.assign rfl rfl rfl ?_
  refine .go ?_; repeat constructor
  exact PX.ret rfl Tryd.results25 (.cons (.tmp rfl) .nil) (fun w hs => ⟨(), rfl, hs.ent (.nil _)⟩)
theorem index_c (l : List UInt8) (c : UInt8) (w : World) : Pure Tryd.prog 22 #[Sv l, Uv c] (fun _ : Unit => Iv (idxB l c)) (fun _ => []) w := by
  refine calls_of_ES TB Tryd.func22 rfl _ Tryd.ntmps22 rfl (Sat.start w) ?_
  refine .go ?_; repeat constructor
  refine EL.assign rfl rfl rfl ?_
  refine .go ?_; repeat constructor
  refine EL.move rfl rfl rfl ?_
  refine EL.move rfl rfl rfl ?_
  refine EL.callP rfl rfl rfl ent25 rfl (lite_c _ _) ?_
  refine EL.assign rfl rfl rfl ?_
  refine .go ?_; repeat constructor
  exact PX.ret rfl Tryd.results22 (.cons (.tmp rfl) .nil) (fun w hs => ⟨(), rfl, hs.ent (.nil _)⟩)

/-! a name between its marks -/
abbrev RD (g : Nat) (t : List UInt8) (a : Nat) (e : Int) : HA := HA.blk g (.cells #[Sv t, Iv (a : Nat), Iv e] 34)
def nmK (t : List UInt8) (a : Nat) : Int := if a + 2 < t.length then Lib.index (t.drop (a + 2 + 1)) [t.getD (a + 1) 0, 93] else -1
def nmN (t : List UInt8) (a : Nat) : List UInt8 := if nmK t a < 0 then [] else (t.drop (a + 2)).take (1 + (nmK t a).toNat)
def nmA (t : List UInt8) (a : Nat) : Nat := if nmK t a < 0 then a else a + 2 + 1 + (nmK t a).toNat + 2
def nmE (t : List UInt8) (a : Nat) : Int := if nmK t a < 0 then 6 else 0
theorem nmK_room (t : List UInt8) (a k : Nat) (h : nmK t a = k) : a + 2 + 1 + k + 2 ≤ t.length := by
  unfold nmK at h
  split at h
  · have := Lib.index_room (t.drop (a + 2 + 1)) [t.getD (a + 1) 0, 93] (by omega)
    rw [h] at this
    simp only [List.length_drop, List.length_cons, List.length_nil] at this
    omega
  · omega
theorem nm_at (t : List UInt8) (a : Nat) (h : a ≤ t.length) : a ≤ nmA t a ∧ nmA t a ≤ t.length := by
  unfold nmA
  split
  · omega
  · have := nmK_room t a (nmK t a).toNat (by omega)
    omega
theorem named_c (g : Nat) (t : List UInt8) (a : Nat) (ha : a + 1 < t.length) (ht : t.length ≤ 1073741824) (w0 : World) (B : Nat) (hG : GR w0 B) :
    MutAt Tryd.prog 23 #[Pv g 0] [RD g t a 0] (fun _ : Unit => .tuple #[Sv (nmN t a), Uv (t.getD (a + 1) 0)]) (fun _ => [RD g t (nmA t a) (nmE t a)]) w0 B := by
  intro R w h
  replace h : Sat w0 B (RD g t a 0 :: R) w := h
  have hroom := nmK_room t a
  refine calls_of_ES TB Tryd.func23 rfl _ Tryd.ntmps23 rfl h ?_
  refine .go ?_; repeat constructor
  refine EL.assign rfl rfl rfl ?_
  refine EL.assign rfl rfl rfl ?_
  refine .go ?_; repeat constructor
  refine ES.draw (X := Unit) (fun _ => [(0, Pv g 0), (4, Uv (t.getD (a + 1) 0))]) (fun _ => RD g t a 0 :: R) (RD g t a 0 :: R) mixed (.i (by repeat constructor)) ?_ (fun _ => ?_)
  · refine ED.take 0 rfl (by decide +kernel) CutX.no_panic (by decide +kernel) rfl rfl rfl (RV.move rfl) ?_
    refine ED.take 1 rfl (by decide +kernel) CutX.no_panic (by decide +kernel) rfl rfl rfl (RV.nilCheck rfl) ?_
    refine ED.take 2 rfl (by decide +kernel) CutX.no_panic (by decide +kernel) rfl rfl rfl (RV.fieldAddr rfl rfl rfl rfl rfl rfl) ?_
    refine ED.take 3 rfl (by decide +kernel) CutX.no_panic (by decide +kernel) rfl rfl rfl (RV.loadB rfl rfl rfl (by repeat constructor) rfl) ?_
    refine ED.take 4 rfl (by decide +kernel) CutX.no_panic (by decide +kernel) rfl rfl rfl (RV.move rfl) ?_
    refine ED.take 5 rfl (by decide +kernel) CutX.no_panic (by decide +kernel) rfl rfl rfl (RV.nilCheck rfl) ?_
    refine ED.take 6 rfl (by decide +kernel) CutX.no_panic (by decide +kernel) rfl rfl rfl (RV.fieldAddr rfl rfl rfl rfl rfl rfl) ?_
    refine ED.take 7 rfl (by decide +kernel) CutX.no_panic (by decide +kernel) rfl rfl rfl (RV.loadB rfl rfl rfl (by repeat constructor) rfl) ?_
    refine ED.take 8 rfl (by decide +kernel) CutX.no_panic (by decide +kernel) rfl rfl rfl (RV.add1 rfl rfl (by omega)) ?_
    refine ED.take 9 rfl (by decide +kernel) CutX.no_panic (by decide +kernel) rfl rfl rfl (RV.indexSN rfl rfl rfl rfl (by omega)) ?_
    refine ED.take 10 rfl (by decide +kernel) CutX.no_panic (by decide +kernel) rfl rfl rfl (RV.assign rfl) ?_
    refine ED.done (by decide +kernel) ?_
    exact PX.cutX () ⟨rfl, rfl, trivial⟩ (.i (by repeat constructor))
  refine .go ?_; repeat constructor
  refine EL.move rfl rfl rfl ?_
  refine EL.nilCheck rfl rfl rfl ?_
  refine EL.fieldAddr rfl rfl rfl rfl rfl rfl rfl rfl ?_
  (apply EL.loadB; exact rfl; exact rfl; exact rfl; exact rfl; exact rfl; (case hm => repeat constructor); exact rfl)
  refine EL.addN (n := 2) rfl rfl rfl rfl rfl (by omega) ?_
  refine EL.assign rfl rfl rfl ?_
  refine .go ?_; repeat constructor
  refine EL.assign rfl rfl rfl ?_
  refine .go ?_; repeat constructor
  refine EL.move rfl rfl rfl ?_
  refine EL.move rfl rfl rfl ?_
  refine EL.nilCheck rfl rfl rfl ?_
  refine EL.fieldAddr rfl rfl rfl rfl rfl rfl rfl rfl ?_
  (apply EL.loadB; exact rfl; exact rfl; exact rfl; exact rfl; exact rfl; (case hm => repeat constructor); exact rfl)
  refine EL.lenS rfl rfl rfl rfl rfl ?_
  refine EL.lss rfl rfl rfl rfl ?_
  refine .go ?_; repeat constructor
  refine ES.cutC (X := Unit) (fun _ => [(0, Pv g 0), (4, Uv (t.getD (a + 1) 0)), (5, Iv ((a + 2 : Nat) : Int)), (6, Iv (nmK t a))]) (fun _ => RD g t a 0 :: R) ?_ (fun _ => ?_)
  · refine ES.condD rfl (fun hlt => ?_) (fun hge => ?_)
    · have hlt' : a + 2 < t.length := by omega
      refine .g0 ?_; repeat constructor
      refine ES.draw (X := Unit) (fun _ => [(0, Pv g 0), (4, Uv (t.getD (a + 1) 0)), (5, Iv ((a + 2 : Nat) : Int)), (6, Iv (nmK t a))]) (fun _ => RD g t a 0 :: R) (RD g t a 0 :: R) mixed (.i (by repeat constructor)) ?_ (fun _ => ?_)
      · refine ED.take 0 rfl (by decide +kernel) CutX.no_panic (by decide +kernel) rfl rfl rfl (RV.move rfl) ?_
        refine ED.take 1 rfl (by decide +kernel) CutX.no_panic (by decide +kernel) rfl rfl rfl (RV.nilCheck rfl) ?_
        refine ED.take 2 rfl (by decide +kernel) CutX.no_panic (by decide +kernel) rfl rfl rfl (RV.fieldAddr rfl rfl rfl rfl rfl rfl) ?_
        refine ED.take 3 rfl (by decide +kernel) CutX.no_panic (by decide +kernel) rfl rfl rfl (RV.loadB rfl rfl rfl (by repeat constructor) rfl) ?_
        refine ED.take 4 rfl (by decide +kernel) CutX.no_panic (by decide +kernel) rfl rfl rfl (RV.move rfl) ?_
        refine ED.take 5 rfl (by decide +kernel) CutX.no_panic (by decide +kernel) rfl rfl rfl (RV.add1 rfl rfl (by omega)) ?_
        refine ED.take 6 rfl (by decide +kernel) CutX.no_panic (by decide +kernel) rfl rfl rfl (RV.sliceS rfl rfl rfl ⟨_, rfl⟩ rfl (by omega) (by omega)) ?_
        refine ED.take 7 rfl (by decide +kernel) CutX.no_panic (by decide +kernel) rfl rfl rfl (RV.move rfl) ?_
        refine ED.loud 8 rfl (by decide +kernel) ?_
        (refine EL.buildSliceS [Uv (t.getD (a + 1) 0), .int .u8 93] rfl rfl rfl rfl rfl rfl rfl rfl rfl rfl (by intro u hu; simp only [List.mem_cons, List.not_mem_nil, or_false] at hu; rcases hu with rfl | rfl <;> rfl) ?_; intro b37)
        refine ED.next (.i (by repeat constructor)) ?_
        refine ED.loud 9 rfl (by decide +kernel) ?_
        (refine EL.bytesS (bs := [t.getD (a + 1) 0, 93]) rfl rfl rfl rfl rfl rfl rfl rfl rfl (by repeat constructor) ?_)
        refine ED.next (.i (by repeat constructor)) ?_
        refine ED.loud 10 rfl (by decide +kernel) ?_
        (refine EL.callPw rfl rfl rfl ent26 rfl (fun w hs => sindex_c _ _ (by simp only [List.length_take, List.length_drop]; omega) w (GR.sat hG hs)) ?_)
        refine ED.next (.i (by repeat constructor)) ?_
        refine ED.take 11 rfl (by decide +kernel) CutX.no_panic (by decide +kernel) rfl rfl rfl (RV.assign rfl) ?_
        refine ED.done (by decide +kernel) ?_
        exact PX.cutX () ⟨rfl, rfl, rfl, getA rfl (congrArg Iv (by unfold nmK; rw [if_pos hlt', List.take_of_length_le (by simp)])), trivial⟩ (.i (by repeat constructor))
      refine .go ?_; repeat constructor
      exact PX.cutX () ⟨rfl, rfl, rfl, rfl, trivial⟩ (.i (by repeat constructor))
    · refine .go ?_; repeat constructor
      exact PX.cutX () ⟨rfl, rfl, rfl, getA rfl (congrArg Iv (by unfold nmK; rw [if_neg (by omega)])), trivial⟩ (.i (by repeat constructor))
  refine .go ?_; repeat constructor
  refine EL.move rfl rfl rfl ?_
  refine EL.lss rfl rfl rfl rfl ?_
  refine .go ?_; repeat constructor
  refine ES.condD rfl (fun hneg => ?_) (fun hpos => ?_)
  · have e1 : nmN t a = [] := by unfold nmN; rw [if_pos hneg]
    have e2 : nmA t a = a := by unfold nmA; rw [if_pos hneg]
    have e3 : nmE t a = 6 := by unfold nmE; rw [if_pos hneg]
    refine .go ?_; repeat constructor
    refine EL.move rfl rfl rfl ?_
    refine EL.nilCheck rfl rfl rfl ?_
    refine EL.fieldAddr rfl rfl rfl rfl rfl rfl rfl rfl ?_
    (apply EL.storeB; exact rfl; exact rfl; exact rfl; exact rfl; exact rfl; exact rfl; (case p => repeat constructor); exact (by first | decide | exact Nat.le_of_ble_eq_true rfl | simp))
    refine .go ?_; repeat constructor
    refine EL.move rfl rfl rfl ?_
    refine EL.assign rfl rfl rfl ?_
    refine EL.assign rfl rfl rfl ?_
    refine .go ?_; repeat constructor
    refine PX.ret rfl Tryd.results23 (.cons (.tmp rfl) (.cons (.tmp rfl) .nil)) (fun w hs => ⟨(), by rw [e1]; rfl, ?_⟩)
    rw [e2, e3]; exact hs
  · obtain ⟨k, hk⟩ : ∃ k : Nat, nmK t a = k := ⟨(nmK t a).toNat, by omega⟩
    have hr := hroom k hk
    have e1 : nmN t a = (t.drop (a + 2)).take (1 + k) := by unfold nmN; rw [hk, if_neg (by omega)]; rfl
    have e2 : nmA t a = a + 2 + 1 + k + 2 := by unfold nmA; rw [hk, if_neg (by omega)]; rfl
    have e3 : nmE t a = 0 := by unfold nmE; rw [if_neg hpos]
    rw [hk, e1, e2, e3]
    refine .go ?_; repeat constructor
    refine EL.move rfl rfl rfl ?_
    refine EL.move rfl rfl rfl ?_
    refine EL.add1 rfl rfl rfl rfl (by omega) ?_
    refine EL.move rfl rfl rfl ?_
    refine EL.addN rfl rfl rfl rfl rfl (by omega) ?_
    refine EL.addN (n := 2) rfl rfl rfl rfl rfl (by omega) ?_
    refine EL.nilCheck rfl rfl rfl ?_
    refine EL.fieldAddr rfl rfl rfl rfl rfl rfl rfl rfl ?_
    (apply EL.storeB; exact rfl; exact rfl; exact rfl; exact rfl; exact rfl; exact rfl; (case p => repeat constructor); exact (by first | decide | exact Nat.le_of_ble_eq_true rfl | simp))
    refine .go ?_; repeat constructor
    refine EL.move rfl rfl rfl ?_
    refine EL.nilCheck rfl rfl rfl ?_
    refine EL.fieldAddr rfl rfl rfl rfl rfl rfl rfl rfl ?_
    (apply EL.loadB; exact rfl; exact rfl; exact rfl; exact rfl; exact rfl; (case hm => repeat constructor); exact rfl)
    refine EL.move rfl rfl rfl ?_
    refine EL.move rfl rfl rfl ?_
    refine EL.add1 rfl rfl rfl rfl (by omega) ?_
    refine EL.move rfl rfl rfl ?_
    refine EL.addN rfl rfl rfl rfl rfl (by omega) ?_
    refine EL.sliceS rfl rfl rfl rfl rfl ⟨_, rfl⟩ ⟨_, rfl⟩ (by omega) (by omega) ?_
    refine EL.move rfl rfl rfl ?_
    refine EL.assign rfl rfl rfl ?_
    refine EL.assign rfl rfl rfl ?_
    refine .go ?_; repeat constructor
    refine PX.ret rfl Tryd.results23 (.cons (.tmp rfl) (.cons (.tmp rfl) .nil)) (fun w hs => ⟨(), ?_, hs⟩)
    rw [show a + 2 + 1 + k - (a + 2) = 1 + k by omega]; rfl

/-! an item -/
structure It where
  set : BS
  b : UInt8
  single : Bool
  at_ : Nat
  e : Int
def itC (t : List UInt8) (a : Nat) : Bool := !decide (((t.getD a 0).toNat : Int) = 91) || decide ((t.length : Int) ≤ ((a + 1 : Nat) : Int)) || decide (idxB [46, 61, 58] (t.getD (a + 1) 0) < 0)
def itemM (t : List UInt8) (a : Nat) : It :=
  if itC t a = true then ⟨ofS [t.getD a 0], t.getD a 0, true, a + 1, 0⟩
  else if nmE t a ≠ 0 then ⟨zeroS, 0, false, nmA t a, nmE t a⟩
  else if t.getD (a + 1) 0 = 58 then ⟨(classM (nmN t a)).1, 0, false, nmA t a, (classM (nmN t a)).2⟩
  else if (nmN t a).length ≠ 1 then ⟨zeroS, 0, false, nmA t a, 8⟩
  else ⟨ofS (nmN t a), (nmN t a).getD 0 0, decide (t.getD (a + 1) 0 = 46), nmA t a, 0⟩
theorem item_at (t : List UInt8) (a : Nat) (h : a < t.length) : a ≤ (itemM t a).at_ ∧ (itemM t a).at_ ≤ t.length ∧ ((itemM t a).e = 0 → a < (itemM t a).at_) := by
  have hn := nm_at t a (by omega)
  have hs : nmE t a = 0 → a < nmA t a := by
    unfold nmE nmA
    split
    · intro h; cases h
    · intro _; omega
  unfold itemM
  split
  · exact ⟨by simp only; omega, by simp only; omega, fun _ => by simp only; omega⟩
  · split
    · rename_i h1
      exact ⟨hn.1, hn.2, fun h2 => absurd h2 h1⟩
    · rename_i h1
      have := hs (Decidable.of_not_not h1)
      split
      · exact ⟨hn.1, hn.2, fun _ => this⟩
      · split
        · exact ⟨hn.1, hn.2, fun _ => this⟩
        · exact ⟨hn.1, hn.2, fun _ => this⟩
theorem u8_lit (x : UInt8) (n : Nat) (hn : n < 256) : ((x.toNat : Int) = (n : Nat)) ↔ x = UInt8.ofNat n := by
  constructor
  · intro h
    apply UInt8.toNat_inj.1
    have h2 : (UInt8.ofNat n).toNat = n := by simp; omega
    rw [h2]; omega
  · intro h
    subst h
    simp
    omega
theorem item_c (g : Nat) (t : List UInt8) (a : Nat) (ha : a < t.length) (ht : t.length ≤ 1073741824) (w0 : World) (B : Nat) (hG : GR w0 B) :
    MutAt Tryd.prog 17 #[Pv g 0] [RD g t a 0] (fun _ : Unit => .tuple #[Bs (itemM t a).set, Uv (itemM t a).b, .bool (itemM t a).single]) (fun _ => [RD g t (itemM t a).at_ (itemM t a).e]) w0 B := by
  intro R w h
  replace h : Sat w0 B (RD g t a 0 :: R) w := h
  refine calls_of_ES TB Tryd.func17 rfl _ Tryd.ntmps17 rfl h ?_
  refine .go ?_; repeat constructor
  (refine EL.alloc rfl rfl rfl ?_; intro g2)
  refine EL.assign rfl rfl rfl ?_
  refine EL.assign rfl rfl rfl ?_
  refine .go ?_; repeat constructor
  refine ES.draw (X := Unit) (fun _ => [(0, Pv g 0), (2, Pv g2 0), (43, .bool (itC t a))]) (fun _ => SB g2 zeroS :: RD g t a 0 :: R) (SB g2 zeroS :: RD g t a 0 :: R) mixed (.i (by repeat constructor)) ?_ (fun _ => ?_)
  · refine ED.take 0 rfl (by decide +kernel) CutX.no_panic (by decide +kernel) rfl rfl rfl (RV.move rfl) ?_
    refine ED.take 1 rfl (by decide +kernel) CutX.no_panic (by decide +kernel) rfl rfl rfl (RV.nilCheck rfl) ?_
    refine ED.take 2 rfl (by decide +kernel) CutX.no_panic (by decide +kernel) rfl rfl rfl (RV.fieldAddr rfl rfl rfl rfl rfl rfl) ?_
    refine ED.take 3 rfl (by decide +kernel) CutX.no_panic (by decide +kernel) rfl rfl rfl (RV.loadB rfl rfl rfl (by repeat constructor) rfl) ?_
    refine ED.take 4 rfl (by decide +kernel) CutX.no_panic (by decide +kernel) rfl rfl rfl (RV.move rfl) ?_
    refine ED.take 5 rfl (by decide +kernel) CutX.no_panic (by decide +kernel) rfl rfl rfl (RV.nilCheck rfl) ?_
    refine ED.take 6 rfl (by decide +kernel) CutX.no_panic (by decide +kernel) rfl rfl rfl (RV.fieldAddr rfl rfl rfl rfl rfl rfl) ?_
    refine ED.take 7 rfl (by decide +kernel) CutX.no_panic (by decide +kernel) rfl rfl rfl (RV.loadB rfl rfl rfl (by repeat constructor) rfl) ?_
    refine ED.take 8 rfl (by decide +kernel) CutX.no_panic (by decide +kernel) rfl rfl rfl (RV.indexSN rfl rfl rfl rfl (by omega)) ?_
    refine ED.take 9 rfl (by decide +kernel) CutX.no_panic (by decide +kernel) rfl rfl rfl (RV.neqI rfl rfl) ?_
    refine ED.take 10 rfl (by decide +kernel) CutX.no_panic (by decide +kernel) rfl rfl rfl (RV.move rfl) ?_
    first | refine ED.part (d := 17) rfl (fun hp17 => ?_) (fun hp17 => ?_) | refine ED.partN (d := 17) rfl (fun hp17 => ?_) (fun hp17 => ?_) | refine ED.partB (d := 17) rfl (fun hp17 => ?_) (fun hp17 => ?_)
    · refine ED.pass 11 rfl (by decide +kernel) CutX.no_panic (by decide +kernel) rfl rfl rfl ?_
      refine ED.pass 12 rfl (by decide +kernel) CutX.no_panic (by decide +kernel) rfl rfl rfl ?_
      refine ED.pass 13 rfl (by decide +kernel) CutX.no_panic (by decide +kernel) rfl rfl rfl ?_
      refine ED.pass 14 rfl (by decide +kernel) CutX.no_panic (by decide +kernel) rfl rfl rfl ?_
      refine ED.pass 15 rfl (by decide +kernel) CutX.no_panic (by decide +kernel) rfl rfl rfl ?_
      refine ED.pass 16 rfl (by decide +kernel) CutX.no_panic (by decide +kernel) rfl rfl rfl ?_
      refine ED.pass 17 rfl (by decide +kernel) CutX.no_panic (by decide +kernel) rfl rfl rfl ?_
      refine ED.pass 18 rfl (by decide +kernel) CutX.no_panic (by decide +kernel) rfl rfl rfl ?_
      refine ED.pass 19 rfl (by decide +kernel) CutX.no_panic (by decide +kernel) rfl rfl rfl ?_
      refine ED.pass 20 rfl (by decide +kernel) CutX.no_panic (by decide +kernel) rfl rfl rfl ?_
      refine ED.pass 21 rfl (by decide +kernel) CutX.no_panic (by decide +kernel) rfl rfl rfl ?_
      refine ED.take 22 rfl (by decide +kernel) CutX.no_panic (by decide +kernel) rfl rfl rfl (RV.pickT rfl rfl) ?_
      refine ED.take 23 rfl (by decide +kernel) CutX.no_panic (by decide +kernel) rfl rfl rfl (RV.move rfl) ?_
      refine ED.pass 24 rfl (by decide +kernel) CutX.no_panic (by decide +kernel) rfl rfl rfl ?_
      refine ED.pass 25 rfl (by decide +kernel) CutX.no_panic (by decide +kernel) rfl rfl rfl ?_
      refine ED.pass 26 rfl (by decide +kernel) CutX.no_panic (by decide +kernel) rfl rfl rfl ?_
      refine ED.pass 27 rfl (by decide +kernel) CutX.no_panic (by decide +kernel) rfl rfl rfl ?_
      refine ED.pass 28 rfl (by decide +kernel) CutX.no_panic (by decide +kernel) rfl rfl rfl ?_
      refine ED.pass 29 rfl (by decide +kernel) CutX.no_panic (by decide +kernel) rfl rfl rfl ?_
      refine ED.pass 30 rfl (by decide +kernel) CutX.no_panic (by decide +kernel) rfl rfl rfl ?_
      refine ED.pass 31 rfl (by decide +kernel) CutX.no_panic (by decide +kernel) rfl rfl rfl ?_
      refine ED.pass 32 rfl (by decide +kernel) CutX.no_panic (by decide +kernel) rfl rfl rfl ?_
      refine ED.pass 33 rfl (by decide +kernel) CutX.no_panic (by decide +kernel) rfl rfl rfl ?_
      refine ED.pass 34 rfl (by decide +kernel) CutX.no_panic (by decide +kernel) rfl rfl rfl ?_
      refine ED.pass 35 rfl (by decide +kernel) CutX.no_panic (by decide +kernel) rfl rfl rfl ?_
      refine ED.take 36 rfl (by decide +kernel) CutX.no_panic (by decide +kernel) rfl rfl rfl (RV.pickT rfl rfl) ?_
      refine ED.done (by decide +kernel) ?_
      exact PX.cutX () ⟨rfl, rfl, getA rfl (congrArg Value.bool (by unfold itC; simp_all <;> omega)), trivial⟩ (.i (by repeat constructor))
    · refine ED.take 11 rfl (by decide +kernel) CutX.no_panic (by decide +kernel) rfl rfl rfl (RV.move rfl) ?_
      refine ED.take 12 rfl (by decide +kernel) CutX.no_panic (by decide +kernel) rfl rfl rfl (RV.nilCheck rfl) ?_
      refine ED.take 13 rfl (by decide +kernel) CutX.no_panic (by decide +kernel) rfl rfl rfl (RV.fieldAddr rfl rfl rfl rfl rfl rfl) ?_
      refine ED.take 14 rfl (by decide +kernel) CutX.no_panic (by decide +kernel) rfl rfl rfl (RV.loadB rfl rfl rfl (by repeat constructor) rfl) ?_
      refine ED.take 15 rfl (by decide +kernel) CutX.no_panic (by decide +kernel) rfl rfl rfl (RV.add1 rfl rfl (by omega)) ?_
      refine ED.take 16 rfl (by decide +kernel) CutX.no_panic (by decide +kernel) rfl rfl rfl (RV.move rfl) ?_
      refine ED.take 17 rfl (by decide +kernel) CutX.no_panic (by decide +kernel) rfl rfl rfl (RV.nilCheck rfl) ?_
      refine ED.take 18 rfl (by decide +kernel) CutX.no_panic (by decide +kernel) rfl rfl rfl (RV.fieldAddr rfl rfl rfl rfl rfl rfl) ?_
      refine ED.take 19 rfl (by decide +kernel) CutX.no_panic (by decide +kernel) rfl rfl rfl (RV.loadB rfl rfl rfl (by repeat constructor) rfl) ?_
      refine ED.take 20 rfl (by decide +kernel) CutX.no_panic (by decide +kernel) rfl rfl rfl (RV.lenS rfl rfl rfl) ?_
      refine ED.take 21 rfl (by decide +kernel) CutX.no_panic (by decide +kernel) rfl rfl rfl (RV.geq rfl rfl) ?_
      refine ED.take 22 rfl (by decide +kernel) CutX.no_panic (by decide +kernel) rfl rfl rfl (RV.pickF rfl rfl) ?_
      refine ED.take 23 rfl (by decide +kernel) CutX.no_panic (by decide +kernel) rfl rfl rfl (RV.move rfl) ?_
      first | refine ED.part (d := 30) rfl (fun hp30 => ?_) (fun hp30 => ?_) | refine ED.partN (d := 30) rfl (fun hp30 => ?_) (fun hp30 => ?_) | refine ED.partB (d := 30) rfl (fun hp30 => ?_) (fun hp30 => ?_)
      · refine ED.pass 24 rfl (by decide +kernel) CutX.no_panic (by decide +kernel) rfl rfl rfl ?_
        refine ED.pass 25 rfl (by decide +kernel) CutX.no_panic (by decide +kernel) rfl rfl rfl ?_
        refine ED.pass 26 rfl (by decide +kernel) CutX.no_panic (by decide +kernel) rfl rfl rfl ?_
        refine ED.pass 27 rfl (by decide +kernel) CutX.no_panic (by decide +kernel) rfl rfl rfl ?_
        refine ED.pass 28 rfl (by decide +kernel) CutX.no_panic (by decide +kernel) rfl rfl rfl ?_
        refine ED.pass 29 rfl (by decide +kernel) CutX.no_panic (by decide +kernel) rfl rfl rfl ?_
        refine ED.pass 30 rfl (by decide +kernel) CutX.no_panic (by decide +kernel) rfl rfl rfl ?_
        refine ED.pass 31 rfl (by decide +kernel) CutX.no_panic (by decide +kernel) rfl rfl rfl ?_
        refine ED.pass 32 rfl (by decide +kernel) CutX.no_panic (by decide +kernel) rfl rfl rfl ?_
        refine ED.pass 33 rfl (by decide +kernel) CutX.no_panic (by decide +kernel) rfl rfl rfl ?_
        refine ED.pass 34 rfl (by decide +kernel) CutX.no_panic (by decide +kernel) rfl rfl rfl ?_
        refine ED.pass 35 rfl (by decide +kernel) CutX.no_panic (by decide +kernel) rfl rfl rfl ?_
        refine ED.take 36 rfl (by decide +kernel) CutX.no_panic (by decide +kernel) rfl rfl rfl (RV.pickT rfl rfl) ?_
        refine ED.done (by decide +kernel) ?_
        exact PX.cutX () ⟨rfl, rfl, getA rfl (congrArg Value.bool (by unfold itC; simp_all <;> omega)), trivial⟩ (.i (by repeat constructor))
      · refine ED.take 24 rfl (by decide +kernel) CutX.no_panic (by decide +kernel) rfl rfl rfl (RV.move rfl) ?_
        refine ED.take 25 rfl (by decide +kernel) CutX.no_panic (by decide +kernel) rfl rfl rfl (RV.nilCheck rfl) ?_
        refine ED.take 26 rfl (by decide +kernel) CutX.no_panic (by decide +kernel) rfl rfl rfl (RV.fieldAddr rfl rfl rfl rfl rfl rfl) ?_
        refine ED.take 27 rfl (by decide +kernel) CutX.no_panic (by decide +kernel) rfl rfl rfl (RV.loadB rfl rfl rfl (by repeat constructor) rfl) ?_
        refine ED.take 28 rfl (by decide +kernel) CutX.no_panic (by decide +kernel) rfl rfl rfl (RV.move rfl) ?_
        refine ED.take 29 rfl (by decide +kernel) CutX.no_panic (by decide +kernel) rfl rfl rfl (RV.nilCheck rfl) ?_
        refine ED.take 30 rfl (by decide +kernel) CutX.no_panic (by decide +kernel) rfl rfl rfl (RV.fieldAddr rfl rfl rfl rfl rfl rfl) ?_
        refine ED.take 31 rfl (by decide +kernel) CutX.no_panic (by decide +kernel) rfl rfl rfl (RV.loadB rfl rfl rfl (by repeat constructor) rfl) ?_
        refine ED.take 32 rfl (by decide +kernel) CutX.no_panic (by decide +kernel) rfl rfl rfl (RV.add1 rfl rfl (by omega)) ?_
        refine ED.take 33 rfl (by decide +kernel) CutX.no_panic (by decide +kernel) rfl rfl rfl (RV.indexSN rfl rfl rfl rfl (by omega)) ?_
        refine ED.loud 34 rfl (by decide +kernel) ?_
        refine EL.callP rfl rfl rfl ent22 rfl (index_c _ _) ?_
        refine ED.next (.i (by repeat constructor)) ?_
        refine ED.take 35 rfl (by decide +kernel) CutX.no_panic (by decide +kernel) rfl rfl rfl (RV.lss rfl rfl) ?_
        refine ED.take 36 rfl (by decide +kernel) CutX.no_panic (by decide +kernel) rfl rfl rfl (RV.pickF rfl rfl) ?_
        refine ED.done (by decide +kernel) ?_
        exact PX.cutX () ⟨rfl, rfl, getA rfl (congrArg Value.bool (by unfold itC; simp_all <;> omega)), trivial⟩ (.i (by repeat constructor))
  refine ES.cond rfl (fun hc => ?_) (fun hc => ?_)
  · have hi : itemM t a = ⟨ofS [t.getD a 0], t.getD a 0, true, a + 1, 0⟩ := by unfold itemM; rw [if_pos hc]
    rw [hi]
    refine .g0 ?_; repeat constructor
    refine ES.draw (X := Unit) (fun _ => [(0, Pv g 0), (2, Pv g2 0), (3, Uv (t.getD a 0))]) (fun _ => SB g2 zeroS :: RD g t a 0 :: R) (SB g2 zeroS :: RD g t a 0 :: R) mixed (.i (by repeat constructor)) ?_ (fun _ => ?_)
    · refine ED.take 0 rfl (by decide +kernel) CutX.no_panic (by decide +kernel) rfl rfl rfl (RV.move rfl) ?_
      refine ED.take 1 rfl (by decide +kernel) CutX.no_panic (by decide +kernel) rfl rfl rfl (RV.nilCheck rfl) ?_
      refine ED.take 2 rfl (by decide +kernel) CutX.no_panic (by decide +kernel) rfl rfl rfl (RV.fieldAddr rfl rfl rfl rfl rfl rfl) ?_
      refine ED.take 3 rfl (by decide +kernel) CutX.no_panic (by decide +kernel) rfl rfl rfl (RV.loadB rfl rfl rfl (by repeat constructor) rfl) ?_
      refine ED.take 4 rfl (by decide +kernel) CutX.no_panic (by decide +kernel) rfl rfl rfl (RV.move rfl) ?_
      refine ED.take 5 rfl (by decide +kernel) CutX.no_panic (by decide +kernel) rfl rfl rfl (RV.nilCheck rfl) ?_
      refine ED.take 6 rfl (by decide +kernel) CutX.no_panic (by decide +kernel) rfl rfl rfl (RV.fieldAddr rfl rfl rfl rfl rfl rfl) ?_
      refine ED.take 7 rfl (by decide +kernel) CutX.no_panic (by decide +kernel) rfl rfl rfl (RV.loadB rfl rfl rfl (by repeat constructor) rfl) ?_
      refine ED.take 8 rfl (by decide +kernel) CutX.no_panic (by decide +kernel) rfl rfl rfl (RV.indexSN rfl rfl rfl rfl (by omega)) ?_
      refine ED.take 9 rfl (by decide +kernel) CutX.no_panic (by decide +kernel) rfl rfl rfl (RV.assign rfl) ?_
      refine ED.done (by decide +kernel) ?_
      exact PX.cutX () ⟨rfl, rfl, rfl, trivial⟩ (.i (by repeat constructor))
    refine .go ?_; repeat constructor
    refine EL.move rfl rfl rfl ?_
    refine EL.nilCheck rfl rfl rfl ?_
    refine EL.fieldAddr rfl rfl rfl rfl rfl rfl rfl rfl ?_
    (apply EL.loadB; exact rfl; exact rfl; exact rfl; exact rfl; exact rfl; (case hm => repeat constructor); exact rfl)
    refine EL.add1 rfl rfl rfl rfl (by omega) ?_
    refine EL.nilCheck rfl rfl rfl ?_
    refine EL.fieldAddr rfl rfl rfl rfl rfl rfl rfl rfl ?_
    (apply EL.storeB; exact rfl; exact rfl; exact rfl; exact rfl; exact rfl; exact rfl; (case p => repeat constructor); exact (by first | decide | exact Nat.le_of_ble_eq_true rfl | simp))
    refine .go ?_; repeat constructor
    refine EL.move rfl rfl rfl ?_
    (refine EL.buildSlice1 rfl rfl rfl rfl rfl rfl rfl rfl rfl rfl ?_; intro b61)
    (refine EL.bytesS (bs := [t.getD a 0]) rfl rfl rfl rfl rfl rfl rfl rfl rfl (by repeat constructor) ?_)
    refine EL.callP rfl rfl rfl ent5 rfl (of_c [t.getD a 0] (by simp)) ?_
    refine EL.move rfl rfl rfl ?_
    (apply EL.storeAll; exact rfl; exact rfl; exact rfl; exact rfl; exact rfl; (case p => repeat constructor); exact rfl; (case h1 => exact (by first | rfl | exact all1 rfl | (intro u hu; simp only [List.mem_cons, List.not_mem_nil, or_false] at hu; rcases hu with rfl | rfl | rfl | rfl <;> rfl) | (intro u hu; simp at hu; rcases hu with rfl | rfl | rfl | rfl <;> rfl) | (intro u hu; simp at hu; rcases hu with rfl | rfl | rfl <;> rfl) | (intro u hu; simp at hu; rcases hu with rfl | rfl <;> rfl) | (intro u hu; simp at hu; obtain ⟨_, _, rfl⟩ := hu; rfl))))
    refine EL.assign rfl rfl rfl ?_
    refine EL.assign rfl rfl rfl ?_
    refine .go ?_; repeat constructor
    exact PX.ret rfl Tryd.results17 (.cons (.blkA rfl rfl rfl (by repeat constructor) rfl) (.cons (.tmp rfl) (.cons (.tmp rfl) .nil))) (fun w hs => ⟨(), rfl, hs.ent (.i (by repeat constructor))⟩)
  · have hfa : ¬ (((t.getD a 0).toNat : Int) ≠ 91) ∧ a + 1 < t.length := by
      unfold itC at hc
      simp only [Bool.or_eq_false_iff, Bool.not_eq_false', decide_eq_true_eq, decide_eq_false_iff_not] at hc
      exact ⟨fun h => h hc.1.1, by omega⟩
    have hi0 : itemM t a = if nmE t a ≠ 0 then ⟨zeroS, 0, false, nmA t a, nmE t a⟩
        else if t.getD (a + 1) 0 = 58 then ⟨(classM (nmN t a)).1, 0, false, nmA t a, (classM (nmN t a)).2⟩
        else if (nmN t a).length ≠ 1 then ⟨zeroS, 0, false, nmA t a, 8⟩
        else ⟨ofS (nmN t a), (nmN t a).getD 0 0, decide (t.getD (a + 1) 0 = 46), nmA t a, 0⟩ := by
      conv => lhs; unfold itemM
      rw [if_neg (by rw [hc]; decide)]
    have h46 : (((t.getD (a + 1) 0).toNat : Int) = 46) ↔ t.getD (a + 1) 0 = 46 := u8_lit (t.getD (a + 1) 0) 46 (by omega)
    have h58 : (((t.getD (a + 1) 0).toNat : Int) = 58) ↔ t.getD (a + 1) 0 = 58 := u8_lit (t.getD (a + 1) 0) 58 (by omega)
    refine .go ?_; repeat constructor
    refine EL.move rfl rfl rfl ?_
    refine EL.callMw1 rfl rfl rfl ent23 rfl (named_c g t a hfa.2 ht _ _ hG) (by repeat constructor) ?_
    refine EL.move rfl rfl rfl ?_
    refine EL.extract rfl rfl rfl rfl ?_
    refine EL.extract rfl rfl rfl rfl ?_
    refine EL.assign rfl rfl rfl ?_
    refine EL.assign rfl rfl rfl ?_
    refine .go ?_; repeat constructor
    refine .go ?_; repeat constructor
    refine EL.move rfl rfl rfl ?_
    refine EL.nilCheck rfl rfl rfl ?_
    refine EL.fieldAddr rfl rfl rfl rfl rfl rfl rfl rfl ?_
    (apply EL.loadB; exact rfl; exact rfl; exact rfl; exact rfl; exact rfl; (case hm => repeat constructor); exact rfl)
    refine EL.neqI rfl rfl rfl rfl ?_
    refine EL.assign rfl rfl rfl ?_
    refine .go ?_; repeat constructor
    refine ES.condN rfl (fun hne => ?_) (fun heq => ?_)
    · rw [if_pos hne] at hi0
      rw [hi0]
      refine .go ?_; repeat constructor
      (apply EL.loadAggB; exact rfl; exact rfl; exact rfl; exact rfl; exact rfl; (case hm => repeat constructor); exact rfl)
      (apply EL.storeAll; exact rfl; exact rfl; exact rfl; exact rfl; exact rfl; (case p => repeat constructor); exact rfl; (case h1 => exact (by first | rfl | exact all1 rfl | (intro u hu; simp only [List.mem_cons, List.not_mem_nil, or_false] at hu; rcases hu with rfl | rfl | rfl | rfl <;> rfl) | (intro u hu; simp at hu; rcases hu with rfl | rfl | rfl | rfl <;> rfl) | (intro u hu; simp at hu; rcases hu with rfl | rfl | rfl <;> rfl) | (intro u hu; simp at hu; rcases hu with rfl | rfl <;> rfl) | (intro u hu; simp at hu; obtain ⟨_, _, rfl⟩ := hu; rfl))))
      refine EL.assign rfl rfl rfl ?_
      refine EL.assign rfl rfl rfl ?_
      refine .go ?_; repeat constructor
      exact PX.ret rfl Tryd.results17 (.cons (.blkA rfl rfl rfl (by repeat constructor) rfl) (.cons (.tmp rfl) (.cons (.tmp rfl) .nil))) (fun w hs => ⟨(), rfl, hs.ent (.i (by repeat constructor))⟩)
    · rw [if_neg (by simpa using heq)] at hi0
      refine .go ?_; repeat constructor
      refine EL.move rfl rfl rfl ?_
      refine EL.eqlI rfl rfl rfl rfl ?_
      refine EL.assign rfl rfl rfl ?_
      refine .go ?_; repeat constructor
      refine ES.condD rfl (fun h1 => ?_) (fun h1 => ?_)
      · rw [if_pos (h58.1 h1)] at hi0
        rw [hi0]
        refine .go ?_; repeat constructor
        refine EL.move rfl rfl rfl ?_
        refine EL.move rfl rfl rfl ?_
        refine EL.callP rfl rfl rfl ent24 rfl (class_c (nmN t a)) ?_
        refine EL.move rfl rfl rfl ?_
        refine EL.extract rfl rfl rfl rfl ?_
        refine EL.extract rfl rfl rfl rfl ?_
        (apply EL.storeAll; exact rfl; exact rfl; exact rfl; exact rfl; exact rfl; (case p => repeat constructor); exact rfl; (case h1 => exact (by first | rfl | exact all1 rfl | (intro u hu; simp only [List.mem_cons, List.not_mem_nil, or_false] at hu; rcases hu with rfl | rfl | rfl | rfl <;> rfl) | (intro u hu; simp at hu; rcases hu with rfl | rfl | rfl | rfl <;> rfl) | (intro u hu; simp at hu; rcases hu with rfl | rfl | rfl <;> rfl) | (intro u hu; simp at hu; rcases hu with rfl | rfl <;> rfl) | (intro u hu; simp at hu; obtain ⟨_, _, rfl⟩ := hu; rfl))))
        refine EL.nilCheck rfl rfl rfl ?_
        refine EL.fieldAddr rfl rfl rfl rfl rfl rfl rfl rfl ?_
        (apply EL.storeB; exact rfl; exact rfl; exact rfl; exact rfl; exact rfl; exact rfl; (case p => repeat constructor); exact (by first | decide | exact Nat.le_of_ble_eq_true rfl | simp))
        refine .go ?_; repeat constructor
        (apply EL.loadAggB; exact rfl; exact rfl; exact rfl; exact rfl; exact rfl; (case hm => repeat constructor); exact rfl)
        (apply EL.storeAll; exact rfl; exact rfl; exact rfl; exact rfl; exact rfl; (case p => repeat constructor); exact rfl; (case h1 => exact (by first | rfl | exact all1 rfl | (intro u hu; simp only [List.mem_cons, List.not_mem_nil, or_false] at hu; rcases hu with rfl | rfl | rfl | rfl <;> rfl) | (intro u hu; simp at hu; rcases hu with rfl | rfl | rfl | rfl <;> rfl) | (intro u hu; simp at hu; rcases hu with rfl | rfl | rfl <;> rfl) | (intro u hu; simp at hu; rcases hu with rfl | rfl <;> rfl) | (intro u hu; simp at hu; obtain ⟨_, _, rfl⟩ := hu; rfl))))
        refine EL.assign rfl rfl rfl ?_
        refine EL.assign rfl rfl rfl ?_
        refine .go ?_; repeat constructor
        exact PX.ret rfl Tryd.results17 (.cons (.blkA rfl rfl rfl (by repeat constructor) rfl) (.cons (.tmp rfl) (.cons (.tmp rfl) .nil))) (fun w hs => ⟨(), rfl, hs.ent (.i (by repeat constructor))⟩)
      · rw [if_neg (fun h => h1 (h58.2 h))] at hi0
        refine .go ?_; repeat constructor
        refine EL.move rfl rfl rfl ?_
        refine EL.lenS rfl rfl rfl rfl rfl ?_
        refine EL.neqI rfl rfl rfl rfl ?_
        refine EL.assign rfl rfl rfl ?_
        refine .go ?_; repeat constructor
        refine ES.condN rfl (fun h2 => ?_) (fun h2 => ?_)
        · rw [if_pos (by omega)] at hi0
          rw [hi0]
          refine .go ?_; repeat constructor
          refine EL.move rfl rfl rfl ?_
          refine EL.nilCheck rfl rfl rfl ?_
          refine EL.fieldAddr rfl rfl rfl rfl rfl rfl rfl rfl ?_
          (apply EL.storeB; exact rfl; exact rfl; exact rfl; exact rfl; exact rfl; exact rfl; (case p => repeat constructor); exact (by first | decide | exact Nat.le_of_ble_eq_true rfl | simp))
          refine .go ?_; repeat constructor
          (apply EL.loadAggB; exact rfl; exact rfl; exact rfl; exact rfl; exact rfl; (case hm => repeat constructor); exact rfl)
          (apply EL.storeAll; exact rfl; exact rfl; exact rfl; exact rfl; exact rfl; (case p => repeat constructor); exact rfl; (case h1 => exact (by first | rfl | exact all1 rfl | (intro u hu; simp only [List.mem_cons, List.not_mem_nil, or_false] at hu; rcases hu with rfl | rfl | rfl | rfl <;> rfl) | (intro u hu; simp at hu; rcases hu with rfl | rfl | rfl | rfl <;> rfl) | (intro u hu; simp at hu; rcases hu with rfl | rfl | rfl <;> rfl) | (intro u hu; simp at hu; rcases hu with rfl | rfl <;> rfl) | (intro u hu; simp at hu; obtain ⟨_, _, rfl⟩ := hu; rfl))))
          refine EL.assign rfl rfl rfl ?_
          refine EL.assign rfl rfl rfl ?_
          refine .go ?_; repeat constructor
          exact PX.ret rfl Tryd.results17 (.cons (.blkA rfl rfl rfl (by repeat constructor) rfl) (.cons (.tmp rfl) (.cons (.tmp rfl) .nil))) (fun w hs => ⟨(), rfl, hs.ent (.i (by repeat constructor))⟩)
        · rw [if_neg (by omega)] at hi0
          have hl : 0 < (nmN t a).length := by omega
          have hd46 : decide (((t.getD (a + 1) 0).toNat : Int) = 46) = decide (t.getD (a + 1) 0 = 46) := decide_eq_decide.2 h46
          rw [hi0]
          refine .g0 ?_; repeat constructor
          refine ES.draw (X := Unit) (fun _ => [(2, Pv g2 0), (3, Uv ((nmN t a).getD 0 0)), (4, .bool (decide (t.getD (a + 1) 0 = 46)))]) (fun _ => SB g2 (ofS (nmN t a)) :: RD g t (nmA t a) (nmE t a) :: R) (RD g t (nmA t a) (nmE t a) :: R) mixed (.i (by repeat constructor)) ?_ (fun _ => ?_)
          · refine ED.take 0 rfl (by decide +kernel) CutX.no_panic (by decide +kernel) rfl rfl rfl (RV.move rfl) ?_
            refine ED.take 2 rfl (by decide +kernel) CutX.no_panic (by decide +kernel) rfl rfl rfl (RV.move rfl) ?_
            refine ED.take 3 rfl (by decide +kernel) CutX.no_panic (by decide +kernel) rfl rfl rfl (RV.indexSN (i := 0) rfl rfl rfl rfl hl) ?_
            refine ED.take 4 rfl (by decide +kernel) CutX.no_panic (by decide +kernel) rfl rfl rfl (RV.move rfl) ?_
            refine ED.take 5 rfl (by decide +kernel) CutX.no_panic (by decide +kernel) rfl rfl rfl (RV.eqlI rfl rfl) ?_
            refine ED.loud 1 rfl (by decide +kernel) ?_
            refine EL.callP rfl rfl rfl ent5 rfl (of_c (nmN t a) (by omega)) ?_
            refine ED.next (.i (by repeat constructor)) ?_
            refine ED.loud 6 rfl (by decide +kernel) ?_
            (apply EL.storeAll; exact rfl; exact rfl; exact rfl; exact rfl; exact rfl; (case p => repeat constructor); exact rfl; (case h1 => exact (by first | rfl | exact all1 rfl | (intro u hu; simp only [List.mem_cons, List.not_mem_nil, or_false] at hu; rcases hu with rfl | rfl | rfl | rfl <;> rfl) | (intro u hu; simp at hu; rcases hu with rfl | rfl | rfl | rfl <;> rfl) | (intro u hu; simp at hu; rcases hu with rfl | rfl | rfl <;> rfl) | (intro u hu; simp at hu; rcases hu with rfl | rfl <;> rfl) | (intro u hu; simp at hu; obtain ⟨_, _, rfl⟩ := hu; rfl))))
            refine ED.next (.i (by repeat constructor)) ?_
            refine ED.take 7 rfl (by decide +kernel) CutX.no_panic (by decide +kernel) rfl rfl rfl (RV.assign rfl) ?_
            refine ED.take 8 rfl (by decide +kernel) CutX.no_panic (by decide +kernel) rfl rfl rfl (RV.assign rfl) ?_
            refine ED.done (by decide +kernel) ?_
            exact PX.cutX () ⟨rfl, rfl, getA rfl (congrArg Value.bool hd46), trivial⟩ (.i (by repeat constructor))
          refine .go ?_; repeat constructor
          refine PX.ret rfl Tryd.results17 (.cons (.blkA rfl rfl rfl (by repeat constructor) rfl) (.cons (.tmp rfl) (.cons (.tmp rfl) .nil))) (fun w hs => ⟨(), rfl, ?_⟩)
          have he0 : nmE t a = 0 := by simpa using heq
          rw [he0] at hs
          exact hs.ent (.i (by repeat constructor))
end Go.Proofs.YtgoopgnnkhpmlaaDoor
