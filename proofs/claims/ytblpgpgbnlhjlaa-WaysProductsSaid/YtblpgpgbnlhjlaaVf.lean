/- Layer 9 (ways): the walk of Count. -/
import Derived.Test.YtblpgpgbnlhjlaaVe
namespace Go.Proofs.Ytblpgpgbnlhjlaa
open Go Go.RowKit Sl
set_option maxRecDepth 100000
set_option maxHeartbeats 8000000
set_option linter.unusedVariables false
set_option linter.unusedSimpArgs false
attribute [local irreducible] ES EL PX wps

theorem row_c (r : RE) (hf : r.fine) (s : List UInt8) (hs : s.length ≤ 1024) (gc gm : Nat) (w0 : World) (B g off : Nat) (hn : NodeRd w0 B g off r) : RowCt s gc gm w0 B r g off := row_n r.sz r (Nat.le_refl _) hf s hs gc gm w0 B g off hn
/-- A tree that is owned, and a copy of its root. -/
theorem node_of {w0 w : World} {B g e : Nat} {H : List HA} {r : RE} {ad : Option Addr} {cap : Nat} {fp : List Nat} (hs : Sat w0 B H w) (h1 : Mem H (HA.blk g (.cells (reCells r (.slice ad r.kids.length cap)).toArray e))) (h2 : Mem H (HA.forest fp [r] (reCells r (.slice ad r.kids.length cap)))) : NodeRd w w.heap.size g 0 r := by
  have hb : w.heap[g]? = some (.cells (reCells r (.slice ad r.kids.length cap)).toArray e (0, 0)) := hs.all _ h1.mem
  have hlt : g < w.heap.size := (Array.getElem?_eq_some_iff.1 hb).1
  have hf := Forest.sat hs h2
  obtain ⟨ad', cap', cs0, e1, e2, e3⟩ := hf.get 0 r rfl
  have e4 : reCells r (.slice ad r.kids.length cap) = reCells r (.slice ad' r.kids.length cap') := by
    rw [← e1]; simp [reCells]
  simp only [reCells, List.cons.injEq, Value.slice.injEq, and_true, true_and] at e4
  obtain ⟨rfl, rfl⟩ := e4
  exact ⟨ad, cap, cs0, fun _ => ⟨g, 0, rfl, hlt, _, e, hb, fun j v hj => by rw [Nat.zero_add]; simpa using hj⟩, e2, e3⟩
theorem waysCount_c (t s : List UInt8) (ht : t.length ≤ 4611686018427387904) (hs : s.length ≤ 4611686018427387904) (a : Int) (w : World) (hG : GR w w.heap.size) :
    Pure Try.prog 16 #[Sv t, Sv s, Iv a] (fun _ : Unit => .tuple #[Iv ((waysM t s a).1 : Nat), Iv (waysM t s a).2]) (fun _ => []) w := by
  have hw : waysM t s a = if (parseM t).e ≠ 0 then (0, (parseM t).e) else if 1024 < s.length then (0, 15) else if a < 0 ∨ (s.length : Int) < a then (0, 1) else (countM s (parseM t).tree a.toNat, 0) := rfl
  have hpf := parse_fine t
  have hpc := fun w hG => parse_c t ht w hG
  generalize parseM t = p at hw hpf hpc
  obtain ⟨tree, pe, pat⟩ := p
  dsimp only at hw hpf hpc
  refine calls_of_ES TB Try.func16 rfl _ Try.ntmps16 rfl (Sat.start w) ?_
  refine .go ?_; repeat constructor
  refine EL.assign rfl rfl rfl ?_
  refine EL.assign rfl rfl rfl ?_
  refine .go ?_; repeat constructor
  refine EL.move rfl rfl rfl ?_
  (refine EL.callXw rfl rfl rfl ent40 rfl (fun w hs => hpc w (GR.sat hG hs)) ?_; intro px)
  refine EL.move rfl rfl rfl ?_
  refine EL.extract rfl rfl rfl rfl ?_
  refine EL.extract rfl rfl rfl rfl ?_
  (refine EL.alloc rfl rfl rfl ?_; intro g8)
  (refine EL.alloc rfl rfl rfl ?_; intro g9)
  (apply EL.storeAll; exact rfl; exact rfl; exact rfl; exact rfl; exact rfl; (case p => repeat constructor); exact rfl; (case h1 => exact (by first | rfl | exact all1 rfl | (intro u hu; simp only [List.mem_cons, List.not_mem_nil, or_false] at hu; rcases hu with rfl | rfl | rfl | rfl <;> rfl) | (intro u hu; simp at hu; rcases hu with rfl | rfl | rfl | rfl <;> rfl) | (intro u hu; simp at hu; rcases hu with rfl | rfl | rfl <;> rfl) | (intro u hu; simp at hu; rcases hu with rfl | rfl <;> rfl) | (intro u hu; simp at hu; obtain ⟨_, _, rfl⟩ := hu; rfl))))
  (apply EL.storeAll; exact rfl; exact rfl; exact rfl; exact rfl; exact rfl; (case p => repeat constructor); exact rfl; (case h1 => exact (by first | rfl | exact all1 rfl | (intro u hu; simp only [List.mem_cons, List.not_mem_nil, or_false] at hu; rcases hu with rfl | rfl | rfl | rfl <;> rfl) | (intro u hu; simp at hu; rcases hu with rfl | rfl | rfl | rfl <;> rfl) | (intro u hu; simp at hu; rcases hu with rfl | rfl | rfl <;> rfl) | (intro u hu; simp at hu; rcases hu with rfl | rfl <;> rfl) | (intro u hu; simp at hu; obtain ⟨_, _, rfl⟩ := hu; rfl))))
  refine .go ?_; repeat constructor
  refine .go ?_; repeat constructor
  refine EL.fieldAddr rfl rfl rfl rfl rfl rfl rfl rfl ?_
  (apply EL.loadB; exact rfl; exact rfl; exact rfl; exact rfl; exact rfl; (case hm => repeat constructor); exact rfl)
  refine EL.neqI rfl rfl rfl rfl ?_
  refine EL.assign rfl rfl rfl ?_
  refine .go ?_; repeat constructor
  refine ES.condN rfl (fun hne => ?_) (fun he => ?_)
  · rw [if_pos hne] at hw
    rw [hw]
    refine .g0 ?_; repeat constructor
    refine ES.draw (X := Unit) (fun _ => [(6, Iv 0), (7, Iv pe)]) (fun _ => []) (HA.blk g9 (.cells #[Iv pe, Iv (pat : Nat)] 67) :: []) mixed (.i (by repeat constructor)) ?_ (fun _ => ?_)
    · refine ED.take 0 rfl (by decide +kernel) CutX.no_panic (by decide +kernel) rfl rfl rfl (RV.fieldAddr rfl rfl rfl rfl rfl rfl) ?_
      refine ED.take 1 rfl (by decide +kernel) CutX.no_panic (by decide +kernel) rfl rfl rfl (RV.loadB rfl rfl rfl (by repeat constructor) rfl) ?_
      refine ED.take 2 rfl (by decide +kernel) CutX.no_panic (by decide +kernel) rfl rfl rfl (RV.assign rfl) ?_
      refine ED.take 3 rfl (by decide +kernel) CutX.no_panic (by decide +kernel) rfl rfl rfl (RV.assign rfl) ?_
      refine ED.done (by decide +kernel) ?_
      exact PX.cutX () ⟨rfl, rfl, trivial⟩ (.i (by repeat constructor))
    refine .go ?_; repeat constructor
    exact PX.ret rfl Try.results16 (.cons (.tmp rfl) (.cons (.tmp rfl) .nil)) (fun w hs => ⟨(), rfl, hs.ent (.i (by repeat constructor))⟩)
  rw [if_neg (fun h => h he)] at hw
  refine .go ?_; repeat constructor
  refine EL.move rfl rfl rfl ?_
  refine EL.lenS rfl rfl rfl rfl rfl ?_
  refine EL.gtr rfl rfl rfl rfl ?_
  refine EL.assign rfl rfl rfl ?_
  refine .go ?_; repeat constructor
  refine ES.condD rfl (fun hl => ?_) (fun hl => ?_)
  · rw [if_pos (by omega)] at hw
    rw [hw]
    refine .go ?_; repeat constructor
    refine EL.assign rfl rfl rfl ?_
    refine EL.assign rfl rfl rfl ?_
    refine .go ?_; repeat constructor
    exact PX.ret rfl Try.results16 (.cons (.tmp rfl) (.cons (.tmp rfl) .nil)) (fun w hs => ⟨(), rfl, hs.ent (.i (by repeat constructor))⟩)
  rw [if_neg (by omega)] at hw
  have hs2 : s.length ≤ 1024 := by omega
  refine .go ?_; repeat constructor
  refine EL.cutX (X := Unit) (fun _ => [(0, Sv t), (1, Sv s), (2, Iv a), (8, Pv g8 0), (29, .bool (decide (a < 0 ∨ (s.length : Int) < a)))]) (fun _ => [HA.blk g8 (.cells (reCells tree (.slice px.ad tree.kids.length px.cap)).toArray 82), HA.forest px.fp [tree] (reCells tree (.slice px.ad tree.kids.length px.cap))]) ?_ (fun _ => ?_)
  · refine .go ?_; repeat constructor
    refine EL.move rfl rfl rfl ?_
    refine EL.lss rfl rfl rfl rfl ?_
    refine EL.move rfl rfl rfl ?_
    first | refine EL.splitD (d := 32) rfl (fun hp32 => ?_) (fun hp32 => ?_) | refine EL.splitN (d := 32) rfl (fun hp32 => ?_) (fun hp32 => ?_) | refine EL.splitB (d := 32) rfl (fun hp32 => ?_) (fun hp32 => ?_)
    · refine EL.pass rfl rfl rfl ?_
      refine EL.pass rfl rfl rfl ?_
      refine EL.pass rfl rfl rfl ?_
      refine EL.pass rfl rfl rfl ?_
      refine EL.pickT rfl rfl rfl rfl ?_
      refine EL.assign rfl rfl rfl ?_
      exact EL.endX () ⟨rfl, rfl, rfl, rfl, getA rfl (congrArg Value.bool (by rw [Bool.eq_iff_iff]; simp only [decide_eq_true_eq, true_iff]; omega)), trivial⟩ (.i (by repeat constructor))
    · refine EL.move rfl rfl rfl ?_
      refine EL.move rfl rfl rfl ?_
      refine EL.lenS rfl rfl rfl rfl rfl ?_
      refine EL.gtr rfl rfl rfl rfl ?_
      refine EL.pickF rfl rfl rfl rfl ?_
      refine EL.assign rfl rfl rfl ?_
      exact EL.endX () ⟨rfl, rfl, rfl, rfl, getA rfl (congrArg Value.bool (by rw [Bool.eq_iff_iff]; simp only [decide_eq_true_eq, true_iff]; omega)), trivial⟩ (.i (by repeat constructor))
  refine ES.condD rfl (fun hr => ?_) (fun hr => ?_)
  · rw [if_pos hr] at hw
    rw [hw]
    refine .go ?_; repeat constructor
    refine EL.assign rfl rfl rfl ?_
    refine EL.assign rfl rfl rfl ?_
    refine .go ?_; repeat constructor
    exact PX.ret rfl Try.results16 (.cons (.tmp rfl) (.cons (.tmp rfl) .nil)) (fun w hs => ⟨(), rfl, hs.ent (.i (by repeat constructor))⟩)
  rw [if_neg hr] at hw
  rw [hw]
  obtain ⟨i, rfl⟩ : ∃ i : Nat, a = (i : Int) := ⟨a.toNat, by omega⟩
  have hi : i ≤ s.length := by omega
  rw [Int.toNat_natCast]
  refine .g0 ?_; repeat constructor
  refine ES.rebase (fun w1 hw1 => ?_)
  have hn := node_of hw1 (by repeat constructor) (by repeat constructor)
  refine .go ?_; repeat constructor
  refine EL.move rfl rfl rfl ?_
  (refine EL.makeMap 3 rfl rfl ?_; intro gm)
  (apply EL.build2; exact rfl; exact rfl; exact rfl; exact rfl; exact rfl; exact rfl; exact rfl; exact rfl; exact rfl; exact rfl)
  (refine EL.box rfl rfl rfl ?_; intro g41)
  refine EL.assign rfl rfl rfl ?_
  refine .go ?_; repeat constructor
  refine EL.assign rfl rfl rfl ?_
  refine .go ?_; repeat constructor
  refine EL.move rfl rfl rfl ?_
  refine EL.move rfl rfl rfl ?_
  have hrow := row_c tree hpf s hs2 g41 gm w1 w1.heap.size g8 0 hn i [] hi (fun m hm => by simp at hm)
  (refine EL.callMw rfl rfl rfl ent41 rfl hrow (by repeat constructor) ?_; intro x)
  obtain ⟨gb, rcap, hxv⟩ := x.ent.val
  refine EL.rew (d := 44) (v' := .slice (some ⟨gb, 0, none⟩) (s.length + 1) rcap) rfl hxv ?_
  refine EL.lenL rfl rfl rfl rfl rfl ?_
  refine EL.move rfl rfl rfl ?_
  refine .go ?_; repeat constructor
  have hle : ∀ q, rowW s tree i q ≤ 4097 := row_le s tree i
  have hsl : ∀ j, sumGo capW (rowW s tree i) j ≤ 4097 := fun j => by
    cases j with
    | zero => simp [sumGo]
    | succ j => rw [sumGo]; exact cap_le _
  refine ES.loop (σ := Nat) (fun j => j ≤ s.length + 1) (fun j => [(11, Iv (sumGo capW (rowW s tree i) j : Nat)), (44, .slice (some ⟨gb, 0, none⟩) (s.length + 1) rcap), (45, Iv ((s.length + 1 : Nat) : Int)), (46, Iv (j : Nat))]) (fun j => MH gm x.G.es' :: []) (fun j => s.length + 1 - j) 0 (Nat.zero_le _) ⟨rfl, rfl, rfl, rfl, trivial⟩ (.i (by repeat constructor)) ?_
  intro j hj
  refine .go ?_; repeat constructor
  refine EL.lss rfl rfl rfl rfl ?_
  refine .go ?_; repeat constructor
  refine ES.condD rfl (fun hlt => ?_) (fun hge => ?_)
  · have hjn : j ≤ s.length := by omega
    have h1 := hle j
    have h2 := hsl j
    refine .go ?_; repeat constructor
    refine EL.indexAddrL1 rfl rfl rfl rfl rfl rfl rfl rfl (by omega) ?_
    refine EL.ofRV (RV.loadMemo rfl rfl rfl (by repeat constructor) x.mem hxv (by rw [x.ent.cells]; exact rowC_get _ hjn)) rfl rfl rfl (by intro c h; cases h) ?_
    refine EL.assign rfl rfl rfl ?_
    refine .go ?_; repeat constructor
    refine EL.move rfl rfl rfl ?_
    refine EL.move rfl rfl rfl ?_
    refine EL.addN rfl rfl rfl rfl rfl (by omega) ?_
    refine EL.ofRV (RV.minI rfl rfl) rfl rfl rfl (by intro c h; cases h) ?_
    refine EL.assign rfl rfl rfl ?_
    refine .go ?_; repeat constructor
    refine EL.add1 rfl rfl rfl rfl (by omega) ?_
    refine EL.move rfl rfl rfl ?_
    refine .go ?_; repeat constructor
    exact PX.loop (j + 1) (by omega) (by omega) ⟨getA rfl (congrArg Iv (by rw [sumGo]; unfold capW; omega)), rfl, rfl, rfl, trivial⟩ (.i (by repeat constructor))
  · obtain rfl : j = s.length + 1 := by omega
    refine .go ?_; repeat constructor
    refine EL.move rfl rfl rfl ?_
    refine EL.assign rfl rfl rfl ?_
    refine EL.assign rfl rfl rfl ?_
    refine .go ?_; repeat constructor
    exact PX.ret rfl Try.results16 (.cons (.tmp rfl) (.cons (.tmp rfl) .nil)) (fun w hs => ⟨(), rfl, (hw1.join hs).ent (.nil _)⟩)
end Go.Proofs.Ytblpgpgbnlhjlaa
