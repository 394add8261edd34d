/- Layer 23 (input): the law InputPlays: for every script of calls the queue answers as the document's does. -/
import Derived.Test.YtbclmngjhhmbdaaIf
import Derived.Test.YtbclmngjhhmbdaaSlaw
namespace Go.Proofs.Ytbclmngjhhmbdaa
open Go.ChangeShapes Go.WideShapes Go.ChangeAt
open Go Go.RowKit Sl
set_option maxRecDepth 100000
set_option maxHeartbeats 8000000
set_option linter.unusedVariables false
set_option linter.unusedSimpArgs false
attribute [local irreducible] ES EL PX wps

abbrev OpC := Int × List UInt8
def opCells (o : OpC) : List Value := [Iv o.1, Sv o.2]
theorem ops_get (ops : List OpC) (i : Nat) (h : i < ops.length) : ∀ j u, [Iv (ops.getD i (0, [])).1, Sv (ops.getD i (0, [])).2][j]? = some u → (ops.flatMap opCells)[i * 2 + j]? = some u := by
  induction ops generalizing i with
  | nil => simp at h
  | cons o ops ih =>
    intro j u hj
    have hj2 : j < 2 := (List.getElem?_eq_some_iff.1 hj).1
    cases i with
    | zero =>
      rw [List.flatMap_cons, List.getElem?_append_left (by simp [opCells]; omega), Nat.zero_mul, Nat.zero_add]
      exact hj
    | succ i =>
      rw [List.flatMap_cons, List.getElem?_append_right (by simp [opCells]; omega)]
      have := ih i (by simpa using h) j u (by simpa using hj)
      rw [← this]
      congr 1
      simp [opCells]; omega
/-- Where the two queues stand. -/
structure PS where
  fed : List (List UInt8)
  k : Nat
  c : Bool
  a1 : Option Addr
  e1 : Nat
  a2 : Option Addr
  e2 : Nat
structure PI (i : Nat) (s : PS) : Prop where
  k : s.k ≤ s.fed.length
  n : s.fed.length ≤ i
  b : (viewQ s.fed s.k s.c).bytes ≤ 1024 * i
def PH (g r : Nat) (s : PS) : List HA := HQ g s.a1 s.e1 (viewQ s.fed s.k s.c) ++ HR r s.a2 s.e2 s.fed s.k s.c
theorem PI.small {i : Nat} {s : PS} (h : PI i s) (hi : i ≤ 1048576) : Small (viewQ s.fed s.k s.c) :=
  ⟨by have := h.n; simp [viewQ]; omega, by have := h.b; omega, by have := h.k; have := h.n; simp [viewQ]; omega⟩
theorem feed_bytes (s : QS) (l : List UInt8) : (feedM s l).2.bytes ≤ s.bytes + 1024 := by
  unfold feedM
  split
  · simp
  · split
    · simp
    · split
      · simp
      · simp only []; rw [bytes_snoc]; omega
theorem next_bytes (s : QS) : (nextM s).2.2.bytes ≤ s.bytes := by
  unfold nextM
  split
  · simp
  · rename_i l r h
    split
    · simp [QS.bytes, h]
    · simp
theorem PI.feed {i : Nat} {s : PS} (h : PI i s) (l : List UInt8) (a1 : Option Addr) (e1 : Nat) (a2 : Option Addr) (e2 : Nat) : PI (i + 1) ⟨rfeed s.fed s.k s.c l, s.k, s.c, a1, e1, a2, e2⟩ := by
  refine ⟨?_, ?_, ?_⟩
  · have := h.k; simp only [rfeed]; split <;> simp; omega; exact this
  · have := h.n; simp only [rfeed]; split <;> simp <;> omega
  · simp only [rfeed_view _ _ _ _ h.k]
    have := feed_bytes (viewQ s.fed s.k s.c) l
    have := h.b
    omega
theorem PI.close {i : Nat} {s : PS} (h : PI i s) : PI (i + 1) ⟨s.fed, s.k, true, s.a1, s.e1, s.a2, s.e2⟩ := ⟨h.k, by have := h.n; simp only; omega, by have := h.b; simp only [viewQ, QS.bytes] at *; omega⟩
theorem PI.next {i : Nat} {s : PS} (h : PI i s) (a1 : Option Addr) (e1 : Nat) : PI (i + 1) ⟨s.fed, rnextK s.fed s.k s.c, s.c, a1, e1, s.a2, s.e2⟩ := by
  refine ⟨(rnextK_view _ _ _ h.k).2, by have := h.n; simp only; omega, ?_⟩
  simp only [(rnextK_view _ _ _ h.k).1]
  have := next_bytes (viewQ s.fed s.k s.c)
  have := h.b
  omega
theorem PI.stay {i : Nat} {s : PS} (h : PI i s) : PI (i + 1) s := ⟨h.k, by have := h.n; omega, by have := h.b; omega⟩
theorem plays_c (ad : Option Addr) (cap : Nat) (ops : List OpC) (hn : ops.length ≤ 1048576) (hl : ∀ o ∈ ops, o.2.length ≤ 1048576) (w : World) (hrd : Rd w w.heap.size ad (ops.flatMap opCells)) :
    Pure Try.prog 7 #[.slice ad ops.length cap] (fun _ : Unit => .bool true) (fun _ => []) w := by
  refine calls_of_ES TB Try.func7 rfl _ Try.ntmps7 rfl (Sat.start w) ?_
  repeat (first | apply ES.seq | apply ES.skip | apply ES.region | apply EL.nil | apply ES.block | apply ES.nil | apply ES.exit | apply ES.ret | apply PX.hit | (apply PX.miss; exact rfl) | apply PX.then_x | apply PX.then_r | apply PX.block_n | apply PX.block_r | refine PX.then_n (e := .normal) ?_)
  refine EL.assign rfl rfl rfl ?_
  repeat (first | apply ES.seq | apply ES.skip | apply ES.region | apply EL.nil | apply ES.block | apply ES.nil | apply ES.exit | apply ES.ret | apply PX.hit | (apply PX.miss; exact rfl) | apply PX.then_x | apply PX.then_r | apply PX.block_n | apply PX.block_r | refine PX.then_n (e := .normal) ?_)
  (refine EL.callX rfl rfl rfl ent17 rfl qnew_c ?_; intro g)
  refine EL.assign rfl rfl rfl ?_
  repeat (first | apply ES.seq | apply ES.skip | apply ES.region | apply EL.nil | apply ES.block | apply ES.nil | apply ES.exit | apply ES.ret | apply PX.hit | (apply PX.miss; exact rfl) | apply PX.then_x | apply PX.then_r | apply PX.block_n | apply PX.block_r | refine PX.then_n (e := .normal) ?_)
  refine EL.callP rfl rfl rfl ent18 rfl awake23_c ?_
  refine EL.not rfl rfl rfl ?_
  refine EL.move rfl rfl rfl ?_
  refine EL.rew (d := 14) (v' := .bool false) rfl (by first | rfl | (decide) | (simp)) ?_
  refine EL.move rfl rfl rfl ?_
  refine EL.eqlPn rfl rfl rfl rfl rfl rfl ?_
  refine EL.pickF rfl rfl rfl rfl ?_
  repeat (first | apply ES.seq | apply ES.skip | apply ES.region | apply EL.nil | apply ES.block | apply ES.nil | apply ES.exit | apply ES.ret | apply PX.hit | (apply PX.miss; exact rfl) | apply PX.then_x | apply PX.then_r | apply PX.block_n | apply PX.block_r | refine PX.then_n (e := .normal) ?_)
  repeat (first | apply ES.seq | apply ES.skip | apply ES.region | apply EL.nil | apply ES.block | apply ES.nil | apply ES.exit | apply ES.ret | apply PX.hit | (apply PX.miss; exact rfl) | apply PX.then_x | apply PX.then_r | apply PX.block_n | apply PX.block_r | refine PX.then_n (e := .normal) ?_)
  refine ES.condF rfl ?_
  repeat (first | apply ES.seq | apply ES.skip | apply ES.region | apply EL.nil | apply ES.block | apply ES.nil | apply ES.exit | apply ES.ret | apply PX.hit | (apply PX.miss; exact rfl) | apply PX.then_x | apply PX.then_r | apply PX.block_n | apply PX.block_r | refine PX.then_n (e := .normal) ?_)
  (refine EL.alloc rfl rfl rfl ?_; intro g4)
  repeat (first | apply ES.seq | apply ES.skip | apply ES.region | apply EL.nil | apply ES.block | apply ES.nil | apply ES.exit | apply ES.ret | apply PX.hit | (apply PX.miss; exact rfl) | apply PX.then_x | apply PX.then_r | apply PX.block_n | apply PX.block_r | refine PX.then_n (e := .normal) ?_)
  refine EL.move rfl rfl rfl ?_
  refine EL.lenL rfl rfl rfl rfl rfl ?_
  refine EL.move rfl rfl rfl ?_
  repeat (first | apply ES.seq | apply ES.skip | apply ES.region | apply EL.nil | apply ES.block | apply ES.nil | apply ES.exit | apply ES.ret | apply PX.hit | (apply PX.miss; exact rfl) | apply PX.then_x | apply PX.then_r | apply PX.block_n | apply PX.block_r | refine PX.then_n (e := .normal) ?_)
  refine ES.nilRow 9 1 ?_
  refine ES.loop (σ := Nat × PS) (fun (i, s) => i ≤ ops.length ∧ PI i s) (fun (i, s) => [(3, Pv g 0), (4, Pv g4 0), (18, .slice ad ops.length cap), (19, Iv ops.length), (20, Iv i)]) (fun (i, s) => PH g g4 s) (fun (i, s) => ops.length - i) (0, ⟨[], 0, false, none, 0, none, 0⟩) ⟨Nat.zero_le _, ⟨Nat.le_refl _, Nat.le_refl _, by simp [viewQ, QS.bytes]⟩⟩ ⟨rfl, rfl, rfl, rfl, rfl, trivial⟩ (by repeat (first | exact Ent.nil _ | exact Ent.refl _ | (apply Ent.cons; case p => repeat (first | exact Pick.here _ _ | apply Pick.there)) | apply Ent.drop)) ?_
  rintro ⟨i, s⟩ ⟨hi, hI⟩
  dsimp only at hi hI ⊢
  repeat (first | apply ES.seq | apply ES.skip | apply ES.region | apply EL.nil | apply ES.block | apply ES.nil | apply ES.exit | apply ES.ret | apply PX.hit | (apply PX.miss; exact rfl) | apply PX.then_x | apply PX.then_r | apply PX.block_n | apply PX.block_r | refine PX.then_n (e := .normal) ?_)
  refine EL.lss rfl rfl rfl rfl ?_
  repeat (first | apply ES.seq | apply ES.skip | apply ES.region | apply EL.nil | apply ES.block | apply ES.nil | apply ES.exit | apply ES.ret | apply PX.hit | (apply PX.miss; exact rfl) | apply PX.then_x | apply PX.then_r | apply PX.block_n | apply PX.block_r | refine PX.then_n (e := .normal) ?_)
  refine ES.condD rfl (fun hlt => ?_) (fun hge => ?_)
  · have hlt' : i < ops.length := by omega
    have hsm := hI.small (by omega)
    have hfn : s.fed.length ≤ 4194304 := by have := hI.n; omega
    have hbb : (viewQ s.fed s.k s.c).bytes ≤ 8589934592 := hsm.b
    obtain ⟨o, ho⟩ : ∃ o, o = ops.getD i (0, []) := ⟨_, rfl⟩
    have hol : o.2.length ≤ 1048576 := by
      rw [ho, List.getD_eq_getElem?_getD, List.getElem?_eq_getElem hlt']
      exact hl _ (List.getElem_mem _)
    have hget := ops_get ops i hlt'
    rw [← ho] at hget
    have hrd' := hrd
    obtain ⟨ga, oa, rfl, _⟩ := hrd' (fun e => by have := hget 0 _ rfl; rw [e] at this; simp at this)
    repeat (first | apply ES.seq | apply ES.skip | apply ES.region | apply EL.nil | apply ES.block | apply ES.nil | apply ES.exit | apply ES.ret | apply PX.hit | (apply PX.miss; exact rfl) | apply PX.then_x | apply PX.then_r | apply PX.block_n | apply PX.block_r | refine PX.then_n (e := .normal) ?_)
    repeat (first | apply ES.seq | apply ES.skip | apply ES.region | apply EL.nil | apply ES.block | apply ES.nil | apply ES.exit | apply ES.ret | apply PX.hit | (apply PX.miss; exact rfl) | apply PX.then_x | apply PX.then_r | apply PX.block_n | apply PX.block_r | refine PX.then_n (e := .normal) ?_)
    refine EL.indexAddrL rfl rfl rfl rfl rfl rfl rfl hlt' ?_
    refine EL.loadOldA (j := i * 2) (vs := [Iv o.1, Sv o.2]) rfl rfl rfl rfl rfl (by simp) rfl hrd hget ?_
    (refine EL.alloc rfl rfl rfl ?_; intro g6)
    (apply EL.storeAll; exact rfl; exact rfl; exact rfl; exact rfl; exact rfl; (case p => (repeat (first | exact PickSet.here _ _ _ | apply PickSet.there))); exact rfl; (case h1 => exact (by first | rfl | (intro u hu; simp at hu; rcases hu with rfl | rfl | rfl | rfl <;> rfl) | (intro u hu; simp at hu; rcases hu with rfl | rfl | rfl <;> rfl) | (intro u hu; simp at hu; rcases hu with rfl | rfl <;> rfl) | (intro u hu; simp at hu; obtain ⟨_, _, rfl⟩ := hu; rfl))))
    repeat (first | apply ES.seq | apply ES.skip | apply ES.region | apply EL.nil | apply ES.block | apply ES.nil | apply ES.exit | apply ES.ret | apply PX.hit | (apply PX.miss; exact rfl) | apply PX.then_x | apply PX.then_r | apply PX.block_n | apply PX.block_r | refine PX.then_n (e := .normal) ?_)
    refine EL.fieldAddr rfl rfl rfl rfl rfl rfl rfl rfl ?_
    (apply EL.loadB; exact rfl; exact rfl; exact rfl; exact rfl; exact rfl; (case hm => (repeat (first | exact Mem.here _ _ | apply Mem.there))); exact rfl)
    repeat (first | apply EL.nil | apply ES.seq | apply ES.skip)
    refine ES.cutC (X := { s' : PS // PI (i + 1) s' }) (fun _ => [(3, Pv g 0), (4, Pv g4 0), (18, .slice (some ⟨ga, oa, none⟩) ops.length cap), (19, Iv ops.length), (20, Iv i)]) (fun s' => PH g g4 s'.1) ?_ (fun s' => ?_)
    · repeat (first | apply ES.seq | apply ES.skip | apply ES.region | apply EL.nil | apply ES.block | apply ES.nil | apply ES.exit | apply ES.ret | apply PX.hit | (apply PX.miss; exact rfl) | apply PX.then_x | apply PX.then_r | apply PX.block_n | apply PX.block_r | refine PX.then_n (e := .normal) ?_)
      refine EL.eqlI rfl rfl rfl rfl ?_
      refine EL.assign rfl rfl rfl ?_
      repeat (first | apply ES.seq | apply ES.skip | apply ES.region | apply EL.nil | apply ES.block | apply ES.nil | apply ES.exit | apply ES.ret | apply PX.hit | (apply PX.miss; exact rfl) | apply PX.then_x | apply PX.then_r | apply PX.block_n | apply PX.block_r | refine PX.then_n (e := .normal) ?_)
      refine ES.condD rfl (fun h0 => ?_) (fun h0 => ?_)
      · have fc := feed_c g s.a1 s.e1 (viewQ s.fed s.k s.c) o.2 hsm
        rw [← rfeed_view _ _ _ _ hI.k] at fc
        have rc := rfeed_c g4 s.a2 s.e2 s.fed s.k s.c o.2 hfn (by omega)
        repeat (first | apply ES.seq | apply ES.skip | apply EL.nil | apply ES.block | apply ES.nil | apply ES.exit | apply ES.ret | apply PX.hit | (apply PX.miss; exact rfl) | apply PX.then_x | apply PX.then_r | apply PX.block_n | apply PX.block_r | refine PX.then_n (e := .normal) ?_)
        refine ES.draw (X := QA × QA) (fun _ => [(35, .bool false), (3, Pv g 0), (4, Pv g4 0), (18, .slice (some ⟨ga, oa, none⟩) ops.length cap), (19, Iv ops.length), (20, Iv i)]) (fun x => PH g g4 ⟨rfeed s.fed s.k s.c o.2, s.k, s.c, x.1.1, x.1.2, x.2.1, x.2.2⟩) [HA.blk g6 (.cells #[Iv o.1, Sv o.2] 48)] mixed (by repeat (first | exact Ent.nil _ | exact Ent.refl _ | (apply Ent.cons; case p => repeat (first | exact Pick.here _ _ | apply Pick.there)) | apply Ent.drop)) ?_ (fun x => ?_)
        · refine ED.take 0 rfl (by decide +kernel) CutX.no_panic (by decide +kernel) rfl rfl rfl (RV.move rfl) ?_
          refine ED.take 1 rfl (by decide +kernel) CutX.no_panic (by decide +kernel) rfl rfl rfl (RV.fieldAddr rfl rfl rfl rfl rfl rfl) ?_
          refine ED.take 2 rfl (by decide +kernel) CutX.no_panic (by decide +kernel) rfl rfl rfl (RV.loadB rfl rfl rfl (by repeat (first | exact Mem.here _ _ | apply Mem.there)) rfl) ?_
          refine ED.take 4 rfl (by decide +kernel) CutX.no_panic (by decide +kernel) rfl rfl rfl (RV.fieldAddr rfl rfl rfl rfl rfl rfl) ?_
          refine ED.take 5 rfl (by decide +kernel) CutX.no_panic (by decide +kernel) rfl rfl rfl (RV.loadB rfl rfl rfl (by repeat (first | exact Mem.here _ _ | apply Mem.there)) rfl) ?_
          refine ED.loud 3 rfl (by decide +kernel) ?_
          (refine EL.callM rfl rfl rfl ent19 rfl fc (by repeat (first | exact Takes.nil _ | (apply Takes.cons; case p => repeat (first | exact Pick.here _ _ | apply Pick.there)))) ?_; intro x1)
          refine ED.next (by repeat (first | exact Ent.nil _ | exact Ent.refl _ | (apply Ent.cons; case p => repeat (first | exact Pick.here _ _ | apply Pick.there)) | apply Ent.drop)) ?_
          refine ED.loud 6 rfl (by decide +kernel) ?_
          (refine EL.callM rfl rfl rfl ent20 rfl rc (by repeat (first | exact Takes.nil _ | (apply Takes.cons; case p => repeat (first | exact Pick.here _ _ | apply Pick.there)))) ?_; intro x2)
          refine ED.next (by repeat (first | exact Ent.nil _ | exact Ent.refl _ | (apply Ent.cons; case p => repeat (first | exact Pick.here _ _ | apply Pick.there)) | apply Ent.drop)) ?_
          refine ED.take 7 rfl (by decide +kernel) CutX.no_panic (by decide +kernel) rfl rfl rfl (RV.neqI rfl rfl) ?_
          refine ED.done (by decide +kernel) ?_
          exact PX.cutX (x1, x2) ⟨getA rfl (by simp), rfl, rfl, rfl, rfl, rfl, trivial⟩ (by repeat (first | exact Ent.nil _ | exact Ent.refl _ | (apply Ent.cons; case p => repeat (first | exact Pick.here _ _ | apply Pick.there)) | apply Ent.drop))
        refine ES.condF rfl ?_
        repeat (first | apply ES.seq | apply ES.skip | apply ES.region | apply EL.nil | apply ES.block | apply ES.nil | apply ES.exit | apply ES.ret | apply PX.hit | (apply PX.miss; exact rfl) | apply PX.then_x | apply PX.then_r | apply PX.block_n | apply PX.block_r | refine PX.then_n (e := .normal) ?_)
        exact PX.cutX ⟨_, hI.feed o.2 x.1.1 x.1.2 x.2.1 x.2.2⟩ ⟨rfl, rfl, rfl, rfl, rfl, trivial⟩ (by repeat (first | exact Ent.nil _ | exact Ent.refl _ | (apply Ent.cons; case p => repeat (first | exact Pick.here _ _ | apply Pick.there)) | apply Ent.drop))
      · repeat (first | apply ES.seq | apply ES.skip | apply ES.region | apply EL.nil | apply ES.block | apply ES.nil | apply ES.exit | apply ES.ret | apply PX.hit | (apply PX.miss; exact rfl) | apply PX.then_x | apply PX.then_r | apply PX.block_n | apply PX.block_r | refine PX.then_n (e := .normal) ?_)
        refine EL.eqlI rfl rfl rfl rfl ?_
        refine EL.assign rfl rfl rfl ?_
        repeat (first | apply ES.seq | apply ES.skip | apply ES.region | apply EL.nil | apply ES.block | apply ES.nil | apply ES.exit | apply ES.ret | apply PX.hit | (apply PX.miss; exact rfl) | apply PX.then_x | apply PX.then_r | apply PX.block_n | apply PX.block_r | refine PX.then_n (e := .normal) ?_)
        refine ES.condD rfl (fun h1 => ?_) (fun h1 => ?_)
        · have cc := close_c g s.a1 s.e1 (viewQ s.fed s.k s.c)
          have hcv : (closeM (viewQ s.fed s.k s.c)).2 = viewQ s.fed s.k true := by cases hc : s.c <;> simp [closeM, viewQ]
          rw [hcv] at cc
          have rc := rclose_c g4 s.a2 s.e2 s.fed s.k s.c
          repeat (first | apply ES.seq | apply ES.skip | apply ES.region | apply EL.nil | apply ES.block | apply ES.nil | apply ES.exit | apply ES.ret | apply PX.hit | (apply PX.miss; exact rfl) | apply PX.then_x | apply PX.then_r | apply PX.block_n | apply PX.block_r | refine PX.then_n (e := .normal) ?_)
          refine EL.move rfl rfl rfl ?_
          refine EL.callM1 rfl rfl rfl ent21 rfl cc (by repeat (first | exact Takes.nil _ | (apply Takes.cons; case p => repeat (first | exact Pick.here _ _ | apply Pick.there)))) ?_
          refine EL.callM1 rfl rfl rfl ent22 rfl rc (by repeat (first | exact Takes.nil _ | (apply Takes.cons; case p => repeat (first | exact Pick.here _ _ | apply Pick.there)))) ?_
          refine EL.neqI rfl rfl rfl rfl ?_
          repeat (first | apply ES.seq | apply ES.skip | apply ES.region | apply EL.nil | apply ES.block | apply ES.nil | apply ES.exit | apply ES.ret | apply PX.hit | (apply PX.miss; exact rfl) | apply PX.then_x | apply PX.then_r | apply PX.block_n | apply PX.block_r | refine PX.then_n (e := .normal) ?_)
          refine ES.condK false rfl (by simp) ?_
          repeat (first | apply ES.seq | apply ES.skip | apply ES.region | apply EL.nil | apply ES.block | apply ES.nil | apply ES.exit | apply ES.ret | apply PX.hit | (apply PX.miss; exact rfl) | apply PX.then_x | apply PX.then_r | apply PX.block_n | apply PX.block_r | refine PX.then_n (e := .normal) ?_)
          exact PX.cutX ⟨_, hI.close⟩ ⟨rfl, rfl, rfl, rfl, rfl, trivial⟩ (by repeat (first | exact Ent.nil _ | exact Ent.refl _ | (apply Ent.cons; case p => repeat (first | exact Pick.here _ _ | apply Pick.there)) | apply Ent.drop))
        · repeat (first | apply ES.seq | apply ES.skip | apply ES.region | apply EL.nil | apply ES.block | apply ES.nil | apply ES.exit | apply ES.ret | apply PX.hit | (apply PX.miss; exact rfl) | apply PX.then_x | apply PX.then_r | apply PX.block_n | apply PX.block_r | refine PX.then_n (e := .normal) ?_)
          refine EL.eqlI rfl rfl rfl rfl ?_
          refine EL.assign rfl rfl rfl ?_
          repeat (first | apply ES.seq | apply ES.skip | apply ES.region | apply EL.nil | apply ES.block | apply ES.nil | apply ES.exit | apply ES.ret | apply PX.hit | (apply PX.miss; exact rfl) | apply PX.then_x | apply PX.then_r | apply PX.block_n | apply PX.block_r | refine PX.then_n (e := .normal) ?_)
          refine ES.condD rfl (fun h2 => ?_) (fun h2 => ?_)
          · have nc := next_c g s.a1 s.e1 (viewQ s.fed s.k s.c) hsm
            have hnv := (rnextK_view s.fed s.k s.c hI.k).1
            rw [← hnv] at nc
            have rc := rnext_c g4 s.a2 s.e2 s.fed s.k s.c hI.k hfn
            repeat (first | apply ES.seq | apply ES.skip | apply ES.region | apply EL.nil | apply ES.block | apply ES.nil | apply ES.exit | apply ES.ret | apply PX.hit | (apply PX.miss; exact rfl) | apply PX.then_x | apply PX.then_r | apply PX.block_n | apply PX.block_r | refine PX.then_n (e := .normal) ?_)
            refine EL.move rfl rfl rfl ?_
            (refine EL.callM rfl rfl rfl ent23 rfl nc (by repeat (first | exact Takes.nil _ | (apply Takes.cons; case p => repeat (first | exact Pick.here _ _ | apply Pick.there)))) ?_; intro x1)
            refine EL.move rfl rfl rfl ?_
            refine EL.extract rfl rfl rfl rfl ?_
            refine EL.extract rfl rfl rfl rfl ?_
            refine EL.assign rfl rfl rfl ?_
            refine EL.assign rfl rfl rfl ?_
            repeat (first | apply ES.seq | apply ES.skip | apply ES.region | apply EL.nil | apply ES.block | apply ES.nil | apply ES.exit | apply ES.ret | apply PX.hit | (apply PX.miss; exact rfl) | apply PX.then_x | apply PX.then_r | apply PX.block_n | apply PX.block_r | refine PX.then_n (e := .normal) ?_)
            refine EL.callM1 rfl rfl rfl ent24 rfl rc (by repeat (first | exact Takes.nil _ | (apply Takes.cons; case p => repeat (first | exact Pick.here _ _ | apply Pick.there)))) ?_
            refine EL.move rfl rfl rfl ?_
            refine EL.extract rfl rfl rfl rfl ?_
            refine EL.extract rfl rfl rfl rfl ?_
            refine EL.assign rfl rfl rfl ?_
            refine EL.assign rfl rfl rfl ?_
            repeat (first | apply ES.seq | apply ES.skip | apply ES.region | apply EL.nil | apply ES.block | apply ES.nil | apply ES.exit | apply ES.ret | apply PX.hit | (apply PX.miss; exact rfl) | apply PX.then_x | apply PX.then_r | apply PX.block_n | apply PX.block_r | refine PX.then_n (e := .normal) ?_)
            repeat (first | apply ES.seq | apply ES.skip | apply ES.region | apply EL.nil | apply ES.block | apply ES.nil | apply ES.exit | apply ES.ret | apply PX.hit | (apply PX.miss; exact rfl) | apply PX.then_x | apply PX.then_r | apply PX.block_n | apply PX.block_r | refine PX.then_n (e := .normal) ?_)
            refine EL.move rfl rfl rfl ?_
            refine EL.move rfl rfl rfl ?_
            refine EL.neqS rfl rfl rfl rfl ?_
            refine EL.move rfl rfl rfl ?_
            refine EL.rew (d := 56) (v' := .bool false) rfl (by first | rfl | (decide) | (simp)) ?_
            refine EL.move rfl rfl rfl ?_
            refine EL.move rfl rfl rfl ?_
            refine EL.neqB rfl rfl rfl rfl rfl rfl ?_
            refine EL.pickF rfl rfl rfl rfl ?_
            repeat (first | apply ES.seq | apply ES.skip | apply ES.region | apply EL.nil | apply ES.block | apply ES.nil | apply ES.exit | apply ES.ret | apply PX.hit | (apply PX.miss; exact rfl) | apply PX.then_x | apply PX.then_r | apply PX.block_n | apply PX.block_r | refine PX.then_n (e := .normal) ?_)
            refine ES.condK false rfl (by simp) ?_
            repeat (first | apply ES.seq | apply ES.skip | apply ES.region | apply EL.nil | apply ES.block | apply ES.nil | apply ES.exit | apply ES.ret | apply PX.hit | (apply PX.miss; exact rfl) | apply PX.then_x | apply PX.then_r | apply PX.block_n | apply PX.block_r | refine PX.then_n (e := .normal) ?_)
            exact PX.cutX ⟨_, hI.next x1.1 x1.2⟩ ⟨rfl, rfl, rfl, rfl, rfl, trivial⟩ (by repeat (first | exact Ent.nil _ | exact Ent.refl _ | (apply Ent.cons; case p => repeat (first | exact Pick.here _ _ | apply Pick.there)) | apply Ent.drop))
          · repeat (first | apply ES.seq | apply ES.skip | apply ES.region | apply EL.nil | apply ES.block | apply ES.nil | apply ES.exit | apply ES.ret | apply PX.hit | (apply PX.miss; exact rfl) | apply PX.then_x | apply PX.then_r | apply PX.block_n | apply PX.block_r | refine PX.then_n (e := .normal) ?_)
            exact PX.cutX ⟨_, hI.stay⟩ ⟨rfl, rfl, rfl, rfl, rfl, trivial⟩ (by repeat (first | exact Ent.nil _ | exact Ent.refl _ | (apply Ent.cons; case p => repeat (first | exact Pick.here _ _ | apply Pick.there)) | apply Ent.drop))
    · obtain ⟨s, hI⟩ := s'
      have hsm := hI.small (by omega)
      have hfn : s.fed.length ≤ 4194304 := by have := hI.n; omega
      have hbb : (viewQ s.fed s.k s.c).bytes ≤ 8589934592 := hsm.b
      repeat (first | apply ES.seq | apply ES.skip | apply EL.nil | apply ES.block | apply ES.nil | apply ES.exit | apply ES.ret | apply PX.hit | (apply PX.miss; exact rfl) | apply PX.then_x | apply PX.then_r | apply PX.block_n | apply PX.block_r | refine PX.then_n (e := .normal) ?_)
      refine ES.draw (X := Unit) (fun _ => [(89, .bool false), (3, Pv g 0), (4, Pv g4 0), (18, .slice (some ⟨ga, oa, none⟩) ops.length cap), (19, Iv ops.length), (20, Iv i)]) (fun _ => PH g g4 s) [HA.blk g4 (.cells #[.slice s.a2 s.fed.length s.e2, Iv s.k, .bool s.c] 46)] mixed (by repeat (first | exact Ent.nil _ | exact Ent.refl _ | (apply Ent.cons; case p => repeat (first | exact Pick.here _ _ | apply Pick.there)) | apply Ent.drop)) ?_ (fun x => ?_)
      · refine ED.take 0 rfl (by decide +kernel) CutX.no_panic (by decide +kernel) rfl rfl rfl (RV.move rfl) ?_
        refine ED.loud 1 rfl (by decide +kernel) ?_
        refine EL.callM1 rfl rfl rfl ent25 rfl (ready_c g s.a1 s.e1 (viewQ s.fed s.k s.c)) (by repeat (first | exact Takes.nil _ | (apply Takes.cons; case p => repeat (first | exact Pick.here _ _ | apply Pick.there)))) ?_
        refine ED.next (by repeat (first | exact Ent.nil _ | exact Ent.refl _ | (apply Ent.cons; case p => repeat (first | exact Pick.here _ _ | apply Pick.there)) | apply Ent.drop)) ?_
        refine ED.loud 2 rfl (by decide +kernel) ?_
        refine EL.callM1 rfl rfl rfl ent26 rfl (rready_c g4 s.a2 s.e2 s.fed s.k s.c hI.k hfn) (by repeat (first | exact Takes.nil _ | (apply Takes.cons; case p => repeat (first | exact Pick.here _ _ | apply Pick.there)))) ?_
        refine ED.next (by repeat (first | exact Ent.nil _ | exact Ent.refl _ | (apply Ent.cons; case p => repeat (first | exact Pick.here _ _ | apply Pick.there)) | apply Ent.drop)) ?_
        refine ED.take 3 rfl (by decide +kernel) CutX.no_panic (by decide +kernel) rfl rfl rfl (RV.neqB rfl rfl rfl rfl) ?_
        refine ED.take 4 rfl (by decide +kernel) CutX.no_panic (by decide +kernel) rfl rfl rfl (RV.move rfl) ?_
        refine ED.rew (d := 65) (v' := .bool false) rfl (by simp) ?_
        refine ED.take 5 rfl (by decide +kernel) CutX.no_panic (by decide +kernel) rfl rfl rfl (RV.move rfl) ?_
        refine ED.loud 6 rfl (by decide +kernel) ?_
        refine EL.callM1 rfl rfl rfl ent27 rfl (last_c g s.a1 s.e1 (viewQ s.fed s.k s.c)) (by repeat (first | exact Takes.nil _ | (apply Takes.cons; case p => repeat (first | exact Pick.here _ _ | apply Pick.there)))) ?_
        refine ED.next (by repeat (first | exact Ent.nil _ | exact Ent.refl _ | (apply Ent.cons; case p => repeat (first | exact Pick.here _ _ | apply Pick.there)) | apply Ent.drop)) ?_
        refine ED.loud 7 rfl (by decide +kernel) ?_
        refine EL.callM1 rfl rfl rfl ent28 rfl (rlast_c g4 s.a2 s.e2 s.fed s.k s.c hI.k hfn) (by repeat (first | exact Takes.nil _ | (apply Takes.cons; case p => repeat (first | exact Pick.here _ _ | apply Pick.there)))) ?_
        refine ED.next (by repeat (first | exact Ent.nil _ | exact Ent.refl _ | (apply Ent.cons; case p => repeat (first | exact Pick.here _ _ | apply Pick.there)) | apply Ent.drop)) ?_
        refine ED.take 8 rfl (by decide +kernel) CutX.no_panic (by decide +kernel) rfl rfl rfl (RV.neqB rfl rfl rfl rfl) ?_
        refine ED.take 9 rfl (by decide +kernel) CutX.no_panic (by decide +kernel) rfl rfl rfl (RV.pickF rfl rfl) ?_
        refine ED.take 10 rfl (by decide +kernel) CutX.no_panic (by decide +kernel) rfl rfl rfl (RV.move rfl) ?_
        refine ED.rew (d := 71) (v' := .bool false) rfl (by simp) ?_
        refine ED.take 11 rfl (by decide +kernel) CutX.no_panic (by decide +kernel) rfl rfl rfl (RV.move rfl) ?_
        refine ED.take 13 rfl (by decide +kernel) CutX.no_panic (by decide +kernel) rfl rfl rfl (RV.fieldAddr rfl rfl rfl rfl rfl rfl) ?_
        refine ED.take 14 rfl (by decide +kernel) CutX.no_panic (by decide +kernel) rfl rfl rfl (RV.loadB rfl rfl rfl (by repeat (first | exact Mem.here _ _ | apply Mem.there)) rfl) ?_
        refine ED.loud 12 rfl (by decide +kernel) ?_
        refine EL.callM1 rfl rfl rfl ent29 rfl (number_c g s.a1 s.e1 (viewQ s.fed s.k s.c)) (by repeat (first | exact Takes.nil _ | (apply Takes.cons; case p => repeat (first | exact Pick.here _ _ | apply Pick.there)))) ?_
        refine ED.next (by repeat (first | exact Ent.nil _ | exact Ent.refl _ | (apply Ent.cons; case p => repeat (first | exact Pick.here _ _ | apply Pick.there)) | apply Ent.drop)) ?_
        refine ED.take 15 rfl (by decide +kernel) CutX.no_panic (by decide +kernel) rfl rfl rfl (RV.neqI rfl rfl) ?_
        refine ED.take 16 rfl (by decide +kernel) CutX.no_panic (by decide +kernel) rfl rfl rfl (RV.pickF rfl rfl) ?_
        refine ED.take 17 rfl (by decide +kernel) CutX.no_panic (by decide +kernel) rfl rfl rfl (RV.move rfl) ?_
        refine ED.rew (d := 78) (v' := .bool false) rfl (by simp [viewQ]) ?_
        refine ED.take 18 rfl (by decide +kernel) CutX.no_panic (by decide +kernel) rfl rfl rfl (RV.move rfl) ?_
        refine ED.loud 19 rfl (by decide +kernel) ?_
        refine EL.callM1 rfl rfl rfl ent30 rfl (waiting_c g s.a1 s.e1 (viewQ s.fed s.k s.c)) (by repeat (first | exact Takes.nil _ | (apply Takes.cons; case p => repeat (first | exact Pick.here _ _ | apply Pick.there)))) ?_
        refine ED.next (by repeat (first | exact Ent.nil _ | exact Ent.refl _ | (apply Ent.cons; case p => repeat (first | exact Pick.here _ _ | apply Pick.there)) | apply Ent.drop)) ?_
        refine ED.loud 20 rfl (by decide +kernel) ?_
        refine EL.callM1 rfl rfl rfl ent31 rfl (rwaiting_c g4 s.a2 s.e2 s.fed s.k s.c hI.k hfn) (by repeat (first | exact Takes.nil _ | (apply Takes.cons; case p => repeat (first | exact Pick.here _ _ | apply Pick.there)))) ?_
        refine ED.next (by repeat (first | exact Ent.nil _ | exact Ent.refl _ | (apply Ent.cons; case p => repeat (first | exact Pick.here _ _ | apply Pick.there)) | apply Ent.drop)) ?_
        refine ED.take 21 rfl (by decide +kernel) CutX.no_panic (by decide +kernel) rfl rfl rfl (RV.neqI rfl rfl) ?_
        refine ED.take 22 rfl (by decide +kernel) CutX.no_panic (by decide +kernel) rfl rfl rfl (RV.pickF rfl rfl) ?_
        refine ED.take 23 rfl (by decide +kernel) CutX.no_panic (by decide +kernel) rfl rfl rfl (RV.move rfl) ?_
        refine ED.rew (d := 84) (v' := .bool false) rfl (by simp [viewQ]) ?_
        refine ED.take 24 rfl (by decide +kernel) CutX.no_panic (by decide +kernel) rfl rfl rfl (RV.move rfl) ?_
        refine ED.loud 25 rfl (by decide +kernel) ?_
        refine EL.callM1 rfl rfl rfl ent32 rfl (held_c g s.a1 s.e1 (viewQ s.fed s.k s.c)) (by repeat (first | exact Takes.nil _ | (apply Takes.cons; case p => repeat (first | exact Pick.here _ _ | apply Pick.there)))) ?_
        refine ED.next (by repeat (first | exact Ent.nil _ | exact Ent.refl _ | (apply Ent.cons; case p => repeat (first | exact Pick.here _ _ | apply Pick.there)) | apply Ent.drop)) ?_
        refine ED.loud 26 rfl (by decide +kernel) ?_
        refine EL.callM1 rfl rfl rfl ent33 rfl (rheld_c g4 s.a2 s.e2 s.fed s.k s.c hI.k hfn hbb) (by repeat (first | exact Takes.nil _ | (apply Takes.cons; case p => repeat (first | exact Pick.here _ _ | apply Pick.there)))) ?_
        refine ED.next (by repeat (first | exact Ent.nil _ | exact Ent.refl _ | (apply Ent.cons; case p => repeat (first | exact Pick.here _ _ | apply Pick.there)) | apply Ent.drop)) ?_
        refine ED.take 27 rfl (by decide +kernel) CutX.no_panic (by decide +kernel) rfl rfl rfl (RV.neqI rfl rfl) ?_
        refine ED.take 28 rfl (by decide +kernel) CutX.no_panic (by decide +kernel) rfl rfl rfl (RV.pickF rfl rfl) ?_
        refine ED.done (by decide +kernel) ?_
        exact PX.cutX () ⟨getA rfl (by simp), rfl, rfl, rfl, rfl, rfl, trivial⟩ (by repeat (first | exact Ent.nil _ | exact Ent.refl _ | (apply Ent.cons; case p => repeat (first | exact Pick.here _ _ | apply Pick.there)) | apply Ent.drop))
      refine ES.condF rfl ?_
      repeat (first | apply ES.seq | apply ES.skip | apply ES.region | apply EL.nil | apply ES.block | apply ES.nil | apply ES.exit | apply ES.ret | apply PX.hit | (apply PX.miss; exact rfl) | apply PX.then_x | apply PX.then_r | apply PX.block_n | apply PX.block_r | refine PX.then_n (e := .normal) ?_)
      refine EL.add1 rfl rfl rfl rfl (by omega) ?_
      refine EL.move rfl rfl rfl ?_
      repeat (first | apply ES.seq | apply ES.skip | apply ES.region | apply EL.nil | apply ES.block | apply ES.nil | apply ES.exit | apply ES.ret | apply PX.hit | (apply PX.miss; exact rfl) | apply PX.then_x | apply PX.then_r | apply PX.block_n | apply PX.block_r | refine PX.then_n (e := .normal) ?_)
      exact PX.loop (i + 1, s) ⟨by simp only; omega, hI⟩ (by simp only; omega) ⟨rfl, rfl, rfl, rfl, rfl, trivial⟩ (by repeat (first | exact Ent.nil _ | exact Ent.refl _ | (apply Ent.cons; case p => repeat (first | exact Pick.here _ _ | apply Pick.there)) | apply Ent.drop))
  · repeat (first | apply ES.seq | apply ES.skip | apply ES.region | apply EL.nil | apply ES.block | apply ES.nil | apply ES.exit | apply ES.ret | apply PX.hit | (apply PX.miss; exact rfl) | apply PX.then_x | apply PX.then_r | apply PX.block_n | apply PX.block_r | refine PX.then_n (e := .normal) ?_)
    refine EL.assign rfl rfl rfl ?_
    repeat (first | apply ES.seq | apply ES.skip | apply ES.region | apply EL.nil | apply ES.block | apply ES.nil | apply ES.exit | apply ES.ret | apply PX.hit | (apply PX.miss; exact rfl) | apply PX.then_x | apply PX.then_r | apply PX.block_n | apply PX.block_r | refine PX.then_n (e := .normal) ?_)
    exact PX.ret rfl Try.results7 (.cons (.tmp rfl) .nil) (fun w hs => ⟨(), rfl, hs.ent (.nil _)⟩)
end Go.Proofs.Ytbclmngjhhmbdaa
