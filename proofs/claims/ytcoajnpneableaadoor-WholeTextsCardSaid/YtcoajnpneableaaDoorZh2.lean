/- Texts of this claim, bundled. -/
import Derived.Test.YtcoajnpneableaaDoorZh1
namespace Go.Proofs.YtcoajnpneableaaDoor
open Go Go.RowKit Sl
set_option maxRecDepth 100000
set_option maxHeartbeats 8000000
set_option linter.unusedVariables false
set_option linter.unusedSimpArgs false
attribute [local irreducible] ES EL PX wps
abbrev SB (g : Nat) (s : BS) : HA := HA.blk g (.cells s.cells 24)
theorem take_snoc {α : Type} (l : List α) (i : Nat) (d : α) (h : i < l.length) : l.take (i + 1) = l.take i ++ [l.getD i d] := by
  rw [List.take_succ_eq_append_getElem h, List.getD_eq_getElem?_getD, List.getElem?_eq_getElem h]; rfl
theorem ofS_step (l : List UInt8) (i : Nat) (h : i < l.length) : addS (ofS (l.take i)) (l.getD i 0).toNat = ofS (l.take (i + 1)) := by
  rw [take_snoc l i 0 h]; simp [ofS, List.foldl_append]
theorem add_c (g : Nat) (s : BS) (b : UInt8) : Mut Tryd.prog 59 #[Pv g 0, Uv b] [SB g s] (fun _ : Unit => .tuple #[]) (fun _ => [SB g (addS s b.toNat)]) := by
  intro w0 B R w h
  have hb := b.toNat_lt
  obtain ⟨x0, x1, x2, x3⟩ := s
  replace h : Sat w0 B (SB g ⟨x0, x1, x2, x3⟩ :: R) w := h
  refine calls_of_ES TB Tryd.func59 rfl _ Tryd.ntmps59 rfl h ?_
  refine ES.draw (X := Unit) (fun _ => []) (fun _ => SB g (addS ⟨x0, x1, x2, x3⟩ b.toNat) :: R) [SB g ⟨x0, x1, x2, x3⟩] mixed (.i (by repeat constructor)) ?_ (fun _ => ?_)
  · refine ED.take 0 rfl (by decide +kernel) CutX.no_panic (by decide +kernel) rfl rfl rfl (RV.move rfl) ?_
    refine ED.take 1 rfl (by decide +kernel) CutX.no_panic (by decide +kernel) rfl rfl rfl (RV.move rfl) ?_
    refine ED.take 2 rfl (by decide +kernel) CutX.no_panic (by decide +kernel) rfl rfl rfl (RV.quoU (n := 64) rfl rfl (by omega) (by simp only [kmax]; omega)) ?_
    refine ED.take 3 rfl (by decide +kernel) CutX.no_panic (by decide +kernel) rfl rfl rfl (RV.nilCheck rfl) ?_
    refine ED.take 4 rfl (by decide +kernel) CutX.no_panic (by decide +kernel) rfl rfl rfl (RV.indexAddrA1 rfl rfl rfl rfl rfl rfl (by omega)) ?_
    refine ED.take 5 rfl (by decide +kernel) CutX.no_panic (by decide +kernel) rfl rfl rfl (RV.loadBS rfl rfl rfl (by repeat constructor) (by omega)) ?_
    refine ED.take 6 rfl (by decide +kernel) CutX.no_panic (by decide +kernel) rfl rfl rfl (RV.move rfl) ?_
    refine ED.take 7 rfl (by decide +kernel) CutX.no_panic (by decide +kernel) rfl rfl rfl (RV.remN (n := 64) rfl rfl (by omega)) ?_
    refine ED.take 8 rfl (by decide +kernel) CutX.no_panic (by decide +kernel) rfl rfl rfl (RV.shlW (a := 1) rfl rfl rfl (by omega)) ?_
    refine ED.take 9 rfl (by decide +kernel) CutX.no_panic (by decide +kernel) rfl rfl rfl (RV.orW rfl rfl rfl rfl) ?_
    refine ED.take 10 rfl (by decide +kernel) CutX.no_panic (by decide +kernel) rfl rfl rfl (RV.nilCheck rfl) ?_
    refine ED.take 11 rfl (by decide +kernel) CutX.no_panic (by decide +kernel) rfl rfl rfl (RV.indexAddrA1 rfl rfl rfl rfl rfl rfl (by omega)) ?_
    refine ED.last 12 rfl (by decide +kernel) (by decide +kernel) (by decide +kernel) ?_
    refine EL.storeBS rfl rfl rfl rfl rfl (by repeat constructor) (by omega) ?_
    refine EL.endQ ?_
    exact PX.cutX () trivial (.i (by repeat constructor))
  refine .go ?_; repeat constructor
  exact PX.end rfl Tryd.results59 .nil (fun w hs => ⟨(), rfl, hs.ent (.i (by repeat constructor))⟩)
theorem of_c (l : List UInt8) (hl : l.length ≤ 4611686018427387904) (w : World) : Pure Tryd.prog 45 #[Sv l] (fun _ : Unit => Bs (ofS l)) (fun _ => []) w := by
  refine calls_of_ES TB Tryd.func45 rfl _ Tryd.ntmps45 rfl (Sat.start w) ?_
  refine .go ?_; repeat constructor
  (refine EL.alloc rfl rfl rfl ?_; intro g2)
  refine .go ?_; repeat constructor
  (refine EL.alloc rfl rfl rfl ?_; intro g3)
  refine .go ?_; repeat constructor
  refine EL.move rfl rfl rfl ?_
  refine EL.lenS rfl rfl rfl rfl rfl ?_
  refine EL.move rfl rfl rfl ?_
  refine .go ?_; repeat constructor
  refine ES.loop (σ := Nat) (fun i => i ≤ l.length) (fun i => [(0, Sv l), (2, Pv g2 0), (3, Pv g3 0), (6, Iv l.length), (7, Iv i)]) (fun i => [SB g3 (ofS (l.take i)), SB g2 zeroS]) (fun i => l.length - i) 0 (Nat.zero_le _) ⟨rfl, rfl, rfl, rfl, rfl, trivial⟩ (.i (by repeat constructor)) ?_
  intro i hi
  refine .go ?_; repeat constructor
  refine EL.lss rfl rfl rfl rfl ?_
  refine .go ?_; repeat constructor
  refine ES.condD rfl (fun hlt => ?_) (fun hge => ?_)
  · have hlt' : i < l.length := by omega
    have hst := ofS_step l i hlt'
    refine .go ?_; repeat constructor
    refine EL.move rfl rfl rfl ?_
    refine EL.assign rfl rfl rfl ?_
    refine .go ?_; repeat constructor
    refine EL.move rfl rfl rfl ?_
    refine EL.move rfl rfl rfl ?_
    refine EL.indexSN rfl rfl rfl rfl rfl rfl (by omega) ?_
    refine EL.callM1 rfl rfl rfl ent59 rfl (add_c g3 (ofS (l.take i)) (l.getD i 0)) (by repeat constructor) ?_
    refine .go ?_; repeat constructor
    rw [hst]
    refine .go ?_; repeat constructor
    refine EL.add1 rfl rfl rfl rfl (by omega) ?_
    refine EL.move rfl rfl rfl ?_
    refine .go ?_; repeat constructor
    exact PX.loop (i + 1) (by omega) (by omega) ⟨rfl, rfl, rfl, rfl, rfl, trivial⟩ (.i (by repeat constructor))
  obtain rfl : i = l.length := by omega
  rw [List.take_length]
  refine .go ?_; repeat constructor
  (apply EL.loadAggB; exact rfl; exact rfl; exact rfl; exact rfl; exact rfl; (case hm => repeat constructor); exact rfl)
  (apply EL.storeAll; exact rfl; exact rfl; exact rfl; exact rfl; exact rfl; (case p => repeat constructor); exact rfl; (case h1 => exact (by first | rfl | exact all1 rfl | (intro u hu; simp only [List.mem_cons, List.not_mem_nil, or_false] at hu; rcases hu with rfl | rfl | rfl | rfl <;> rfl) | (intro u hu; simp at hu; rcases hu with rfl | rfl | rfl | rfl <;> rfl) | (intro u hu; simp at hu; rcases hu with rfl | rfl | rfl <;> rfl) | (intro u hu; simp at hu; rcases hu with rfl | rfl <;> rfl) | (intro u hu; simp at hu; obtain ⟨_, _, rfl⟩ := hu; rfl))))
  refine .go ?_; repeat constructor
  exact PX.ret rfl Tryd.results45 (.cons (.blkA rfl rfl rfl (by repeat constructor) rfl) .nil) (fun w hs => ⟨(), rfl, hs.ent (.nil _)⟩)
theorem span_c (lo hi : UInt8) (w : World) : Pure Tryd.prog 58 #[Uv lo, Uv hi] (fun _ : Unit => .tuple #[Bs (spanM lo hi).1, Iv (spanM lo hi).2]) (fun _ => []) w := by
  have hl := lo.toNat_lt
  have hh := hi.toNat_lt
  refine calls_of_ES TB Tryd.func58 rfl _ Tryd.ntmps58 rfl (Sat.start w) ?_
  refine .go ?_; repeat constructor
  (refine EL.alloc rfl rfl rfl ?_; intro g4)
  refine EL.assign rfl rfl rfl ?_
  refine .go ?_; repeat constructor
  (refine EL.alloc rfl rfl rfl ?_; intro g6)
  refine .go ?_; repeat constructor
  refine EL.move rfl rfl rfl ?_
  refine EL.move rfl rfl rfl ?_
  refine EL.lss rfl rfl rfl rfl ?_
  refine .go ?_; repeat constructor
  refine ES.condD rfl (fun hlt => ?_) (fun hge => ?_)
  · have hm : spanM lo hi = (zeroS, 7) := by simp only [spanM]; rw [if_pos (by omega)]
    refine .go ?_; repeat constructor
    (apply EL.loadAggB; exact rfl; exact rfl; exact rfl; exact rfl; exact rfl; (case hm => repeat constructor); exact rfl)
    (apply EL.storeAll; exact rfl; exact rfl; exact rfl; exact rfl; exact rfl; (case p => repeat constructor); exact rfl; (case h1 => exact (by first | rfl | exact all1 rfl | (intro u hu; simp only [List.mem_cons, List.not_mem_nil, or_false] at hu; rcases hu with rfl | rfl | rfl | rfl <;> rfl) | (intro u hu; simp at hu; rcases hu with rfl | rfl | rfl | rfl <;> rfl) | (intro u hu; simp at hu; rcases hu with rfl | rfl | rfl <;> rfl) | (intro u hu; simp at hu; rcases hu with rfl | rfl <;> rfl) | (intro u hu; simp at hu; obtain ⟨_, _, rfl⟩ := hu; rfl))))
    refine EL.assign rfl rfl rfl ?_
    refine .go ?_; repeat constructor
    exact PX.ret rfl Tryd.results58 (.cons (.blkA rfl rfl rfl (by repeat constructor) rfl) (.cons (.tmp rfl) .nil)) (fun w hs => ⟨(), by rw [hm]; rfl, hs.ent (.nil _)⟩)
  have hle : lo.toNat ≤ hi.toNat := by omega
  have hm : spanM lo hi = (spanGo lo.toNat (hi.toNat + 1 - lo.toNat), 0) := by simp only [spanM]; rw [if_neg (by omega), span_eq lo hi hle]
  refine .go ?_; repeat constructor
  refine EL.move rfl rfl rfl ?_
  refine EL.convN rfl rfl rfl rfl rfl rfl (le_big8 _ _) ?_
  refine EL.assign rfl rfl rfl ?_
  refine .go ?_; repeat constructor
  refine ES.loop (σ := Nat) (fun n => lo.toNat + n ≤ hi.toNat + 1) (fun n => [(1, Uv hi), (4, Pv g4 0), (6, Pv g6 0), (7, Iv ((lo.toNat + n : Nat) : Int))]) (fun n => [SB g6 (spanGo lo.toNat n), SB g4 zeroS]) (fun n => hi.toNat + 1 - (lo.toNat + n)) 0 (by omega) ⟨rfl, rfl, rfl, rfl, trivial⟩ (.i (by repeat constructor)) ?_
  intro n hn
  refine .go ?_; repeat constructor
  refine EL.move rfl rfl rfl ?_
  refine EL.move rfl rfl rfl ?_
  refine EL.convN rfl rfl rfl rfl rfl rfl (le_big8 _ _) ?_
  refine EL.leq rfl rfl rfl rfl ?_
  refine .go ?_; repeat constructor
  refine ES.condD rfl (fun hlt2 => ?_) (fun hge2 => ?_)
  · have hk : lo.toNat + n < 256 := by omega
    have hk8 : (UInt8.ofNat (lo.toNat + n)).toNat = lo.toNat + n := by simp; omega
    have hc := add_c g6 (spanGo lo.toNat n) (UInt8.ofNat (lo.toNat + n))
    rw [show addS (spanGo lo.toNat n) (UInt8.ofNat (lo.toNat + n)).toNat = spanGo lo.toNat (n + 1) by rw [hk8]; rfl] at hc
    refine .go ?_; repeat constructor
    refine EL.move rfl rfl rfl ?_
    refine EL.convI ((UInt8.ofNat (lo.toNat + n)).toNat : Int) rfl rfl rfl rfl rfl rfl (by rw [hk8]; exact wrap_u8 _ hk) ?_
    refine EL.callM1 rfl rfl rfl ent59 rfl hc (by repeat constructor) ?_
    refine .go ?_; repeat constructor
    refine EL.move rfl rfl rfl ?_
    refine EL.add1 rfl rfl rfl rfl (by omega) ?_
    refine EL.assign rfl rfl rfl ?_
    refine .go ?_; repeat constructor
    exact PX.loop (n + 1) (by omega) (by omega) ⟨rfl, rfl, rfl, rfl, trivial⟩ (.i (by repeat constructor))
  have he : n = hi.toNat + 1 - lo.toNat := by omega
  subst he
  refine .go ?_; repeat constructor
  (apply EL.loadAggB; exact rfl; exact rfl; exact rfl; exact rfl; exact rfl; (case hm => repeat constructor); exact rfl)
  (apply EL.storeAll; exact rfl; exact rfl; exact rfl; exact rfl; exact rfl; (case p => repeat constructor); exact rfl; (case h1 => exact (by first | rfl | exact all1 rfl | (intro u hu; simp only [List.mem_cons, List.not_mem_nil, or_false] at hu; rcases hu with rfl | rfl | rfl | rfl <;> rfl) | (intro u hu; simp at hu; rcases hu with rfl | rfl | rfl | rfl <;> rfl) | (intro u hu; simp at hu; rcases hu with rfl | rfl | rfl <;> rfl) | (intro u hu; simp at hu; rcases hu with rfl | rfl <;> rfl) | (intro u hu; simp at hu; obtain ⟨_, _, rfl⟩ := hu; rfl))))
  refine EL.assign rfl rfl rfl ?_
  refine .go ?_; repeat constructor
  exact PX.ret rfl Tryd.results58 (.cons (.blkA rfl rfl rfl (by repeat constructor) rfl) (.cons (.tmp rfl) .nil)) (fun w hs => ⟨(), by rw [hm]; rfl, hs.ent (.nil _)⟩)
theorem ones_c (x : UInt64) (w : World) : Pure Tryd.prog 47 #[Wv x] (fun _ : Unit => Iv (ocM x : Nat)) (fun _ => []) w := by
  refine calls_of_ES TB Tryd.func47 rfl _ Tryd.ntmps47 rfl (Sat.start w) ?_
  refine .go ?_; repeat constructor
  refine EL.assign rfl rfl rfl ?_
  refine .go ?_; repeat constructor
  refine EL.move rfl rfl rfl ?_
  refine EL.ofRV (RV.shrW (s := 1) rfl rfl rfl (by omega)) rfl rfl rfl (by intro c h; cases h) ?_
  refine EL.ofRV (RV.andW (b := 6148914691236517205) rfl rfl rfl rfl) rfl rfl rfl (by intro c h; cases h) ?_
  refine EL.move rfl rfl rfl ?_
  refine EL.ofRV (RV.andW (b := 6148914691236517205) rfl rfl rfl rfl) rfl rfl rfl (by intro c h; cases h) ?_
  refine EL.ofRV (RV.addW rfl rfl rfl rfl) rfl rfl rfl (by intro c h; cases h) ?_
  refine EL.assign rfl rfl rfl ?_
  refine .go ?_; repeat constructor
  refine EL.move rfl rfl rfl ?_
  refine EL.ofRV (RV.shrW (s := 2) rfl rfl rfl (by omega)) rfl rfl rfl (by intro c h; cases h) ?_
  refine EL.ofRV (RV.andW (b := 3689348814741910323) rfl rfl rfl rfl) rfl rfl rfl (by intro c h; cases h) ?_
  refine EL.move rfl rfl rfl ?_
  refine EL.ofRV (RV.andW (b := 3689348814741910323) rfl rfl rfl rfl) rfl rfl rfl (by intro c h; cases h) ?_
  refine EL.ofRV (RV.addW rfl rfl rfl rfl) rfl rfl rfl (by intro c h; cases h) ?_
  refine EL.assign rfl rfl rfl ?_
  refine .go ?_; repeat constructor
  refine EL.move rfl rfl rfl ?_
  refine EL.ofRV (RV.shrW (s := 4) rfl rfl rfl (by omega)) rfl rfl rfl (by intro c h; cases h) ?_
  refine EL.move rfl rfl rfl ?_
  refine EL.ofRV (RV.addW rfl rfl rfl rfl) rfl rfl rfl (by intro c h; cases h) ?_
  refine EL.ofRV (RV.andW (b := 1085102592571150095) rfl rfl rfl rfl) rfl rfl rfl (by intro c h; cases h) ?_
  refine EL.assign rfl rfl rfl ?_
  refine .go ?_; repeat constructor
  refine EL.move rfl rfl rfl ?_
  refine EL.move rfl rfl rfl ?_
  refine EL.ofRV (RV.shrW (s := 8) rfl rfl rfl (by omega)) rfl rfl rfl (by intro c h; cases h) ?_
  refine EL.ofRV (RV.addW rfl rfl rfl rfl) rfl rfl rfl (by intro c h; cases h) ?_
  refine EL.assign rfl rfl rfl ?_
  refine .go ?_; repeat constructor
  refine EL.move rfl rfl rfl ?_
  refine EL.move rfl rfl rfl ?_
  refine EL.ofRV (RV.shrW (s := 16) rfl rfl rfl (by omega)) rfl rfl rfl (by intro c h; cases h) ?_
  refine EL.ofRV (RV.addW rfl rfl rfl rfl) rfl rfl rfl (by intro c h; cases h) ?_
  refine EL.assign rfl rfl rfl ?_
  refine .go ?_; repeat constructor
  refine EL.move rfl rfl rfl ?_
  refine EL.move rfl rfl rfl ?_
  refine EL.ofRV (RV.shrW (s := 32) rfl rfl rfl (by omega)) rfl rfl rfl (by intro c h; cases h) ?_
  refine EL.ofRV (RV.addW rfl rfl rfl rfl) rfl rfl rfl (by intro c h; cases h) ?_
  refine EL.assign rfl rfl rfl ?_
  refine .go ?_; repeat constructor
  refine EL.move rfl rfl rfl ?_
  refine EL.convI (IntKind.i64.wrap ((oc6 (oc5 (oc4 (oc3 (oc2 (oc1 x)))))).toNat : Int)) rfl rfl rfl rfl rfl rfl rfl ?_
  refine EL.and127 rfl rfl rfl rfl rfl ?_
  refine EL.assign rfl rfl rfl ?_
  refine .go ?_; repeat constructor
  exact PX.ret rfl Tryd.results47 (.cons (.tmp rfl) .nil) (fun w hs => ⟨(), rfl, hs.ent (.nil _)⟩)
theorem count_c (s : BS) (w : World) : Pure Tryd.prog 34 #[Bs s] (fun _ : Unit => Iv (countS s : Nat)) (fun _ => []) w := by
  refine calls_of_ES TB Tryd.func34 rfl _ Tryd.ntmps34 rfl (Sat.start w) ?_
  refine .go ?_; repeat constructor
  (refine EL.box rfl rfl rfl ?_; intro g1)
  refine EL.assign rfl rfl rfl ?_
  refine .go ?_; repeat constructor
  refine EL.assign rfl rfl rfl ?_
  refine .go ?_; repeat constructor
  (apply EL.loadAggB; exact rfl; exact rfl; exact rfl; exact rfl; exact rfl; (case hm => repeat constructor); exact rfl)
  refine EL.move rfl rfl rfl ?_
  refine .go ?_; repeat constructor
  refine ES.loop (σ := Nat) (fun i => i ≤ 4) (fun i => [(3, Iv (countGo s i : Nat)), (6, Bs s), (7, Iv i)]) (fun _ => []) (fun i => 4 - i) 0 (by omega) ⟨rfl, rfl, rfl, trivial⟩ (.i (by repeat constructor)) ?_
  intro i hi
  have hle := countGo_le s i
  refine .go ?_; repeat constructor
  refine EL.lss rfl rfl rfl rfl ?_
  refine .go ?_; repeat constructor
  refine ES.condD rfl (fun hlt => ?_) (fun hge => ?_)
  · have hlt' : i < 4 := by omega
    have hw := ocM_le (s.get i)
    refine .go ?_; repeat constructor
    refine EL.indexBS rfl rfl rfl rfl rfl rfl rfl rfl rfl hlt' ?_
    refine EL.assign rfl rfl rfl ?_
    refine .go ?_; repeat constructor
    refine EL.move rfl rfl rfl ?_
    refine EL.move rfl rfl rfl ?_
    refine EL.callP rfl rfl rfl ent47 rfl (ones_c (s.get i)) ?_
    refine EL.addN rfl rfl rfl rfl rfl (by omega) ?_
    refine EL.assign rfl rfl rfl ?_
    refine .go ?_; repeat constructor
    refine EL.add1 rfl rfl rfl rfl (by omega) ?_
    refine EL.move rfl rfl rfl ?_
    refine .go ?_; repeat constructor
    exact PX.loop (i + 1) (by omega) (by omega) ⟨rfl, rfl, rfl, trivial⟩ (.i (by repeat constructor))
  obtain rfl : i = 4 := by omega
  refine .go ?_; repeat constructor
  refine EL.move rfl rfl rfl ?_
  refine EL.assign rfl rfl rfl ?_
  refine .go ?_; repeat constructor
  exact PX.ret rfl Tryd.results34 (.cons (.tmp rfl) .nil) (fun w hs => ⟨(), rfl, hs.ent (.nil _)⟩)
theorem join_c (fw : Nat) (op : UInt64 → UInt64 → UInt64) (he : Enters Tryd.prog fw) (hc : ∀ x y w, Pure Tryd.prog fw #[Wv x, Wv y] (fun _ : Unit => Wv (op x y)) (fun _ => []) w) (s t : BS) (w : World) :
    Pure Tryd.prog 43 #[Bs s, Bs t, .func (.func fw) #[] #[]] (fun _ : Unit => Bs (joinS op s t)) (fun _ => []) w := by
  refine calls_of_ES TB Tryd.func43 rfl _ Tryd.ntmps43 rfl (Sat.start w) ?_
  refine .go ?_; repeat constructor
  (refine EL.box rfl rfl rfl ?_; intro g3)
  (refine EL.box rfl rfl rfl ?_; intro g4)
  (refine EL.alloc rfl rfl rfl ?_; intro g6)
  refine .go ?_; repeat constructor
  (refine EL.alloc rfl rfl rfl ?_; intro g7)
  refine .go ?_; repeat constructor
  refine EL.move rfl rfl rfl ?_
  refine .go ?_; repeat constructor
  refine ES.loop (σ := Nat) (fun i => i ≤ 4) (fun i => [(2, .func (.func fw) #[] #[]), (3, Pv g3 0), (4, Pv g4 0), (6, Pv g6 0), (7, Pv g7 0), (9, Iv i)]) (fun i => [SB g7 (partJ op s t i), SB g6 zeroS, SB g4 t, SB g3 s]) (fun i => 4 - i) 0 (by omega) ⟨rfl, rfl, rfl, rfl, rfl, rfl, trivial⟩ (.i (by repeat constructor)) ?_
  intro i hi
  refine .go ?_; repeat constructor
  refine EL.lss rfl rfl rfl rfl ?_
  refine .go ?_; repeat constructor
  refine ES.condD rfl (fun hlt => ?_) (fun hge => ?_)
  · have hlt' : i < 4 := by omega
    have hst := partJ_step op s t i hlt'
    refine .go ?_; repeat constructor
    refine EL.move rfl rfl rfl ?_
    refine EL.assign rfl rfl rfl ?_
    refine .go ?_; repeat constructor
    refine ES.draw (X := Unit) (fun _ => [(2, .func (.func fw) #[] #[]), (3, Pv g3 0), (4, Pv g4 0), (6, Pv g6 0), (7, Pv g7 0), (9, Iv i)]) (fun _ => [SB g7 (partJ op s t (i + 1)), SB g6 zeroS, SB g4 t, SB g3 s]) [SB g4 t, SB g3 s] mixed (.i (by repeat constructor)) ?_ (fun _ => ?_)
    · rw [← hst]
      refine ED.take 0 rfl (by decide +kernel) CutX.no_panic (by decide +kernel) rfl rfl rfl (RV.move rfl) ?_
      refine ED.take 1 rfl (by decide +kernel) CutX.no_panic (by decide +kernel) rfl rfl rfl (RV.move rfl) ?_
      refine ED.take 2 rfl (by decide +kernel) CutX.no_panic (by decide +kernel) rfl rfl rfl (RV.move rfl) ?_
      refine ED.take 3 rfl (by decide +kernel) CutX.no_panic (by decide +kernel) rfl rfl rfl (RV.indexAddrA1 rfl rfl rfl rfl rfl rfl (by omega)) ?_
      refine ED.take 4 rfl (by decide +kernel) CutX.no_panic (by decide +kernel) rfl rfl rfl (RV.loadBS (w0 := s.a) (w1 := s.b) (w2 := s.c) (w3 := s.d) rfl rfl rfl (by repeat constructor) hlt') ?_
      refine ED.take 5 rfl (by decide +kernel) CutX.no_panic (by decide +kernel) rfl rfl rfl (RV.move rfl) ?_
      refine ED.take 6 rfl (by decide +kernel) CutX.no_panic (by decide +kernel) rfl rfl rfl (RV.indexAddrA1 rfl rfl rfl rfl rfl rfl (by omega)) ?_
      refine ED.take 7 rfl (by decide +kernel) CutX.no_panic (by decide +kernel) rfl rfl rfl (RV.loadBS (w0 := t.a) (w1 := t.b) (w2 := t.c) (w3 := t.d) rfl rfl rfl (by repeat constructor) hlt') ?_
      refine ED.loud 8 rfl (by decide +kernel) ?_
      refine EL.callP rfl rfl rfl he rfl (hc (s.get i) (t.get i)) ?_
      refine ED.next (.i (by repeat constructor)) ?_
      refine ED.take 9 rfl (by decide +kernel) CutX.no_panic (by decide +kernel) rfl rfl rfl (RV.indexAddrA1 rfl rfl rfl rfl rfl rfl (by omega)) ?_
      refine ED.last 10 rfl (by decide +kernel) (by decide +kernel) (by decide +kernel) ?_
      refine EL.storeBS rfl rfl rfl rfl rfl (by repeat constructor) hlt' ?_
      refine EL.endQ ?_
      exact PX.cutX () ⟨rfl, rfl, rfl, rfl, rfl, rfl, trivial⟩ (.i (by repeat constructor))
    refine .go ?_; repeat constructor
    refine EL.add1 rfl rfl rfl rfl (by omega) ?_
    refine EL.move rfl rfl rfl ?_
    refine .go ?_; repeat constructor
    exact PX.loop (i + 1) (by omega) (by omega) ⟨rfl, rfl, rfl, rfl, rfl, rfl, trivial⟩ (.i (by repeat constructor))
  obtain rfl : i = 4 := by omega
  refine .go ?_; repeat constructor
  (apply EL.loadAggB; exact rfl; exact rfl; exact rfl; exact rfl; exact rfl; (case hm => repeat constructor); exact rfl)
  (apply EL.storeAll; exact rfl; exact rfl; exact rfl; exact rfl; exact rfl; (case p => repeat constructor); exact rfl; (case h1 => exact (by first | rfl | exact all1 rfl | (intro u hu; simp only [List.mem_cons, List.not_mem_nil, or_false] at hu; rcases hu with rfl | rfl | rfl | rfl <;> rfl) | (intro u hu; simp at hu; rcases hu with rfl | rfl | rfl | rfl <;> rfl) | (intro u hu; simp at hu; rcases hu with rfl | rfl | rfl <;> rfl) | (intro u hu; simp at hu; rcases hu with rfl | rfl <;> rfl) | (intro u hu; simp at hu; obtain ⟨_, _, rfl⟩ := hu; rfl))))
  refine .go ?_; repeat constructor
  exact PX.ret rfl Tryd.results43 (.cons (.blkA rfl rfl rfl (by repeat constructor) rfl) .nil) (fun w hs => ⟨(), rfl, hs.ent (.nil _)⟩)
theorem not1_c (x y : UInt64) (w : World) : Pure Tryd.prog 44 #[Wv x, Wv y] (fun _ : Unit => Wv (~~~x)) (fun _ => []) w := by
  refine calls_of_ES TB Tryd.func44 rfl _ Tryd.ntmps44 rfl (Sat.start w) ?_
  refine .go ?_; repeat constructor
  refine EL.assign rfl rfl rfl ?_
  refine .go ?_; repeat constructor
  refine EL.move rfl rfl rfl ?_
  refine EL.ofRV (RV.notW rfl rfl) rfl rfl rfl (by intro c h; cases h) ?_
  refine EL.assign rfl rfl rfl ?_
  refine .go ?_; repeat constructor
  exact PX.ret rfl Tryd.results44 (.cons (.tmp rfl) .nil) (fun w hs => ⟨(), rfl, hs.ent (.nil _)⟩)
theorem or1_c (x y : UInt64) (w : World) : Pure Tryd.prog 55 #[Wv x, Wv y] (fun _ : Unit => Wv (x ||| y)) (fun _ => []) w := by
  refine calls_of_ES TB Tryd.func55 rfl _ Tryd.ntmps55 rfl (Sat.start w) ?_
  refine .go ?_; repeat constructor
  refine EL.assign rfl rfl rfl ?_
  refine .go ?_; repeat constructor
  refine EL.move rfl rfl rfl ?_
  refine EL.move rfl rfl rfl ?_
  refine EL.ofRV (RV.orW rfl rfl rfl rfl) rfl rfl rfl (by intro c h; cases h) ?_
  refine EL.assign rfl rfl rfl ?_
  refine .go ?_; repeat constructor
  exact PX.ret rfl Tryd.results55 (.cons (.tmp rfl) .nil) (fun w hs => ⟨(), rfl, hs.ent (.nil _)⟩)
theorem not_c (s : BS) (w : World) : Pure Tryd.prog 31 #[Bs s] (fun _ : Unit => Bs (notS s)) (fun _ => []) w := by
  refine calls_of_ES TB Tryd.func31 rfl _ Tryd.ntmps31 rfl (Sat.start w) ?_
  refine .go ?_; repeat constructor
  (refine EL.box rfl rfl rfl ?_; intro g1)
  (refine EL.alloc rfl rfl rfl ?_; intro g2)
  refine .go ?_; repeat constructor
  (apply EL.loadAggB; exact rfl; exact rfl; exact rfl; exact rfl; exact rfl; (case hm => repeat constructor); exact rfl)
  (apply EL.loadAggB; exact rfl; exact rfl; exact rfl; exact rfl; exact rfl; (case hm => repeat constructor); exact rfl)
  refine EL.callP rfl rfl rfl ent43 rfl (join_c 44 (fun x _ => ~~~x) ent44 not1_c s s) ?_
  (apply EL.storeAll; exact rfl; exact rfl; exact rfl; exact rfl; exact rfl; (case p => repeat constructor); exact rfl; (case h1 => exact (by first | rfl | exact all1 rfl | (intro u hu; simp only [List.mem_cons, List.not_mem_nil, or_false] at hu; rcases hu with rfl | rfl | rfl | rfl <;> rfl) | (intro u hu; simp at hu; rcases hu with rfl | rfl | rfl | rfl <;> rfl) | (intro u hu; simp at hu; rcases hu with rfl | rfl | rfl <;> rfl) | (intro u hu; simp at hu; rcases hu with rfl | rfl <;> rfl) | (intro u hu; simp at hu; obtain ⟨_, _, rfl⟩ := hu; rfl))))
  refine .go ?_; repeat constructor
  exact PX.ret rfl Tryd.results31 (.cons (.blkA rfl rfl rfl (by repeat constructor) rfl) .nil) (fun w hs => ⟨(), rfl, hs.ent (.nil _)⟩)
theorem or_c (s t : BS) (w : World) : Pure Tryd.prog 41 #[Bs s, Bs t] (fun _ : Unit => Bs (orS s t)) (fun _ => []) w := by
  refine calls_of_ES TB Tryd.func41 rfl _ Tryd.ntmps41 rfl (Sat.start w) ?_
  refine .go ?_; repeat constructor
  (refine EL.box rfl rfl rfl ?_; intro g2)
  (refine EL.box rfl rfl rfl ?_; intro g3)
  (refine EL.alloc rfl rfl rfl ?_; intro g4)
  refine .go ?_; repeat constructor
  (apply EL.loadAggB; exact rfl; exact rfl; exact rfl; exact rfl; exact rfl; (case hm => repeat constructor); exact rfl)
  (apply EL.loadAggB; exact rfl; exact rfl; exact rfl; exact rfl; exact rfl; (case hm => repeat constructor); exact rfl)
  refine EL.callP rfl rfl rfl ent43 rfl (join_c 55 (fun x y => x ||| y) ent55 or1_c s t) ?_
  (apply EL.storeAll; exact rfl; exact rfl; exact rfl; exact rfl; exact rfl; (case p => repeat constructor); exact rfl; (case h1 => exact (by first | rfl | exact all1 rfl | (intro u hu; simp only [List.mem_cons, List.not_mem_nil, or_false] at hu; rcases hu with rfl | rfl | rfl | rfl <;> rfl) | (intro u hu; simp at hu; rcases hu with rfl | rfl | rfl | rfl <;> rfl) | (intro u hu; simp at hu; rcases hu with rfl | rfl | rfl <;> rfl) | (intro u hu; simp at hu; rcases hu with rfl | rfl <;> rfl) | (intro u hu; simp at hu; obtain ⟨_, _, rfl⟩ := hu; rfl))))
  refine .go ?_; repeat constructor
  exact PX.ret rfl Tryd.results41 (.cons (.blkA rfl rfl rfl (by repeat constructor) rfl) .nil) (fun w hs => ⟨(), rfl, hs.ent (.nil _)⟩)
end Go.Proofs.YtcoajnpneableaaDoor
namespace Go.Proofs.YtcoajnpneableaaDoor
open Go Go.RowKit Sl
set_option maxRecDepth 100000
set_option maxHeartbeats 8000000
set_option linter.unusedVariables false
set_option linter.unusedSimpArgs false
attribute [local irreducible] ES EL PX wps
attribute [local irreducible] fillS
theorem is_c (l : List UInt8) (b : UInt8) (w : World) : Pure Tryd.prog 73 #[Sv l, Uv b] (fun _ : Unit => .tuple #[.bool (isB l b.toNat), .bool (okM l)]) (fun _ => []) w := by
  have hb := b.toNat_lt
  refine calls_of_ES TB Tryd.func73 rfl _ Tryd.ntmps73 rfl (Sat.start w) ?_
  refine .go ?_; repeat constructor
  refine EL.assign rfl rfl rfl ?_
  refine EL.assign rfl rfl rfl ?_
  refine .go ?_; repeat constructor
  refine EL.cut [(0, Sv l), (1, Uv b), (6, .bool (bUp b.toNat)), (7, .bool (bLo b.toNat)), (8, .bool (bDi b.toNat))] [] ?_ ?_
  · refine .go ?_; repeat constructor
    refine EL.move rfl rfl rfl ?_
    refine EL.geq rfl rfl rfl rfl ?_
    refine EL.move rfl rfl rfl ?_
    first | refine EL.splitD (d := 12) rfl (fun hp12 => ?_) (fun hp12 => ?_) | refine EL.splitN (d := 12) rfl (fun hp12 => ?_) (fun hp12 => ?_) | refine EL.splitB (d := 12) rfl (fun hp12 => ?_) (fun hp12 => ?_)
    · refine EL.move rfl rfl rfl ?_
      refine EL.leq rfl rfl rfl rfl ?_
      refine EL.pickT rfl rfl rfl rfl ?_
      refine EL.move rfl rfl rfl ?_
      refine EL.geq rfl rfl rfl rfl ?_
      refine EL.move rfl rfl rfl ?_
      first | refine EL.splitD (d := 18) rfl (fun hp18 => ?_) (fun hp18 => ?_) | refine EL.splitN (d := 18) rfl (fun hp18 => ?_) (fun hp18 => ?_) | refine EL.splitB (d := 18) rfl (fun hp18 => ?_) (fun hp18 => ?_)
      · refine EL.move rfl rfl rfl ?_
        refine EL.leq rfl rfl rfl rfl ?_
        refine EL.pickT rfl rfl rfl rfl ?_
        refine EL.move rfl rfl rfl ?_
        refine EL.geq rfl rfl rfl rfl ?_
        refine EL.move rfl rfl rfl ?_
        first | refine EL.splitD (d := 24) rfl (fun hp24 => ?_) (fun hp24 => ?_) | refine EL.splitN (d := 24) rfl (fun hp24 => ?_) (fun hp24 => ?_) | refine EL.splitB (d := 24) rfl (fun hp24 => ?_) (fun hp24 => ?_)
        · refine EL.move rfl rfl rfl ?_
          refine EL.leq rfl rfl rfl rfl ?_
          refine EL.pickT rfl rfl rfl rfl ?_
          refine EL.assign rfl rfl rfl ?_
          refine EL.assign rfl rfl rfl ?_
          refine EL.assign rfl rfl rfl ?_
          exact EL.endK ⟨rfl, rfl, getB rfl (by first | exact decide_eq_decide.2 (by omega) | exact Eq.trans decide_not.symm (decide_eq_decide.2 (by omega)) | exact (decide_eq_false (by omega)).symm | exact (decide_eq_true (by omega)).symm), getB rfl (by first | exact decide_eq_decide.2 (by omega) | exact Eq.trans decide_not.symm (decide_eq_decide.2 (by omega)) | exact (decide_eq_false (by omega)).symm | exact (decide_eq_true (by omega)).symm), getB rfl (by first | exact decide_eq_decide.2 (by omega) | exact Eq.trans decide_not.symm (decide_eq_decide.2 (by omega)) | exact (decide_eq_false (by omega)).symm | exact (decide_eq_true (by omega)).symm), trivial⟩ (.i (by repeat constructor))
        · refine EL.pass rfl rfl rfl ?_
          refine EL.pass rfl rfl rfl ?_
          refine EL.pickF rfl rfl rfl rfl ?_
          refine EL.assign rfl rfl rfl ?_
          refine EL.assign rfl rfl rfl ?_
          refine EL.assign rfl rfl rfl ?_
          exact EL.endK ⟨rfl, rfl, getB rfl (by first | exact decide_eq_decide.2 (by omega) | exact Eq.trans decide_not.symm (decide_eq_decide.2 (by omega)) | exact (decide_eq_false (by omega)).symm | exact (decide_eq_true (by omega)).symm), getB rfl (by first | exact decide_eq_decide.2 (by omega) | exact Eq.trans decide_not.symm (decide_eq_decide.2 (by omega)) | exact (decide_eq_false (by omega)).symm | exact (decide_eq_true (by omega)).symm), getB rfl (by first | exact decide_eq_decide.2 (by omega) | exact Eq.trans decide_not.symm (decide_eq_decide.2 (by omega)) | exact (decide_eq_false (by omega)).symm | exact (decide_eq_true (by omega)).symm), trivial⟩ (.i (by repeat constructor))
      · refine EL.pass rfl rfl rfl ?_
        refine EL.pass rfl rfl rfl ?_
        refine EL.pickF rfl rfl rfl rfl ?_
        refine EL.move rfl rfl rfl ?_
        refine EL.geq rfl rfl rfl rfl ?_
        refine EL.move rfl rfl rfl ?_
        first | refine EL.splitD (d := 24) rfl (fun hp24 => ?_) (fun hp24 => ?_) | refine EL.splitN (d := 24) rfl (fun hp24 => ?_) (fun hp24 => ?_) | refine EL.splitB (d := 24) rfl (fun hp24 => ?_) (fun hp24 => ?_)
        · refine EL.move rfl rfl rfl ?_
          refine EL.leq rfl rfl rfl rfl ?_
          refine EL.pickT rfl rfl rfl rfl ?_
          refine EL.assign rfl rfl rfl ?_
          refine EL.assign rfl rfl rfl ?_
          refine EL.assign rfl rfl rfl ?_
          exact EL.endK ⟨rfl, rfl, getB rfl (by first | exact decide_eq_decide.2 (by omega) | exact Eq.trans decide_not.symm (decide_eq_decide.2 (by omega)) | exact (decide_eq_false (by omega)).symm | exact (decide_eq_true (by omega)).symm), getB rfl (by first | exact decide_eq_decide.2 (by omega) | exact Eq.trans decide_not.symm (decide_eq_decide.2 (by omega)) | exact (decide_eq_false (by omega)).symm | exact (decide_eq_true (by omega)).symm), getB rfl (by first | exact decide_eq_decide.2 (by omega) | exact Eq.trans decide_not.symm (decide_eq_decide.2 (by omega)) | exact (decide_eq_false (by omega)).symm | exact (decide_eq_true (by omega)).symm), trivial⟩ (.i (by repeat constructor))
        · refine EL.pass rfl rfl rfl ?_
          refine EL.pass rfl rfl rfl ?_
          refine EL.pickF rfl rfl rfl rfl ?_
          refine EL.assign rfl rfl rfl ?_
          refine EL.assign rfl rfl rfl ?_
          refine EL.assign rfl rfl rfl ?_
          exact EL.endK ⟨rfl, rfl, getB rfl (by first | exact decide_eq_decide.2 (by omega) | exact Eq.trans decide_not.symm (decide_eq_decide.2 (by omega)) | exact (decide_eq_false (by omega)).symm | exact (decide_eq_true (by omega)).symm), getB rfl (by first | exact decide_eq_decide.2 (by omega) | exact Eq.trans decide_not.symm (decide_eq_decide.2 (by omega)) | exact (decide_eq_false (by omega)).symm | exact (decide_eq_true (by omega)).symm), getB rfl (by first | exact decide_eq_decide.2 (by omega) | exact Eq.trans decide_not.symm (decide_eq_decide.2 (by omega)) | exact (decide_eq_false (by omega)).symm | exact (decide_eq_true (by omega)).symm), trivial⟩ (.i (by repeat constructor))
    · refine EL.pass rfl rfl rfl ?_
      refine EL.pass rfl rfl rfl ?_
      refine EL.pickF rfl rfl rfl rfl ?_
      refine EL.move rfl rfl rfl ?_
      refine EL.geq rfl rfl rfl rfl ?_
      refine EL.move rfl rfl rfl ?_
      first | refine EL.splitD (d := 18) rfl (fun hp18 => ?_) (fun hp18 => ?_) | refine EL.splitN (d := 18) rfl (fun hp18 => ?_) (fun hp18 => ?_) | refine EL.splitB (d := 18) rfl (fun hp18 => ?_) (fun hp18 => ?_)
      · refine EL.move rfl rfl rfl ?_
        refine EL.leq rfl rfl rfl rfl ?_
        refine EL.pickT rfl rfl rfl rfl ?_
        refine EL.move rfl rfl rfl ?_
        refine EL.geq rfl rfl rfl rfl ?_
        refine EL.move rfl rfl rfl ?_
        first | refine EL.splitD (d := 24) rfl (fun hp24 => ?_) (fun hp24 => ?_) | refine EL.splitN (d := 24) rfl (fun hp24 => ?_) (fun hp24 => ?_) | refine EL.splitB (d := 24) rfl (fun hp24 => ?_) (fun hp24 => ?_)
        · refine EL.move rfl rfl rfl ?_
          refine EL.leq rfl rfl rfl rfl ?_
          refine EL.pickT rfl rfl rfl rfl ?_
          refine EL.assign rfl rfl rfl ?_
          refine EL.assign rfl rfl rfl ?_
          refine EL.assign rfl rfl rfl ?_
          exact EL.endK ⟨rfl, rfl, getB rfl (by first | exact decide_eq_decide.2 (by omega) | exact Eq.trans decide_not.symm (decide_eq_decide.2 (by omega)) | exact (decide_eq_false (by omega)).symm | exact (decide_eq_true (by omega)).symm), getB rfl (by first | exact decide_eq_decide.2 (by omega) | exact Eq.trans decide_not.symm (decide_eq_decide.2 (by omega)) | exact (decide_eq_false (by omega)).symm | exact (decide_eq_true (by omega)).symm), getB rfl (by first | exact decide_eq_decide.2 (by omega) | exact Eq.trans decide_not.symm (decide_eq_decide.2 (by omega)) | exact (decide_eq_false (by omega)).symm | exact (decide_eq_true (by omega)).symm), trivial⟩ (.i (by repeat constructor))
        · refine EL.pass rfl rfl rfl ?_
          refine EL.pass rfl rfl rfl ?_
          refine EL.pickF rfl rfl rfl rfl ?_
          refine EL.assign rfl rfl rfl ?_
          refine EL.assign rfl rfl rfl ?_
          refine EL.assign rfl rfl rfl ?_
          exact EL.endK ⟨rfl, rfl, getB rfl (by first | exact decide_eq_decide.2 (by omega) | exact Eq.trans decide_not.symm (decide_eq_decide.2 (by omega)) | exact (decide_eq_false (by omega)).symm | exact (decide_eq_true (by omega)).symm), getB rfl (by first | exact decide_eq_decide.2 (by omega) | exact Eq.trans decide_not.symm (decide_eq_decide.2 (by omega)) | exact (decide_eq_false (by omega)).symm | exact (decide_eq_true (by omega)).symm), getB rfl (by first | exact decide_eq_decide.2 (by omega) | exact Eq.trans decide_not.symm (decide_eq_decide.2 (by omega)) | exact (decide_eq_false (by omega)).symm | exact (decide_eq_true (by omega)).symm), trivial⟩ (.i (by repeat constructor))
      · refine EL.pass rfl rfl rfl ?_
        refine EL.pass rfl rfl rfl ?_
        refine EL.pickF rfl rfl rfl rfl ?_
        refine EL.move rfl rfl rfl ?_
        refine EL.geq rfl rfl rfl rfl ?_
        refine EL.move rfl rfl rfl ?_
        first | refine EL.splitD (d := 24) rfl (fun hp24 => ?_) (fun hp24 => ?_) | refine EL.splitN (d := 24) rfl (fun hp24 => ?_) (fun hp24 => ?_) | refine EL.splitB (d := 24) rfl (fun hp24 => ?_) (fun hp24 => ?_)
        · refine EL.move rfl rfl rfl ?_
          refine EL.leq rfl rfl rfl rfl ?_
          refine EL.pickT rfl rfl rfl rfl ?_
          refine EL.assign rfl rfl rfl ?_
          refine EL.assign rfl rfl rfl ?_
          refine EL.assign rfl rfl rfl ?_
          exact EL.endK ⟨rfl, rfl, getB rfl (by first | exact decide_eq_decide.2 (by omega) | exact Eq.trans decide_not.symm (decide_eq_decide.2 (by omega)) | exact (decide_eq_false (by omega)).symm | exact (decide_eq_true (by omega)).symm), getB rfl (by first | exact decide_eq_decide.2 (by omega) | exact Eq.trans decide_not.symm (decide_eq_decide.2 (by omega)) | exact (decide_eq_false (by omega)).symm | exact (decide_eq_true (by omega)).symm), getB rfl (by first | exact decide_eq_decide.2 (by omega) | exact Eq.trans decide_not.symm (decide_eq_decide.2 (by omega)) | exact (decide_eq_false (by omega)).symm | exact (decide_eq_true (by omega)).symm), trivial⟩ (.i (by repeat constructor))
        · refine EL.pass rfl rfl rfl ?_
          refine EL.pass rfl rfl rfl ?_
          refine EL.pickF rfl rfl rfl rfl ?_
          refine EL.assign rfl rfl rfl ?_
          refine EL.assign rfl rfl rfl ?_
          refine EL.assign rfl rfl rfl ?_
          exact EL.endK ⟨rfl, rfl, getB rfl (by first | exact decide_eq_decide.2 (by omega) | exact Eq.trans decide_not.symm (decide_eq_decide.2 (by omega)) | exact (decide_eq_false (by omega)).symm | exact (decide_eq_true (by omega)).symm), getB rfl (by first | exact decide_eq_decide.2 (by omega) | exact Eq.trans decide_not.symm (decide_eq_decide.2 (by omega)) | exact (decide_eq_false (by omega)).symm | exact (decide_eq_true (by omega)).symm), getB rfl (by first | exact decide_eq_decide.2 (by omega) | exact Eq.trans decide_not.symm (decide_eq_decide.2 (by omega)) | exact (decide_eq_false (by omega)).symm | exact (decide_eq_true (by omega)).symm), trivial⟩ (.i (by repeat constructor))
  refine .go ?_; repeat constructor
  refine EL.cut [(0, Sv l), (1, Uv b), (6, .bool (bUp b.toNat)), (7, .bool (bLo b.toNat)), (8, .bool (bDi b.toNat)), (9, .bool (bGr b.toNat))] [] ?_ ?_
  · refine .go ?_; repeat constructor
    refine EL.move rfl rfl rfl ?_
    refine EL.gtr rfl rfl rfl rfl ?_
    refine EL.move rfl rfl rfl ?_
    first | refine EL.splitD (d := 30) rfl (fun hp30 => ?_) (fun hp30 => ?_) | refine EL.splitN (d := 30) rfl (fun hp30 => ?_) (fun hp30 => ?_) | refine EL.splitB (d := 30) rfl (fun hp30 => ?_) (fun hp30 => ?_)
    · refine EL.move rfl rfl rfl ?_
      refine EL.lss rfl rfl rfl rfl ?_
      refine EL.pickT rfl rfl rfl rfl ?_
      refine EL.assign rfl rfl rfl ?_
      exact EL.endK ⟨rfl, rfl, rfl, rfl, rfl, getB rfl (by first | exact decide_eq_decide.2 (by omega) | exact Eq.trans decide_not.symm (decide_eq_decide.2 (by omega)) | exact (decide_eq_false (by omega)).symm | exact (decide_eq_true (by omega)).symm), trivial⟩ (.i (by repeat constructor))
    · refine EL.pass rfl rfl rfl ?_
      refine EL.pass rfl rfl rfl ?_
      refine EL.pickF rfl rfl rfl rfl ?_
      refine EL.assign rfl rfl rfl ?_
      exact EL.endK ⟨rfl, rfl, rfl, rfl, rfl, getB rfl (by first | exact decide_eq_decide.2 (by omega) | exact Eq.trans decide_not.symm (decide_eq_decide.2 (by omega)) | exact (decide_eq_false (by omega)).symm | exact (decide_eq_true (by omega)).symm), trivial⟩ (.i (by repeat constructor))
  refine .go ?_; repeat constructor
  refine EL.move rfl rfl rfl ?_
  refine .go ?_; repeat constructor
  refine EL.eqlS rfl rfl rfl rfl ?_
  refine EL.assign rfl rfl rfl ?_
  refine .go ?_; repeat constructor
  refine ES.condD rfl (fun he0 => ?_) (fun hn0 => ?_)
  · subst he0
    refine .go ?_; repeat constructor
    refine EL.move rfl rfl rfl ?_
    refine EL.move rfl rfl rfl ?_
    first | refine EL.splitD (d := 38) rfl (fun hp38 => ?_) (fun hp38 => ?_) | refine EL.splitN (d := 38) rfl (fun hp38 => ?_) (fun hp38 => ?_) | refine EL.splitB (d := 38) rfl (fun hp38 => ?_) (fun hp38 => ?_)
    · refine EL.pass rfl rfl rfl ?_
      refine EL.pickT rfl rfl rfl rfl ?_
      refine EL.assign rfl rfl rfl ?_
      refine EL.assign rfl rfl rfl ?_
      focus ((refine .go ?_; repeat constructor); exact PX.ret rfl Tryd.results73 (.cons (.tmp rfl) (.cons (.tmp rfl) .nil)) (fun w hs => ⟨(), congrArg (fun x => Ending.returned (.tuple #[.bool x, .bool true])) (by first | exact decide_eq_decide.2 (by omega) | exact Eq.trans decide_not.symm (decide_eq_decide.2 (by omega)) | exact (decide_eq_false (by omega)).symm | exact (decide_eq_true (by omega)).symm), hs.ent (.nil _)⟩))
    · refine EL.move rfl rfl rfl ?_
      refine EL.pickF rfl rfl rfl rfl ?_
      refine EL.assign rfl rfl rfl ?_
      refine EL.assign rfl rfl rfl ?_
      focus ((refine .go ?_; repeat constructor); exact PX.ret rfl Tryd.results73 (.cons (.tmp rfl) (.cons (.tmp rfl) .nil)) (fun w hs => ⟨(), congrArg (fun x => Ending.returned (.tuple #[.bool x, .bool true])) (by first | exact decide_eq_decide.2 (by omega) | exact Eq.trans decide_not.symm (decide_eq_decide.2 (by omega)) | exact (decide_eq_false (by omega)).symm | exact (decide_eq_true (by omega)).symm), hs.ent (.nil _)⟩))
  refine .go ?_; repeat constructor
  refine EL.eqlS rfl rfl rfl rfl ?_
  refine EL.assign rfl rfl rfl ?_
  refine .go ?_; repeat constructor
  refine ES.condD rfl (fun he1 => ?_) (fun hn1 => ?_)
  · subst he1
    refine .go ?_; repeat constructor
    refine EL.move rfl rfl rfl ?_
    refine EL.assign rfl rfl rfl ?_
    refine EL.assign rfl rfl rfl ?_
    focus ((refine .go ?_; repeat constructor); exact PX.ret rfl Tryd.results73 (.cons (.tmp rfl) (.cons (.tmp rfl) .nil)) (fun w hs => ⟨(), congrArg (fun x => Ending.returned (.tuple #[.bool x, .bool true])) (by first | exact decide_eq_decide.2 (by omega) | exact Eq.trans decide_not.symm (decide_eq_decide.2 (by omega)) | exact (decide_eq_false (by omega)).symm | exact (decide_eq_true (by omega)).symm), hs.ent (.nil _)⟩))
  refine .go ?_; repeat constructor
  refine EL.eqlS rfl rfl rfl rfl ?_
  refine EL.assign rfl rfl rfl ?_
  refine .go ?_; repeat constructor
  refine ES.condD rfl (fun he2 => ?_) (fun hn2 => ?_)
  · subst he2
    refine .go ?_; repeat constructor
    refine EL.move rfl rfl rfl ?_
    refine EL.move rfl rfl rfl ?_
    first | refine EL.splitD (d := 47) rfl (fun hp47 => ?_) (fun hp47 => ?_) | refine EL.splitN (d := 47) rfl (fun hp47 => ?_) (fun hp47 => ?_) | refine EL.splitB (d := 47) rfl (fun hp47 => ?_) (fun hp47 => ?_)
    · refine EL.pass rfl rfl rfl ?_
      refine EL.pickT rfl rfl rfl rfl ?_
      refine EL.move rfl rfl rfl ?_
      refine EL.pass rfl rfl rfl ?_
      refine EL.pickT rfl rfl rfl rfl ?_
      refine EL.assign rfl rfl rfl ?_
      refine EL.assign rfl rfl rfl ?_
      focus ((refine .go ?_; repeat constructor); exact PX.ret rfl Tryd.results73 (.cons (.tmp rfl) (.cons (.tmp rfl) .nil)) (fun w hs => ⟨(), congrArg (fun x => Ending.returned (.tuple #[.bool x, .bool true])) (by first | exact decide_eq_decide.2 (by omega) | exact Eq.trans decide_not.symm (decide_eq_decide.2 (by omega)) | exact (decide_eq_false (by omega)).symm | exact (decide_eq_true (by omega)).symm), hs.ent (.nil _)⟩))
    · refine EL.move rfl rfl rfl ?_
      refine EL.pickF rfl rfl rfl rfl ?_
      refine EL.move rfl rfl rfl ?_
      first | refine EL.splitD (d := 50) rfl (fun hp50 => ?_) (fun hp50 => ?_) | refine EL.splitN (d := 50) rfl (fun hp50 => ?_) (fun hp50 => ?_) | refine EL.splitB (d := 50) rfl (fun hp50 => ?_) (fun hp50 => ?_)
      · refine EL.pass rfl rfl rfl ?_
        refine EL.pickT rfl rfl rfl rfl ?_
        refine EL.assign rfl rfl rfl ?_
        refine EL.assign rfl rfl rfl ?_
        focus ((refine .go ?_; repeat constructor); exact PX.ret rfl Tryd.results73 (.cons (.tmp rfl) (.cons (.tmp rfl) .nil)) (fun w hs => ⟨(), congrArg (fun x => Ending.returned (.tuple #[.bool x, .bool true])) (by first | exact decide_eq_decide.2 (by omega) | exact Eq.trans decide_not.symm (decide_eq_decide.2 (by omega)) | exact (decide_eq_false (by omega)).symm | exact (decide_eq_true (by omega)).symm), hs.ent (.nil _)⟩))
      · refine EL.move rfl rfl rfl ?_
        refine EL.pickF rfl rfl rfl rfl ?_
        refine EL.assign rfl rfl rfl ?_
        refine EL.assign rfl rfl rfl ?_
        focus ((refine .go ?_; repeat constructor); exact PX.ret rfl Tryd.results73 (.cons (.tmp rfl) (.cons (.tmp rfl) .nil)) (fun w hs => ⟨(), congrArg (fun x => Ending.returned (.tuple #[.bool x, .bool true])) (by first | exact decide_eq_decide.2 (by omega) | exact Eq.trans decide_not.symm (decide_eq_decide.2 (by omega)) | exact (decide_eq_false (by omega)).symm | exact (decide_eq_true (by omega)).symm), hs.ent (.nil _)⟩))
  refine .go ?_; repeat constructor
  refine EL.eqlS rfl rfl rfl rfl ?_
  refine EL.assign rfl rfl rfl ?_
  refine .go ?_; repeat constructor
  refine ES.condD rfl (fun he3 => ?_) (fun hn3 => ?_)
  · subst he3
    refine .go ?_; repeat constructor
    refine EL.move rfl rfl rfl ?_
    refine EL.assign rfl rfl rfl ?_
    refine EL.assign rfl rfl rfl ?_
    focus ((refine .go ?_; repeat constructor); exact PX.ret rfl Tryd.results73 (.cons (.tmp rfl) (.cons (.tmp rfl) .nil)) (fun w hs => ⟨(), congrArg (fun x => Ending.returned (.tuple #[.bool x, .bool true])) (by first | exact decide_eq_decide.2 (by omega) | exact Eq.trans decide_not.symm (decide_eq_decide.2 (by omega)) | exact (decide_eq_false (by omega)).symm | exact (decide_eq_true (by omega)).symm), hs.ent (.nil _)⟩))
  refine .go ?_; repeat constructor
  refine EL.eqlS rfl rfl rfl rfl ?_
  refine EL.assign rfl rfl rfl ?_
  refine .go ?_; repeat constructor
  refine ES.condD rfl (fun he4 => ?_) (fun hn4 => ?_)
  · subst he4
    refine .go ?_; repeat constructor
    refine EL.move rfl rfl rfl ?_
    refine EL.assign rfl rfl rfl ?_
    refine EL.assign rfl rfl rfl ?_
    focus ((refine .go ?_; repeat constructor); exact PX.ret rfl Tryd.results73 (.cons (.tmp rfl) (.cons (.tmp rfl) .nil)) (fun w hs => ⟨(), congrArg (fun x => Ending.returned (.tuple #[.bool x, .bool true])) (by first | exact decide_eq_decide.2 (by omega) | exact Eq.trans decide_not.symm (decide_eq_decide.2 (by omega)) | exact (decide_eq_false (by omega)).symm | exact (decide_eq_true (by omega)).symm), hs.ent (.nil _)⟩))
  refine .go ?_; repeat constructor
  refine EL.eqlS rfl rfl rfl rfl ?_
  refine EL.assign rfl rfl rfl ?_
  refine .go ?_; repeat constructor
  refine ES.condD rfl (fun he5 => ?_) (fun hn5 => ?_)
  · subst he5
    refine .go ?_; repeat constructor
    refine EL.move rfl rfl rfl ?_
    refine EL.eqlI rfl rfl rfl rfl ?_
    refine EL.move rfl rfl rfl ?_
    first | refine EL.splitD (d := 63) rfl (fun hp63 => ?_) (fun hp63 => ?_) | refine EL.splitN (d := 63) rfl (fun hp63 => ?_) (fun hp63 => ?_) | refine EL.splitB (d := 63) rfl (fun hp63 => ?_) (fun hp63 => ?_)
    · refine EL.pass rfl rfl rfl ?_
      refine EL.pass rfl rfl rfl ?_
      refine EL.pass rfl rfl rfl ?_
      refine EL.pass rfl rfl rfl ?_
      refine EL.pass rfl rfl rfl ?_
      refine EL.pass rfl rfl rfl ?_
      refine EL.pickT rfl rfl rfl rfl ?_
      refine EL.assign rfl rfl rfl ?_
      refine EL.assign rfl rfl rfl ?_
      focus ((refine .go ?_; repeat constructor); exact PX.ret rfl Tryd.results73 (.cons (.tmp rfl) (.cons (.tmp rfl) .nil)) (fun w hs => ⟨(), congrArg (fun x => Ending.returned (.tuple #[.bool x, .bool true])) (by first | exact decide_eq_decide.2 (by omega) | exact Eq.trans decide_not.symm (decide_eq_decide.2 (by omega)) | exact (decide_eq_false (by omega)).symm | exact (decide_eq_true (by omega)).symm), hs.ent (.nil _)⟩))
    · refine EL.move rfl rfl rfl ?_
      refine EL.geq rfl rfl rfl rfl ?_
      refine EL.move rfl rfl rfl ?_
      first | refine EL.splitD (d := 66) rfl (fun hp66 => ?_) (fun hp66 => ?_) | refine EL.splitN (d := 66) rfl (fun hp66 => ?_) (fun hp66 => ?_) | refine EL.splitB (d := 66) rfl (fun hp66 => ?_) (fun hp66 => ?_)
      · refine EL.move rfl rfl rfl ?_
        refine EL.leq rfl rfl rfl rfl ?_
        refine EL.pickT rfl rfl rfl rfl ?_
        refine EL.pickF rfl rfl rfl rfl ?_
        refine EL.assign rfl rfl rfl ?_
        refine EL.assign rfl rfl rfl ?_
        focus ((refine .go ?_; repeat constructor); exact PX.ret rfl Tryd.results73 (.cons (.tmp rfl) (.cons (.tmp rfl) .nil)) (fun w hs => ⟨(), congrArg (fun x => Ending.returned (.tuple #[.bool x, .bool true])) (by first | exact decide_eq_decide.2 (by omega) | exact Eq.trans decide_not.symm (decide_eq_decide.2 (by omega)) | exact (decide_eq_false (by omega)).symm | exact (decide_eq_true (by omega)).symm), hs.ent (.nil _)⟩))
      · refine EL.pass rfl rfl rfl ?_
        refine EL.pass rfl rfl rfl ?_
        refine EL.pickF rfl rfl rfl rfl ?_
        refine EL.pickF rfl rfl rfl rfl ?_
        refine EL.assign rfl rfl rfl ?_
        refine EL.assign rfl rfl rfl ?_
        focus ((refine .go ?_; repeat constructor); exact PX.ret rfl Tryd.results73 (.cons (.tmp rfl) (.cons (.tmp rfl) .nil)) (fun w hs => ⟨(), congrArg (fun x => Ending.returned (.tuple #[.bool x, .bool true])) (by first | exact decide_eq_decide.2 (by omega) | exact Eq.trans decide_not.symm (decide_eq_decide.2 (by omega)) | exact (decide_eq_false (by omega)).symm | exact (decide_eq_true (by omega)).symm), hs.ent (.nil _)⟩))
  refine .go ?_; repeat constructor
  refine EL.eqlS rfl rfl rfl rfl ?_
  refine EL.assign rfl rfl rfl ?_
  refine .go ?_; repeat constructor
  refine ES.condD rfl (fun he6 => ?_) (fun hn6 => ?_)
  · subst he6
    refine .go ?_; repeat constructor
    refine EL.move rfl rfl rfl ?_
    refine EL.eqlI rfl rfl rfl rfl ?_
    refine EL.move rfl rfl rfl ?_
    first | refine EL.splitD (d := 75) rfl (fun hp75 => ?_) (fun hp75 => ?_) | refine EL.splitN (d := 75) rfl (fun hp75 => ?_) (fun hp75 => ?_) | refine EL.splitB (d := 75) rfl (fun hp75 => ?_) (fun hp75 => ?_)
    · refine EL.pass rfl rfl rfl ?_
      refine EL.pass rfl rfl rfl ?_
      refine EL.pickT rfl rfl rfl rfl ?_
      refine EL.assign rfl rfl rfl ?_
      refine EL.assign rfl rfl rfl ?_
      focus ((refine .go ?_; repeat constructor); exact PX.ret rfl Tryd.results73 (.cons (.tmp rfl) (.cons (.tmp rfl) .nil)) (fun w hs => ⟨(), congrArg (fun x => Ending.returned (.tuple #[.bool x, .bool true])) (by first | exact decide_eq_decide.2 (by omega) | exact Eq.trans decide_not.symm (decide_eq_decide.2 (by omega)) | exact (decide_eq_false (by omega)).symm | exact (decide_eq_true (by omega)).symm), hs.ent (.nil _)⟩))
    · refine EL.move rfl rfl rfl ?_
      refine EL.eqlI rfl rfl rfl rfl ?_
      refine EL.pickF rfl rfl rfl rfl ?_
      refine EL.assign rfl rfl rfl ?_
      refine EL.assign rfl rfl rfl ?_
      focus ((refine .go ?_; repeat constructor); exact PX.ret rfl Tryd.results73 (.cons (.tmp rfl) (.cons (.tmp rfl) .nil)) (fun w hs => ⟨(), congrArg (fun x => Ending.returned (.tuple #[.bool x, .bool true])) (by first | exact decide_eq_decide.2 (by omega) | exact Eq.trans decide_not.symm (decide_eq_decide.2 (by omega)) | exact (decide_eq_false (by omega)).symm | exact (decide_eq_true (by omega)).symm), hs.ent (.nil _)⟩))
  refine .go ?_; repeat constructor
  refine EL.eqlS rfl rfl rfl rfl ?_
  refine EL.assign rfl rfl rfl ?_
  refine .go ?_; repeat constructor
  refine ES.condD rfl (fun he7 => ?_) (fun hn7 => ?_)
  · subst he7
    refine .go ?_; repeat constructor
    refine EL.move rfl rfl rfl ?_
    refine EL.assign rfl rfl rfl ?_
    refine EL.assign rfl rfl rfl ?_
    focus ((refine .go ?_; repeat constructor); exact PX.ret rfl Tryd.results73 (.cons (.tmp rfl) (.cons (.tmp rfl) .nil)) (fun w hs => ⟨(), congrArg (fun x => Ending.returned (.tuple #[.bool x, .bool true])) (by first | exact decide_eq_decide.2 (by omega) | exact Eq.trans decide_not.symm (decide_eq_decide.2 (by omega)) | exact (decide_eq_false (by omega)).symm | exact (decide_eq_true (by omega)).symm), hs.ent (.nil _)⟩))
  refine .go ?_; repeat constructor
  refine EL.eqlS rfl rfl rfl rfl ?_
  refine EL.assign rfl rfl rfl ?_
  refine .go ?_; repeat constructor
  refine ES.condD rfl (fun he8 => ?_) (fun hn8 => ?_)
  · subst he8
    refine .go ?_; repeat constructor
    refine EL.move rfl rfl rfl ?_
    refine EL.move rfl rfl rfl ?_
    first | refine EL.splitD (d := 85) rfl (fun hp85 => ?_) (fun hp85 => ?_) | refine EL.splitN (d := 85) rfl (fun hp85 => ?_) (fun hp85 => ?_) | refine EL.splitB (d := 85) rfl (fun hp85 => ?_) (fun hp85 => ?_)
    · refine EL.pass rfl rfl rfl ?_
      refine EL.pass rfl rfl rfl ?_
      refine EL.pickT rfl rfl rfl rfl ?_
      refine EL.assign rfl rfl rfl ?_
      refine EL.assign rfl rfl rfl ?_
      focus ((refine .go ?_; repeat constructor); exact PX.ret rfl Tryd.results73 (.cons (.tmp rfl) (.cons (.tmp rfl) .nil)) (fun w hs => ⟨(), congrArg (fun x => Ending.returned (.tuple #[.bool x, .bool true])) (by first | exact decide_eq_decide.2 (by omega) | exact Eq.trans decide_not.symm (decide_eq_decide.2 (by omega)) | exact (decide_eq_false (by omega)).symm | exact (decide_eq_true (by omega)).symm), hs.ent (.nil _)⟩))
    · refine EL.move rfl rfl rfl ?_
      refine EL.eqlI rfl rfl rfl rfl ?_
      refine EL.pickF rfl rfl rfl rfl ?_
      refine EL.assign rfl rfl rfl ?_
      refine EL.assign rfl rfl rfl ?_
      focus ((refine .go ?_; repeat constructor); exact PX.ret rfl Tryd.results73 (.cons (.tmp rfl) (.cons (.tmp rfl) .nil)) (fun w hs => ⟨(), congrArg (fun x => Ending.returned (.tuple #[.bool x, .bool true])) (by first | exact decide_eq_decide.2 (by omega) | exact Eq.trans decide_not.symm (decide_eq_decide.2 (by omega)) | exact (decide_eq_false (by omega)).symm | exact (decide_eq_true (by omega)).symm), hs.ent (.nil _)⟩))
  refine .go ?_; repeat constructor
  refine EL.eqlS rfl rfl rfl rfl ?_
  refine EL.assign rfl rfl rfl ?_
  refine .go ?_; repeat constructor
  refine ES.condD rfl (fun he9 => ?_) (fun hn9 => ?_)
  · subst he9
    refine .go ?_; repeat constructor
    refine EL.move rfl rfl rfl ?_
    refine EL.move rfl rfl rfl ?_
    first | refine EL.splitD (d := 92) rfl (fun hp92 => ?_) (fun hp92 => ?_) | refine EL.splitN (d := 92) rfl (fun hp92 => ?_) (fun hp92 => ?_) | refine EL.splitB (d := 92) rfl (fun hp92 => ?_) (fun hp92 => ?_)
    · refine EL.move rfl rfl rfl ?_
      refine EL.not rfl rfl rfl ?_
      refine EL.pickT rfl rfl rfl rfl ?_
      refine EL.move rfl rfl rfl ?_
      first | refine EL.splitD (d := 96) rfl (fun hp96 => ?_) (fun hp96 => ?_) | refine EL.splitN (d := 96) rfl (fun hp96 => ?_) (fun hp96 => ?_) | refine EL.splitB (d := 96) rfl (fun hp96 => ?_) (fun hp96 => ?_)
      · refine EL.move rfl rfl rfl ?_
        refine EL.not rfl rfl rfl ?_
        refine EL.pickT rfl rfl rfl rfl ?_
        refine EL.move rfl rfl rfl ?_
        first | refine EL.splitD (d := 100) rfl (fun hp100 => ?_) (fun hp100 => ?_) | refine EL.splitN (d := 100) rfl (fun hp100 => ?_) (fun hp100 => ?_) | refine EL.splitB (d := 100) rfl (fun hp100 => ?_) (fun hp100 => ?_)
        · refine EL.move rfl rfl rfl ?_
          refine EL.not rfl rfl rfl ?_
          refine EL.pickT rfl rfl rfl rfl ?_
          refine EL.assign rfl rfl rfl ?_
          refine EL.assign rfl rfl rfl ?_
          focus ((refine .go ?_; repeat constructor); exact PX.ret rfl Tryd.results73 (.cons (.tmp rfl) (.cons (.tmp rfl) .nil)) (fun w hs => ⟨(), congrArg (fun x => Ending.returned (.tuple #[.bool x, .bool true])) (by first | exact decide_eq_decide.2 (by omega) | exact Eq.trans decide_not.symm (decide_eq_decide.2 (by omega)) | exact (decide_eq_false (by omega)).symm | exact (decide_eq_true (by omega)).symm), hs.ent (.nil _)⟩))
        · refine EL.pass rfl rfl rfl ?_
          refine EL.pass rfl rfl rfl ?_
          refine EL.pickF rfl rfl rfl rfl ?_
          refine EL.assign rfl rfl rfl ?_
          refine EL.assign rfl rfl rfl ?_
          focus ((refine .go ?_; repeat constructor); exact PX.ret rfl Tryd.results73 (.cons (.tmp rfl) (.cons (.tmp rfl) .nil)) (fun w hs => ⟨(), congrArg (fun x => Ending.returned (.tuple #[.bool x, .bool true])) (by first | exact decide_eq_decide.2 (by omega) | exact Eq.trans decide_not.symm (decide_eq_decide.2 (by omega)) | exact (decide_eq_false (by omega)).symm | exact (decide_eq_true (by omega)).symm), hs.ent (.nil _)⟩))
      · refine EL.pass rfl rfl rfl ?_
        refine EL.pass rfl rfl rfl ?_
        refine EL.pickF rfl rfl rfl rfl ?_
        refine EL.move rfl rfl rfl ?_
        refine EL.pass rfl rfl rfl ?_
        refine EL.pass rfl rfl rfl ?_
        refine EL.pickF rfl rfl rfl rfl ?_
        refine EL.assign rfl rfl rfl ?_
        refine EL.assign rfl rfl rfl ?_
        focus ((refine .go ?_; repeat constructor); exact PX.ret rfl Tryd.results73 (.cons (.tmp rfl) (.cons (.tmp rfl) .nil)) (fun w hs => ⟨(), congrArg (fun x => Ending.returned (.tuple #[.bool x, .bool true])) (by first | exact decide_eq_decide.2 (by omega) | exact Eq.trans decide_not.symm (decide_eq_decide.2 (by omega)) | exact (decide_eq_false (by omega)).symm | exact (decide_eq_true (by omega)).symm), hs.ent (.nil _)⟩))
    · refine EL.pass rfl rfl rfl ?_
      refine EL.pass rfl rfl rfl ?_
      refine EL.pickF rfl rfl rfl rfl ?_
      refine EL.move rfl rfl rfl ?_
      refine EL.pass rfl rfl rfl ?_
      refine EL.pass rfl rfl rfl ?_
      refine EL.pickF rfl rfl rfl rfl ?_
      refine EL.move rfl rfl rfl ?_
      refine EL.pass rfl rfl rfl ?_
      refine EL.pass rfl rfl rfl ?_
      refine EL.pickF rfl rfl rfl rfl ?_
      refine EL.assign rfl rfl rfl ?_
      refine EL.assign rfl rfl rfl ?_
      focus ((refine .go ?_; repeat constructor); exact PX.ret rfl Tryd.results73 (.cons (.tmp rfl) (.cons (.tmp rfl) .nil)) (fun w hs => ⟨(), congrArg (fun x => Ending.returned (.tuple #[.bool x, .bool true])) (by first | exact decide_eq_decide.2 (by omega) | exact Eq.trans decide_not.symm (decide_eq_decide.2 (by omega)) | exact (decide_eq_false (by omega)).symm | exact (decide_eq_true (by omega)).symm), hs.ent (.nil _)⟩))
  refine .go ?_; repeat constructor
  refine EL.eqlS rfl rfl rfl rfl ?_
  refine EL.assign rfl rfl rfl ?_
  refine .go ?_; repeat constructor
  refine ES.condD rfl (fun he10 => ?_) (fun hn10 => ?_)
  · subst he10
    refine .go ?_; repeat constructor
    refine EL.move rfl rfl rfl ?_
    refine EL.lss rfl rfl rfl rfl ?_
    refine EL.move rfl rfl rfl ?_
    first | refine EL.splitD (d := 108) rfl (fun hp108 => ?_) (fun hp108 => ?_) | refine EL.splitN (d := 108) rfl (fun hp108 => ?_) (fun hp108 => ?_) | refine EL.splitB (d := 108) rfl (fun hp108 => ?_) (fun hp108 => ?_)
    · refine EL.pass rfl rfl rfl ?_
      refine EL.pass rfl rfl rfl ?_
      refine EL.pickT rfl rfl rfl rfl ?_
      refine EL.assign rfl rfl rfl ?_
      refine EL.assign rfl rfl rfl ?_
      focus ((refine .go ?_; repeat constructor); exact PX.ret rfl Tryd.results73 (.cons (.tmp rfl) (.cons (.tmp rfl) .nil)) (fun w hs => ⟨(), congrArg (fun x => Ending.returned (.tuple #[.bool x, .bool true])) (by first | exact decide_eq_decide.2 (by omega) | exact Eq.trans decide_not.symm (decide_eq_decide.2 (by omega)) | exact (decide_eq_false (by omega)).symm | exact (decide_eq_true (by omega)).symm), hs.ent (.nil _)⟩))
    · refine EL.move rfl rfl rfl ?_
      refine EL.eqlI rfl rfl rfl rfl ?_
      refine EL.pickF rfl rfl rfl rfl ?_
      refine EL.assign rfl rfl rfl ?_
      refine EL.assign rfl rfl rfl ?_
      focus ((refine .go ?_; repeat constructor); exact PX.ret rfl Tryd.results73 (.cons (.tmp rfl) (.cons (.tmp rfl) .nil)) (fun w hs => ⟨(), congrArg (fun x => Ending.returned (.tuple #[.bool x, .bool true])) (by first | exact decide_eq_decide.2 (by omega) | exact Eq.trans decide_not.symm (decide_eq_decide.2 (by omega)) | exact (decide_eq_false (by omega)).symm | exact (decide_eq_true (by omega)).symm), hs.ent (.nil _)⟩))
  refine .go ?_; repeat constructor
  refine EL.eqlS rfl rfl rfl rfl ?_
  refine EL.assign rfl rfl rfl ?_
  refine .go ?_; repeat constructor
  refine ES.condD rfl (fun he11 => ?_) (fun hn11 => ?_)
  · subst he11
    refine .go ?_; repeat constructor
    refine EL.move rfl rfl rfl ?_
    refine EL.move rfl rfl rfl ?_
    first | refine EL.splitD (d := 115) rfl (fun hp115 => ?_) (fun hp115 => ?_) | refine EL.splitN (d := 115) rfl (fun hp115 => ?_) (fun hp115 => ?_) | refine EL.splitB (d := 115) rfl (fun hp115 => ?_) (fun hp115 => ?_)
    · refine EL.pass rfl rfl rfl ?_
      refine EL.pass rfl rfl rfl ?_
      refine EL.pass rfl rfl rfl ?_
      refine EL.pass rfl rfl rfl ?_
      refine EL.pass rfl rfl rfl ?_
      refine EL.pass rfl rfl rfl ?_
      refine EL.pickT rfl rfl rfl rfl ?_
      refine EL.move rfl rfl rfl ?_
      refine EL.pass rfl rfl rfl ?_
      refine EL.pass rfl rfl rfl ?_
      refine EL.pass rfl rfl rfl ?_
      refine EL.pass rfl rfl rfl ?_
      refine EL.pass rfl rfl rfl ?_
      refine EL.pass rfl rfl rfl ?_
      refine EL.pickT rfl rfl rfl rfl ?_
      refine EL.assign rfl rfl rfl ?_
      refine EL.assign rfl rfl rfl ?_
      focus ((refine .go ?_; repeat constructor); exact PX.ret rfl Tryd.results73 (.cons (.tmp rfl) (.cons (.tmp rfl) .nil)) (fun w hs => ⟨(), congrArg (fun x => Ending.returned (.tuple #[.bool x, .bool true])) (by first | exact decide_eq_decide.2 (by omega) | exact Eq.trans decide_not.symm (decide_eq_decide.2 (by omega)) | exact (decide_eq_false (by omega)).symm | exact (decide_eq_true (by omega)).symm), hs.ent (.nil _)⟩))
    · refine EL.move rfl rfl rfl ?_
      refine EL.geq rfl rfl rfl rfl ?_
      refine EL.move rfl rfl rfl ?_
      first | refine EL.splitD (d := 118) rfl (fun hp118 => ?_) (fun hp118 => ?_) | refine EL.splitN (d := 118) rfl (fun hp118 => ?_) (fun hp118 => ?_) | refine EL.splitB (d := 118) rfl (fun hp118 => ?_) (fun hp118 => ?_)
      · refine EL.move rfl rfl rfl ?_
        refine EL.leq rfl rfl rfl rfl ?_
        refine EL.pickT rfl rfl rfl rfl ?_
        refine EL.pickF rfl rfl rfl rfl ?_
        refine EL.move rfl rfl rfl ?_
        first | refine EL.splitD (d := 123) rfl (fun hp123 => ?_) (fun hp123 => ?_) | refine EL.splitN (d := 123) rfl (fun hp123 => ?_) (fun hp123 => ?_) | refine EL.splitB (d := 123) rfl (fun hp123 => ?_) (fun hp123 => ?_)
        · refine EL.pass rfl rfl rfl ?_
          refine EL.pass rfl rfl rfl ?_
          refine EL.pass rfl rfl rfl ?_
          refine EL.pass rfl rfl rfl ?_
          refine EL.pass rfl rfl rfl ?_
          refine EL.pass rfl rfl rfl ?_
          refine EL.pickT rfl rfl rfl rfl ?_
          refine EL.assign rfl rfl rfl ?_
          refine EL.assign rfl rfl rfl ?_
          focus ((refine .go ?_; repeat constructor); exact PX.ret rfl Tryd.results73 (.cons (.tmp rfl) (.cons (.tmp rfl) .nil)) (fun w hs => ⟨(), congrArg (fun x => Ending.returned (.tuple #[.bool x, .bool true])) (by first | exact decide_eq_decide.2 (by omega) | exact Eq.trans decide_not.symm (decide_eq_decide.2 (by omega)) | exact (decide_eq_false (by omega)).symm | exact (decide_eq_true (by omega)).symm), hs.ent (.nil _)⟩))
        · refine EL.move rfl rfl rfl ?_
          refine EL.geq rfl rfl rfl rfl ?_
          refine EL.move rfl rfl rfl ?_
          first | refine EL.splitD (d := 126) rfl (fun hp126 => ?_) (fun hp126 => ?_) | refine EL.splitN (d := 126) rfl (fun hp126 => ?_) (fun hp126 => ?_) | refine EL.splitB (d := 126) rfl (fun hp126 => ?_) (fun hp126 => ?_)
          · refine EL.move rfl rfl rfl ?_
            refine EL.leq rfl rfl rfl rfl ?_
            refine EL.pickT rfl rfl rfl rfl ?_
            refine EL.pickF rfl rfl rfl rfl ?_
            refine EL.assign rfl rfl rfl ?_
            refine EL.assign rfl rfl rfl ?_
            focus ((refine .go ?_; repeat constructor); exact PX.ret rfl Tryd.results73 (.cons (.tmp rfl) (.cons (.tmp rfl) .nil)) (fun w hs => ⟨(), congrArg (fun x => Ending.returned (.tuple #[.bool x, .bool true])) (by first | exact decide_eq_decide.2 (by omega) | exact Eq.trans decide_not.symm (decide_eq_decide.2 (by omega)) | exact (decide_eq_false (by omega)).symm | exact (decide_eq_true (by omega)).symm), hs.ent (.nil _)⟩))
          · refine EL.pass rfl rfl rfl ?_
            refine EL.pass rfl rfl rfl ?_
            refine EL.pickF rfl rfl rfl rfl ?_
            refine EL.pickF rfl rfl rfl rfl ?_
            refine EL.assign rfl rfl rfl ?_
            refine EL.assign rfl rfl rfl ?_
            focus ((refine .go ?_; repeat constructor); exact PX.ret rfl Tryd.results73 (.cons (.tmp rfl) (.cons (.tmp rfl) .nil)) (fun w hs => ⟨(), congrArg (fun x => Ending.returned (.tuple #[.bool x, .bool true])) (by first | exact decide_eq_decide.2 (by omega) | exact Eq.trans decide_not.symm (decide_eq_decide.2 (by omega)) | exact (decide_eq_false (by omega)).symm | exact (decide_eq_true (by omega)).symm), hs.ent (.nil _)⟩))
      · refine EL.pass rfl rfl rfl ?_
        refine EL.pass rfl rfl rfl ?_
        refine EL.pickF rfl rfl rfl rfl ?_
        refine EL.pickF rfl rfl rfl rfl ?_
        refine EL.move rfl rfl rfl ?_
        refine EL.move rfl rfl rfl ?_
        refine EL.geq rfl rfl rfl rfl ?_
        refine EL.move rfl rfl rfl ?_
        first | refine EL.splitD (d := 126) rfl (fun hp126 => ?_) (fun hp126 => ?_) | refine EL.splitN (d := 126) rfl (fun hp126 => ?_) (fun hp126 => ?_) | refine EL.splitB (d := 126) rfl (fun hp126 => ?_) (fun hp126 => ?_)
        · refine EL.move rfl rfl rfl ?_
          refine EL.leq rfl rfl rfl rfl ?_
          refine EL.pickT rfl rfl rfl rfl ?_
          refine EL.pickF rfl rfl rfl rfl ?_
          refine EL.assign rfl rfl rfl ?_
          refine EL.assign rfl rfl rfl ?_
          focus ((refine .go ?_; repeat constructor); exact PX.ret rfl Tryd.results73 (.cons (.tmp rfl) (.cons (.tmp rfl) .nil)) (fun w hs => ⟨(), congrArg (fun x => Ending.returned (.tuple #[.bool x, .bool true])) (by first | exact decide_eq_decide.2 (by omega) | exact Eq.trans decide_not.symm (decide_eq_decide.2 (by omega)) | exact (decide_eq_false (by omega)).symm | exact (decide_eq_true (by omega)).symm), hs.ent (.nil _)⟩))
        · refine EL.pass rfl rfl rfl ?_
          refine EL.pass rfl rfl rfl ?_
          refine EL.pickF rfl rfl rfl rfl ?_
          refine EL.pickF rfl rfl rfl rfl ?_
          refine EL.assign rfl rfl rfl ?_
          refine EL.assign rfl rfl rfl ?_
          focus ((refine .go ?_; repeat constructor); exact PX.ret rfl Tryd.results73 (.cons (.tmp rfl) (.cons (.tmp rfl) .nil)) (fun w hs => ⟨(), congrArg (fun x => Ending.returned (.tuple #[.bool x, .bool true])) (by first | exact decide_eq_decide.2 (by omega) | exact Eq.trans decide_not.symm (decide_eq_decide.2 (by omega)) | exact (decide_eq_false (by omega)).symm | exact (decide_eq_true (by omega)).symm), hs.ent (.nil _)⟩))
  have hne : isB l b.toNat = false := by simp only [isB, *, if_false]
  have hno : okM l = false := decide_eq_false (by simp only [names12, List.mem_cons, List.not_mem_nil, or_false, *, not_false_eq_true])
  refine .go ?_; repeat constructor
  refine EL.assign rfl rfl rfl ?_
  refine EL.assign rfl rfl rfl ?_
  refine .go ?_; repeat constructor
  exact PX.ret rfl Tryd.results73 (.cons (.tmp rfl) (.cons (.tmp rfl) .nil)) (fun w hs => ⟨(), by rw [hne, hno]; rfl, hs.ent (.nil _)⟩)
theorem is_ck (l : List UInt8) (b : UInt8) (k : Nat) (hk : b.toNat = k) (w : World) : Pure Tryd.prog 73 #[Sv l, Uv b] (fun _ : Unit => .tuple #[.bool (isB l k), .bool (okM l)]) (fun _ => []) w := by subst hk; exact is_c l b w
theorem add_ck (g : Nat) (s : BS) (b : UInt8) (k : Nat) (hk : b.toNat = k) : Mut Tryd.prog 59 #[Pv g 0, Uv b] [SB g s] (fun _ : Unit => .tuple #[]) (fun _ => [SB g (addS s k)]) := by subst hk; exact add_c g s b
theorem class_c (l : List UInt8) (w : World) : Pure Tryd.prog 66 #[Sv l] (fun _ : Unit => .tuple #[Bs (classM l).1, Iv (classM l).2]) (fun _ => []) w := by
  refine calls_of_ES TB Tryd.func66 rfl _ Tryd.ntmps66 rfl (Sat.start w) ?_
  refine .go ?_; repeat constructor
  (refine EL.alloc rfl rfl rfl ?_; intro g2)
  refine EL.assign rfl rfl rfl ?_
  refine .go ?_; repeat constructor
  (refine EL.alloc rfl rfl rfl ?_; intro g4)
  refine .go ?_; repeat constructor
  refine EL.move rfl rfl rfl ?_
  refine .go ?_; repeat constructor
  refine ES.blkEq (g := g4) (o' := .cells (fillS (isB l) 0).cells 24) (by repeat constructor) (by rw [fillS]; rfl) ?_
  refine ES.loop (σ := Nat) (fun i => i ≤ 256 ∧ (0 < i → l ∈ names12)) (fun i => [(0, Sv l), (2, Pv g2 0), (4, Pv g4 0), (8, Iv i)]) (fun i => [SB g4 (fillS (isB l) i), SB g2 zeroS]) (fun i => 256 - i) 0 ⟨by omega, fun h => absurd h (by omega)⟩ ⟨rfl, rfl, rfl, rfl, trivial⟩ (.i (by repeat constructor)) ?_
  rintro i ⟨hi, hpos⟩
  refine .go ?_; repeat constructor
  refine EL.lss rfl rfl rfl rfl ?_
  refine .go ?_; repeat constructor
  refine ES.condD rfl (fun hlt => ?_) (fun hge => ?_)
  · have hlt' : i < 256 := by omega
    have hk8 : (UInt8.ofNat i).toNat = i := by simp; omega
    have ha := add_ck g4 (fillS (isB l) i) (UInt8.ofNat i) i hk8
    refine .go ?_; repeat constructor
    refine EL.move rfl rfl rfl ?_
    refine EL.assign rfl rfl rfl ?_
    refine .go ?_; repeat constructor
    refine EL.move rfl rfl rfl ?_
    refine EL.move rfl rfl rfl ?_
    refine EL.convI ((UInt8.ofNat i).toNat : Int) rfl rfl rfl rfl rfl rfl (by rw [hk8]; exact wrap_u8 _ hlt') ?_
    refine EL.callP rfl rfl rfl ent73 rfl (is_ck l (UInt8.ofNat i) i hk8) ?_
    refine EL.move rfl rfl rfl ?_
    refine EL.extract rfl rfl rfl rfl ?_
    refine EL.extract rfl rfl rfl rfl ?_
    refine EL.assign rfl rfl rfl ?_
    refine EL.assign rfl rfl rfl ?_
    refine .go ?_; repeat constructor
    refine EL.move rfl rfl rfl ?_
    refine EL.not rfl rfl rfl ?_
    refine .go ?_; repeat constructor
    refine ES.condN (p := l ∈ names12) rfl (fun hno => ?_) (fun hok => ?_)
    · have hok0 : okM l = false := decide_eq_false hno
      have hm : classM l = (zeroS, 8) := by simp only [classM, hok0, Bool.false_eq_true, if_false]
      refine .go ?_; repeat constructor
      refine EL.buildZA rfl rfl rfl rfl rfl ?_
      (apply EL.storeAll; exact rfl; exact rfl; exact rfl; exact rfl; exact rfl; (case p => repeat constructor); exact rfl; (case h1 => exact (by first | rfl | exact all1 rfl | (intro u hu; simp only [List.mem_cons, List.not_mem_nil, or_false] at hu; rcases hu with rfl | rfl | rfl | rfl <;> rfl) | (intro u hu; simp at hu; rcases hu with rfl | rfl | rfl | rfl <;> rfl) | (intro u hu; simp at hu; rcases hu with rfl | rfl | rfl <;> rfl) | (intro u hu; simp at hu; rcases hu with rfl | rfl <;> rfl) | (intro u hu; simp at hu; obtain ⟨_, _, rfl⟩ := hu; rfl))))
      refine EL.assign rfl rfl rfl ?_
      refine .go ?_; repeat constructor
      exact PX.ret rfl Tryd.results66 (.cons (.blkA rfl rfl rfl (by repeat constructor) rfl) (.cons (.tmp rfl) .nil)) (fun w hs => ⟨(), by rw [hm]; rfl, hs.ent (.nil _)⟩)
    · have hfs : ∀ hb : isB l i = true, addS (fillS (isB l) i) i = fillS (isB l) (i + 1) := fun hb => by rw [fillS, if_pos hb]
      have hfn : ∀ hb : isB l i = false, fillS (isB l) i = fillS (isB l) (i + 1) := fun hb => by rw [fillS, if_neg (by rw [hb]; simp)]
      refine .go ?_; repeat constructor
      refine EL.move rfl rfl rfl ?_
      refine .go ?_; repeat constructor
      refine ES.cutC (X := Unit) (fun _ => [(0, Sv l), (2, Pv g2 0), (4, Pv g4 0), (8, Iv i)]) (fun _ => [SB g4 (fillS (isB l) (i + 1)), SB g2 zeroS]) ?_ (fun _ => ?_)
      · refine ES.cond rfl (fun hb => ?_) (fun hb => ?_)
        · rw [hfs hb] at ha
          refine .go ?_; repeat constructor
          refine EL.move rfl rfl rfl ?_
          refine EL.convI ((UInt8.ofNat i).toNat : Int) rfl rfl rfl rfl rfl rfl (by rw [hk8]; exact wrap_u8 _ hlt') ?_
          refine EL.callM1 rfl rfl rfl ent59 rfl ha (by repeat constructor) ?_
          refine .go ?_; repeat constructor
          exact PX.cutX () ⟨rfl, rfl, rfl, rfl, trivial⟩ (.i (by repeat constructor))
        · rw [hfn hb]
          refine .go ?_; repeat constructor
          exact PX.cutX () ⟨rfl, rfl, rfl, rfl, trivial⟩ (.i (by repeat constructor))
      refine .go ?_; repeat constructor
      refine EL.add1 rfl rfl rfl rfl (by omega) ?_
      refine EL.move rfl rfl rfl ?_
      refine .go ?_; repeat constructor
      exact PX.loop (i + 1) ⟨by omega, fun _ => hok⟩ (by omega) ⟨rfl, rfl, rfl, rfl, trivial⟩ (.i (by repeat constructor))
  · obtain rfl : i = 256 := by omega
    have hok1 : okM l = true := decide_eq_true (hpos (by omega))
    have hm : classM l = (fillS (isB l) 256, 0) := by simp only [classM, hok1, if_true]
    refine .go ?_; repeat constructor
    (apply EL.loadAggB; exact rfl; exact rfl; exact rfl; exact rfl; exact rfl; (case hm => repeat constructor); exact rfl)
    (apply EL.storeAll; exact rfl; exact rfl; exact rfl; exact rfl; exact rfl; (case p => repeat constructor); exact rfl; (case h1 => exact (by first | rfl | exact all1 rfl | (intro u hu; simp only [List.mem_cons, List.not_mem_nil, or_false] at hu; rcases hu with rfl | rfl | rfl | rfl <;> rfl) | (intro u hu; simp at hu; rcases hu with rfl | rfl | rfl | rfl <;> rfl) | (intro u hu; simp at hu; rcases hu with rfl | rfl | rfl <;> rfl) | (intro u hu; simp at hu; rcases hu with rfl | rfl <;> rfl) | (intro u hu; simp at hu; obtain ⟨_, _, rfl⟩ := hu; rfl))))
    refine EL.assign rfl rfl rfl ?_
    refine .go ?_; repeat constructor
    exact PX.ret rfl Tryd.results66 (.cons (.blkA rfl rfl rfl (by repeat constructor) rfl) (.cons (.tmp rfl) .nil)) (fun w hs => ⟨(), by rw [hm]; rfl, hs.ent (.nil _)⟩)
end Go.Proofs.YtcoajnpneableaaDoor
namespace Go.Proofs.YtcoajnpneableaaDoor.Sl
open Go Go.RowKit
set_option linter.unusedVariables false
set_option linter.unusedSimpArgs false
def HA.pack (Hs : List HA) : HA := ⟨fps Hs, fun w => ∀ A ∈ Hs, A.holds w, fun w w' h hw A hA => A.loc w w' (fun g hg => h g (List.mem_flatMap.2 ⟨A, hA, hg⟩)) (hw A hA)⟩
theorem fps_pack (Hs R : List HA) : fps (HA.pack Hs :: R) = fps (Hs ++ R) := by rw [fps_cons, fps_append]; rfl
theorem Sat.pack {w0 w : World} {B : Nat} {Hs R : List HA} (h : Sat w0 B (Hs ++ R) w) : Sat w0 B (HA.pack Hs :: R) w :=
  ⟨h.below, h.base, by rw [fps_pack]; exact h.nodup, by rw [fps_pack]; exact h.lo, fun A hA => by
    rcases List.mem_cons.1 hA with rfl | hA
    · exact fun A hA => h.all A (by simp [hA])
    · exact h.all A (by simp [hA])⟩
theorem Sat.unpack {w0 w : World} {B : Nat} {Hs R : List HA} (h : Sat w0 B (HA.pack Hs :: R) w) : Sat w0 B (Hs ++ R) w :=
  ⟨h.below, h.base, by rw [← fps_pack]; exact h.nodup, by rw [← fps_pack]; exact h.lo, fun A hA => by
    rcases List.mem_append.1 hA with hA | hA
    · exact h.head A hA
    · exact h.all A (by simp [hA])⟩
theorem Sat.putObj {w0 w : World} {B l : Nat} {o : Obj} (o' : Obj) {H : List HA} (h : Sat w0 B (HA.blk l o :: H) w) : Sat w0 B (HA.blk l o' :: H) (w.putObj l o') := by
  have hlt : l < w.heap.size := (h.lo l (by rw [fps_cons]; simp [HA.blk])).2
  refine h.step rfl rfl rfl (by simp) (fun k hk hn => World.putObj_heap_other (by simpa [HA.blk] using hn)) (World.putObj_heap_same hlt) (fun g hg => ?_) (by simp [HA.blk])
  simp only [HA.blk, List.mem_singleton] at hg
  subst hg
  exact ⟨by simpa using hlt, .inl (by simp [HA.blk])⟩
def mark (D : Nat) : Deferred := { target := .collected D, args := #[] }
def markB (D : Nat) : HA := HA.blk D (.deferred (some []))
def Rounds (P : Program) (l : Nat) (w0 : World) (B : Nat) (xs : List (List Value)) (I Ix : Nat → HA → Prop) : Prop :=
  ∀ (i : Nat) (A : HA) (R : List HA) (x : List Value) (W : World), I i A → xs[i]? = some x → Sat w0 B (A :: R) W →
    YieldAt (F0 none) 0 P l x.toArray W fun e W' => (e = .returned (.bool true) ∧ ∃ A', I (i + 1) A' ∧ Sat w0 B (A' :: R) W') ∨ (e = .returned (.bool false) ∧ ∃ A', Ix (i + 1) A' ∧ Sat w0 B (A' :: R) W')
def Iter (P : Program) (gf : Nat) (lb : Array Value) (xs : List (List Value)) (Hc : List HA) (W0 : World) (B0 : Nat) : Prop :=
  ∀ (l : Nat) (I Ix : Nat → HA → Prop), Rounds P l W0 B0 xs I Ix → ∀ (A : HA) (R : List HA) (W : World), I 0 A → Sat W0 B0 (Hc ++ A :: R) W →
    Calls P gf (#[.func (.yield l) #[] #[]] ++ lb) W fun e W' => (∃ v, e = .returned v) ∧ ((∃ A', I xs.length A' ∧ Sat W0 B0 (Hc ++ A' :: R) W') ∨ (∃ i A', Ix i A' ∧ Sat W0 B0 (Hc ++ A' :: R) W'))
section yields
variable {C : Cx} {all : Array Oper} {ops : List Oper} {Q : Qt} {E : Env} {H H' R : List HA} {d ty : Nat} {pos : String} {af : Array Edge} {gd : Option (Nat × Bool)}
theorem EL.yield {fo : Operand} {ar : Array Operand} {tys : Array TypeId} {l i : Nat} {vs : List Value} {xs : List (List Value)} {I Ix : Nat → HA → Prop} {A : HA} (hg : guardOk all E gd = some true) (hf : E.ev fo = some (.func (.yield l) #[] #[])) (ha : E.evl ar.toList = some vs) (hd : Nat.blt d C.n = true)
    (hY : Rounds C.P l C.w0 C.B xs I Ix) (hi : I i A) (hx : xs[i]? = some vs) (p : Pick H A R)
    (kt : ∀ A', I (i + 1) A' → EL C all ops Q ((d, .bool true) :: E) (A' :: R)) (kf : ∀ A', Ix (i + 1) A' → EL C all ops Q ((d, .bool false) :: E) (A' :: R)) :
    EL C all (⟨some d, .call { callee := .value fo, args := ar, argTypes := tys }, ty, pos, af, gd⟩ :: ops) Q E H := by
  intro a w hat
  simp only [wpListIn, guardOk_wanted (o := ⟨some d, .call { callee := .value fo, args := ar, argTypes := tys }, ty, pos, af, gd⟩) hg hat.1, if_true]
  refine ⟨fun _ _ => trivial, ?_⟩
  rw [sem_plain (by simp)]
  have hm : ar.map a.eval = vs.toArray := by
    have := hat.1.evl ha
    apply Array.ext'
    simpa using this
  obtain ⟨fn, tmps, asg, body, hy, hR⟩ := hY i A R vs w hi hx (hat.2.perm p.perm)
  have hrun : (execOp a.eval ⟨some d, .call { callee := .value fo, args := ar, argTypes := tys }, ty, pos, af, gd⟩).run C.P w = .ok (.round l fn tmps asg body) w := by
    simp only [execOp, resolve, hat.1.ev hf, hm, Deferred.ofValue, Sem.run_bind, Sem.run_pure, Result.andThen, invoke]
    rw [show (#[] ++ vs.toArray : Array Value) = vs.toArray by simp]
    exact hy
  rw [hrun]
  refine ⟨fun h => by simp [F0] at h, ?_⟩
  refine RoundIn.mono (F := F0 C.r) hR ?_
  rintro e w' (⟨rfl, A', hi', hs⟩ | ⟨rfl, A', hi', hs⟩)
  · exact kt A' hi' _ _ ⟨hat.1.put (by simpa using hd) _, hs⟩
  · exact kf A' hi' _ _ ⟨hat.1.put (by simpa using hd) _, hs⟩
end yields
section ranges
variable {C : Cx} {cs : List Code} {Q : Qt} {E E' : Env} {H H' H1 R : List HA}
def RoundQ {σ τ : Type} (C : Cx) (R1 : List HA) (I : σ → Prop) (Hi : σ → List HA) (Ix : Code → τ → Prop) (Hx : τ → List HA) : Qt := fun e a w => match e with
  | .normal => ∃ s, I s ∧ Sat C.w0 C.B (Hi s ++ R1) w
  | .ret => ∃ t, Ix .ret t ∧ Sat C.w0 C.B (Hx t ++ R1) w
  | .exit id => ∃ t, Ix (.exit id) t ∧ Sat C.w0 C.B (Hx t ++ R1) w
  | _ => False
theorem PX.round {σ τ : Type} {R1 : List HA} {I : σ → Prop} {Hi : σ → List HA} {Ix : Code → τ → Prop} {Hx : τ → List HA} (s : σ) (hI : I s) (hh : Ent H (Hi s ++ R1)) : PX C (RoundQ C R1 I Hi Ix Hx) .normal E H := fun a w h => ⟨s, hI, h.2.ent hh⟩
theorem PX.roundR {σ τ : Type} {R1 : List HA} {I : σ → Prop} {Hi : σ → List HA} {Ix : Code → τ → Prop} {Hx : τ → List HA} (t : τ) (hI : Ix .ret t) (hh : Ent H (Hx t ++ R1)) : PX C (RoundQ C R1 I Hi Ix Hx) .ret E H := fun a w h => ⟨t, hI, h.2.ent hh⟩
def bindL : List Nat → List Value → Env → Env
  | p :: ps, v :: vs, E => bindL ps vs ((p, v) :: E)
  | _, _, E => E
theorem fits_bind {n : Nat} {D : List Deferred} : ∀ (ps : List Nat) (vs : List Value) (E : Env) (t : Array Value), (ps.all fun p => Nat.blt p n) = true → Fits n D E { tmps := t, defers := D } → Fits n D (bindL ps vs E) { tmps := (ps.zip vs).foldl (fun t (p : Nat × Value) => t.setIfInBounds p.1 p.2) t, defers := D }
  | [], _, E, t, _, h => by simpa [bindL] using h
  | p :: ps, [], E, t, _, h => by simpa [bindL] using h
  | p :: ps, v :: vs, E, t, hp, h => by
    simp only [List.all_cons, Bool.and_eq_true] at hp
    exact fits_bind ps vs _ _ hp.2 (h.put (by simpa using hp.1) v)
theorem wps_D (C : Cx) (D : List Deferred) (Q : Qt) : ∀ cs, wps { C with D := D } cs Q = wps C cs Q
  | [] => rfl
  | c :: cs => by simp only [wps, wps_D C D Q cs]
def loopR (fn : FuncId) (tmps : Array Value) (ps : Array Tmp) (asg body : Code) (D : Nat) (st : LoopState) (pe : Option Code) : Loop := { state := st, pending := pe, fn, tmps, params := ps, assign := asg, body, defers := D }
def AssignQ (C : Cx) (R1 : List HA) (body : Code) (RQ : List HA → Qt) : Qt := fun e a w => e = .normal ∧ ∃ E1 H1, At C E1 (H1 ++ R1) a w ∧ ∀ R2, ES C [body] (RQ R2) E1 (H1 ++ R2)
theorem PX.assigned {R1 : List HA} {body : Code} {RQ : List HA → Qt} (E1 : Env) (H1 : List HA) (he : Has E E1) (hh : Ent H (H1 ++ R1)) (k : ∀ R2, ES C [body] (RQ R2) E1 (H1 ++ R2)) : PX C (AssignQ C R1 body RQ) .normal E H := fun a w h => ⟨rfl, E1, H1, h.sub he hh, k⟩
def loopA (L : Nat) (lp : Loop) (D : Nat) (T : List HA) : HA := HA.pack (HA.blk L (.loop lp) :: markB D :: T)
theorem perm_mid2 {α : Type} (a b : α) (T R : List α) : (T ++ a :: b :: R).Perm (a :: b :: (T ++ R)) := List.perm_middle.trans (List.perm_middle.cons _)
theorem round_end {P : Program} {w0 : World} {B L D : Nat} {lp : Loop} {T R1 : List HA} {W3 : World} (jump : Option Code) (h3 : Sat w0 B (T ++ (HA.blk L (.loop lp) :: markB D :: R1)) W3) :
    (Instr.endRound L jump).run P W3 = .ok (.bool jump.isNone) (W3.putObj L (.loop { lp with state := if jump.isNone then .ready else .done, pending := jump })) ∧
    Sat w0 B (loopA L { lp with state := if jump.isNone then .ready else .done, pending := jump } D T :: R1) (W3.putObj L (.loop { lp with state := if jump.isNone then .ready else .done, pending := jump })) := by
  have h4 : Sat w0 B (HA.blk L (.loop lp) :: markB D :: (T ++ R1)) W3 := h3.perm (perm_mid2 _ _ _ _)
  exact ⟨run_endRound (P := P) jump h4.head, (h4.putObj _).pack⟩
theorem rounds_of {σ τ : Type} {P : Program} {T : TyTab P} {w0 : World} {B n L D : Nat} {fn : FuncId} {tmps : Array Value} {ps : Array Tmp} {asg body : Code} {xs : List (List Value)} (I : Nat → σ → Prop) (Hi : σ → List HA) (Ix : Code → Nat → τ → Prop) (Hx : τ → List HA)
    (hps : ∀ x ∈ xs, x.length = ps.size) (hpn : (ps.toList.all fun p => Nat.blt p n) = true) (hfit : Fits n [] E { tmps, defers := [] })
    (hround : ∀ l i s x R1, I i s → xs[i]? = some x → ES ⟨P, T, some l, n, [], w0, B⟩ [asg] (AssignQ ⟨P, T, some l, n, [], w0, B⟩ R1 body fun R2 => RoundQ ⟨P, T, some l, n, [], w0, B⟩ R2 (I (i + 1)) Hi (fun c => Ix c (i + 1)) Hx) (bindL ps.toList x E) (Hi s ++ R1)) :
    Rounds P L w0 B xs (fun i A => ∃ s, I i s ∧ A = loopA L (loopR fn tmps ps asg body D .ready none) D (Hi s)) (fun i A => ∃ c t, Ix c i t ∧ A = loopA L (loopR fn tmps ps asg body D .done (some c)) D (Hx t)) := by
  rintro i A R1 x W ⟨s, hI, rfl⟩ hx hsat
  have hs := hsat.unpack
  have hl : W.heap[L]? = some (.loop (loopR fn tmps ps asg body D .ready none)) := hs.head
  have hy := run_yield (P := P) (args := x.toArray) hl (by simpa [loopR] using hps x (List.mem_of_getElem? hx))
  refine ⟨_, _, _, _, hy, roundIn_of_wpIn trivial ?_⟩
  have hs0 : Sat w0 B (Hi s ++ (HA.blk L (.loop (loopR fn tmps ps asg body D .ready none)) :: markB D :: R1)) W := hs.perm (perm_mid2 _ _ _ _).symm
  have hf2 : Fits n [] (bindL ps.toList x E) { tmps := (ps.zip x.toArray).foldl (fun t (p : Nat × Value) => t.setIfInBounds p.1 p.2) tmps, defers := [] } := by
    have := fits_bind (D := []) ps.toList x E tmps hpn hfit
    rw [← Array.foldl_toList, Array.toList_zip]
    exact this
  refine wpIn_mono (hround L i s x _ hI hx _ _ ⟨hf2, hs0⟩) ?_
  clear hf2 hs0 hy hl hs hsat hround
  rintro e a1 W1 hq
  cases e with
  | normal =>
    obtain ⟨_, E1, H1, hat, hb⟩ := (hq : AssignQ _ _ _ _ .normal a1 W1)
    have hs1 : Sat w0 B (HA.blk L (.loop (loopR fn tmps ps asg body D .ready none)) :: markB D :: (H1 ++ R1)) W1 := hat.2.perm (perm_mid2 _ _ _ _)
    refine ⟨_, run_beginRound hs1.head rfl, ?_⟩
    have hs' : Sat w0 B (H1 ++ (HA.blk L (.loop { loopR fn tmps ps asg body D .ready none with state := .busy }) :: markB D :: R1)) (W1.putObj L (.loop { loopR fn tmps ps asg body D .ready none with state := .busy })) :=
      (hs1.putObj (.loop { loopR fn tmps ps asg body D .ready none with state := .busy })).perm (perm_mid2 _ _ _ _).symm
    refine wpIn_mono (hb _ _ _ ⟨hat.1, hs'⟩) ?_
    clear hb hs' hs1 hat
    rintro e a3 W3 hp
    cases e with
    | normal =>
      obtain ⟨s', hI', hs3⟩ := hp
      obtain ⟨h1, h2⟩ := round_end (P := P) none hs3
      exact ⟨_, _, h1, .inl ⟨rfl, _, ⟨s', hI', rfl⟩, h2⟩⟩
    | ret =>
      obtain ⟨t, hI', hs3⟩ := hp
      obtain ⟨h1, h2⟩ := round_end (P := P) (some .ret) hs3
      exact ⟨_, _, h1, .inr ⟨rfl, _, ⟨_, t, hI', rfl⟩, h2⟩⟩
    | exit id =>
      obtain ⟨t, hI', hs3⟩ := hp
      obtain ⟨h1, h2⟩ := round_end (P := P) (some (.exit id)) hs3
      exact ⟨_, _, h1, .inr ⟨rfl, _, ⟨_, t, hI', rfl⟩, h2⟩⟩
    | goto t => exact hp.elim
    | panic ch => exact hp.elim
    | outgrown => exact hp.elim
  | _ => cases (hq.1 : _ = Exit.normal)
theorem range_back {P : Program} {w0 : World} {B L D : Nat} {lp : Loop} {T Hc R : List HA} {W2 : World} (h : Sat w0 B (Hc ++ loopA L lp D T :: R) W2) (hb : lp.state ≠ .busy) :
    (Instr.endLoop L).run P W2 = .ok lp.pending (W2.putObj L (.loop { lp with state := .exhausted })) ∧ Sat w0 B (markB D :: (T ++ (Hc ++ R))) (W2.putObj L (.loop { lp with state := .exhausted })) := by
  have h1 : Sat w0 B (loopA L lp D T :: (Hc ++ R)) W2 := h.perm List.perm_middle
  have h2 := h1.unpack
  exact ⟨run_endLoop (P := P) h2.head hb, (h2.putObj _).tail⟩
theorem range_start {w0 w : World} {B : Nat} {H Hc R T : List HA} (h : Sat w0 B H w) (p : H.Perm (Hc ++ (T ++ R))) (o : Loop) :
    Sat w0 B (Hc ++ loopA (w.heap.size + 1) o w.heap.size T :: R) ((w.alloc (.deferred (some []))).alloc (.loop o)) := by
  have h1 := (h.alloc (.deferred (some []))).alloc (.loop o)
  rw [World.size_alloc] at h1
  have h2 : Sat w0 B ((HA.blk (w.heap.size + 1) (.loop o) :: markB w.heap.size :: T) ++ (R ++ Hc)) ((w.alloc (.deferred (some []))).alloc (.loop o)) := by
    refine h1.perm (((p.trans ?_).cons _).cons _)
    show (Hc ++ (T ++ R)).Perm (T ++ (R ++ Hc))
    rw [← List.append_assoc T]
    exact List.perm_append_comm
  exact h2.pack.perm (List.perm_append_comm (l₁ := _ :: R) (l₂ := Hc))
theorem PX.then_d {D' : List Deferred} (k : ES C cs Q E H) : PX C (Exit.then (wps { C with D := D' } cs Q) Q) .normal E H := by
  intro a w h
  show wps { C with D := D' } cs Q a w
  rw [wps_D]
  exact k a w h
theorem ES.rangeFunc {σ τ : Type} {g : Operand} {ps : Array Tmp} {asg body : Code} {gf : Nat} {lb : Array Value} {xs : List (List Value)} {Hc : List HA} (I : Nat → σ → Prop) (Hi : σ → List HA) (Ix : Code → Nat → τ → Prop) (Hx : τ → List HA) (s0 : σ) (h0 : I 0 s0)
    (hr : C.r = none) (hg : E.ev g = some (.func (.func gf) #[] lb)) (en : Enters C.P gf) (hit : Iter C.P gf lb xs Hc C.w0 C.B) (tc : Takes H Hc H1) (t0 : Takes H1 (Hi s0) R)
    (hps : ∀ x ∈ xs, x.length = ps.size) (hpn : (ps.toList.all fun p => Nat.blt p C.n) = true)
    (hround : ∀ l i s x R1, I i s → xs[i]? = some x → ES ⟨C.P, C.T, some l, C.n, [], C.w0, C.B⟩ [asg] (AssignQ ⟨C.P, C.T, some l, C.n, [], C.w0, C.B⟩ R1 body fun R2 => RoundQ ⟨C.P, C.T, some l, C.n, [], C.w0, C.B⟩ R2 (I (i + 1)) Hi (fun c => Ix c (i + 1)) Hx) (bindL ps.toList x E) (Hi s ++ R1))
    (hdone : ∀ D s, I xs.length s → ES { C with D := mark D :: C.D } cs Q E (markB D :: (Hi s ++ (Hc ++ R))))
    (hstop : ∀ D c i t, Ix c i t → ES { C with D := mark D :: C.D } [c] (Exit.then (wps { C with D := mark D :: C.D } cs Q) Q) E (markB D :: (Hx t ++ (Hc ++ R)))) : ES C (.rangeFunc g ps asg body :: cs) Q E H := by
  intro a w ha
  refine wpIn_rangeFunc ?_
  intro fn hfn
  obtain ⟨P, T, r, n, D0, w0, B⟩ := C
  obtain rfl : r = none := hr
  dsimp only at en hit hpn hround hdone hstop
  have hfit : Fits n (mark w.heap.size :: D0) E { a with defers := [mark w.heap.size] ++ a.defers } := ⟨by rw [ha.1.dfr]; rfl, ha.1.size, ha.1.get⟩
  have hrd := rounds_of (T := T) (L := w.heap.size + 1) (D := w.heap.size) (fn := fn) I Hi Ix Hx hps hpn ⟨rfl, ha.1.size, ha.1.get⟩ hround
  have hs2 := range_start ha.2 (tc.perm.trans (t0.perm.append_left _)) (loopR fn a.tmps ps asg body w.heap.size .ready none)
  have key : CallsIn (F0 none) (0 - 1) P gf (#[.func (.yield (w.heap.size + 1)) #[] #[]] ++ lb) ((w.alloc (.deferred (some []))).alloc (.loop (loopR fn a.tmps ps asg body w.heap.size .ready none))) (rangePost (F0 none) 0 P (w.heap.size + 1) (Exit.then (wps ⟨P, T, none, n, D0, w0, B⟩ cs Q) Q) { a with defers := [mark w.heap.size] ++ a.defers }) := by
    refine callsIn_F0 (r := none) ((hit _ _ _ hrd _ R _ ⟨s0, h0, rfl⟩ hs2).mono ?_)
    clear hrd hs2 hit hround
    rintro e W2 ⟨⟨v, rfl⟩, (⟨A', ⟨s, hI, rfl⟩, hs⟩ | ⟨i, A', ⟨c, t, hI, rfl⟩, hs⟩)⟩
    · obtain ⟨h1, h2⟩ := range_back (P := P) hs (by simp [loopR])
      have hk := hdone _ s hI _ _ ⟨hfit, h2⟩
      have e2 := wps_D ⟨P, T, none, n, D0, w0, B⟩ (mark w.heap.size :: D0) Q cs
      dsimp only at e2
      rw [e2] at hk
      exact ⟨none, _, h1, hk⟩
    · obtain ⟨h1, h2⟩ := range_back (P := P) hs (by simp [loopR])
      have hk := hstop _ c i t hI _ _ ⟨hfit, h2⟩
      have e2 := wps_D ⟨P, T, none, n, D0, w0, B⟩ (mark w.heap.size :: D0) Q cs
      dsimp only at e2
      rw [e2] at hk
      refine ⟨some c, _, h1, wpIn_mono hk ?_⟩
      intro e a w hq
      cases e <;> exact hq
  have e1 : (Instr.enterLoop fn a.tmps ps asg body none).run P w = .ok (w.heap.size + 1, [mark w.heap.size]) ((w.alloc (.deferred (some []))).alloc (.loop (loopR fn a.tmps ps asg body w.heap.size .ready none))) := run_enterLoop_outer _ _ _ _ _
  have e2 : ∀ W, (resolve a.eval (rangeCall g (w.heap.size + 1)) 0).run P W = .ok { target := .fn (.func gf) lb, args := #[.func (.yield (w.heap.size + 1)) #[] #[]] } W := fun W => by
    simp only [resolve, ha.1.ev hg]
    simp [go_sem]
  have e3 : ∀ W, (invoke (.fn (.func gf) lb) #[.func (.yield (w.heap.size + 1)) #[] #[]]).run P W = .ok (.enter gf (#[.func (.yield (w.heap.size + 1)) #[] #[]] ++ lb)) W := fun W => by
    simp only [invoke]
    exact en _ _
  refine ⟨_, _, _, _, _, _, _, _, e1, e2 _, fun _ _ => trivial, e3 _, fun h => ?_, key⟩
  cases h
end ranges
def marksOf (Ds : List Nat) : List Deferred := Ds.map mark
def marksB (Ds : List Nat) : List HA := Ds.map markB
theorem leaves_marks {P : Program} {fn : Func} {tmps : Array Value} {R : Ending → World → Prop} {w0 : World} {B : Nat} {H : List HA} (hR : ∀ w, Sat w0 B H w → ∃ v, (results fn tmps).run P w = .ok v w ∧ R (.returned v) w) : ∀ (Ds : List Nat) (w : World), Sat w0 B (marksB Ds ++ H) w → LeavesInM (F0 none) 0 P fn tmps R (marksOf Ds) .returning w
  | [], w, h => hR w h
  | D :: Ds, w, h => by
    have h1 : Sat w0 B (HA.blk D (.deferred (some [])) :: (marksB Ds ++ H)) w := h
    exact ⟨by simp, .inl ⟨D, _, rfl, run_takeDeferred h1.head, leaves_marks hR Ds _ (h1.putObj _).tail⟩⟩
theorem PX.retM {C : Cx} {E : Env} {H H' : List HA} {fn : Func} {R : Ending → World → Prop} {rs : List ResultVar} {vs : List Value} (Ds : List Nat) (hD : C.D = marksOf Ds) (tk : Takes H (marksB Ds) H') (hr : fn.results = rs.toArray) (h : ResL C E H' rs vs) (hR : ∀ w, Sat C.w0 C.B H' w → R (.returned (outV vs)) w) : PX C (bodyPostM (F0 none) 0 C.P fn R) .ret E H := by
  intro a w ha
  show LeavesInM _ _ _ _ _ _ a.defers _ _
  rw [ha.1.dfr, hD]
  exact leaves_marks (fun w' hs => ⟨_, run_results hr h ⟨ha.1, hs⟩, hR w' hs⟩) Ds w (ha.2.perm tk.perm)
theorem calls_of_ESM {P : Program} (T : TyTab P) {f : FuncId} {fn : Func} {c : Code} {args : Array Value} {w w0 : World} {B : Nat} {H : List HA} {R : Ending → World → Prop} (hf : P.funcs[f]? = some fn) (hb : fn.body = some c) (n : Nat) (hn : fn.ntmps = n) (hsz : Nat.ble args.size n = true)
    (hs : Sat w0 B H w) (h : ES ⟨P, T, none, n, [], w0, B⟩ [c] (bodyPostM (F0 none) 0 P fn R) (envOf args.toList 0) H) : Calls P f args w R := by
  refine calls_F0 (r := none) (n := 0) (callsIn_of_wp_marks hf hb trivial ?_)
  subst hn
  have := h _ w ⟨fits_start args fn.ntmps (Nat.le_of_ble_eq_true hsz), hs⟩
  refine wpIn_mono this ?_
  intro e a w hq
  cases e <;> exact hq
theorem EL.buildSliceC {C : Cx} {all : Array Oper} {ops : List Oper} {Q : Qt} {E : Env} {H : List HA} {d ty t n : Nat} {pos : String} {af : Array Edge} {gd : Option (Nat × Bool)} {ti te : TI} {el : TypeId} {ps : Array (Nat × Operand)} {vs : List (Nat × Value)} (cs : Array Value) (hg : guardOk all E gd = some true) (hx : E.evp ps.toList = some vs) (ht : C.T.f t = some ti) (hu : ti.u = .slice el) (hte : C.T.f el = some te) (hd : Nat.blt d C.n = true)
    (hf : Instr.fill (fun i => some (i * te.size, te.size)) ((Array.range (n * te.size)).map (te.zero.cells[· % te.zero.cells.size]!)) vs = some cs) (hpos : Nat.blt 0 (n * te.size) = true) (hsm : Nat.ble (n * te.size) 16777216 = true) (hcs : cs.size = n * te.size) (hn : Nat.ble n 16777216 = true)
    (k : ∀ g, EL C all ops Q ((d, .slice (some ⟨g, 0, none⟩) n n) :: E) (HA.row (.slice (some ⟨g, 0, none⟩) n n) el te.size n cs.toList :: H)) :
    EL C all (⟨some d, .buildSlice t n ps, ty, pos, af, gd⟩ :: ops) Q E H := by
  intro a w ha
  simp only [wpListIn, guardOk_wanted (o := ⟨some d, .buildSlice t n ps, ty, pos, af, gd⟩) hg ha.1, if_true]
  refine ⟨fun _ _ => trivial, ?_⟩
  rw [sem_plain (by simp)]
  have hT := (C.T.ok t ti ht).u
  rw [hu] at hT
  have hI := (C.T.ok el te hte).runInfo w
  have hp : 0 < n * te.size := by simpa using hpos
  have hsm' : n * te.size ≤ 16777216 := Nat.le_of_ble_eq_true hsm
  have hn' : n ≤ 16777216 := Nat.le_of_ble_eq_true hn
  have hv : (ps.map fun p => (p.1, a.eval p.2)).toList = vs := by simpa using ha.1.evp hx
  have hrun : (execOp a.eval ⟨some d, .buildSlice t n ps, ty, pos, af, gd⟩).run C.P w = .ok (.value (.slice (some ⟨w.heap.size, 0, none⟩) n n)) (w.alloc (.cells cs el)) := by
    have hne : n * te.size ≠ 0 := by omega
    have hgt : ¬ 16777216 < n * te.size := by omega
    have h1 : (Instr.buildSlice t n (ps.map fun p => (p.1, a.eval p.2))).run C.P w = .ok (.slice (some ⟨w.heap.size, 0, none⟩) n n) (w.alloc (.cells cs el)) := by
      unfold Instr.buildSlice
      simp only [Sem.run_bind, run_underlying hT, hI.1, hI.2.1, Result.andThen, Sem.run_pure, Sem.run_ite, hv]
      rw [if_neg (show ¬ n * te.size > 2 ^ 24 by omega), if_neg hne]
      simp only [Sem.run_bind, Sem.run_pure, hI.2.1, Result.andThen, hf]
      simp [newRow, Result.andThen]
    simp [execOp, h1, Result.andThen]
  rw [hrun]
  refine k w.heap.size _ _ ⟨ha.1.put (by simpa using hd) _, ha.2.fresh (World.grownBy_alloc w _ none) (HA.row (.slice (some ⟨w.heap.size, 0, none⟩) n n) el te.size n _) ?_ (by simp [HA.row, Value.ownBlock]) (by simp [HA.row, Value.ownBlock])⟩
  exact ⟨by simpa using hcs, .inr ⟨w.heap.size, n, cs, rfl, Nat.zero_le _, heap_alloc_new w _, Nat.le_refl _, by unfold maxLen; omega, hcs, by rw [List.take_of_length_le (by simp [hcs])]⟩⟩
def enumV : Nat → List Value → List (Nat × Value)
  | _, [] => []
  | k, u :: us => (k, u) :: enumV (k + 1) us
theorem fill_ones : ∀ (us pre rest : List Value), rest.length = us.length → (∀ u ∈ us, u.cells = #[u]) → Instr.fill (fun i => some (i * 1, 1)) (pre ++ rest).toArray (enumV pre.length us) = some (pre ++ us).toArray
  | [], pre, rest, hl, _ => by
    obtain rfl : rest = [] := List.eq_nil_of_length_eq_zero hl
    rfl
  | u :: us, pre, rest, hl, h => by
    obtain ⟨r, rest', rfl⟩ : ∃ r rest', rest = r :: rest' := by
      cases rest with
      | nil => simp at hl
      | cons r rest' => exact ⟨r, rest', rfl⟩
    have hu := h u (by simp)
    have ih := fill_ones us (pre ++ [u]) rest' (by simpa using hl) (fun v hv => h v (by simp [hv]))
    simp only [enumV, Instr.fill, hu]
    rw [if_neg (by simp)]
    have e1 : (#[u].zipIdx.foldl (fun cs (p : Value × Nat) => cs.setIfInBounds (pre.length * 1 + p.2) p.1) (pre ++ r :: rest').toArray) = ((pre ++ [u]) ++ rest').toArray := by
      have : (#[u] : Array Value).zipIdx = #[(u, 0)] := rfl
      rw [this]
      simp
    rw [List.length_append, List.length_singleton] at ih
    rw [e1, ih]
    simp
theorem EL.buildSliceS {C : Cx} {all : Array Oper} {ops : List Oper} {Q : Qt} {E : Env} {H : List HA} {d ty t n : Nat} {pos : String} {af : Array Edge} {gd : Option (Nat × Bool)} {ti te : TI} {el : TypeId} {ps : Array (Nat × Operand)} (us : List Value) (hg : guardOk all E gd = some true) (hx : E.evp ps.toList = some (enumV 0 us)) (ht : C.T.f t = some ti) (hu : ti.u = .slice el) (hte : C.T.f el = some te) (hs1 : te.size = 1) (hd : Nat.blt d C.n = true)
    (hlen : us.length = n) (hpos : Nat.blt 0 n = true) (hn : Nat.ble n 16777216 = true) (h1 : ∀ u ∈ us, u.cells = #[u])
    (k : ∀ g, EL C all ops Q ((d, .slice (some ⟨g, 0, none⟩) n n) :: E) (HA.row (.slice (some ⟨g, 0, none⟩) n n) el 1 n us :: H)) :
    EL C all (⟨some d, .buildSlice t n ps, ty, pos, af, gd⟩ :: ops) Q E H := by
  have hz : ((Array.range (n * te.size)).map (te.zero.cells[· % te.zero.cells.size]!)) = ([] ++ ((Array.range (n * te.size)).map (te.zero.cells[· % te.zero.cells.size]!)).toList).toArray := by rw [List.nil_append, Array.toArray_toList]
  have hf := fill_ones us [] ((Array.range (n * te.size)).map (te.zero.cells[· % te.zero.cells.size]!)).toList (by simp [hs1, hlen]) h1
  refine EL.buildSliceC us.toArray hg hx ht hu hte hd ?_ (by rw [hs1, Nat.mul_one]; exact hpos) (by rw [hs1, Nat.mul_one]; exact hn) (by simp [hs1, hlen]) hn ?_
  · rw [hz]; simp only [hs1]; simpa [hs1] using hf
  · intro g
    have := k g
    rw [hs1]
    simpa using this
theorem EL.makeFunc {C : Cx} {all : Array Oper} {ops : List Oper} {Q : Qt} {E : Env} {H : List HA} {d ty f : Nat} {pos : String} {af : Array Edge} {gd : Option (Nat × Bool)} {ar : Array Operand} {vs : List Value} (hg : guardOk all E gd = some true) (ha : E.evl ar.toList = some vs) (hd : Nat.blt d C.n = true)
    (k : EL C all ops Q ((d, .func (.func f) #[] vs.toArray) :: E) H) : EL C all (⟨some d, .makeFunc (.func f) #[] ar, ty, pos, af, gd⟩ :: ops) Q E H :=
  EL.val _ hg rfl hd (by simp) (fun a w hat => by
    have hm : ar.map a.eval = vs.toArray := by
      have := hat.1.evl ha
      apply Array.ext'
      simpa using this
    simp [execOp, Instr.makeFunc, hm, Result.andThen]) k
def NoGoto (Q : Qt) : Qt := fun e a w => match e with
  | .goto _ => False
  | e => Q e a w
theorem stepR_scope' {P : Program} {b : Frame} {a : Act} {k : List Item} {cs : List Frame} {w : World} {c : Code} : step P (lone (b.atR a (.code (.scope c) :: k)) cs w) = .next (lone (b.atR a (.code c :: .inScope c :: k)) cs w) :=
  step_lone_go (by simp [stepG, stepG.exec, Frame.atR])
theorem stepR_inScope' {P : Program} {b : Frame} {a : Act} {k : List Item} {cs : List Frame} {w : World} {c : Code} : step P (lone (b.atR a (.inScope c :: k)) cs w) = .next (lone (b.atR a k) cs w) :=
  step_lone_go (by simp [stepG, stepG.exec, Frame.atR])
theorem wpIn_scope' {F : Fence} {n : Nat} {P : Program} {Q : Qt} {a : Act} {w : World} {c : Code} (h : c.wpIn F n P (NoGoto Q) a w) : (Code.scope c).wpIn F n P Q a w := by
  intro b k cs hro hb hr
  have h0 : (lone (b.atR a (.code (.scope c) :: k)) cs w).fenced P F := fenced_calm hb hr rfl
  obtain ⟨e, a₁, w₁, hq, harr⟩ := h b (.inScope c :: k) cs hro hb hr
  cases e with
  | normal => exact ⟨.normal, a₁, w₁, hq, .head h0 stepR_scope' (StepsIn.trans harr (.one (fenced_calm hb hr rfl) stepR_inScope'))⟩
  | exit id =>
    have hx : exitTo id (.inScope c :: k) = exitTo id k := by simp [exitTo]
    exact ⟨.exit id, a₁, w₁, hq, fun k' hk => .head h0 stepR_scope' (harr.1 k' (by rw [hx]; exact hk)),
      fun hr' hk => let ⟨k₁, h1, h2⟩ := harr.2 hr' (by rw [hx]; exact hk); ⟨k₁, h1, .head h0 stepR_scope' h2⟩⟩
  | goto l => exact hq.elim
  | ret => exact ⟨_, a₁, w₁, hq, .of_steps (.one h0 stepR_scope') harr⟩
  | panic ch => exact ⟨_, a₁, w₁, hq, .of_steps (.one h0 stepR_scope') harr⟩
  | outgrown => exact ⟨_, a₁, w₁, hq, .of_steps (.one h0 stepR_scope') harr⟩
section scopes
variable {C : Cx} {cs : List Code} {Q : Qt} {E : Env} {H : List HA}
theorem ES.scope {c : Code} (k : ES C [c] (NoGoto (Exit.then (wps C cs Q) Q)) E H) : ES C (.scope c :: cs) Q E H := by
  intro a w h
  refine wpIn_scope' (wpIn_mono (k a w h) ?_)
  intro e a w h
  cases e <;> exact h
theorem PX.sc_n (k : PX C Q .normal E H) : PX C (NoGoto Q) .normal E H := k
theorem PX.sc_r (k : PX C Q .ret E H) : PX C (NoGoto Q) .ret E H := k
theorem PX.sc_x {id : Nat} (k : PX C Q (.exit id) E H) : PX C (NoGoto Q) (.exit id) E H := k
end scopes
mutual
inductive RS : Bool → (C : Cx) → Env → List HA → List Code → Qt → Prop
  | seq {b : Bool} {C : Cx} {E : Env} {H : List HA} {Q : Qt} {cs : List Code} {x y : Code} (k : RS b C E H (x :: y :: cs) Q) : RS b C E H (.seq x y :: cs) Q
  | skip {b : Bool} {C : Cx} {E : Env} {H : List HA} {Q : Qt} {cs : List Code} (k : RS b C E H cs Q) : RS b C E H (.skip :: cs) Q
  | region {C : Cx} {E : Env} {H : List HA} {Q : Qt} {cs : List Code} {i : Nat} {ops : Array Oper} (k : RE' true C E H ops ops.toList (Exit.then (wps C cs Q) Q)) : RS true C E H (.region i ops false :: cs) Q
  | block {b : Bool} {C : Cx} {E : Env} {H : List HA} {Q : Qt} {cs : List Code} {id : Nat} {c : Code} (k : RS b C E H [c] (Exit.inBlock id (Exit.then (wps C cs Q) Q))) : RS b C E H (.block id c :: cs) Q
  | nil {b : Bool} {C : Cx} {E : Env} {H : List HA} {Q : Qt} (k : RP b C E H Q .normal) : RS b C E H [] Q
  | exit {b : Bool} {C : Cx} {E : Env} {H : List HA} {Q : Qt} {cs : List Code} {id : Nat} (k : RP b C E H Q (.exit id)) : RS b C E H (.exit id :: cs) Q
  | ret {b : Bool} {C : Cx} {E : Env} {H : List HA} {Q : Qt} {cs : List Code} (k : RP b C E H Q .ret) : RS b C E H (.ret :: cs) Q
  | label {b : Bool} {C : Cx} {E : Env} {H : List HA} {Q : Qt} {cs : List Code} {l : Nat} (k : RS b C E H cs Q) : RS b C E H (.label l :: cs) Q
  | scope {b : Bool} {C : Cx} {E : Env} {H : List HA} {Q : Qt} {cs : List Code} {c : Code} (k : RS b C E H [c] (NoGoto (Exit.then (wps C cs Q) Q))) : RS b C E H (.scope c :: cs) Q
  | l {b : Bool} {C : Cx} {E : Env} {H : List HA} {Q : Qt} {cs : List Code} (k : ES C cs Q E H) : RS b C E H cs Q
inductive RE' : Bool → (C : Cx) → Env → List HA → Array Oper → List Oper → Qt → Prop
  | nil {b : Bool} {C : Cx} {E : Env} {H : List HA} {Q : Qt} {cs : List Code} {all : Array Oper} (k : RS b C E H cs Q) : RE' b C E H all [] (Exit.then (wps C cs Q) Q)
  | l {b : Bool} {C : Cx} {E : Env} {H : List HA} {Q : Qt} {all : Array Oper} {ops : List Oper} (k : EL C all ops Q E H) : RE' b C E H all ops Q
inductive RP : Bool → (C : Cx) → Env → List HA → Qt → Exit → Prop
  | hit {b : Bool} {C : Cx} {E : Env} {H : List HA} {Q : Qt} {id : Nat} (k : RP b C E H Q .normal) : RP b C E H (Exit.inBlock id Q) (.exit id)
  | miss {b : Bool} {C : Cx} {E : Env} {H : List HA} {Q : Qt} {id id' : Nat} (hne : Nat.beq id' id = false) (k : RP b C E H Q (.exit id')) : RP b C E H (Exit.inBlock id Q) (.exit id')
  | then_x {b : Bool} {C : Cx} {E : Env} {H : List HA} {Q : Qt} {K : Act → World → Prop} {id : Nat} (k : RP b C E H Q (.exit id)) : RP b C E H (Exit.then K Q) (.exit id)
  | then_r {b : Bool} {C : Cx} {E : Env} {H : List HA} {Q : Qt} {K : Act → World → Prop} (k : RP b C E H Q .ret) : RP b C E H (Exit.then K Q) .ret
  | block_n {b : Bool} {C : Cx} {E : Env} {H : List HA} {Q : Qt} {id : Nat} (k : RP b C E H Q .normal) : RP b C E H (Exit.inBlock id Q) .normal
  | block_r {b : Bool} {C : Cx} {E : Env} {H : List HA} {Q : Qt} {id : Nat} (k : RP b C E H Q .ret) : RP b C E H (Exit.inBlock id Q) .ret
  | then_n {b : Bool} {C : Cx} {E : Env} {H : List HA} {Q : Qt} {cs : List Code} (k : RS b C E H cs Q) : RP b C E H (Exit.then (wps C cs Q) Q) .normal
  | then_d {b : Bool} {C : Cx} {E : Env} {H : List HA} {Q : Qt} {cs : List Code} {D' : List Deferred} (k : RS b C E H cs Q) : RP b C E H (Exit.then (wps { C with D := D' } cs Q) Q) .normal
  | sc_n {b : Bool} {C : Cx} {E : Env} {H : List HA} {Q : Qt} (k : RP b C E H Q .normal) : RP b C E H (NoGoto Q) .normal
  | sc_r {b : Bool} {C : Cx} {E : Env} {H : List HA} {Q : Qt} (k : RP b C E H Q .ret) : RP b C E H (NoGoto Q) .ret
  | sc_x {b : Bool} {C : Cx} {E : Env} {H : List HA} {Q : Qt} {id : Nat} (k : RP b C E H Q (.exit id)) : RP b C E H (NoGoto Q) (.exit id)
  | l {b : Bool} {C : Cx} {E : Env} {H : List HA} {Q : Qt} {e : Exit} (k : PX C Q e E H) : RP b C E H Q e
end
mutual
theorem RS.go : ∀ {b : Bool} {C : Cx} {E : Env} {H : List HA} {cs : List Code} {Q : Qt}, RS b C E H cs Q → ES C cs Q E H
  | _, _, _, _, _, _, .seq k => ES.seq k.go
  | _, _, _, _, _, _, .skip k => ES.skip k.go
  | _, _, _, _, _, _, .region k => ES.region k.go
  | _, _, _, _, _, _, .block k => ES.block k.go
  | _, _, _, _, _, _, .nil k => ES.nil k.go
  | _, _, _, _, _, _, .exit k => ES.exit k.go
  | _, _, _, _, _, _, .ret k => ES.ret k.go
  | _, _, _, _, _, _, .label k => ES.label k.go
  | _, _, _, _, _, _, .scope k => ES.scope k.go
  | _, _, _, _, _, _, .l k => k
theorem RE'.go : ∀ {b : Bool} {C : Cx} {E : Env} {H : List HA} {all : Array Oper} {ops : List Oper} {Q : Qt}, RE' b C E H all ops Q → EL C all ops Q E H
  | _, _, _, _, _, _, _, .nil k => EL.nil k.go
  | _, _, _, _, _, _, _, .l k => k
theorem RP.go : ∀ {b : Bool} {C : Cx} {E : Env} {H : List HA} {Q : Qt} {e : Exit}, RP b C E H Q e → PX C Q e E H
  | _, _, _, _, _, _, .hit k => PX.hit k.go
  | _, _, _, _, _, _, .miss hne k => PX.miss hne k.go
  | _, _, _, _, _, _, .then_x k => PX.then_x k.go
  | _, _, _, _, _, _, .then_r k => PX.then_r k.go
  | _, _, _, _, _, _, .block_n k => PX.block_n k.go
  | _, _, _, _, _, _, .block_r k => PX.block_r k.go
  | _, _, _, _, _, _, .then_n k => PX.then_n (e := .normal) k.go
  | _, _, _, _, _, _, .then_d k => PX.then_d k.go
  | _, _, _, _, _, _, .sc_n k => PX.sc_n k.go
  | _, _, _, _, _, _, .sc_r k => PX.sc_r k.go
  | _, _, _, _, _, _, .sc_x k => PX.sc_x k.go
  | _, _, _, _, _, _, .l k => k
end
theorem ES.gr {C : Cx} {cs : List Code} {Q : Qt} {E : Env} {H : List HA} (h : RS true C E H cs Q) : ES C cs Q E H := h.go
theorem EL.gr {C : Cx} {Q : Qt} {E : Env} {H : List HA} {all : Array Oper} {ops : List Oper} (h : RE' true C E H all ops Q) : EL C all ops Q E H := h.go
theorem PX.gr {C : Cx} {Q : Qt} {E : Env} {H : List HA} {e : Exit} (h : RP true C E H Q e) : PX C Q e E H := h.go
theorem ES.gs {C : Cx} {cs : List Code} {Q : Qt} {E : Env} {H : List HA} (h : RS false C E H cs Q) : ES C cs Q E H := h.go
theorem EL.gs {C : Cx} {Q : Qt} {E : Env} {H : List HA} {all : Array Oper} {ops : List Oper} (h : RE' false C E H all ops Q) : EL C all ops Q E H := h.go
theorem PX.gs {C : Cx} {Q : Qt} {E : Env} {H : List HA} {e : Exit} (h : RP false C E H Q e) : PX C Q e E H := h.go
end Go.Proofs.YtcoajnpneableaaDoor.Sl
namespace Go.Proofs.YtcoajnpneableaaDoor.Sl
open Go Go.RowKit
set_option linter.unusedVariables false
set_option linter.unusedSimpArgs false
def MutAt {X : Type} (P : Program) (f : FuncId) (argv : Array Value) (Hq : List HA) (val : X → Value) (HX : X → List HA) (w0 : World) (B : Nat) : Prop :=
  ∀ (R : List HA) (w : World), Sat w0 B (Hq ++ R) w → Calls P f argv w fun e w' => ∃ x, e = .returned (val x) ∧ Sat w0 B (HX x ++ R) w'
theorem all1 {vs : List Value} (h : vs.all (fun u : Value => u.oneCell') = true) : ∀ u ∈ vs, u.oneCell' = true := fun u hu => List.all_eq_true.1 h u hu
section m
variable {C : Cx} {all : Array Oper} {ops : List Oper} {Q : Qt} {E : Env} {H R : List HA} {d ty : Nat} {pos : String} {af : Array Edge} {gd : Option (Nat × Bool)}
theorem EL.callMw {X : Type} {fo : Operand} {ar : Array Operand} {tys : Array TypeId} {f : FuncId} {vs : List Value} {Hq : List HA} {val : X → Value} {HX : X → List HA} (hg : guardOk all E gd = some true) (hf : E.ev fo = some (.func (.func f) #[] #[])) (ha : E.evl ar.toList = some vs)
    (he : Enters C.P f) (hd : Nat.blt d C.n = true) (hc : MutAt C.P f vs.toArray Hq val HX C.w0 C.B) (tk : Takes H Hq R)
    (k : ∀ x, EL C all ops Q ((d, val x) :: E) (HX x ++ R)) : EL C all (⟨some d, .call { callee := .value fo, args := ar, argTypes := tys }, ty, pos, af, gd⟩ :: ops) Q E H :=
  EL.call val (fun x => HX x ++ R) hg hf ha (by simp) he hd (fun w hs => hc R w (hs.perm tk.perm)) k
theorem EL.callMw1 {fo : Operand} {ar : Array Operand} {tys : Array TypeId} {f : FuncId} {vs : List Value} {Hq Hr : List HA} {v : Value} (hg : guardOk all E gd = some true) (hf : E.ev fo = some (.func (.func f) #[] #[])) (ha : E.evl ar.toList = some vs)
    (he : Enters C.P f) (hd : Nat.blt d C.n = true) (hc : MutAt C.P f vs.toArray Hq (fun _ : Unit => v) (fun _ => Hr) C.w0 C.B) (tk : Takes H Hq R)
    (k : EL C all ops Q ((d, v) :: E) (Hr ++ R)) : EL C all (⟨some d, .call { callee := .value fo, args := ar, argTypes := tys }, ty, pos, af, gd⟩ :: ops) Q E H :=
  EL.callMw hg hf ha he hd hc tk (fun _ => k)
end m
section mm
variable {C : Cx} {E : Env} {H : List HA} {d ty : Nat} {pos : String} {af : Array Edge} {gd : Option (Nat × Bool)} {x y : Operand} {m n : Int} {k : IntKind} {tys : Array TypeId}
theorem RV.minI (hx : E.ev x = some (.int k m)) (hy : E.ev y = some (.int k n)) : RunV C E H ⟨some d, .call { callee := .builtin .min, args := #[x, y], argTypes := tys }, ty, pos, af, gd⟩ (.int k (min m n)) := fun a w ha => by
  have h : (if n < m then n else m) = min m n := by omega
  simp [execOp, ha.1.ev hx, ha.1.ev hy, resolve, invoke, builtin, Builtin.min_, Builtin.min2, Result.andThen, h]
theorem RV.maxI (hx : E.ev x = some (.int k m)) (hy : E.ev y = some (.int k n)) : RunV C E H ⟨some d, .call { callee := .builtin .max, args := #[x, y], argTypes := tys }, ty, pos, af, gd⟩ (.int k (max m n)) := fun a w ha => by
  have h : (if m < n then n else m) = max m n := by omega
  simp [execOp, ha.1.ev hx, ha.1.ev hy, resolve, invoke, builtin, Builtin.max_, Builtin.max2, Result.andThen, h]
end mm
section p
variable {C : Cx} {all : Array Oper} {Q : Qt} {E : Env} {H Hs : List HA} {f : Nat} {L : Array Bool}
theorem ED.partB {d : Nat} {b : Bool} (hv : E.get d = some (.bool b)) (ht : b = true → ED C all Hs f L ((d, .bool true) :: E) H Q) (hf : b = false → ED C all Hs f L ((d, .bool false) :: E) H Q) : ED C all Hs f L E H Q := by
  intro a w ha hs
  have hslot := ha.1.get d _ hv
  have fit : ∀ c : Bool, b = c → Fits C.n C.D ((d, .bool c) :: E) a := fun c hb => ⟨ha.1.dfr, ha.1.size, fun d' v' h' => by
    rw [Env.get_cons] at h'
    by_cases e : d = d'
    · subst e; rw [if_pos rfl] at h'; rw [← Option.some.inj h', hslot, hb]
    · rw [if_neg e] at h'; exact ha.1.get d' v' h'⟩
  cases hb : b with
  | true => exact ht hb a w ⟨fit true hb, ha.2⟩ hs
  | false => exact hf hb a w ⟨fit false hb, ha.2⟩ hs
theorem ED.partN {d : Nat} {p : Prop} [Decidable p] (hv : E.get d = some (.bool (!decide p))) (ht : ¬ p → ED C all Hs f L ((d, .bool true) :: E) H Q) (hf : p → ED C all Hs f L ((d, .bool false) :: E) H Q) : ED C all Hs f L E H Q :=
  ED.partB hv (fun e => ht (by simpa using e)) (fun e => hf (by simpa using e))
end p
section imp
variable {C : Cx} {cs : List Code} {all : Array Oper} {ops : List Oper} {Q : Qt} {E : Env} {H H' : List HA}
theorem ES.imp (h : ∀ w, Sat C.w0 C.B H w → Sat C.w0 C.B H' w) (k : ES C cs Q E H') : ES C cs Q E H := fun a w ha => k a w ⟨ha.1, h w ha.2⟩
theorem EL.imp (h : ∀ w, Sat C.w0 C.B H w → Sat C.w0 C.B H' w) (k : EL C all ops Q E H') : EL C all ops Q E H := fun a w ha => k a w ⟨ha.1, h w ha.2⟩
theorem ES.impX {X : Type} {Hx : X → List HA} (h : ∀ w, Sat C.w0 C.B H w → ∃ x, Sat C.w0 C.B (Hx x) w) (k : ∀ x, ES C cs Q E (Hx x)) : ES C cs Q E H := fun a w ha => by
  obtain ⟨x, hx⟩ := h w ha.2
  exact k x a w ⟨ha.1, hx⟩
end imp
end Go.Proofs.YtcoajnpneableaaDoor.Sl
namespace Go.Proofs.YtcoajnpneableaaDoor
open Go Go.RowKit Sl
set_option maxRecDepth 100000
set_option maxHeartbeats 8000000
set_option linter.unusedVariables false
set_option linter.unusedSimpArgs false
attribute [local irreducible] ES EL PX wps
def idxB (l : List UInt8) (c : UInt8) : Int := Lib.indexByte l c
theorem idxB_nonneg (l : List UInt8) (c : UInt8) : 0 ≤ idxB l c ↔ c ∈ l := by
  unfold idxB
  induction l with
  | nil => simp [Lib.indexByte]
  | cons b l ih =>
    have hge := Lib.indexByte_ge l c
    by_cases h : b = c
    · subst h; simp [Lib.indexByte]
    · have h' : c ≠ b := fun e => h e.symm
      simp only [Lib.indexByte, beq_iff_eq, h, if_false, List.mem_cons, h', false_or]
      rw [← ih]
      by_cases h2 : Lib.indexByte l c = -1
      · rw [if_pos h2, h2]
      · rw [if_neg h2]; omega
def GR (w : World) (B : Nat) : Prop := ∃ m : Int, Rd w B (some ⟨1, 0, none⟩) [Iv m]
theorem GR.sat {w0 w : World} {B : Nat} {H : List HA} (h : GR w0 B) (hs : Sat w0 B H w) : GR w w.heap.size := by
  obtain ⟨m, hm⟩ := h
  exact ⟨m, Rd.sat hm hs⟩
theorem GR.of {w : World} (h : w.ShapedOpen Tryd.prog) : GR w w.heap.size := by
  obtain ⟨m, hm⟩ := Tryd.lays143.s1_3 w h
  have hm' : w.cell? ⟨1, 0, none⟩ = some (.int .i64 m) := hm
  refine ⟨m, fun _ => ⟨_, _, rfl, World.block_lt_of_cell? _ _ hm', fun j v hj => ?_⟩⟩
  cases j with
  | zero => simp only [List.getElem?_cons_zero, Option.some.injEq] at hj; subst hj; exact hm'
  | succ j => simp at hj
theorem sindex_c (l sub : List UInt8) (hl : l.length < 4294967281) (w : World) (hG : GR w w.heap.size) : Pure Tryd.prog 72 #[Sv l, Sv sub] (fun _ : Unit => Iv (Lib.index l sub)) (fun _ => []) w := by
  obtain ⟨m, hm⟩ := hG
  obtain ⟨g, off, h1, _, h3⟩ := hm (by simp)
  have hc : w.cell? ⟨1, 0, none⟩ = some (.int .i64 m) := by
    cases h1; exact h3 0 _ rfl
  exact (Any.strings_Index { Tryd.lays143 with } ⟨l.toArray⟩ ⟨sub.toArray⟩ m w hl hc).mono fun e w' ⟨he, hw⟩ => ⟨(), he, by subst hw; exact Sat.start _⟩
theorem ext_index (l : List UInt8) (c : UInt8) (w : World) : (callFunc 60 #[Sv l, Uv c]).run Tryd.prog w = .ok (.value (Iv (idxB l c))) w := by
  rw [run_callFunc_extern (e := Extern.BytealgIndexByte.indexByte) Tryd.func60 (by kernel_rfl) (by kernel_rfl) (by kernel_rfl) (by kernel_rfl), Lib.run_indexByteString]
  simp [Result.andThen, idxB]
theorem lite_c (l : List UInt8) (c : UInt8) (w : World) : Pure Tryd.prog 50 #[Sv l, Uv c] (fun _ : Unit => Iv (idxB l c)) (fun _ => []) w := by
  refine calls_of_ES TB Tryd.func50 rfl _ Tryd.ntmps50 rfl (Sat.start w) ?_
  refine .go ?_; repeat constructor
  refine EL.assign rfl rfl rfl ?_
  refine .go ?_; repeat constructor
  refine EL.move rfl rfl rfl ?_
  refine EL.move rfl rfl rfl ?_
  refine EL.callE rfl rfl rfl rfl (ext_index l c) ?_
  refine EL.assign rfl rfl rfl ?_
  refine .go ?_; repeat constructor
  exact PX.ret rfl Tryd.results50 (.cons (.tmp rfl) .nil) (fun w hs => ⟨(), rfl, hs.ent (.nil _)⟩)
theorem index_c (l : List UInt8) (c : UInt8) (w : World) : Pure Tryd.prog 36 #[Sv l, Uv c] (fun _ : Unit => Iv (idxB l c)) (fun _ => []) w := by
  refine calls_of_ES TB Tryd.func36 rfl _ Tryd.ntmps36 rfl (Sat.start w) ?_
  refine .go ?_; repeat constructor
  refine EL.assign rfl rfl rfl ?_
  refine .go ?_; repeat constructor
  refine EL.move rfl rfl rfl ?_
  refine EL.move rfl rfl rfl ?_
  refine EL.callP rfl rfl rfl ent50 rfl (lite_c _ _) ?_
  refine EL.assign rfl rfl rfl ?_
  refine .go ?_; repeat constructor
  exact PX.ret rfl Tryd.results36 (.cons (.tmp rfl) .nil) (fun w hs => ⟨(), rfl, hs.ent (.nil _)⟩)
abbrev RD (g : Nat) (t : List UInt8) (a : Nat) (e : Int) : HA := HA.blk g (.cells #[Sv t, Iv (a : Nat), Iv e] 97)
def nmK (t : List UInt8) (a : Nat) : Int := if a + 2 < t.length then Lib.index (t.drop (a + 2 + 1)) [t.getD (a + 1) 0, 93] else -1
def nmN (t : List UInt8) (a : Nat) : List UInt8 := if nmK t a < 0 then [] else (t.drop (a + 2)).take (1 + (nmK t a).toNat)
def nmA (t : List UInt8) (a : Nat) : Nat := if nmK t a < 0 then a else a + 2 + 1 + (nmK t a).toNat + 2
def nmE (t : List UInt8) (a : Nat) : Int := if nmK t a < 0 then 6 else 0
theorem nmK_room (t : List UInt8) (a k : Nat) (h : nmK t a = k) : a + 2 + 1 + k + 2 ≤ t.length := by
  unfold nmK at h
  split at h
  · have := Lib.index_room (t.drop (a + 2 + 1)) [t.getD (a + 1) 0, 93] (by omega)
    rw [h] at this
    simp only [List.length_drop, List.length_cons, List.length_nil] at this
    omega
  · omega
theorem nm_at (t : List UInt8) (a : Nat) (h : a ≤ t.length) : a ≤ nmA t a ∧ nmA t a ≤ t.length := by
  unfold nmA
  split
  · omega
  · have := nmK_room t a (nmK t a).toNat (by omega)
    omega
theorem named_c (g : Nat) (t : List UInt8) (a : Nat) (ha : a + 1 < t.length) (ht : t.length ≤ 1073741824) (w0 : World) (B : Nat) (hG : GR w0 B) :
    MutAt Tryd.prog 65 #[Pv g 0] [RD g t a 0] (fun _ : Unit => .tuple #[Sv (nmN t a), Uv (t.getD (a + 1) 0)]) (fun _ => [RD g t (nmA t a) (nmE t a)]) w0 B := by
  intro R w h
  replace h : Sat w0 B (RD g t a 0 :: R) w := h
  have hroom := nmK_room t a
  refine calls_of_ES TB Tryd.func65 rfl _ Tryd.ntmps65 rfl h ?_
  refine .go ?_; repeat constructor
  refine EL.assign rfl rfl rfl ?_
  refine EL.assign rfl rfl rfl ?_
  refine .go ?_; repeat constructor
  refine ES.draw (X := Unit) (fun _ => [(0, Pv g 0), (4, Uv (t.getD (a + 1) 0))]) (fun _ => RD g t a 0 :: R) (RD g t a 0 :: R) mixed (.i (by repeat constructor)) ?_ (fun _ => ?_)
  · refine ED.take 0 rfl (by decide +kernel) CutX.no_panic (by decide +kernel) rfl rfl rfl (RV.move rfl) ?_
    refine ED.take 1 rfl (by decide +kernel) CutX.no_panic (by decide +kernel) rfl rfl rfl (RV.nilCheck rfl) ?_
    refine ED.take 2 rfl (by decide +kernel) CutX.no_panic (by decide +kernel) rfl rfl rfl (RV.fieldAddr rfl rfl rfl rfl rfl rfl) ?_
    refine ED.take 3 rfl (by decide +kernel) CutX.no_panic (by decide +kernel) rfl rfl rfl (RV.loadB rfl rfl rfl (by repeat constructor) rfl) ?_
    refine ED.take 4 rfl (by decide +kernel) CutX.no_panic (by decide +kernel) rfl rfl rfl (RV.move rfl) ?_
    refine ED.take 5 rfl (by decide +kernel) CutX.no_panic (by decide +kernel) rfl rfl rfl (RV.nilCheck rfl) ?_
    refine ED.take 6 rfl (by decide +kernel) CutX.no_panic (by decide +kernel) rfl rfl rfl (RV.fieldAddr rfl rfl rfl rfl rfl rfl) ?_
    refine ED.take 7 rfl (by decide +kernel) CutX.no_panic (by decide +kernel) rfl rfl rfl (RV.loadB rfl rfl rfl (by repeat constructor) rfl) ?_
    refine ED.take 8 rfl (by decide +kernel) CutX.no_panic (by decide +kernel) rfl rfl rfl (RV.add1 rfl rfl (by omega)) ?_
    refine ED.take 9 rfl (by decide +kernel) CutX.no_panic (by decide +kernel) rfl rfl rfl (RV.indexSN rfl rfl rfl rfl (by omega)) ?_
    refine ED.take 10 rfl (by decide +kernel) CutX.no_panic (by decide +kernel) rfl rfl rfl (RV.assign rfl) ?_
    refine ED.done (by decide +kernel) ?_
    exact PX.cutX () ⟨rfl, rfl, trivial⟩ (.i (by repeat constructor))
  refine .go ?_; repeat constructor
  refine EL.move rfl rfl rfl ?_
  refine EL.nilCheck rfl rfl rfl ?_
  refine EL.fieldAddr rfl rfl rfl rfl rfl rfl rfl rfl ?_
  (apply EL.loadB; exact rfl; exact rfl; exact rfl; exact rfl; exact rfl; (case hm => repeat constructor); exact rfl)
  refine EL.addN (n := 2) rfl rfl rfl rfl rfl (by omega) ?_
  refine EL.assign rfl rfl rfl ?_
  refine .go ?_; repeat constructor
  refine EL.assign rfl rfl rfl ?_
  refine .go ?_; repeat constructor
  refine EL.move rfl rfl rfl ?_
  refine EL.move rfl rfl rfl ?_
  refine EL.nilCheck rfl rfl rfl ?_
  refine EL.fieldAddr rfl rfl rfl rfl rfl rfl rfl rfl ?_
  (apply EL.loadB; exact rfl; exact rfl; exact rfl; exact rfl; exact rfl; (case hm => repeat constructor); exact rfl)
  refine EL.lenS rfl rfl rfl rfl rfl ?_
  refine EL.lss rfl rfl rfl rfl ?_
  refine .go ?_; repeat constructor
  refine ES.cutC (X := Unit) (fun _ => [(0, Pv g 0), (4, Uv (t.getD (a + 1) 0)), (5, Iv ((a + 2 : Nat) : Int)), (6, Iv (nmK t a))]) (fun _ => RD g t a 0 :: R) ?_ (fun _ => ?_)
  · refine ES.condD rfl (fun hlt => ?_) (fun hge => ?_)
    · have hlt' : a + 2 < t.length := by omega
      refine .g0 ?_; repeat constructor
      refine ES.draw (X := Unit) (fun _ => [(0, Pv g 0), (4, Uv (t.getD (a + 1) 0)), (5, Iv ((a + 2 : Nat) : Int)), (6, Iv (nmK t a))]) (fun _ => RD g t a 0 :: R) (RD g t a 0 :: R) mixed (.i (by repeat constructor)) ?_ (fun _ => ?_)
      · refine ED.take 0 rfl (by decide +kernel) CutX.no_panic (by decide +kernel) rfl rfl rfl (RV.move rfl) ?_
        refine ED.take 1 rfl (by decide +kernel) CutX.no_panic (by decide +kernel) rfl rfl rfl (RV.nilCheck rfl) ?_
        refine ED.take 2 rfl (by decide +kernel) CutX.no_panic (by decide +kernel) rfl rfl rfl (RV.fieldAddr rfl rfl rfl rfl rfl rfl) ?_
        refine ED.take 3 rfl (by decide +kernel) CutX.no_panic (by decide +kernel) rfl rfl rfl (RV.loadB rfl rfl rfl (by repeat constructor) rfl) ?_
        refine ED.take 4 rfl (by decide +kernel) CutX.no_panic (by decide +kernel) rfl rfl rfl (RV.move rfl) ?_
        refine ED.take 5 rfl (by decide +kernel) CutX.no_panic (by decide +kernel) rfl rfl rfl (RV.add1 rfl rfl (by omega)) ?_
        refine ED.take 6 rfl (by decide +kernel) CutX.no_panic (by decide +kernel) rfl rfl rfl (RV.sliceS rfl rfl rfl ⟨_, rfl⟩ rfl (by omega) (by omega)) ?_
        refine ED.take 7 rfl (by decide +kernel) CutX.no_panic (by decide +kernel) rfl rfl rfl (RV.move rfl) ?_
        refine ED.loud 8 rfl (by decide +kernel) ?_
        (refine EL.buildSliceS [Uv (t.getD (a + 1) 0), .int .u8 93] rfl rfl rfl rfl rfl rfl rfl rfl rfl rfl (by intro u hu; simp only [List.mem_cons, List.not_mem_nil, or_false] at hu; rcases hu with rfl | rfl <;> rfl) ?_; intro b37)
        refine ED.next (.i (by repeat constructor)) ?_
        refine ED.loud 9 rfl (by decide +kernel) ?_
        (refine EL.bytesS (bs := [t.getD (a + 1) 0, 93]) rfl rfl rfl rfl rfl rfl rfl rfl rfl (by repeat constructor) ?_)
        refine ED.next (.i (by repeat constructor)) ?_
        refine ED.loud 10 rfl (by decide +kernel) ?_
        (refine EL.callPw rfl rfl rfl ent72 rfl (fun w hs => sindex_c _ _ (by simp only [List.length_take, List.length_drop]; omega) w (GR.sat hG hs)) ?_)
        refine ED.next (.i (by repeat constructor)) ?_
        refine ED.take 11 rfl (by decide +kernel) CutX.no_panic (by decide +kernel) rfl rfl rfl (RV.assign rfl) ?_
        refine ED.done (by decide +kernel) ?_
        exact PX.cutX () ⟨rfl, rfl, rfl, getA rfl (congrArg Iv (by unfold nmK; rw [if_pos hlt', List.take_of_length_le (by simp)])), trivial⟩ (.i (by repeat constructor))
      refine .go ?_; repeat constructor
      exact PX.cutX () ⟨rfl, rfl, rfl, rfl, trivial⟩ (.i (by repeat constructor))
    · refine .go ?_; repeat constructor
      exact PX.cutX () ⟨rfl, rfl, rfl, getA rfl (congrArg Iv (by unfold nmK; rw [if_neg (by omega)])), trivial⟩ (.i (by repeat constructor))
  refine .go ?_; repeat constructor
  refine EL.move rfl rfl rfl ?_
  refine EL.lss rfl rfl rfl rfl ?_
  refine .go ?_; repeat constructor
  refine ES.condD rfl (fun hneg => ?_) (fun hpos => ?_)
  · have e1 : nmN t a = [] := by unfold nmN; rw [if_pos hneg]
    have e2 : nmA t a = a := by unfold nmA; rw [if_pos hneg]
    have e3 : nmE t a = 6 := by unfold nmE; rw [if_pos hneg]
    refine .go ?_; repeat constructor
    refine EL.move rfl rfl rfl ?_
    refine EL.nilCheck rfl rfl rfl ?_
    refine EL.fieldAddr rfl rfl rfl rfl rfl rfl rfl rfl ?_
    (apply EL.storeB; exact rfl; exact rfl; exact rfl; exact rfl; exact rfl; exact rfl; (case p => repeat constructor); exact (by first | decide | exact Nat.le_of_ble_eq_true rfl | simp))
    refine .go ?_; repeat constructor
    refine EL.move rfl rfl rfl ?_
    refine EL.assign rfl rfl rfl ?_
    refine EL.assign rfl rfl rfl ?_
    refine .go ?_; repeat constructor
    refine PX.ret rfl Tryd.results65 (.cons (.tmp rfl) (.cons (.tmp rfl) .nil)) (fun w hs => ⟨(), by rw [e1]; rfl, ?_⟩)
    rw [e2, e3]; exact hs
  · obtain ⟨k, hk⟩ : ∃ k : Nat, nmK t a = k := ⟨(nmK t a).toNat, by omega⟩
    have hr := hroom k hk
    have e1 : nmN t a = (t.drop (a + 2)).take (1 + k) := by unfold nmN; rw [hk, if_neg (by omega)]; rfl
    have e2 : nmA t a = a + 2 + 1 + k + 2 := by unfold nmA; rw [hk, if_neg (by omega)]; rfl
    have e3 : nmE t a = 0 := by unfold nmE; rw [if_neg hpos]
    rw [hk, e1, e2, e3]
    refine .go ?_; repeat constructor
    refine EL.move rfl rfl rfl ?_
    refine EL.move rfl rfl rfl ?_
    refine EL.add1 rfl rfl rfl rfl (by omega) ?_
    refine EL.move rfl rfl rfl ?_
    refine EL.addN rfl rfl rfl rfl rfl (by omega) ?_
    refine EL.addN (n := 2) rfl rfl rfl rfl rfl (by omega) ?_
    refine EL.nilCheck rfl rfl rfl ?_
    refine EL.fieldAddr rfl rfl rfl rfl rfl rfl rfl rfl ?_
    (apply EL.storeB; exact rfl; exact rfl; exact rfl; exact rfl; exact rfl; exact rfl; (case p => repeat constructor); exact (by first | decide | exact Nat.le_of_ble_eq_true rfl | simp))
    refine .go ?_; repeat constructor
    refine EL.move rfl rfl rfl ?_
    refine EL.nilCheck rfl rfl rfl ?_
    refine EL.fieldAddr rfl rfl rfl rfl rfl rfl rfl rfl ?_
    (apply EL.loadB; exact rfl; exact rfl; exact rfl; exact rfl; exact rfl; (case hm => repeat constructor); exact rfl)
    refine EL.move rfl rfl rfl ?_
    refine EL.move rfl rfl rfl ?_
    refine EL.add1 rfl rfl rfl rfl (by omega) ?_
    refine EL.move rfl rfl rfl ?_
    refine EL.addN rfl rfl rfl rfl rfl (by omega) ?_
    refine EL.sliceS rfl rfl rfl rfl rfl ⟨_, rfl⟩ ⟨_, rfl⟩ (by omega) (by omega) ?_
    refine EL.move rfl rfl rfl ?_
    refine EL.assign rfl rfl rfl ?_
    refine EL.assign rfl rfl rfl ?_
    refine .go ?_; repeat constructor
    refine PX.ret rfl Tryd.results65 (.cons (.tmp rfl) (.cons (.tmp rfl) .nil)) (fun w hs => ⟨(), ?_, hs⟩)
    rw [show a + 2 + 1 + k - (a + 2) = 1 + k by omega]; rfl
structure It where
  set : BS
  b : UInt8
  single : Bool
  at_ : Nat
  e : Int
def itC (t : List UInt8) (a : Nat) : Bool := !decide (((t.getD a 0).toNat : Int) = 91) || decide ((t.length : Int) ≤ ((a + 1 : Nat) : Int)) || decide (idxB [46, 61, 58] (t.getD (a + 1) 0) < 0)
def itemM (t : List UInt8) (a : Nat) : It :=
  if itC t a = true then ⟨ofS [t.getD a 0], t.getD a 0, true, a + 1, 0⟩
  else if nmE t a ≠ 0 then ⟨zeroS, 0, false, nmA t a, nmE t a⟩
  else if t.getD (a + 1) 0 = 58 then ⟨(classM (nmN t a)).1, 0, false, nmA t a, (classM (nmN t a)).2⟩
  else if (nmN t a).length ≠ 1 then ⟨zeroS, 0, false, nmA t a, 8⟩
  else ⟨ofS (nmN t a), (nmN t a).getD 0 0, decide (t.getD (a + 1) 0 = 46), nmA t a, 0⟩
theorem item_at (t : List UInt8) (a : Nat) (h : a < t.length) : a ≤ (itemM t a).at_ ∧ (itemM t a).at_ ≤ t.length ∧ ((itemM t a).e = 0 → a < (itemM t a).at_) := by
  have hn := nm_at t a (by omega)
  have hs : nmE t a = 0 → a < nmA t a := by
    unfold nmE nmA
    split
    · intro h; cases h
    · intro _; omega
  unfold itemM
  split
  · exact ⟨by simp only; omega, by simp only; omega, fun _ => by simp only; omega⟩
  · split
    · rename_i h1
      exact ⟨hn.1, hn.2, fun h2 => absurd h2 h1⟩
    · rename_i h1
      have := hs (Decidable.of_not_not h1)
      split
      · exact ⟨hn.1, hn.2, fun _ => this⟩
      · split
        · exact ⟨hn.1, hn.2, fun _ => this⟩
        · exact ⟨hn.1, hn.2, fun _ => this⟩
theorem u8_lit (x : UInt8) (n : Nat) (hn : n < 256) : ((x.toNat : Int) = (n : Nat)) ↔ x = UInt8.ofNat n := by
  constructor
  · intro h
    apply UInt8.toNat_inj.1
    have h2 : (UInt8.ofNat n).toNat = n := by simp; omega
    rw [h2]; omega
  · intro h
    subst h
    simp
    omega
theorem item_c (g : Nat) (t : List UInt8) (a : Nat) (ha : a < t.length) (ht : t.length ≤ 1073741824) (w0 : World) (B : Nat) (hG : GR w0 B) :
    MutAt Tryd.prog 56 #[Pv g 0] [RD g t a 0] (fun _ : Unit => .tuple #[Bs (itemM t a).set, Uv (itemM t a).b, .bool (itemM t a).single]) (fun _ => [RD g t (itemM t a).at_ (itemM t a).e]) w0 B := by
  intro R w h
  replace h : Sat w0 B (RD g t a 0 :: R) w := h
  refine calls_of_ES TB Tryd.func56 rfl _ Tryd.ntmps56 rfl h ?_
  refine .go ?_; repeat constructor
  (refine EL.alloc rfl rfl rfl ?_; intro g2)
  refine EL.assign rfl rfl rfl ?_
  refine EL.assign rfl rfl rfl ?_
  refine .go ?_; repeat constructor
  refine ES.draw (X := Unit) (fun _ => [(0, Pv g 0), (2, Pv g2 0), (43, .bool (itC t a))]) (fun _ => SB g2 zeroS :: RD g t a 0 :: R) (SB g2 zeroS :: RD g t a 0 :: R) mixed (.i (by repeat constructor)) ?_ (fun _ => ?_)
  · refine ED.take 0 rfl (by decide +kernel) CutX.no_panic (by decide +kernel) rfl rfl rfl (RV.move rfl) ?_
    refine ED.take 1 rfl (by decide +kernel) CutX.no_panic (by decide +kernel) rfl rfl rfl (RV.nilCheck rfl) ?_
    refine ED.take 2 rfl (by decide +kernel) CutX.no_panic (by decide +kernel) rfl rfl rfl (RV.fieldAddr rfl rfl rfl rfl rfl rfl) ?_
    refine ED.take 3 rfl (by decide +kernel) CutX.no_panic (by decide +kernel) rfl rfl rfl (RV.loadB rfl rfl rfl (by repeat constructor) rfl) ?_
    refine ED.take 4 rfl (by decide +kernel) CutX.no_panic (by decide +kernel) rfl rfl rfl (RV.move rfl) ?_
    refine ED.take 5 rfl (by decide +kernel) CutX.no_panic (by decide +kernel) rfl rfl rfl (RV.nilCheck rfl) ?_
    refine ED.take 6 rfl (by decide +kernel) CutX.no_panic (by decide +kernel) rfl rfl rfl (RV.fieldAddr rfl rfl rfl rfl rfl rfl) ?_
    refine ED.take 7 rfl (by decide +kernel) CutX.no_panic (by decide +kernel) rfl rfl rfl (RV.loadB rfl rfl rfl (by repeat constructor) rfl) ?_
    refine ED.take 8 rfl (by decide +kernel) CutX.no_panic (by decide +kernel) rfl rfl rfl (RV.indexSN rfl rfl rfl rfl (by omega)) ?_
    refine ED.take 9 rfl (by decide +kernel) CutX.no_panic (by decide +kernel) rfl rfl rfl (RV.neqI rfl rfl) ?_
    refine ED.take 10 rfl (by decide +kernel) CutX.no_panic (by decide +kernel) rfl rfl rfl (RV.move rfl) ?_
    first | refine ED.part (d := 17) rfl (fun hp17 => ?_) (fun hp17 => ?_) | refine ED.partN (d := 17) rfl (fun hp17 => ?_) (fun hp17 => ?_) | refine ED.partB (d := 17) rfl (fun hp17 => ?_) (fun hp17 => ?_)
    · refine ED.pass 11 rfl (by decide +kernel) CutX.no_panic (by decide +kernel) rfl rfl rfl ?_
      refine ED.pass 12 rfl (by decide +kernel) CutX.no_panic (by decide +kernel) rfl rfl rfl ?_
      refine ED.pass 13 rfl (by decide +kernel) CutX.no_panic (by decide +kernel) rfl rfl rfl ?_
      refine ED.pass 14 rfl (by decide +kernel) CutX.no_panic (by decide +kernel) rfl rfl rfl ?_
      refine ED.pass 15 rfl (by decide +kernel) CutX.no_panic (by decide +kernel) rfl rfl rfl ?_
      refine ED.pass 16 rfl (by decide +kernel) CutX.no_panic (by decide +kernel) rfl rfl rfl ?_
      refine ED.pass 17 rfl (by decide +kernel) CutX.no_panic (by decide +kernel) rfl rfl rfl ?_
      refine ED.pass 18 rfl (by decide +kernel) CutX.no_panic (by decide +kernel) rfl rfl rfl ?_
      refine ED.pass 19 rfl (by decide +kernel) CutX.no_panic (by decide +kernel) rfl rfl rfl ?_
      refine ED.pass 20 rfl (by decide +kernel) CutX.no_panic (by decide +kernel) rfl rfl rfl ?_
      refine ED.pass 21 rfl (by decide +kernel) CutX.no_panic (by decide +kernel) rfl rfl rfl ?_
      refine ED.take 22 rfl (by decide +kernel) CutX.no_panic (by decide +kernel) rfl rfl rfl (RV.pickT rfl rfl) ?_
      refine ED.take 23 rfl (by decide +kernel) CutX.no_panic (by decide +kernel) rfl rfl rfl (RV.move rfl) ?_
      refine ED.pass 24 rfl (by decide +kernel) CutX.no_panic (by decide +kernel) rfl rfl rfl ?_
      refine ED.pass 25 rfl (by decide +kernel) CutX.no_panic (by decide +kernel) rfl rfl rfl ?_
      refine ED.pass 26 rfl (by decide +kernel) CutX.no_panic (by decide +kernel) rfl rfl rfl ?_
      refine ED.pass 27 rfl (by decide +kernel) CutX.no_panic (by decide +kernel) rfl rfl rfl ?_
      refine ED.pass 28 rfl (by decide +kernel) CutX.no_panic (by decide +kernel) rfl rfl rfl ?_
      refine ED.pass 29 rfl (by decide +kernel) CutX.no_panic (by decide +kernel) rfl rfl rfl ?_
      refine ED.pass 30 rfl (by decide +kernel) CutX.no_panic (by decide +kernel) rfl rfl rfl ?_
      refine ED.pass 31 rfl (by decide +kernel) CutX.no_panic (by decide +kernel) rfl rfl rfl ?_
      refine ED.pass 32 rfl (by decide +kernel) CutX.no_panic (by decide +kernel) rfl rfl rfl ?_
      refine ED.pass 33 rfl (by decide +kernel) CutX.no_panic (by decide +kernel) rfl rfl rfl ?_
      refine ED.pass 34 rfl (by decide +kernel) CutX.no_panic (by decide +kernel) rfl rfl rfl ?_
      refine ED.pass 35 rfl (by decide +kernel) CutX.no_panic (by decide +kernel) rfl rfl rfl ?_
      refine ED.take 36 rfl (by decide +kernel) CutX.no_panic (by decide +kernel) rfl rfl rfl (RV.pickT rfl rfl) ?_
      refine ED.done (by decide +kernel) ?_
      exact PX.cutX () ⟨rfl, rfl, getA rfl (congrArg Value.bool (by unfold itC; simp_all <;> omega)), trivial⟩ (.i (by repeat constructor))
    · refine ED.take 11 rfl (by decide +kernel) CutX.no_panic (by decide +kernel) rfl rfl rfl (RV.move rfl) ?_
      refine ED.take 12 rfl (by decide +kernel) CutX.no_panic (by decide +kernel) rfl rfl rfl (RV.nilCheck rfl) ?_
      refine ED.take 13 rfl (by decide +kernel) CutX.no_panic (by decide +kernel) rfl rfl rfl (RV.fieldAddr rfl rfl rfl rfl rfl rfl) ?_
      refine ED.take 14 rfl (by decide +kernel) CutX.no_panic (by decide +kernel) rfl rfl rfl (RV.loadB rfl rfl rfl (by repeat constructor) rfl) ?_
      refine ED.take 15 rfl (by decide +kernel) CutX.no_panic (by decide +kernel) rfl rfl rfl (RV.add1 rfl rfl (by omega)) ?_
      refine ED.take 16 rfl (by decide +kernel) CutX.no_panic (by decide +kernel) rfl rfl rfl (RV.move rfl) ?_
      refine ED.take 17 rfl (by decide +kernel) CutX.no_panic (by decide +kernel) rfl rfl rfl (RV.nilCheck rfl) ?_
      refine ED.take 18 rfl (by decide +kernel) CutX.no_panic (by decide +kernel) rfl rfl rfl (RV.fieldAddr rfl rfl rfl rfl rfl rfl) ?_
      refine ED.take 19 rfl (by decide +kernel) CutX.no_panic (by decide +kernel) rfl rfl rfl (RV.loadB rfl rfl rfl (by repeat constructor) rfl) ?_
      refine ED.take 20 rfl (by decide +kernel) CutX.no_panic (by decide +kernel) rfl rfl rfl (RV.lenS rfl rfl rfl) ?_
      refine ED.take 21 rfl (by decide +kernel) CutX.no_panic (by decide +kernel) rfl rfl rfl (RV.geq rfl rfl) ?_
      refine ED.take 22 rfl (by decide +kernel) CutX.no_panic (by decide +kernel) rfl rfl rfl (RV.pickF rfl rfl) ?_
      refine ED.take 23 rfl (by decide +kernel) CutX.no_panic (by decide +kernel) rfl rfl rfl (RV.move rfl) ?_
      first | refine ED.part (d := 30) rfl (fun hp30 => ?_) (fun hp30 => ?_) | refine ED.partN (d := 30) rfl (fun hp30 => ?_) (fun hp30 => ?_) | refine ED.partB (d := 30) rfl (fun hp30 => ?_) (fun hp30 => ?_)
      · refine ED.pass 24 rfl (by decide +kernel) CutX.no_panic (by decide +kernel) rfl rfl rfl ?_
        refine ED.pass 25 rfl (by decide +kernel) CutX.no_panic (by decide +kernel) rfl rfl rfl ?_
        refine ED.pass 26 rfl (by decide +kernel) CutX.no_panic (by decide +kernel) rfl rfl rfl ?_
        refine ED.pass 27 rfl (by decide +kernel) CutX.no_panic (by decide +kernel) rfl rfl rfl ?_
        refine ED.pass 28 rfl (by decide +kernel) CutX.no_panic (by decide +kernel) rfl rfl rfl ?_
        refine ED.pass 29 rfl (by decide +kernel) CutX.no_panic (by decide +kernel) rfl rfl rfl ?_
        refine ED.pass 30 rfl (by decide +kernel) CutX.no_panic (by decide +kernel) rfl rfl rfl ?_
        refine ED.pass 31 rfl (by decide +kernel) CutX.no_panic (by decide +kernel) rfl rfl rfl ?_
        refine ED.pass 32 rfl (by decide +kernel) CutX.no_panic (by decide +kernel) rfl rfl rfl ?_
        refine ED.pass 33 rfl (by decide +kernel) CutX.no_panic (by decide +kernel) rfl rfl rfl ?_
        refine ED.pass 34 rfl (by decide +kernel) CutX.no_panic (by decide +kernel) rfl rfl rfl ?_
        refine ED.pass 35 rfl (by decide +kernel) CutX.no_panic (by decide +kernel) rfl rfl rfl ?_
        refine ED.take 36 rfl (by decide +kernel) CutX.no_panic (by decide +kernel) rfl rfl rfl (RV.pickT rfl rfl) ?_
        refine ED.done (by decide +kernel) ?_
        exact PX.cutX () ⟨rfl, rfl, getA rfl (congrArg Value.bool (by unfold itC; simp_all <;> omega)), trivial⟩ (.i (by repeat constructor))
      · refine ED.take 24 rfl (by decide +kernel) CutX.no_panic (by decide +kernel) rfl rfl rfl (RV.move rfl) ?_
        refine ED.take 25 rfl (by decide +kernel) CutX.no_panic (by decide +kernel) rfl rfl rfl (RV.nilCheck rfl) ?_
        refine ED.take 26 rfl (by decide +kernel) CutX.no_panic (by decide +kernel) rfl rfl rfl (RV.fieldAddr rfl rfl rfl rfl rfl rfl) ?_
        refine ED.take 27 rfl (by decide +kernel) CutX.no_panic (by decide +kernel) rfl rfl rfl (RV.loadB rfl rfl rfl (by repeat constructor) rfl) ?_
        refine ED.take 28 rfl (by decide +kernel) CutX.no_panic (by decide +kernel) rfl rfl rfl (RV.move rfl) ?_
        refine ED.take 29 rfl (by decide +kernel) CutX.no_panic (by decide +kernel) rfl rfl rfl (RV.nilCheck rfl) ?_
        refine ED.take 30 rfl (by decide +kernel) CutX.no_panic (by decide +kernel) rfl rfl rfl (RV.fieldAddr rfl rfl rfl rfl rfl rfl) ?_
        refine ED.take 31 rfl (by decide +kernel) CutX.no_panic (by decide +kernel) rfl rfl rfl (RV.loadB rfl rfl rfl (by repeat constructor) rfl) ?_
        refine ED.take 32 rfl (by decide +kernel) CutX.no_panic (by decide +kernel) rfl rfl rfl (RV.add1 rfl rfl (by omega)) ?_
        refine ED.take 33 rfl (by decide +kernel) CutX.no_panic (by decide +kernel) rfl rfl rfl (RV.indexSN rfl rfl rfl rfl (by omega)) ?_
        refine ED.loud 34 rfl (by decide +kernel) ?_
        refine EL.callP rfl rfl rfl ent36 rfl (index_c _ _) ?_
        refine ED.next (.i (by repeat constructor)) ?_
        refine ED.take 35 rfl (by decide +kernel) CutX.no_panic (by decide +kernel) rfl rfl rfl (RV.lss rfl rfl) ?_
        refine ED.take 36 rfl (by decide +kernel) CutX.no_panic (by decide +kernel) rfl rfl rfl (RV.pickF rfl rfl) ?_
        refine ED.done (by decide +kernel) ?_
        exact PX.cutX () ⟨rfl, rfl, getA rfl (congrArg Value.bool (by unfold itC; simp_all <;> omega)), trivial⟩ (.i (by repeat constructor))
  refine ES.cond rfl (fun hc => ?_) (fun hc => ?_)
  · have hi : itemM t a = ⟨ofS [t.getD a 0], t.getD a 0, true, a + 1, 0⟩ := by unfold itemM; rw [if_pos hc]
    rw [hi]
    refine .g0 ?_; repeat constructor
    refine ES.draw (X := Unit) (fun _ => [(0, Pv g 0), (2, Pv g2 0), (3, Uv (t.getD a 0))]) (fun _ => SB g2 zeroS :: RD g t a 0 :: R) (SB g2 zeroS :: RD g t a 0 :: R) mixed (.i (by repeat constructor)) ?_ (fun _ => ?_)
    · refine ED.take 0 rfl (by decide +kernel) CutX.no_panic (by decide +kernel) rfl rfl rfl (RV.move rfl) ?_
      refine ED.take 1 rfl (by decide +kernel) CutX.no_panic (by decide +kernel) rfl rfl rfl (RV.nilCheck rfl) ?_
      refine ED.take 2 rfl (by decide +kernel) CutX.no_panic (by decide +kernel) rfl rfl rfl (RV.fieldAddr rfl rfl rfl rfl rfl rfl) ?_
      refine ED.take 3 rfl (by decide +kernel) CutX.no_panic (by decide +kernel) rfl rfl rfl (RV.loadB rfl rfl rfl (by repeat constructor) rfl) ?_
      refine ED.take 4 rfl (by decide +kernel) CutX.no_panic (by decide +kernel) rfl rfl rfl (RV.move rfl) ?_
      refine ED.take 5 rfl (by decide +kernel) CutX.no_panic (by decide +kernel) rfl rfl rfl (RV.nilCheck rfl) ?_
      refine ED.take 6 rfl (by decide +kernel) CutX.no_panic (by decide +kernel) rfl rfl rfl (RV.fieldAddr rfl rfl rfl rfl rfl rfl) ?_
      refine ED.take 7 rfl (by decide +kernel) CutX.no_panic (by decide +kernel) rfl rfl rfl (RV.loadB rfl rfl rfl (by repeat constructor) rfl) ?_
      refine ED.take 8 rfl (by decide +kernel) CutX.no_panic (by decide +kernel) rfl rfl rfl (RV.indexSN rfl rfl rfl rfl (by omega)) ?_
      refine ED.take 9 rfl (by decide +kernel) CutX.no_panic (by decide +kernel) rfl rfl rfl (RV.assign rfl) ?_
      refine ED.done (by decide +kernel) ?_
      exact PX.cutX () ⟨rfl, rfl, rfl, trivial⟩ (.i (by repeat constructor))
    refine .go ?_; repeat constructor
    refine EL.move rfl rfl rfl ?_
    refine EL.nilCheck rfl rfl rfl ?_
    refine EL.fieldAddr rfl rfl rfl rfl rfl rfl rfl rfl ?_
    (apply EL.loadB; exact rfl; exact rfl; exact rfl; exact rfl; exact rfl; (case hm => repeat constructor); exact rfl)
    refine EL.add1 rfl rfl rfl rfl (by omega) ?_
    refine EL.nilCheck rfl rfl rfl ?_
    refine EL.fieldAddr rfl rfl rfl rfl rfl rfl rfl rfl ?_
    (apply EL.storeB; exact rfl; exact rfl; exact rfl; exact rfl; exact rfl; exact rfl; (case p => repeat constructor); exact (by first | decide | exact Nat.le_of_ble_eq_true rfl | simp))
    refine .go ?_; repeat constructor
    refine EL.move rfl rfl rfl ?_
    (refine EL.buildSlice1 rfl rfl rfl rfl rfl rfl rfl rfl rfl rfl ?_; intro b61)
    (refine EL.bytesS (bs := [t.getD a 0]) rfl rfl rfl rfl rfl rfl rfl rfl rfl (by repeat constructor) ?_)
    refine EL.callP rfl rfl rfl ent45 rfl (of_c [t.getD a 0] (by simp)) ?_
    refine EL.move rfl rfl rfl ?_
    (apply EL.storeAll; exact rfl; exact rfl; exact rfl; exact rfl; exact rfl; (case p => repeat constructor); exact rfl; (case h1 => exact (by first | rfl | exact all1 rfl | (intro u hu; simp only [List.mem_cons, List.not_mem_nil, or_false] at hu; rcases hu with rfl | rfl | rfl | rfl <;> rfl) | (intro u hu; simp at hu; rcases hu with rfl | rfl | rfl | rfl <;> rfl) | (intro u hu; simp at hu; rcases hu with rfl | rfl | rfl <;> rfl) | (intro u hu; simp at hu; rcases hu with rfl | rfl <;> rfl) | (intro u hu; simp at hu; obtain ⟨_, _, rfl⟩ := hu; rfl))))
    refine EL.assign rfl rfl rfl ?_
    refine EL.assign rfl rfl rfl ?_
    refine .go ?_; repeat constructor
    exact PX.ret rfl Tryd.results56 (.cons (.blkA rfl rfl rfl (by repeat constructor) rfl) (.cons (.tmp rfl) (.cons (.tmp rfl) .nil))) (fun w hs => ⟨(), rfl, hs.ent (.i (by repeat constructor))⟩)
  · have hfa : ¬ (((t.getD a 0).toNat : Int) ≠ 91) ∧ a + 1 < t.length := by
      unfold itC at hc
      simp only [Bool.or_eq_false_iff, Bool.not_eq_false', decide_eq_true_eq, decide_eq_false_iff_not] at hc
      exact ⟨fun h => h hc.1.1, by omega⟩
    have hi0 : itemM t a = if nmE t a ≠ 0 then ⟨zeroS, 0, false, nmA t a, nmE t a⟩
        else if t.getD (a + 1) 0 = 58 then ⟨(classM (nmN t a)).1, 0, false, nmA t a, (classM (nmN t a)).2⟩
        else if (nmN t a).length ≠ 1 then ⟨zeroS, 0, false, nmA t a, 8⟩
        else ⟨ofS (nmN t a), (nmN t a).getD 0 0, decide (t.getD (a + 1) 0 = 46), nmA t a, 0⟩ := by
      conv => lhs; unfold itemM
      rw [if_neg (by rw [hc]; decide)]
    have h46 : (((t.getD (a + 1) 0).toNat : Int) = 46) ↔ t.getD (a + 1) 0 = 46 := u8_lit (t.getD (a + 1) 0) 46 (by omega)
    have h58 : (((t.getD (a + 1) 0).toNat : Int) = 58) ↔ t.getD (a + 1) 0 = 58 := u8_lit (t.getD (a + 1) 0) 58 (by omega)
    refine .go ?_; repeat constructor
    refine EL.move rfl rfl rfl ?_
    refine EL.callMw1 rfl rfl rfl ent65 rfl (named_c g t a hfa.2 ht _ _ hG) (by repeat constructor) ?_
    refine EL.move rfl rfl rfl ?_
    refine EL.extract rfl rfl rfl rfl ?_
    refine EL.extract rfl rfl rfl rfl ?_
    refine EL.assign rfl rfl rfl ?_
    refine EL.assign rfl rfl rfl ?_
    refine .go ?_; repeat constructor
    refine .go ?_; repeat constructor
    refine EL.move rfl rfl rfl ?_
    refine EL.nilCheck rfl rfl rfl ?_
    refine EL.fieldAddr rfl rfl rfl rfl rfl rfl rfl rfl ?_
    (apply EL.loadB; exact rfl; exact rfl; exact rfl; exact rfl; exact rfl; (case hm => repeat constructor); exact rfl)
    refine EL.neqI rfl rfl rfl rfl ?_
    refine EL.assign rfl rfl rfl ?_
    refine .go ?_; repeat constructor
    refine ES.condN rfl (fun hne => ?_) (fun heq => ?_)
    · rw [if_pos hne] at hi0
      rw [hi0]
      refine .go ?_; repeat constructor
      (apply EL.loadAggB; exact rfl; exact rfl; exact rfl; exact rfl; exact rfl; (case hm => repeat constructor); exact rfl)
      (apply EL.storeAll; exact rfl; exact rfl; exact rfl; exact rfl; exact rfl; (case p => repeat constructor); exact rfl; (case h1 => exact (by first | rfl | exact all1 rfl | (intro u hu; simp only [List.mem_cons, List.not_mem_nil, or_false] at hu; rcases hu with rfl | rfl | rfl | rfl <;> rfl) | (intro u hu; simp at hu; rcases hu with rfl | rfl | rfl | rfl <;> rfl) | (intro u hu; simp at hu; rcases hu with rfl | rfl | rfl <;> rfl) | (intro u hu; simp at hu; rcases hu with rfl | rfl <;> rfl) | (intro u hu; simp at hu; obtain ⟨_, _, rfl⟩ := hu; rfl))))
      refine EL.assign rfl rfl rfl ?_
      refine EL.assign rfl rfl rfl ?_
      refine .go ?_; repeat constructor
      exact PX.ret rfl Tryd.results56 (.cons (.blkA rfl rfl rfl (by repeat constructor) rfl) (.cons (.tmp rfl) (.cons (.tmp rfl) .nil))) (fun w hs => ⟨(), rfl, hs.ent (.i (by repeat constructor))⟩)
    · rw [if_neg (by simpa using heq)] at hi0
      refine .go ?_; repeat constructor
      refine EL.move rfl rfl rfl ?_
      refine EL.eqlI rfl rfl rfl rfl ?_
      refine EL.assign rfl rfl rfl ?_
      refine .go ?_; repeat constructor
      refine ES.condD rfl (fun h1 => ?_) (fun h1 => ?_)
      · rw [if_pos (h58.1 h1)] at hi0
        rw [hi0]
        refine .go ?_; repeat constructor
        refine EL.move rfl rfl rfl ?_
        refine EL.move rfl rfl rfl ?_
        refine EL.callP rfl rfl rfl ent66 rfl (class_c (nmN t a)) ?_
        refine EL.move rfl rfl rfl ?_
        refine EL.extract rfl rfl rfl rfl ?_
        refine EL.extract rfl rfl rfl rfl ?_
        (apply EL.storeAll; exact rfl; exact rfl; exact rfl; exact rfl; exact rfl; (case p => repeat constructor); exact rfl; (case h1 => exact (by first | rfl | exact all1 rfl | (intro u hu; simp only [List.mem_cons, List.not_mem_nil, or_false] at hu; rcases hu with rfl | rfl | rfl | rfl <;> rfl) | (intro u hu; simp at hu; rcases hu with rfl | rfl | rfl | rfl <;> rfl) | (intro u hu; simp at hu; rcases hu with rfl | rfl | rfl <;> rfl) | (intro u hu; simp at hu; rcases hu with rfl | rfl <;> rfl) | (intro u hu; simp at hu; obtain ⟨_, _, rfl⟩ := hu; rfl))))
        refine EL.nilCheck rfl rfl rfl ?_
        refine EL.fieldAddr rfl rfl rfl rfl rfl rfl rfl rfl ?_
        (apply EL.storeB; exact rfl; exact rfl; exact rfl; exact rfl; exact rfl; exact rfl; (case p => repeat constructor); exact (by first | decide | exact Nat.le_of_ble_eq_true rfl | simp))
        refine .go ?_; repeat constructor
        (apply EL.loadAggB; exact rfl; exact rfl; exact rfl; exact rfl; exact rfl; (case hm => repeat constructor); exact rfl)
        (apply EL.storeAll; exact rfl; exact rfl; exact rfl; exact rfl; exact rfl; (case p => repeat constructor); exact rfl; (case h1 => exact (by first | rfl | exact all1 rfl | (intro u hu; simp only [List.mem_cons, List.not_mem_nil, or_false] at hu; rcases hu with rfl | rfl | rfl | rfl <;> rfl) | (intro u hu; simp at hu; rcases hu with rfl | rfl | rfl | rfl <;> rfl) | (intro u hu; simp at hu; rcases hu with rfl | rfl | rfl <;> rfl) | (intro u hu; simp at hu; rcases hu with rfl | rfl <;> rfl) | (intro u hu; simp at hu; obtain ⟨_, _, rfl⟩ := hu; rfl))))
        refine EL.assign rfl rfl rfl ?_
        refine EL.assign rfl rfl rfl ?_
        refine .go ?_; repeat constructor
        exact PX.ret rfl Tryd.results56 (.cons (.blkA rfl rfl rfl (by repeat constructor) rfl) (.cons (.tmp rfl) (.cons (.tmp rfl) .nil))) (fun w hs => ⟨(), rfl, hs.ent (.i (by repeat constructor))⟩)
      · rw [if_neg (fun h => h1 (h58.2 h))] at hi0
        refine .go ?_; repeat constructor
        refine EL.move rfl rfl rfl ?_
        refine EL.lenS rfl rfl rfl rfl rfl ?_
        refine EL.neqI rfl rfl rfl rfl ?_
        refine EL.assign rfl rfl rfl ?_
        refine .go ?_; repeat constructor
        refine ES.condN rfl (fun h2 => ?_) (fun h2 => ?_)
        · rw [if_pos (by omega)] at hi0
          rw [hi0]
          refine .go ?_; repeat constructor
          refine EL.move rfl rfl rfl ?_
          refine EL.nilCheck rfl rfl rfl ?_
          refine EL.fieldAddr rfl rfl rfl rfl rfl rfl rfl rfl ?_
          (apply EL.storeB; exact rfl; exact rfl; exact rfl; exact rfl; exact rfl; exact rfl; (case p => repeat constructor); exact (by first | decide | exact Nat.le_of_ble_eq_true rfl | simp))
          refine .go ?_; repeat constructor
          (apply EL.loadAggB; exact rfl; exact rfl; exact rfl; exact rfl; exact rfl; (case hm => repeat constructor); exact rfl)
          (apply EL.storeAll; exact rfl; exact rfl; exact rfl; exact rfl; exact rfl; (case p => repeat constructor); exact rfl; (case h1 => exact (by first | rfl | exact all1 rfl | (intro u hu; simp only [List.mem_cons, List.not_mem_nil, or_false] at hu; rcases hu with rfl | rfl | rfl | rfl <;> rfl) | (intro u hu; simp at hu; rcases hu with rfl | rfl | rfl | rfl <;> rfl) | (intro u hu; simp at hu; rcases hu with rfl | rfl | rfl <;> rfl) | (intro u hu; simp at hu; rcases hu with rfl | rfl <;> rfl) | (intro u hu; simp at hu; obtain ⟨_, _, rfl⟩ := hu; rfl))))
          refine EL.assign rfl rfl rfl ?_
          refine EL.assign rfl rfl rfl ?_
          refine .go ?_; repeat constructor
          exact PX.ret rfl Tryd.results56 (.cons (.blkA rfl rfl rfl (by repeat constructor) rfl) (.cons (.tmp rfl) (.cons (.tmp rfl) .nil))) (fun w hs => ⟨(), rfl, hs.ent (.i (by repeat constructor))⟩)
        · rw [if_neg (by omega)] at hi0
          have hl : 0 < (nmN t a).length := by omega
          have hd46 : decide (((t.getD (a + 1) 0).toNat : Int) = 46) = decide (t.getD (a + 1) 0 = 46) := decide_eq_decide.2 h46
          rw [hi0]
          refine .g0 ?_; repeat constructor
          refine ES.draw (X := Unit) (fun _ => [(2, Pv g2 0), (3, Uv ((nmN t a).getD 0 0)), (4, .bool (decide (t.getD (a + 1) 0 = 46)))]) (fun _ => SB g2 (ofS (nmN t a)) :: RD g t (nmA t a) (nmE t a) :: R) (RD g t (nmA t a) (nmE t a) :: R) mixed (.i (by repeat constructor)) ?_ (fun _ => ?_)
          · refine ED.take 0 rfl (by decide +kernel) CutX.no_panic (by decide +kernel) rfl rfl rfl (RV.move rfl) ?_
            refine ED.take 2 rfl (by decide +kernel) CutX.no_panic (by decide +kernel) rfl rfl rfl (RV.move rfl) ?_
            refine ED.take 3 rfl (by decide +kernel) CutX.no_panic (by decide +kernel) rfl rfl rfl (RV.indexSN (i := 0) rfl rfl rfl rfl hl) ?_
            refine ED.take 4 rfl (by decide +kernel) CutX.no_panic (by decide +kernel) rfl rfl rfl (RV.move rfl) ?_
            refine ED.take 5 rfl (by decide +kernel) CutX.no_panic (by decide +kernel) rfl rfl rfl (RV.eqlI rfl rfl) ?_
            refine ED.loud 1 rfl (by decide +kernel) ?_
            refine EL.callP rfl rfl rfl ent45 rfl (of_c (nmN t a) (by omega)) ?_
            refine ED.next (.i (by repeat constructor)) ?_
            refine ED.loud 6 rfl (by decide +kernel) ?_
            (apply EL.storeAll; exact rfl; exact rfl; exact rfl; exact rfl; exact rfl; (case p => repeat constructor); exact rfl; (case h1 => exact (by first | rfl | exact all1 rfl | (intro u hu; simp only [List.mem_cons, List.not_mem_nil, or_false] at hu; rcases hu with rfl | rfl | rfl | rfl <;> rfl) | (intro u hu; simp at hu; rcases hu with rfl | rfl | rfl | rfl <;> rfl) | (intro u hu; simp at hu; rcases hu with rfl | rfl | rfl <;> rfl) | (intro u hu; simp at hu; rcases hu with rfl | rfl <;> rfl) | (intro u hu; simp at hu; obtain ⟨_, _, rfl⟩ := hu; rfl))))
            refine ED.next (.i (by repeat constructor)) ?_
            refine ED.take 7 rfl (by decide +kernel) CutX.no_panic (by decide +kernel) rfl rfl rfl (RV.assign rfl) ?_
            refine ED.take 8 rfl (by decide +kernel) CutX.no_panic (by decide +kernel) rfl rfl rfl (RV.assign rfl) ?_
            refine ED.done (by decide +kernel) ?_
            exact PX.cutX () ⟨rfl, rfl, getA rfl (congrArg Value.bool hd46), trivial⟩ (.i (by repeat constructor))
          refine .go ?_; repeat constructor
          refine PX.ret rfl Tryd.results56 (.cons (.blkA rfl rfl rfl (by repeat constructor) rfl) (.cons (.tmp rfl) (.cons (.tmp rfl) .nil))) (fun w hs => ⟨(), rfl, ?_⟩)
          have he0 : nmE t a = 0 := by simpa using heq
          rw [he0] at hs
          exact hs.ent (.i (by repeat constructor))
end Go.Proofs.YtcoajnpneableaaDoor
namespace Go.Proofs.YtcoajnpneableaaDoor
open Go Go.RowKit Sl
set_option maxRecDepth 100000
set_option maxHeartbeats 8000000
set_option linter.unusedVariables false
set_option linter.unusedSimpArgs false
attribute [local irreducible] ES EL PX wps
def dashM (t : List UInt8) (a : Nat) : Bool := (decide ((a : Int) < (t.length : Int)) && decide (((t.getD a 0).toNat : Int) = 45)) && (decide ((t.length : Int) ≤ ((a + 1 : Nat) : Int)) || !decide (((t.getD (a + 1) 0).toNat : Int) = 93))
theorem dash_lt {t : List UInt8} {a : Nat} (h : dashM t a = true) : a < t.length := by
  unfold dashM at h
  simp only [Bool.and_eq_true, decide_eq_true_eq] at h
  omega
theorem dash_c (g : Nat) (t : List UInt8) (a : Nat) (e : Int) (ht : t.length ≤ 1073741824) (ha : a ≤ t.length) (w0 : World) (B : Nat) :
    MutAt Tryd.prog 57 #[Pv g 0] [RD g t a e] (fun _ : Unit => .bool (dashM t a)) (fun _ => [RD g t a e]) w0 B := by
  intro R w h
  replace h : Sat w0 B (RD g t a e :: R) w := h
  refine calls_of_ES TB Tryd.func57 rfl _ Tryd.ntmps57 rfl h ?_
  refine .go ?_; repeat constructor
  refine EL.assign rfl rfl rfl ?_
  refine .go ?_; repeat constructor
  refine ES.draw (X := Unit) (fun _ => [(2, .bool (dashM t a))]) (fun _ => RD g t a e :: R) (RD g t a e :: R) mixed (.i (by repeat constructor)) ?_ (fun _ => ?_)
  · refine ED.take 0 rfl (by decide +kernel) CutX.no_panic (by decide +kernel) rfl rfl rfl (RV.move rfl) ?_
    refine ED.take 1 rfl (by decide +kernel) CutX.no_panic (by decide +kernel) rfl rfl rfl (RV.nilCheck rfl) ?_
    refine ED.take 2 rfl (by decide +kernel) CutX.no_panic (by decide +kernel) rfl rfl rfl (RV.fieldAddr rfl rfl rfl rfl rfl rfl) ?_
    refine ED.take 3 rfl (by decide +kernel) CutX.no_panic (by decide +kernel) rfl rfl rfl (RV.loadB rfl rfl rfl (by repeat constructor) rfl) ?_
    refine ED.take 4 rfl (by decide +kernel) CutX.no_panic (by decide +kernel) rfl rfl rfl (RV.move rfl) ?_
    refine ED.take 5 rfl (by decide +kernel) CutX.no_panic (by decide +kernel) rfl rfl rfl (RV.nilCheck rfl) ?_
    refine ED.take 6 rfl (by decide +kernel) CutX.no_panic (by decide +kernel) rfl rfl rfl (RV.fieldAddr rfl rfl rfl rfl rfl rfl) ?_
    refine ED.take 7 rfl (by decide +kernel) CutX.no_panic (by decide +kernel) rfl rfl rfl (RV.loadB rfl rfl rfl (by repeat constructor) rfl) ?_
    refine ED.take 8 rfl (by decide +kernel) CutX.no_panic (by decide +kernel) rfl rfl rfl (RV.lenS rfl rfl rfl) ?_
    refine ED.take 9 rfl (by decide +kernel) CutX.no_panic (by decide +kernel) rfl rfl rfl (RV.lss rfl rfl) ?_
    refine ED.take 10 rfl (by decide +kernel) CutX.no_panic (by decide +kernel) rfl rfl rfl (RV.move rfl) ?_
    first | refine ED.part (d := 13) rfl (fun hp13 => ?_) (fun hp13 => ?_) | refine ED.partN (d := 13) rfl (fun hp13 => ?_) (fun hp13 => ?_) | refine ED.partB (d := 13) rfl (fun hp13 => ?_) (fun hp13 => ?_)
    · refine ED.take 11 rfl (by decide +kernel) CutX.no_panic (by decide +kernel) rfl rfl rfl (RV.move rfl) ?_
      refine ED.take 12 rfl (by decide +kernel) CutX.no_panic (by decide +kernel) rfl rfl rfl (RV.nilCheck rfl) ?_
      refine ED.take 13 rfl (by decide +kernel) CutX.no_panic (by decide +kernel) rfl rfl rfl (RV.fieldAddr rfl rfl rfl rfl rfl rfl) ?_
      refine ED.take 14 rfl (by decide +kernel) CutX.no_panic (by decide +kernel) rfl rfl rfl (RV.loadB rfl rfl rfl (by repeat constructor) rfl) ?_
      refine ED.take 15 rfl (by decide +kernel) CutX.no_panic (by decide +kernel) rfl rfl rfl (RV.move rfl) ?_
      refine ED.take 16 rfl (by decide +kernel) CutX.no_panic (by decide +kernel) rfl rfl rfl (RV.nilCheck rfl) ?_
      refine ED.take 17 rfl (by decide +kernel) CutX.no_panic (by decide +kernel) rfl rfl rfl (RV.fieldAddr rfl rfl rfl rfl rfl rfl) ?_
      refine ED.take 18 rfl (by decide +kernel) CutX.no_panic (by decide +kernel) rfl rfl rfl (RV.loadB rfl rfl rfl (by repeat constructor) rfl) ?_
      refine ED.take 19 rfl (by decide +kernel) CutX.no_panic (by decide +kernel) rfl rfl rfl (RV.indexSN rfl rfl rfl rfl (by omega)) ?_
      refine ED.take 20 rfl (by decide +kernel) CutX.no_panic (by decide +kernel) rfl rfl rfl (RV.eqlI rfl rfl) ?_
      refine ED.take 21 rfl (by decide +kernel) CutX.no_panic (by decide +kernel) rfl rfl rfl (RV.pickT rfl rfl) ?_
      refine ED.take 22 rfl (by decide +kernel) CutX.no_panic (by decide +kernel) rfl rfl rfl (RV.move rfl) ?_
      first | refine ED.part (d := 25) rfl (fun hp25 => ?_) (fun hp25 => ?_) | refine ED.partN (d := 25) rfl (fun hp25 => ?_) (fun hp25 => ?_) | refine ED.partB (d := 25) rfl (fun hp25 => ?_) (fun hp25 => ?_)
      · refine ED.take 23 rfl (by decide +kernel) CutX.no_panic (by decide +kernel) rfl rfl rfl (RV.move rfl) ?_
        refine ED.take 24 rfl (by decide +kernel) CutX.no_panic (by decide +kernel) rfl rfl rfl (RV.nilCheck rfl) ?_
        refine ED.take 25 rfl (by decide +kernel) CutX.no_panic (by decide +kernel) rfl rfl rfl (RV.fieldAddr rfl rfl rfl rfl rfl rfl) ?_
        refine ED.take 26 rfl (by decide +kernel) CutX.no_panic (by decide +kernel) rfl rfl rfl (RV.loadB rfl rfl rfl (by repeat constructor) rfl) ?_
        refine ED.take 27 rfl (by decide +kernel) CutX.no_panic (by decide +kernel) rfl rfl rfl (RV.add1 rfl rfl (by omega)) ?_
        refine ED.take 28 rfl (by decide +kernel) CutX.no_panic (by decide +kernel) rfl rfl rfl (RV.move rfl) ?_
        refine ED.take 29 rfl (by decide +kernel) CutX.no_panic (by decide +kernel) rfl rfl rfl (RV.nilCheck rfl) ?_
        refine ED.take 30 rfl (by decide +kernel) CutX.no_panic (by decide +kernel) rfl rfl rfl (RV.fieldAddr rfl rfl rfl rfl rfl rfl) ?_
        refine ED.take 31 rfl (by decide +kernel) CutX.no_panic (by decide +kernel) rfl rfl rfl (RV.loadB rfl rfl rfl (by repeat constructor) rfl) ?_
        refine ED.take 32 rfl (by decide +kernel) CutX.no_panic (by decide +kernel) rfl rfl rfl (RV.lenS rfl rfl rfl) ?_
        refine ED.take 33 rfl (by decide +kernel) CutX.no_panic (by decide +kernel) rfl rfl rfl (RV.geq rfl rfl) ?_
        refine ED.take 34 rfl (by decide +kernel) CutX.no_panic (by decide +kernel) rfl rfl rfl (RV.move rfl) ?_
        first | refine ED.part (d := 37) rfl (fun hp37 => ?_) (fun hp37 => ?_) | refine ED.partN (d := 37) rfl (fun hp37 => ?_) (fun hp37 => ?_) | refine ED.partB (d := 37) rfl (fun hp37 => ?_) (fun hp37 => ?_)
        · refine ED.pass 35 rfl (by decide +kernel) CutX.no_panic (by decide +kernel) rfl rfl rfl ?_
          refine ED.pass 36 rfl (by decide +kernel) CutX.no_panic (by decide +kernel) rfl rfl rfl ?_
          refine ED.pass 37 rfl (by decide +kernel) CutX.no_panic (by decide +kernel) rfl rfl rfl ?_
          refine ED.pass 38 rfl (by decide +kernel) CutX.no_panic (by decide +kernel) rfl rfl rfl ?_
          refine ED.pass 39 rfl (by decide +kernel) CutX.no_panic (by decide +kernel) rfl rfl rfl ?_
          refine ED.pass 40 rfl (by decide +kernel) CutX.no_panic (by decide +kernel) rfl rfl rfl ?_
          refine ED.pass 41 rfl (by decide +kernel) CutX.no_panic (by decide +kernel) rfl rfl rfl ?_
          refine ED.pass 42 rfl (by decide +kernel) CutX.no_panic (by decide +kernel) rfl rfl rfl ?_
          refine ED.pass 43 rfl (by decide +kernel) CutX.no_panic (by decide +kernel) rfl rfl rfl ?_
          refine ED.pass 44 rfl (by decide +kernel) CutX.no_panic (by decide +kernel) rfl rfl rfl ?_
          refine ED.pass 45 rfl (by decide +kernel) CutX.no_panic (by decide +kernel) rfl rfl rfl ?_
          refine ED.take 46 rfl (by decide +kernel) CutX.no_panic (by decide +kernel) rfl rfl rfl (RV.pickT rfl rfl) ?_
          refine ED.take 47 rfl (by decide +kernel) CutX.no_panic (by decide +kernel) rfl rfl rfl (RV.pickT rfl rfl) ?_
          refine ED.take 48 rfl (by decide +kernel) CutX.no_panic (by decide +kernel) rfl rfl rfl (RV.assign rfl) ?_
          refine ED.done (by decide +kernel) ?_
          exact PX.cutX () ⟨getA rfl (congrArg Value.bool (by unfold dashM; simp_all <;> omega)), trivial⟩ (.i (by repeat constructor))
        · refine ED.take 35 rfl (by decide +kernel) CutX.no_panic (by decide +kernel) rfl rfl rfl (RV.move rfl) ?_
          refine ED.take 36 rfl (by decide +kernel) CutX.no_panic (by decide +kernel) rfl rfl rfl (RV.nilCheck rfl) ?_
          refine ED.take 37 rfl (by decide +kernel) CutX.no_panic (by decide +kernel) rfl rfl rfl (RV.fieldAddr rfl rfl rfl rfl rfl rfl) ?_
          refine ED.take 38 rfl (by decide +kernel) CutX.no_panic (by decide +kernel) rfl rfl rfl (RV.loadB rfl rfl rfl (by repeat constructor) rfl) ?_
          refine ED.take 39 rfl (by decide +kernel) CutX.no_panic (by decide +kernel) rfl rfl rfl (RV.move rfl) ?_
          refine ED.take 40 rfl (by decide +kernel) CutX.no_panic (by decide +kernel) rfl rfl rfl (RV.nilCheck rfl) ?_
          refine ED.take 41 rfl (by decide +kernel) CutX.no_panic (by decide +kernel) rfl rfl rfl (RV.fieldAddr rfl rfl rfl rfl rfl rfl) ?_
          refine ED.take 42 rfl (by decide +kernel) CutX.no_panic (by decide +kernel) rfl rfl rfl (RV.loadB rfl rfl rfl (by repeat constructor) rfl) ?_
          refine ED.take 43 rfl (by decide +kernel) CutX.no_panic (by decide +kernel) rfl rfl rfl (RV.add1 rfl rfl (by omega)) ?_
          refine ED.take 44 rfl (by decide +kernel) CutX.no_panic (by decide +kernel) rfl rfl rfl (RV.indexSN rfl rfl rfl rfl (by omega)) ?_
          refine ED.take 45 rfl (by decide +kernel) CutX.no_panic (by decide +kernel) rfl rfl rfl (RV.neqI rfl rfl) ?_
          refine ED.take 46 rfl (by decide +kernel) CutX.no_panic (by decide +kernel) rfl rfl rfl (RV.pickF rfl rfl) ?_
          refine ED.take 47 rfl (by decide +kernel) CutX.no_panic (by decide +kernel) rfl rfl rfl (RV.pickT rfl rfl) ?_
          refine ED.take 48 rfl (by decide +kernel) CutX.no_panic (by decide +kernel) rfl rfl rfl (RV.assign rfl) ?_
          refine ED.done (by decide +kernel) ?_
          exact PX.cutX () ⟨getA rfl (congrArg Value.bool (by unfold dashM; simp_all <;> omega)), trivial⟩ (.i (by repeat constructor))
      · refine ED.pass 23 rfl (by decide +kernel) CutX.no_panic (by decide +kernel) rfl rfl rfl ?_
        refine ED.pass 24 rfl (by decide +kernel) CutX.no_panic (by decide +kernel) rfl rfl rfl ?_
        refine ED.pass 25 rfl (by decide +kernel) CutX.no_panic (by decide +kernel) rfl rfl rfl ?_
        refine ED.pass 26 rfl (by decide +kernel) CutX.no_panic (by decide +kernel) rfl rfl rfl ?_
        refine ED.pass 27 rfl (by decide +kernel) CutX.no_panic (by decide +kernel) rfl rfl rfl ?_
        refine ED.pass 28 rfl (by decide +kernel) CutX.no_panic (by decide +kernel) rfl rfl rfl ?_
        refine ED.pass 29 rfl (by decide +kernel) CutX.no_panic (by decide +kernel) rfl rfl rfl ?_
        refine ED.pass 30 rfl (by decide +kernel) CutX.no_panic (by decide +kernel) rfl rfl rfl ?_
        refine ED.pass 31 rfl (by decide +kernel) CutX.no_panic (by decide +kernel) rfl rfl rfl ?_
        refine ED.pass 32 rfl (by decide +kernel) CutX.no_panic (by decide +kernel) rfl rfl rfl ?_
        refine ED.pass 33 rfl (by decide +kernel) CutX.no_panic (by decide +kernel) rfl rfl rfl ?_
        refine ED.pass 34 rfl (by decide +kernel) CutX.no_panic (by decide +kernel) rfl rfl rfl ?_
        refine ED.pass 35 rfl (by decide +kernel) CutX.no_panic (by decide +kernel) rfl rfl rfl ?_
        refine ED.pass 36 rfl (by decide +kernel) CutX.no_panic (by decide +kernel) rfl rfl rfl ?_
        refine ED.pass 37 rfl (by decide +kernel) CutX.no_panic (by decide +kernel) rfl rfl rfl ?_
        refine ED.pass 38 rfl (by decide +kernel) CutX.no_panic (by decide +kernel) rfl rfl rfl ?_
        refine ED.pass 39 rfl (by decide +kernel) CutX.no_panic (by decide +kernel) rfl rfl rfl ?_
        refine ED.pass 40 rfl (by decide +kernel) CutX.no_panic (by decide +kernel) rfl rfl rfl ?_
        refine ED.pass 41 rfl (by decide +kernel) CutX.no_panic (by decide +kernel) rfl rfl rfl ?_
        refine ED.pass 42 rfl (by decide +kernel) CutX.no_panic (by decide +kernel) rfl rfl rfl ?_
        refine ED.pass 43 rfl (by decide +kernel) CutX.no_panic (by decide +kernel) rfl rfl rfl ?_
        refine ED.pass 44 rfl (by decide +kernel) CutX.no_panic (by decide +kernel) rfl rfl rfl ?_
        refine ED.pass 45 rfl (by decide +kernel) CutX.no_panic (by decide +kernel) rfl rfl rfl ?_
        refine ED.pass 46 rfl (by decide +kernel) CutX.no_panic (by decide +kernel) rfl rfl rfl ?_
        refine ED.take 47 rfl (by decide +kernel) CutX.no_panic (by decide +kernel) rfl rfl rfl (RV.pickF rfl rfl) ?_
        refine ED.take 48 rfl (by decide +kernel) CutX.no_panic (by decide +kernel) rfl rfl rfl (RV.assign rfl) ?_
        refine ED.done (by decide +kernel) ?_
        exact PX.cutX () ⟨getA rfl (congrArg Value.bool (by unfold dashM; simp_all <;> omega)), trivial⟩ (.i (by repeat constructor))
    · refine ED.pass 11 rfl (by decide +kernel) CutX.no_panic (by decide +kernel) rfl rfl rfl ?_
      refine ED.pass 12 rfl (by decide +kernel) CutX.no_panic (by decide +kernel) rfl rfl rfl ?_
      refine ED.pass 13 rfl (by decide +kernel) CutX.no_panic (by decide +kernel) rfl rfl rfl ?_
      refine ED.pass 14 rfl (by decide +kernel) CutX.no_panic (by decide +kernel) rfl rfl rfl ?_
      refine ED.pass 15 rfl (by decide +kernel) CutX.no_panic (by decide +kernel) rfl rfl rfl ?_
      refine ED.pass 16 rfl (by decide +kernel) CutX.no_panic (by decide +kernel) rfl rfl rfl ?_
      refine ED.pass 17 rfl (by decide +kernel) CutX.no_panic (by decide +kernel) rfl rfl rfl ?_
      refine ED.pass 18 rfl (by decide +kernel) CutX.no_panic (by decide +kernel) rfl rfl rfl ?_
      refine ED.pass 19 rfl (by decide +kernel) CutX.no_panic (by decide +kernel) rfl rfl rfl ?_
      refine ED.pass 20 rfl (by decide +kernel) CutX.no_panic (by decide +kernel) rfl rfl rfl ?_
      refine ED.take 21 rfl (by decide +kernel) CutX.no_panic (by decide +kernel) rfl rfl rfl (RV.pickF rfl rfl) ?_
      refine ED.take 22 rfl (by decide +kernel) CutX.no_panic (by decide +kernel) rfl rfl rfl (RV.move rfl) ?_
      refine ED.pass 23 rfl (by decide +kernel) CutX.no_panic (by decide +kernel) rfl rfl rfl ?_
      refine ED.pass 24 rfl (by decide +kernel) CutX.no_panic (by decide +kernel) rfl rfl rfl ?_
      refine ED.pass 25 rfl (by decide +kernel) CutX.no_panic (by decide +kernel) rfl rfl rfl ?_
      refine ED.pass 26 rfl (by decide +kernel) CutX.no_panic (by decide +kernel) rfl rfl rfl ?_
      refine ED.pass 27 rfl (by decide +kernel) CutX.no_panic (by decide +kernel) rfl rfl rfl ?_
      refine ED.pass 28 rfl (by decide +kernel) CutX.no_panic (by decide +kernel) rfl rfl rfl ?_
      refine ED.pass 29 rfl (by decide +kernel) CutX.no_panic (by decide +kernel) rfl rfl rfl ?_
      refine ED.pass 30 rfl (by decide +kernel) CutX.no_panic (by decide +kernel) rfl rfl rfl ?_
      refine ED.pass 31 rfl (by decide +kernel) CutX.no_panic (by decide +kernel) rfl rfl rfl ?_
      refine ED.pass 32 rfl (by decide +kernel) CutX.no_panic (by decide +kernel) rfl rfl rfl ?_
      refine ED.pass 33 rfl (by decide +kernel) CutX.no_panic (by decide +kernel) rfl rfl rfl ?_
      refine ED.pass 34 rfl (by decide +kernel) CutX.no_panic (by decide +kernel) rfl rfl rfl ?_
      refine ED.pass 35 rfl (by decide +kernel) CutX.no_panic (by decide +kernel) rfl rfl rfl ?_
      refine ED.pass 36 rfl (by decide +kernel) CutX.no_panic (by decide +kernel) rfl rfl rfl ?_
      refine ED.pass 37 rfl (by decide +kernel) CutX.no_panic (by decide +kernel) rfl rfl rfl ?_
      refine ED.pass 38 rfl (by decide +kernel) CutX.no_panic (by decide +kernel) rfl rfl rfl ?_
      refine ED.pass 39 rfl (by decide +kernel) CutX.no_panic (by decide +kernel) rfl rfl rfl ?_
      refine ED.pass 40 rfl (by decide +kernel) CutX.no_panic (by decide +kernel) rfl rfl rfl ?_
      refine ED.pass 41 rfl (by decide +kernel) CutX.no_panic (by decide +kernel) rfl rfl rfl ?_
      refine ED.pass 42 rfl (by decide +kernel) CutX.no_panic (by decide +kernel) rfl rfl rfl ?_
      refine ED.pass 43 rfl (by decide +kernel) CutX.no_panic (by decide +kernel) rfl rfl rfl ?_
      refine ED.pass 44 rfl (by decide +kernel) CutX.no_panic (by decide +kernel) rfl rfl rfl ?_
      refine ED.pass 45 rfl (by decide +kernel) CutX.no_panic (by decide +kernel) rfl rfl rfl ?_
      refine ED.pass 46 rfl (by decide +kernel) CutX.no_panic (by decide +kernel) rfl rfl rfl ?_
      refine ED.take 47 rfl (by decide +kernel) CutX.no_panic (by decide +kernel) rfl rfl rfl (RV.pickF rfl rfl) ?_
      refine ED.take 48 rfl (by decide +kernel) CutX.no_panic (by decide +kernel) rfl rfl rfl (RV.assign rfl) ?_
      refine ED.done (by decide +kernel) ?_
      exact PX.cutX () ⟨getA rfl (congrArg Value.bool (by unfold dashM; simp_all <;> omega)), trivial⟩ (.i (by repeat constructor))
  refine .go ?_; repeat constructor
  exact PX.ret rfl Tryd.results57 (.cons (.tmp rfl) .nil) (fun w hs => ⟨(), rfl, hs.ent (.i (by repeat constructor))⟩)
structure Sp where
  set : BS
  at_ : Nat
  e : Int
def spanT (t : List UInt8) (a : Nat) : Sp :=
  let i := itemM t a
  if i.e ≠ 0 ∨ dashM t i.at_ = false then ⟨i.set, i.at_, i.e⟩
  else if t.length ≤ i.at_ + 1 then ⟨i.set, i.at_ + 1, 6⟩
  else if i.single = false then ⟨i.set, i.at_ + 1, 7⟩
  else
    let j := itemM t (i.at_ + 1)
    if j.e ≠ 0 then ⟨i.set, j.at_, j.e⟩
    else if j.single = false then ⟨i.set, j.at_, 7⟩
    else if (spanM i.b j.b).2 = 0 ∧ dashM t j.at_ = true then ⟨(spanM i.b j.b).1, j.at_, 7⟩ else ⟨(spanM i.b j.b).1, j.at_, (spanM i.b j.b).2⟩
theorem span_at (t : List UInt8) (a : Nat) (h : a < t.length) : a ≤ (spanT t a).at_ ∧ (spanT t a).at_ ≤ t.length ∧ ((spanT t a).e = 0 → a < (spanT t a).at_) := by
  have h1 := item_at t a h
  unfold spanT
  dsimp only
  split
  · exact h1
  · rename_i hd
    have hd1 : (itemM t a).e = 0 ∧ dashM t (itemM t a).at_ = true := by
      simp only [not_or, Decidable.not_not, Bool.not_eq_false] at hd
      exact hd
    have hlt := dash_lt hd1.2
    have h2 := h1.2.2 hd1.1
    split
    · exact ⟨by simp only; omega, by simp only; omega, fun _ => by simp only; omega⟩
    · rename_i hl
      have h3 := item_at t ((itemM t a).at_ + 1) (by omega)
      split
      · exact ⟨by simp only; omega, by simp only; omega, fun _ => by simp only; omega⟩
      · split
        · exact ⟨by simp only; omega, h3.2.1, fun _ => by simp only; omega⟩
        · split
          · exact ⟨by simp only; omega, h3.2.1, fun _ => by simp only; omega⟩
          · split
            · exact ⟨by simp only; omega, h3.2.1, fun _ => by simp only; omega⟩
            · exact ⟨by simp only; omega, h3.2.1, fun _ => by simp only; omega⟩
theorem spanR_c (g : Nat) (t : List UInt8) (a : Nat) (ha : a < t.length) (ht : t.length ≤ 1073741824) (w0 : World) (B : Nat) (hG : GR w0 B) :
    MutAt Tryd.prog 42 #[Pv g 0] [RD g t a 0] (fun _ : Unit => Bs (spanT t a).set) (fun _ => [RD g t (spanT t a).at_ (spanT t a).e]) w0 B := by
  intro R w h
  replace h : Sat w0 B (RD g t a 0 :: R) w := h
  have hia := item_at t a ha
  have hic := item_c g t a ha ht w0 B hG
  have hsp : spanT t a = (let i := itemM t a
    if i.e ≠ 0 ∨ dashM t i.at_ = false then ⟨i.set, i.at_, i.e⟩
    else if t.length ≤ i.at_ + 1 then ⟨i.set, i.at_ + 1, 6⟩
    else if i.single = false then ⟨i.set, i.at_ + 1, 7⟩
    else
      let j := itemM t (i.at_ + 1)
      if j.e ≠ 0 then ⟨i.set, j.at_, j.e⟩
      else if j.single = false then ⟨i.set, j.at_, 7⟩
      else if (spanM i.b j.b).2 = 0 ∧ dashM t j.at_ = true then ⟨(spanM i.b j.b).1, j.at_, 7⟩ else ⟨(spanM i.b j.b).1, j.at_, (spanM i.b j.b).2⟩) := rfl
  obtain ⟨r, hr⟩ : ∃ r, r = spanT t a := ⟨_, rfl⟩
  rw [← hr] at hsp ⊢
  dsimp only at hsp
  generalize itemM t a = i at hia hic hsp
  obtain ⟨⟨s0, s1, s2, s3⟩, ib, ising, ia, ie⟩ := i
  dsimp only at hia hic hsp
  refine calls_of_ES TB Tryd.func42 rfl _ Tryd.ntmps42 rfl h ?_
  refine .go ?_; repeat constructor
  (refine EL.alloc rfl rfl rfl ?_; intro g2)
  refine .go ?_; repeat constructor
  refine EL.move rfl rfl rfl ?_
  refine EL.callMw1 rfl rfl rfl ent56 rfl hic (by repeat constructor) ?_
  refine EL.move rfl rfl rfl ?_
  refine EL.extract rfl rfl rfl rfl ?_
  refine EL.extract rfl rfl rfl rfl ?_
  refine EL.extract rfl rfl rfl rfl ?_
  (refine EL.alloc rfl rfl rfl ?_; intro g3)
  (apply EL.storeAll; exact rfl; exact rfl; exact rfl; exact rfl; exact rfl; (case p => repeat constructor); exact rfl; (case h1 => exact (by first | rfl | exact all1 rfl | (intro u hu; simp only [List.mem_cons, List.not_mem_nil, or_false] at hu; rcases hu with rfl | rfl | rfl | rfl <;> rfl) | (intro u hu; simp at hu; rcases hu with rfl | rfl | rfl | rfl <;> rfl) | (intro u hu; simp at hu; rcases hu with rfl | rfl | rfl <;> rfl) | (intro u hu; simp at hu; rcases hu with rfl | rfl <;> rfl) | (intro u hu; simp at hu; obtain ⟨_, _, rfl⟩ := hu; rfl))))
  refine EL.assign rfl rfl rfl ?_
  refine EL.assign rfl rfl rfl ?_
  refine .go ?_; repeat constructor
  refine EL.cutX (X := Unit) (fun _ => [(0, Pv g 0), (2, Pv g2 0), (3, Pv g3 0), (4, Uv ib), (5, .bool ising), (23, .bool (!decide (ie = 0) || !dashM t ia))]) (fun _ => SB g3 ⟨s0, s1, s2, s3⟩ :: RD g t ia ie :: SB g2 zeroS :: R) ?_ (fun _ => ?_)
  · refine .go ?_; repeat constructor
    refine EL.move rfl rfl rfl ?_
    refine EL.nilCheck rfl rfl rfl ?_
    refine EL.fieldAddr rfl rfl rfl rfl rfl rfl rfl rfl ?_
    (apply EL.loadB; exact rfl; exact rfl; exact rfl; exact rfl; exact rfl; (case hm => repeat constructor); exact rfl)
    refine EL.neqI rfl rfl rfl rfl ?_
    refine EL.move rfl rfl rfl ?_
    first | refine EL.splitD (d := 19) rfl (fun hp19 => ?_) (fun hp19 => ?_) | refine EL.splitN (d := 19) rfl (fun hp19 => ?_) (fun hp19 => ?_) | refine EL.splitB (d := 19) rfl (fun hp19 => ?_) (fun hp19 => ?_)
    · refine EL.pass rfl rfl rfl ?_
      refine EL.pass rfl rfl rfl ?_
      refine EL.pass rfl rfl rfl ?_
      refine EL.pickT rfl rfl rfl rfl ?_
      exact EL.endX () ⟨rfl, rfl, rfl, rfl, rfl, getA rfl (congrArg Value.bool (by simp_all)), trivial⟩ (.i (by repeat constructor))
    · refine EL.move rfl rfl rfl ?_
      refine EL.callMw1 rfl rfl rfl ent57 rfl (dash_c g t ia ie ht hia.2.1 _ _) (by repeat constructor) ?_
      refine EL.not rfl rfl rfl ?_
      refine EL.pickF rfl rfl rfl rfl ?_
      exact EL.endX () ⟨rfl, rfl, rfl, rfl, rfl, getA rfl (congrArg Value.bool (by simp_all)), trivial⟩ (.i (by repeat constructor))
  refine ES.cond rfl (fun hc => ?_) (fun hc => ?_)
  · rw [if_pos (by
      rcases Bool.or_eq_true_iff.1 hc with h1 | h1
      · exact .inl (by simpa using h1)
      · exact .inr (by simpa using h1))] at hsp
    rw [hsp]
    refine .go ?_; repeat constructor
    (apply EL.loadAggB; exact rfl; exact rfl; exact rfl; exact rfl; exact rfl; (case hm => repeat constructor); exact rfl)
    (apply EL.storeAll; exact rfl; exact rfl; exact rfl; exact rfl; exact rfl; (case p => repeat constructor); exact rfl; (case h1 => exact (by first | rfl | exact all1 rfl | (intro u hu; simp only [List.mem_cons, List.not_mem_nil, or_false] at hu; rcases hu with rfl | rfl | rfl | rfl <;> rfl) | (intro u hu; simp at hu; rcases hu with rfl | rfl | rfl | rfl <;> rfl) | (intro u hu; simp at hu; rcases hu with rfl | rfl | rfl <;> rfl) | (intro u hu; simp at hu; rcases hu with rfl | rfl <;> rfl) | (intro u hu; simp at hu; obtain ⟨_, _, rfl⟩ := hu; rfl))))
    refine .go ?_; repeat constructor
    exact PX.ret rfl Tryd.results42 (.cons (.blkA rfl rfl rfl (by repeat constructor) rfl) .nil) (fun w hs => ⟨(), rfl, hs.ent (.i (by repeat constructor))⟩)
  rw [Bool.or_eq_false_iff] at hc
  have he0 : ie = 0 := by simpa using hc.1
  have hda : dashM t ia = true := by simpa using hc.2
  subst he0
  rw [if_neg (by rw [hda]; simp)] at hsp
  have hlt := dash_lt hda
  refine .go ?_; repeat constructor
  refine EL.move rfl rfl rfl ?_
  refine EL.nilCheck rfl rfl rfl ?_
  refine EL.fieldAddr rfl rfl rfl rfl rfl rfl rfl rfl ?_
  (apply EL.loadB; exact rfl; exact rfl; exact rfl; exact rfl; exact rfl; (case hm => repeat constructor); exact rfl)
  refine EL.add1 rfl rfl rfl rfl (by omega) ?_
  refine EL.nilCheck rfl rfl rfl ?_
  refine EL.fieldAddr rfl rfl rfl rfl rfl rfl rfl rfl ?_
  (apply EL.storeB; exact rfl; exact rfl; exact rfl; exact rfl; exact rfl; exact rfl; (case p => repeat constructor); exact (by first | decide | exact Nat.le_of_ble_eq_true rfl | simp))
  refine .go ?_; repeat constructor
  refine ES.draw (X := Unit) (fun _ => [(0, Pv g 0), (2, Pv g2 0), (3, Pv g3 0), (4, Uv ib), (5, .bool ising), (41, .bool (decide ((t.length : Int) ≤ ((ia + 1 : Nat) : Int))))]) (fun _ => SB g3 ⟨s0, s1, s2, s3⟩ :: RD g t (ia + 1) 0 :: SB g2 zeroS :: R) (SB g3 ⟨s0, s1, s2, s3⟩ :: RD g t (ia + 1) 0 :: SB g2 zeroS :: R) mixed (.i (by repeat constructor)) ?_ (fun _ => ?_)
  · refine ED.take 0 rfl (by decide +kernel) CutX.no_panic (by decide +kernel) rfl rfl rfl (RV.move rfl) ?_
    refine ED.take 1 rfl (by decide +kernel) CutX.no_panic (by decide +kernel) rfl rfl rfl (RV.nilCheck rfl) ?_
    refine ED.take 2 rfl (by decide +kernel) CutX.no_panic (by decide +kernel) rfl rfl rfl (RV.fieldAddr rfl rfl rfl rfl rfl rfl) ?_
    refine ED.take 3 rfl (by decide +kernel) CutX.no_panic (by decide +kernel) rfl rfl rfl (RV.loadB rfl rfl rfl (by repeat constructor) rfl) ?_
    refine ED.take 4 rfl (by decide +kernel) CutX.no_panic (by decide +kernel) rfl rfl rfl (RV.move rfl) ?_
    refine ED.take 5 rfl (by decide +kernel) CutX.no_panic (by decide +kernel) rfl rfl rfl (RV.nilCheck rfl) ?_
    refine ED.take 6 rfl (by decide +kernel) CutX.no_panic (by decide +kernel) rfl rfl rfl (RV.fieldAddr rfl rfl rfl rfl rfl rfl) ?_
    refine ED.take 7 rfl (by decide +kernel) CutX.no_panic (by decide +kernel) rfl rfl rfl (RV.loadB rfl rfl rfl (by repeat constructor) rfl) ?_
    refine ED.take 8 rfl (by decide +kernel) CutX.no_panic (by decide +kernel) rfl rfl rfl (RV.lenS rfl rfl rfl) ?_
    refine ED.take 9 rfl (by decide +kernel) CutX.no_panic (by decide +kernel) rfl rfl rfl (RV.geq rfl rfl) ?_
    refine ED.done (by decide +kernel) ?_
    exact PX.cutX () ⟨rfl, rfl, rfl, rfl, rfl, rfl, trivial⟩ (.i (by repeat constructor))
  refine ES.condD rfl (fun hge => ?_) (fun hlt2 => ?_)
  · rw [if_pos (by omega)] at hsp
    rw [hsp]
    refine .go ?_; repeat constructor
    refine EL.move rfl rfl rfl ?_
    refine EL.nilCheck rfl rfl rfl ?_
    refine EL.fieldAddr rfl rfl rfl rfl rfl rfl rfl rfl ?_
    (apply EL.storeB; exact rfl; exact rfl; exact rfl; exact rfl; exact rfl; exact rfl; (case p => repeat constructor); exact (by first | decide | exact Nat.le_of_ble_eq_true rfl | simp))
    refine .go ?_; repeat constructor
    (apply EL.loadAggB; exact rfl; exact rfl; exact rfl; exact rfl; exact rfl; (case hm => repeat constructor); exact rfl)
    (apply EL.storeAll; exact rfl; exact rfl; exact rfl; exact rfl; exact rfl; (case p => repeat constructor); exact rfl; (case h1 => exact (by first | rfl | exact all1 rfl | (intro u hu; simp only [List.mem_cons, List.not_mem_nil, or_false] at hu; rcases hu with rfl | rfl | rfl | rfl <;> rfl) | (intro u hu; simp at hu; rcases hu with rfl | rfl | rfl | rfl <;> rfl) | (intro u hu; simp at hu; rcases hu with rfl | rfl | rfl <;> rfl) | (intro u hu; simp at hu; rcases hu with rfl | rfl <;> rfl) | (intro u hu; simp at hu; obtain ⟨_, _, rfl⟩ := hu; rfl))))
    refine .go ?_; repeat constructor
    exact PX.ret rfl Tryd.results42 (.cons (.blkA rfl rfl rfl (by repeat constructor) rfl) .nil) (fun w hs => ⟨(), rfl, hs.ent (.i (by repeat constructor))⟩)
  rw [if_neg (by omega)] at hsp
  refine .go ?_; repeat constructor
  refine EL.move rfl rfl rfl ?_
  refine EL.not rfl rfl rfl ?_
  refine .go ?_; repeat constructor
  refine ES.cond rfl (fun hs1 => ?_) (fun hs1 => ?_)
  · rw [if_pos (by simpa using hs1)] at hsp
    rw [hsp]
    refine .go ?_; repeat constructor
    refine EL.move rfl rfl rfl ?_
    refine EL.nilCheck rfl rfl rfl ?_
    refine EL.fieldAddr rfl rfl rfl rfl rfl rfl rfl rfl ?_
    (apply EL.storeB; exact rfl; exact rfl; exact rfl; exact rfl; exact rfl; exact rfl; (case p => repeat constructor); exact (by first | decide | exact Nat.le_of_ble_eq_true rfl | simp))
    refine .go ?_; repeat constructor
    (apply EL.loadAggB; exact rfl; exact rfl; exact rfl; exact rfl; exact rfl; (case hm => repeat constructor); exact rfl)
    (apply EL.storeAll; exact rfl; exact rfl; exact rfl; exact rfl; exact rfl; (case p => repeat constructor); exact rfl; (case h1 => exact (by first | rfl | exact all1 rfl | (intro u hu; simp only [List.mem_cons, List.not_mem_nil, or_false] at hu; rcases hu with rfl | rfl | rfl | rfl <;> rfl) | (intro u hu; simp at hu; rcases hu with rfl | rfl | rfl | rfl <;> rfl) | (intro u hu; simp at hu; rcases hu with rfl | rfl | rfl <;> rfl) | (intro u hu; simp at hu; rcases hu with rfl | rfl <;> rfl) | (intro u hu; simp at hu; obtain ⟨_, _, rfl⟩ := hu; rfl))))
    refine .go ?_; repeat constructor
    exact PX.ret rfl Tryd.results42 (.cons (.blkA rfl rfl rfl (by repeat constructor) rfl) .nil) (fun w hs => ⟨(), rfl, hs.ent (.i (by repeat constructor))⟩)
  rw [if_neg (by simpa using hs1)] at hsp
  have hja := item_at t (ia + 1) (by omega)
  have hjc := item_c g t (ia + 1) (by omega) ht w0 B hG
  generalize itemM t (ia + 1) = j at hja hjc hsp
  obtain ⟨⟨u0, u1, u2, u3⟩, jb, jsing, ja, je⟩ := j
  dsimp only at hja hjc hsp
  refine .go ?_; repeat constructor
  refine EL.move rfl rfl rfl ?_
  refine EL.callMw1 rfl rfl rfl ent56 rfl hjc (by repeat constructor) ?_
  refine EL.move rfl rfl rfl ?_
  refine EL.extract rfl rfl rfl rfl ?_
  refine EL.extract rfl rfl rfl rfl ?_
  refine EL.extract rfl rfl rfl rfl ?_
  (refine EL.alloc rfl rfl rfl ?_; intro g6)
  (apply EL.storeAll; exact rfl; exact rfl; exact rfl; exact rfl; exact rfl; (case p => repeat constructor); exact rfl; (case h1 => exact (by first | rfl | exact all1 rfl | (intro u hu; simp only [List.mem_cons, List.not_mem_nil, or_false] at hu; rcases hu with rfl | rfl | rfl | rfl <;> rfl) | (intro u hu; simp at hu; rcases hu with rfl | rfl | rfl | rfl <;> rfl) | (intro u hu; simp at hu; rcases hu with rfl | rfl | rfl <;> rfl) | (intro u hu; simp at hu; rcases hu with rfl | rfl <;> rfl) | (intro u hu; simp at hu; obtain ⟨_, _, rfl⟩ := hu; rfl))))
  refine EL.assign rfl rfl rfl ?_
  refine EL.assign rfl rfl rfl ?_
  refine .go ?_; repeat constructor
  refine EL.move rfl rfl rfl ?_
  refine EL.nilCheck rfl rfl rfl ?_
  refine EL.fieldAddr rfl rfl rfl rfl rfl rfl rfl rfl ?_
  (apply EL.loadB; exact rfl; exact rfl; exact rfl; exact rfl; exact rfl; (case hm => repeat constructor); exact rfl)
  refine EL.neqI rfl rfl rfl rfl ?_
  refine .go ?_; repeat constructor
  refine ES.condN rfl (fun hne => ?_) (fun heq => ?_)
  · rw [if_pos hne] at hsp
    rw [hsp]
    refine .go ?_; repeat constructor
    (apply EL.loadAggB; exact rfl; exact rfl; exact rfl; exact rfl; exact rfl; (case hm => repeat constructor); exact rfl)
    (apply EL.storeAll; exact rfl; exact rfl; exact rfl; exact rfl; exact rfl; (case p => repeat constructor); exact rfl; (case h1 => exact (by first | rfl | exact all1 rfl | (intro u hu; simp only [List.mem_cons, List.not_mem_nil, or_false] at hu; rcases hu with rfl | rfl | rfl | rfl <;> rfl) | (intro u hu; simp at hu; rcases hu with rfl | rfl | rfl | rfl <;> rfl) | (intro u hu; simp at hu; rcases hu with rfl | rfl | rfl <;> rfl) | (intro u hu; simp at hu; rcases hu with rfl | rfl <;> rfl) | (intro u hu; simp at hu; obtain ⟨_, _, rfl⟩ := hu; rfl))))
    refine .go ?_; repeat constructor
    exact PX.ret rfl Tryd.results42 (.cons (.blkA rfl rfl rfl (by repeat constructor) rfl) .nil) (fun w hs => ⟨(), rfl, hs.ent (.i (by repeat constructor))⟩)
  rw [if_neg (by simpa using heq)] at hsp
  subst heq
  refine .go ?_; repeat constructor
  refine EL.move rfl rfl rfl ?_
  refine EL.not rfl rfl rfl ?_
  refine .go ?_; repeat constructor
  refine ES.cond rfl (fun hs2 => ?_) (fun hs2 => ?_)
  · rw [if_pos (by simpa using hs2)] at hsp
    rw [hsp]
    refine .go ?_; repeat constructor
    refine EL.move rfl rfl rfl ?_
    refine EL.nilCheck rfl rfl rfl ?_
    refine EL.fieldAddr rfl rfl rfl rfl rfl rfl rfl rfl ?_
    (apply EL.storeB; exact rfl; exact rfl; exact rfl; exact rfl; exact rfl; exact rfl; (case p => repeat constructor); exact (by first | decide | exact Nat.le_of_ble_eq_true rfl | simp))
    refine .go ?_; repeat constructor
    (apply EL.loadAggB; exact rfl; exact rfl; exact rfl; exact rfl; exact rfl; (case hm => repeat constructor); exact rfl)
    (apply EL.storeAll; exact rfl; exact rfl; exact rfl; exact rfl; exact rfl; (case p => repeat constructor); exact rfl; (case h1 => exact (by first | rfl | exact all1 rfl | (intro u hu; simp only [List.mem_cons, List.not_mem_nil, or_false] at hu; rcases hu with rfl | rfl | rfl | rfl <;> rfl) | (intro u hu; simp at hu; rcases hu with rfl | rfl | rfl | rfl <;> rfl) | (intro u hu; simp at hu; rcases hu with rfl | rfl | rfl <;> rfl) | (intro u hu; simp at hu; rcases hu with rfl | rfl <;> rfl) | (intro u hu; simp at hu; obtain ⟨_, _, rfl⟩ := hu; rfl))))
    refine .go ?_; repeat constructor
    exact PX.ret rfl Tryd.results42 (.cons (.blkA rfl rfl rfl (by repeat constructor) rfl) .nil) (fun w hs => ⟨(), rfl, hs.ent (.i (by repeat constructor))⟩)
  rw [if_neg (by simpa using hs2)] at hsp
  have hspc := span_c ib jb
  obtain ⟨q, hq⟩ : ∃ q, q = spanM ib jb := ⟨_, rfl⟩
  rw [← hq] at hspc hsp
  obtain ⟨⟨v0, v1, v2, v3⟩, qe⟩ := q
  dsimp only at hspc hsp
  refine .go ?_; repeat constructor
  refine EL.move rfl rfl rfl ?_
  refine EL.move rfl rfl rfl ?_
  refine EL.move rfl rfl rfl ?_
  refine EL.callP rfl rfl rfl ent58 rfl hspc ?_
  refine EL.move rfl rfl rfl ?_
  refine EL.extract rfl rfl rfl rfl ?_
  refine EL.extract rfl rfl rfl rfl ?_
  (apply EL.storeAll; exact rfl; exact rfl; exact rfl; exact rfl; exact rfl; (case p => repeat constructor); exact rfl; (case h1 => exact (by first | rfl | exact all1 rfl | (intro u hu; simp only [List.mem_cons, List.not_mem_nil, or_false] at hu; rcases hu with rfl | rfl | rfl | rfl <;> rfl) | (intro u hu; simp at hu; rcases hu with rfl | rfl | rfl | rfl <;> rfl) | (intro u hu; simp at hu; rcases hu with rfl | rfl | rfl <;> rfl) | (intro u hu; simp at hu; rcases hu with rfl | rfl <;> rfl) | (intro u hu; simp at hu; obtain ⟨_, _, rfl⟩ := hu; rfl))))
  refine EL.nilCheck rfl rfl rfl ?_
  refine EL.fieldAddr rfl rfl rfl rfl rfl rfl rfl rfl ?_
  (apply EL.storeB; exact rfl; exact rfl; exact rfl; exact rfl; exact rfl; exact rfl; (case p => repeat constructor); exact (by first | decide | exact Nat.le_of_ble_eq_true rfl | simp))
  refine .go ?_; repeat constructor
  refine EL.cutX (X := Unit) (fun _ => [(0, Pv g 0), (2, Pv g2 0), (3, Pv g3 0), (87, .bool (decide (qe = 0) && dashM t ja))]) (fun _ => SB g3 ⟨v0, v1, v2, v3⟩ :: RD g t ja qe :: SB g2 zeroS :: R) ?_ (fun _ => ?_)
  · refine .go ?_; repeat constructor
    refine EL.move rfl rfl rfl ?_
    refine EL.nilCheck rfl rfl rfl ?_
    refine EL.fieldAddr rfl rfl rfl rfl rfl rfl rfl rfl ?_
    (apply EL.loadB; exact rfl; exact rfl; exact rfl; exact rfl; exact rfl; (case hm => repeat constructor); exact rfl)
    refine EL.eqlI rfl rfl rfl rfl ?_
    refine EL.move rfl rfl rfl ?_
    first | refine EL.splitD (d := 84) rfl (fun hp84 => ?_) (fun hp84 => ?_) | refine EL.splitN (d := 84) rfl (fun hp84 => ?_) (fun hp84 => ?_) | refine EL.splitB (d := 84) rfl (fun hp84 => ?_) (fun hp84 => ?_)
    · refine EL.move rfl rfl rfl ?_
      refine EL.callMw1 rfl rfl rfl ent57 rfl (dash_c g t ja qe ht hja.2.1 _ _) (by repeat constructor) ?_
      refine EL.pickT rfl rfl rfl rfl ?_
      exact EL.endX () ⟨rfl, rfl, rfl, getA rfl (congrArg Value.bool (by simp_all)), trivial⟩ (.i (by repeat constructor))
    · refine EL.pass rfl rfl rfl ?_
      refine EL.pass rfl rfl rfl ?_
      refine EL.pickF rfl rfl rfl rfl ?_
      exact EL.endX () ⟨rfl, rfl, rfl, getA rfl (congrArg Value.bool (by simp_all)), trivial⟩ (.i (by repeat constructor))
  refine ES.cond rfl (fun hb => ?_) (fun hb => ?_)
  · rw [if_pos (by simpa using hb)] at hsp
    rw [hsp]
    refine .go ?_; repeat constructor
    refine EL.move rfl rfl rfl ?_
    refine EL.nilCheck rfl rfl rfl ?_
    refine EL.fieldAddr rfl rfl rfl rfl rfl rfl rfl rfl ?_
    (apply EL.storeB; exact rfl; exact rfl; exact rfl; exact rfl; exact rfl; exact rfl; (case p => repeat constructor); exact (by first | decide | exact Nat.le_of_ble_eq_true rfl | simp))
    refine .go ?_; repeat constructor
    (apply EL.loadAggB; exact rfl; exact rfl; exact rfl; exact rfl; exact rfl; (case hm => repeat constructor); exact rfl)
    (apply EL.storeAll; exact rfl; exact rfl; exact rfl; exact rfl; exact rfl; (case p => repeat constructor); exact rfl; (case h1 => exact (by first | rfl | exact all1 rfl | (intro u hu; simp only [List.mem_cons, List.not_mem_nil, or_false] at hu; rcases hu with rfl | rfl | rfl | rfl <;> rfl) | (intro u hu; simp at hu; rcases hu with rfl | rfl | rfl | rfl <;> rfl) | (intro u hu; simp at hu; rcases hu with rfl | rfl | rfl <;> rfl) | (intro u hu; simp at hu; rcases hu with rfl | rfl <;> rfl) | (intro u hu; simp at hu; obtain ⟨_, _, rfl⟩ := hu; rfl))))
    refine .go ?_; repeat constructor
    exact PX.ret rfl Tryd.results42 (.cons (.blkA rfl rfl rfl (by repeat constructor) rfl) .nil) (fun w hs => ⟨(), rfl, hs.ent (.i (by repeat constructor))⟩)
  · rw [if_neg (by intro hh; rw [hh.1, hh.2] at hb; simp at hb)] at hsp
    rw [hsp]
    refine .go ?_; repeat constructor
    (apply EL.loadAggB; exact rfl; exact rfl; exact rfl; exact rfl; exact rfl; (case hm => repeat constructor); exact rfl)
    (apply EL.storeAll; exact rfl; exact rfl; exact rfl; exact rfl; exact rfl; (case p => repeat constructor); exact rfl; (case h1 => exact (by first | rfl | exact all1 rfl | (intro u hu; simp only [List.mem_cons, List.not_mem_nil, or_false] at hu; rcases hu with rfl | rfl | rfl | rfl <;> rfl) | (intro u hu; simp at hu; rcases hu with rfl | rfl | rfl | rfl <;> rfl) | (intro u hu; simp at hu; rcases hu with rfl | rfl | rfl <;> rfl) | (intro u hu; simp at hu; rcases hu with rfl | rfl <;> rfl) | (intro u hu; simp at hu; obtain ⟨_, _, rfl⟩ := hu; rfl))))
    refine .go ?_; repeat constructor
    exact PX.ret rfl Tryd.results42 (.cons (.blkA rfl rfl rfl (by repeat constructor) rfl) .nil) (fun w hs => ⟨(), rfl, hs.ent (.i (by repeat constructor))⟩)
def brBad (t : List UInt8) (a : Nat) : Bool := decide ((t.length : Int) ≤ (a : Int)) || !decide (((t.getD a 0).toNat : Int) = 91)
def brNot (t : List UInt8) (a : Nat) : Bool := decide (((a + 1 : Nat) : Int) < (t.length : Int)) && decide (((t.getD (a + 1) 0).toNat : Int) = 94)
def brEnd (t : List UInt8) (a : Nat) (first : Bool) : Bool := decide (((t.getD a 0).toNat : Int) = 93) && !first
theorem brBad_false {t : List UInt8} {a : Nat} (h : brBad t a = false) : a < t.length ∧ (t.getD a 0).toNat = 91 := by
  unfold brBad at h
  simp only [Bool.or_eq_false_iff, Bool.not_eq_false', decide_eq_true_eq, decide_eq_false_iff_not] at h
  exact ⟨by omega, by omega⟩
theorem brNot_true {t : List UInt8} {a : Nat} (h : brNot t a = true) : a + 1 < t.length := by
  unfold brNot at h
  simp only [Bool.and_eq_true, decide_eq_true_eq] at h
  omega
def brGo (t : List UInt8) : Nat → Nat → Bool → BS → Sp
  | 0, _, _, _ => ⟨zeroS, 0, 6⟩
  | n + 1, a, first, s =>
    if t.length ≤ a then ⟨zeroS, 0, 6⟩
    else if brEnd t a first = true then ⟨s, a + 1, 0⟩
    else if (spanT t a).e ≠ 0 then ⟨zeroS, 0, (spanT t a).e⟩
    else brGo t n (spanT t a).at_ false (orS s (spanT t a).set)
def brFrom (t : List UInt8) (a : Nat) : Sp := brGo t (t.length + 1 - a) a true zeroS
def brackM (t : List UInt8) (a : Nat) : Sp :=
  if brBad t a = true then ⟨zeroS, 0, 1⟩
  else if brNot t a = true then ⟨if (brFrom t (a + 2)).e = 0 then notS (brFrom t (a + 2)).set else (brFrom t (a + 2)).set, (brFrom t (a + 2)).at_, (brFrom t (a + 2)).e⟩
  else brFrom t (a + 1)
def brOut (nt : Bool) (r : Sp) : Sp := if nt = true then ⟨if r.e = 0 then notS r.set else r.set, r.at_, r.e⟩ else r
theorem brOut_bad (nt : Bool) (e : Int) (h : e ≠ 0) : brOut nt ⟨zeroS, 0, e⟩ = ⟨zeroS, 0, e⟩ := by
  unfold brOut
  split
  · simp [h]
  · rfl
theorem brGo_next (t : List UInt8) : ∀ (n a : Nat) (f : Bool) (s : BS), a ≤ t.length → (brGo t n a f s).e = 0 → a < (brGo t n a f s).at_ ∧ (brGo t n a f s).at_ ≤ t.length
  | 0, _, _, _, _, h => by simp [brGo] at h
  | n + 1, a, f, s, ha, h => by
    rw [brGo] at h ⊢
    split at h
    · simp at h
    · rename_i h1
      rw [if_neg h1]
      split at h
      · rename_i h2
        rw [if_pos h2]
        simp only
        omega
      · rename_i h2
        rw [if_neg h2]
        split at h
        · rename_i h3; exact absurd h h3
        · rename_i h3
          rw [if_neg h3]
          have hs := span_at t a (by omega)
          have := brGo_next t n _ _ _ hs.2.1 h
          have := hs.2.2 (by simpa using h3)
          omega
theorem brack_next (t : List UInt8) (a : Nat) (h : (brackM t a).e = 0) : a + 1 < (brackM t a).at_ ∧ (brackM t a).at_ ≤ t.length := by
  unfold brackM at h ⊢
  split at h
  · simp at h
  · rename_i h1
    have hb := brBad_false (by simpa using h1)
    rw [if_neg h1]
    split at h
    · rename_i h2
      have := brNot_true h2
      rw [if_pos h2]
      have := brGo_next t _ (a + 2) true zeroS (by omega) h
      exact ⟨by have := this.1; simp only [brFrom]; omega, this.2⟩
    · rename_i h2
      rw [if_neg h2]
      have := brGo_next t _ (a + 1) true zeroS (by omega) h
      exact this
def BrI (t : List UInt8) (res : Sp) (a : Nat) (first : Bool) (s : BS) (e : Int) : Prop :=
  (e = 0 ∧ a ≤ t.length + 1 ∧ ∃ n, t.length + 1 ≤ n + a ∧ brGo t n a first s = res) ∨ (e ≠ 0 ∧ res = ⟨zeroS, 0, e⟩)
theorem brParse_c (t : List UInt8) (a : Nat) (ht : t.length ≤ 1073741824) (ha : a ≤ 1073741824) (w : World) (hG : GR w w.heap.size) :
    Pure Tryd.prog 29 #[Sv t, Iv (a : Nat)] (fun _ : Unit => .tuple #[Bs (brackM t a).set, Iv ((brackM t a).at_ : Nat), Iv (brackM t a).e]) (fun _ => []) w := by
  refine calls_of_ES TB Tryd.func29 rfl _ Tryd.ntmps29 rfl (Sat.start w) ?_
  refine .go ?_; repeat constructor
  (refine EL.alloc rfl rfl rfl ?_; intro g4)
  refine EL.assign rfl rfl rfl ?_
  refine EL.assign rfl rfl rfl ?_
  refine .go ?_; repeat constructor
  refine EL.cutX (X := Unit) (fun _ => [(0, Sv t), (1, Iv (a : Nat)), (4, Pv g4 0), (24, .bool (brBad t a))]) (fun _ => [SB g4 zeroS]) ?_ (fun _ => ?_)
  · refine .go ?_; repeat constructor
    refine EL.move rfl rfl rfl ?_
    refine EL.lss rfl rfl rfl rfl ?_
    refine EL.move rfl rfl rfl ?_
    refine EL.rew (d := 13) (v' := .bool false) rfl (congrArg Value.bool (decide_eq_false (by omega))) ?_
    refine EL.move rfl rfl rfl ?_
    refine EL.move rfl rfl rfl ?_
    refine EL.lenS rfl rfl rfl rfl rfl ?_
    refine EL.geq rfl rfl rfl rfl ?_
    refine EL.pickF rfl rfl rfl rfl ?_
    refine EL.move rfl rfl rfl ?_
    first | refine EL.splitD (d := 19) rfl (fun hp19 => ?_) (fun hp19 => ?_) | refine EL.splitN (d := 19) rfl (fun hp19 => ?_) (fun hp19 => ?_) | refine EL.splitB (d := 19) rfl (fun hp19 => ?_) (fun hp19 => ?_)
    · refine EL.pass rfl rfl rfl ?_
      refine EL.pass rfl rfl rfl ?_
      refine EL.pass rfl rfl rfl ?_
      refine EL.pass rfl rfl rfl ?_
      refine EL.pickT rfl rfl rfl rfl ?_
      exact EL.endX () ⟨rfl, rfl, rfl, getA rfl (congrArg Value.bool (by unfold brBad; simp_all <;> omega)), trivial⟩ (.i (by repeat constructor))
    · refine EL.move rfl rfl rfl ?_
      refine EL.move rfl rfl rfl ?_
      refine EL.indexSN rfl rfl rfl rfl rfl rfl (by omega) ?_
      refine EL.neqI rfl rfl rfl rfl ?_
      refine EL.pickF rfl rfl rfl rfl ?_
      exact EL.endX () ⟨rfl, rfl, rfl, getA rfl (congrArg Value.bool (by unfold brBad; simp_all <;> omega)), trivial⟩ (.i (by repeat constructor))
  refine ES.cond rfl (fun hbad => ?_) (fun hok => ?_)
  · have hm : brackM t a = ⟨zeroS, 0, 1⟩ := by unfold brackM; rw [if_pos hbad]
    rw [hm]
    refine .go ?_; repeat constructor
    refine EL.buildZA rfl rfl rfl rfl rfl ?_
    (apply EL.storeAll; exact rfl; exact rfl; exact rfl; exact rfl; exact rfl; (case p => repeat constructor); exact rfl; (case h1 => exact (by first | rfl | exact all1 rfl | (intro u hu; simp only [List.mem_cons, List.not_mem_nil, or_false] at hu; rcases hu with rfl | rfl | rfl | rfl <;> rfl) | (intro u hu; simp at hu; rcases hu with rfl | rfl | rfl | rfl <;> rfl) | (intro u hu; simp at hu; rcases hu with rfl | rfl | rfl <;> rfl) | (intro u hu; simp at hu; rcases hu with rfl | rfl <;> rfl) | (intro u hu; simp at hu; obtain ⟨_, _, rfl⟩ := hu; rfl))))
    refine EL.assign rfl rfl rfl ?_
    refine EL.assign rfl rfl rfl ?_
    refine .go ?_; repeat constructor
    exact PX.ret rfl Tryd.results29 (.cons (.blkA rfl rfl rfl (by repeat constructor) rfl) (.cons (.tmp rfl) (.cons (.tmp rfl) .nil))) (fun w hs => ⟨(), rfl, hs.ent (.i (by repeat constructor))⟩)
  have hok2 := brBad_false hok
  obtain ⟨nt, hnt⟩ : ∃ nt, nt = brNot t a := ⟨_, rfl⟩
  refine .go ?_; repeat constructor
  refine EL.move rfl rfl rfl ?_
  refine EL.move rfl rfl rfl ?_
  refine EL.add1 rfl rfl rfl rfl (by omega) ?_
  refine EL.buildS #[Sv t, Iv ((a + 1 : Nat) : Int), Iv 0] rfl rfl rfl rfl rfl rfl rfl ?_
  (refine EL.box rfl rfl rfl ?_; intro g30)
  refine EL.assign rfl rfl rfl ?_
  refine .go ?_; repeat constructor
  refine EL.cutX (X := Unit) (fun _ => [(0, Sv t), (4, Pv g4 0), (7, Pv g30 0), (8, .bool nt)]) (fun _ => [RD g30 t (a + 1) 0, SB g4 zeroS]) ?_ (fun _ => ?_)
  · refine .go ?_; repeat constructor
    refine EL.move rfl rfl rfl ?_
    refine EL.nilCheck rfl rfl rfl ?_
    refine EL.fieldAddr rfl rfl rfl rfl rfl rfl rfl rfl ?_
    (apply EL.loadB; exact rfl; exact rfl; exact rfl; exact rfl; exact rfl; (case hm => repeat constructor); exact rfl)
    refine EL.move rfl rfl rfl ?_
    refine EL.lenS rfl rfl rfl rfl rfl ?_
    refine EL.lss rfl rfl rfl rfl ?_
    refine EL.move rfl rfl rfl ?_
    first | refine EL.splitD (d := 38) rfl (fun hp38 => ?_) (fun hp38 => ?_) | refine EL.splitN (d := 38) rfl (fun hp38 => ?_) (fun hp38 => ?_) | refine EL.splitB (d := 38) rfl (fun hp38 => ?_) (fun hp38 => ?_)
    · refine EL.move rfl rfl rfl ?_
      refine EL.move rfl rfl rfl ?_
      refine EL.nilCheck rfl rfl rfl ?_
      refine EL.fieldAddr rfl rfl rfl rfl rfl rfl rfl rfl ?_
      (apply EL.loadB; exact rfl; exact rfl; exact rfl; exact rfl; exact rfl; (case hm => repeat constructor); exact rfl)
      refine EL.indexSN rfl rfl rfl rfl rfl rfl (by omega) ?_
      refine EL.eqlI rfl rfl rfl rfl ?_
      refine EL.pickT rfl rfl rfl rfl ?_
      refine EL.assign rfl rfl rfl ?_
      exact EL.endX () ⟨rfl, rfl, rfl, getA rfl (congrArg Value.bool (by rw [hnt]; unfold brNot; simp_all <;> omega)), trivial⟩ (.i (by repeat constructor))
    · refine EL.pass rfl rfl rfl ?_
      refine EL.pass rfl rfl rfl ?_
      refine EL.pass rfl rfl rfl ?_
      refine EL.pass rfl rfl rfl ?_
      refine EL.pass rfl rfl rfl ?_
      refine EL.pass rfl rfl rfl ?_
      refine EL.pass rfl rfl rfl ?_
      refine EL.pickF rfl rfl rfl rfl ?_
      refine EL.assign rfl rfl rfl ?_
      exact EL.endX () ⟨rfl, rfl, rfl, getA rfl (congrArg Value.bool (by rw [hnt]; unfold brNot; simp_all <;> omega)), trivial⟩ (.i (by repeat constructor))
  refine .go ?_; repeat constructor
  refine EL.move rfl rfl rfl ?_
  refine .go ?_; repeat constructor
  refine ES.cutC (X := Unit) (fun _ => [(0, Sv t), (4, Pv g4 0), (7, Pv g30 0), (8, .bool nt)]) (fun _ => [RD g30 t (if nt = true then a + 2 else a + 1) 0, SB g4 zeroS]) ?_ (fun _ => ?_)
  · refine ES.cond rfl (fun hn => ?_) (fun hn => ?_)
    · rw [if_pos hn]
      refine .go ?_; repeat constructor
      refine EL.move rfl rfl rfl ?_
      refine EL.nilCheck rfl rfl rfl ?_
      refine EL.fieldAddr rfl rfl rfl rfl rfl rfl rfl rfl ?_
      (apply EL.loadB; exact rfl; exact rfl; exact rfl; exact rfl; exact rfl; (case hm => repeat constructor); exact rfl)
      refine EL.add1 rfl rfl rfl rfl (by omega) ?_
      refine EL.nilCheck rfl rfl rfl ?_
      refine EL.fieldAddr rfl rfl rfl rfl rfl rfl rfl rfl ?_
      (apply EL.storeB; exact rfl; exact rfl; exact rfl; exact rfl; exact rfl; exact rfl; (case p => repeat constructor); exact (by first | decide | exact Nat.le_of_ble_eq_true rfl | simp))
      refine .go ?_; repeat constructor
      exact PX.cutX () ⟨rfl, rfl, rfl, rfl, trivial⟩ (.i (by repeat constructor))
    · rw [if_neg (by rw [hn]; decide)]
      refine .go ?_; repeat constructor
      exact PX.cutX () ⟨rfl, rfl, rfl, rfl, trivial⟩ (.i (by repeat constructor))
  have hm : brackM t a = brOut nt (brFrom t (if nt = true then a + 2 else a + 1)) := by
    unfold brackM brOut
    rw [if_neg (by rw [hok]; decide), ← hnt]
    split <;> rfl
  rw [hm]
  have hfrom : (if nt = true then a + 2 else a + 1) ≤ t.length := by
    split
    · rename_i hn
      rw [hnt] at hn
      have := brNot_true hn
      omega
    · omega
  generalize (if nt = true then a + 2 else a + 1) = from_ at hfrom ⊢
  obtain ⟨res, hres⟩ : ∃ res, res = brFrom t from_ := ⟨_, rfl⟩
  rw [← hres]
  refine .go ?_; repeat constructor
  (refine EL.alloc rfl rfl rfl ?_; intro g9)
  refine .go ?_; repeat constructor
  refine EL.assign rfl rfl rfl ?_
  refine .go ?_; repeat constructor
  refine ES.loop (σ := Nat × Bool × BS × Int) (fun (a, first, s, e) => BrI t res a first s e) (fun (a, first, s, e) => [(0, Sv t), (4, Pv g4 0), (7, Pv g30 0), (8, .bool nt), (9, Pv g9 0), (10, .bool first)])
    (fun (a, first, s, e) => [RD g30 t a e, SB g9 s, SB g4 zeroS]) (fun (a, first, s, e) => if e = 0 then t.length + 2 - a else 0) (from_, true, zeroS, 0) (.inl ⟨rfl, by omega, t.length + 1 - from_, by omega, by rw [hres]; rfl⟩) ⟨rfl, rfl, rfl, rfl, rfl, rfl, trivial⟩ (.i (by repeat constructor)) ?_
  rintro ⟨a, first, s, e⟩ hI
  dsimp only at hI ⊢
  refine .go ?_; repeat constructor
  refine EL.move rfl rfl rfl ?_
  refine EL.nilCheck rfl rfl rfl ?_
  refine EL.fieldAddr rfl rfl rfl rfl rfl rfl rfl rfl ?_
  (apply EL.loadB; exact rfl; exact rfl; exact rfl; exact rfl; exact rfl; (case hm => repeat constructor); exact rfl)
  refine EL.eqlI rfl rfl rfl rfl ?_
  refine .go ?_; repeat constructor
  refine ES.condD rfl (fun he => ?_) (fun hne => ?_)
  · subst he
    obtain ⟨hale, n, hn, hgo⟩ : a ≤ t.length + 1 ∧ ∃ n, t.length + 1 ≤ n + a ∧ brGo t n a first s = res := by
      rcases hI with ⟨_, h⟩ | ⟨hh, _⟩
      · exact h
      · exact absurd rfl hh
    refine .go ?_; repeat constructor
    refine EL.move rfl rfl rfl ?_
    refine EL.nilCheck rfl rfl rfl ?_
    refine EL.fieldAddr rfl rfl rfl rfl rfl rfl rfl rfl ?_
    (apply EL.loadB; exact rfl; exact rfl; exact rfl; exact rfl; exact rfl; (case hm => repeat constructor); exact rfl)
    refine EL.move rfl rfl rfl ?_
    refine EL.lenS rfl rfl rfl rfl rfl ?_
    refine EL.geq rfl rfl rfl rfl ?_
    refine .go ?_; repeat constructor
    refine ES.condD rfl (fun hge => ?_) (fun hlt => ?_)
    · have hr : res = ⟨zeroS, 0, 6⟩ := by
        rw [← hgo]
        cases n with
        | zero => rfl
        | succ n => rw [brGo, if_pos (by omega)]
      rw [hr, brOut_bad nt 6 (by decide)]
      refine .go ?_; repeat constructor
      refine EL.move rfl rfl rfl ?_
      refine EL.nilCheck rfl rfl rfl ?_
      refine EL.fieldAddr rfl rfl rfl rfl rfl rfl rfl rfl ?_
      (apply EL.storeB; exact rfl; exact rfl; exact rfl; exact rfl; exact rfl; exact rfl; (case p => repeat constructor); exact (by first | decide | exact Nat.le_of_ble_eq_true rfl | simp))
      refine .go ?_; repeat constructor
      refine ES.draw (X := Unit) (fun _ => [(4, Pv g4 0), (5, Iv 0), (6, Iv 6)]) (fun _ => [SB g4 zeroS]) [RD g30 t a 6] mixed (.i (by repeat constructor)) ?_ (fun _ => ?_)
      · refine ED.take 1 rfl (by decide +kernel) CutX.no_panic (by decide +kernel) rfl rfl rfl (RV.move rfl) ?_
        refine ED.take 2 rfl (by decide +kernel) CutX.no_panic (by decide +kernel) rfl rfl rfl (RV.nilCheck rfl) ?_
        refine ED.take 3 rfl (by decide +kernel) CutX.no_panic (by decide +kernel) rfl rfl rfl (RV.fieldAddr rfl rfl rfl rfl rfl rfl) ?_
        refine ED.take 4 rfl (by decide +kernel) CutX.no_panic (by decide +kernel) rfl rfl rfl (RV.loadB rfl rfl rfl (by repeat constructor) rfl) ?_
        refine ED.loud 0 rfl (by decide +kernel) ?_
        refine EL.buildZA rfl rfl rfl rfl rfl ?_
        refine ED.next (.i (by repeat constructor)) ?_
        refine ED.loud 5 rfl (by decide +kernel) ?_
        (apply EL.storeAll; exact rfl; exact rfl; exact rfl; exact rfl; exact rfl; (case p => repeat constructor); exact rfl; (case h1 => exact (by first | rfl | exact all1 rfl | (intro u hu; simp only [List.mem_cons, List.not_mem_nil, or_false] at hu; rcases hu with rfl | rfl | rfl | rfl <;> rfl) | (intro u hu; simp at hu; rcases hu with rfl | rfl | rfl | rfl <;> rfl) | (intro u hu; simp at hu; rcases hu with rfl | rfl | rfl <;> rfl) | (intro u hu; simp at hu; rcases hu with rfl | rfl <;> rfl) | (intro u hu; simp at hu; obtain ⟨_, _, rfl⟩ := hu; rfl))))
        refine ED.next (.i (by repeat constructor)) ?_
        refine ED.take 6 rfl (by decide +kernel) CutX.no_panic (by decide +kernel) rfl rfl rfl (RV.assign rfl) ?_
        refine ED.take 7 rfl (by decide +kernel) CutX.no_panic (by decide +kernel) rfl rfl rfl (RV.assign rfl) ?_
        refine ED.done (by decide +kernel) ?_
        exact PX.cutX () ⟨rfl, rfl, rfl, trivial⟩ (.i (by repeat constructor))
      refine .go ?_; repeat constructor
      exact PX.ret rfl Tryd.results29 (.cons (.blkA rfl rfl rfl (by repeat constructor) rfl) (.cons (.tmp rfl) (.cons (.tmp rfl) .nil))) (fun w hs => ⟨(), rfl, hs.ent (.i (by repeat constructor))⟩)
    · have hlt' : a < t.length := by omega
      obtain ⟨m, rfl⟩ : ∃ m, n = m + 1 := ⟨n - 1, by omega⟩
      rw [brGo, if_neg (by omega)] at hgo
      have hsa := span_at t a hlt'
      have hsc := spanR_c g30 t a hlt' ht _ _ hG
      refine .go ?_; repeat constructor
      refine EL.cutX (X := Unit) (fun _ => [(0, Sv t), (4, Pv g4 0), (7, Pv g30 0), (8, .bool nt), (9, Pv g9 0), (80, .bool (brEnd t a first))]) (fun _ => [RD g30 t a 0, SB g9 s, SB g4 zeroS]) ?_ (fun _ => ?_)
      · refine .go ?_; repeat constructor
        refine EL.move rfl rfl rfl ?_
        refine EL.move rfl rfl rfl ?_
        refine EL.nilCheck rfl rfl rfl ?_
        refine EL.fieldAddr rfl rfl rfl rfl rfl rfl rfl rfl ?_
        (apply EL.loadB; exact rfl; exact rfl; exact rfl; exact rfl; exact rfl; (case hm => repeat constructor); exact rfl)
        refine EL.indexSN rfl rfl rfl rfl rfl rfl (by omega) ?_
        refine EL.eqlI rfl rfl rfl rfl ?_
        refine EL.move rfl rfl rfl ?_
        first | refine EL.splitD (d := 77) rfl (fun hp77 => ?_) (fun hp77 => ?_) | refine EL.splitN (d := 77) rfl (fun hp77 => ?_) (fun hp77 => ?_) | refine EL.splitB (d := 77) rfl (fun hp77 => ?_) (fun hp77 => ?_)
        · refine EL.move rfl rfl rfl ?_
          refine EL.not rfl rfl rfl ?_
          refine EL.pickT rfl rfl rfl rfl ?_
          exact EL.endX () ⟨rfl, rfl, rfl, rfl, rfl, getA rfl (congrArg Value.bool (by unfold brEnd; simp_all <;> omega)), trivial⟩ (.i (by repeat constructor))
        · refine EL.pass rfl rfl rfl ?_
          refine EL.pass rfl rfl rfl ?_
          refine EL.pickF rfl rfl rfl rfl ?_
          exact EL.endX () ⟨rfl, rfl, rfl, rfl, rfl, getA rfl (congrArg Value.bool (by unfold brEnd; simp_all <;> omega)), trivial⟩ (.i (by repeat constructor))
      refine ES.cond rfl (fun hend => ?_) (fun hnend => ?_)
      · rw [if_pos hend] at hgo
        rw [← hgo]
        refine .go ?_; repeat constructor
        refine EL.move rfl rfl rfl ?_
        refine .go ?_; repeat constructor
        cases nt
        · refine ES.condF rfl ?_
          refine .g0 ?_; repeat constructor
          refine ES.draw (X := Unit) (fun _ => [(4, Pv g4 0), (5, Iv ((a + 1 : Nat) : Int)), (6, Iv 0)]) (fun _ => [SB g4 s]) [RD g30 t a 0, SB g9 s] mixed (.i (by repeat constructor)) ?_ (fun _ => ?_)
          · refine ED.take 0 rfl (by decide +kernel) CutX.no_panic (by decide +kernel) rfl rfl rfl (RV.loadAggB rfl rfl rfl (by repeat constructor) rfl) ?_
            refine ED.take 1 rfl (by decide +kernel) CutX.no_panic (by decide +kernel) rfl rfl rfl (RV.move rfl) ?_
            refine ED.take 2 rfl (by decide +kernel) CutX.no_panic (by decide +kernel) rfl rfl rfl (RV.nilCheck rfl) ?_
            refine ED.take 3 rfl (by decide +kernel) CutX.no_panic (by decide +kernel) rfl rfl rfl (RV.fieldAddr rfl rfl rfl rfl rfl rfl) ?_
            refine ED.take 4 rfl (by decide +kernel) CutX.no_panic (by decide +kernel) rfl rfl rfl (RV.loadB rfl rfl rfl (by repeat constructor) rfl) ?_
            refine ED.take 5 rfl (by decide +kernel) CutX.no_panic (by decide +kernel) rfl rfl rfl (RV.add1 rfl rfl (by omega)) ?_
            refine ED.loud 6 rfl (by decide +kernel) ?_
            (apply EL.storeAll; exact rfl; exact rfl; exact rfl; exact rfl; exact rfl; (case p => repeat constructor); exact rfl; (case h1 => exact (by first | rfl | exact all1 rfl | (intro u hu; simp only [List.mem_cons, List.not_mem_nil, or_false] at hu; rcases hu with rfl | rfl | rfl | rfl <;> rfl) | (intro u hu; simp at hu; rcases hu with rfl | rfl | rfl | rfl <;> rfl) | (intro u hu; simp at hu; rcases hu with rfl | rfl | rfl <;> rfl) | (intro u hu; simp at hu; rcases hu with rfl | rfl <;> rfl) | (intro u hu; simp at hu; obtain ⟨_, _, rfl⟩ := hu; rfl))))
            refine ED.next (.i (by repeat constructor)) ?_
            refine ED.take 7 rfl (by decide +kernel) CutX.no_panic (by decide +kernel) rfl rfl rfl (RV.assign rfl) ?_
            refine ED.take 8 rfl (by decide +kernel) CutX.no_panic (by decide +kernel) rfl rfl rfl (RV.assign rfl) ?_
            refine ED.done (by decide +kernel) ?_
            exact PX.cutX () ⟨rfl, rfl, rfl, trivial⟩ (.i (by repeat constructor))
          refine .go ?_; repeat constructor
          exact PX.ret rfl Tryd.results29 (.cons (.blkA rfl rfl rfl (by repeat constructor) rfl) (.cons (.tmp rfl) (.cons (.tmp rfl) .nil))) (fun w hs => ⟨(), rfl, hs.ent (.i (by repeat constructor))⟩)
        · refine ES.condT rfl ?_
          refine .go ?_; repeat constructor
          (apply EL.loadAggB; exact rfl; exact rfl; exact rfl; exact rfl; exact rfl; (case hm => repeat constructor); exact rfl)
          refine EL.callP rfl rfl rfl ent31 rfl (not_c s) ?_
          (apply EL.storeAll; exact rfl; exact rfl; exact rfl; exact rfl; exact rfl; (case p => repeat constructor); exact rfl; (case h1 => exact (by first | rfl | exact all1 rfl | (intro u hu; simp only [List.mem_cons, List.not_mem_nil, or_false] at hu; rcases hu with rfl | rfl | rfl | rfl <;> rfl) | (intro u hu; simp at hu; rcases hu with rfl | rfl | rfl | rfl <;> rfl) | (intro u hu; simp at hu; rcases hu with rfl | rfl | rfl <;> rfl) | (intro u hu; simp at hu; rcases hu with rfl | rfl <;> rfl) | (intro u hu; simp at hu; obtain ⟨_, _, rfl⟩ := hu; rfl))))
          refine .go ?_; repeat constructor
          refine ES.draw (X := Unit) (fun _ => [(4, Pv g4 0), (5, Iv ((a + 1 : Nat) : Int)), (6, Iv 0)]) (fun _ => [SB g4 (notS s)]) [RD g30 t a 0, SB g9 (notS s)] mixed (.i (by repeat constructor)) ?_ (fun _ => ?_)
          · refine ED.take 0 rfl (by decide +kernel) CutX.no_panic (by decide +kernel) rfl rfl rfl (RV.loadAggB rfl rfl rfl (by repeat constructor) rfl) ?_
            refine ED.take 1 rfl (by decide +kernel) CutX.no_panic (by decide +kernel) rfl rfl rfl (RV.move rfl) ?_
            refine ED.take 2 rfl (by decide +kernel) CutX.no_panic (by decide +kernel) rfl rfl rfl (RV.nilCheck rfl) ?_
            refine ED.take 3 rfl (by decide +kernel) CutX.no_panic (by decide +kernel) rfl rfl rfl (RV.fieldAddr rfl rfl rfl rfl rfl rfl) ?_
            refine ED.take 4 rfl (by decide +kernel) CutX.no_panic (by decide +kernel) rfl rfl rfl (RV.loadB rfl rfl rfl (by repeat constructor) rfl) ?_
            refine ED.take 5 rfl (by decide +kernel) CutX.no_panic (by decide +kernel) rfl rfl rfl (RV.add1 rfl rfl (by omega)) ?_
            refine ED.loud 6 rfl (by decide +kernel) ?_
            (apply EL.storeAll; exact rfl; exact rfl; exact rfl; exact rfl; exact rfl; (case p => repeat constructor); exact rfl; (case h1 => exact (by first | rfl | exact all1 rfl | (intro u hu; simp only [List.mem_cons, List.not_mem_nil, or_false] at hu; rcases hu with rfl | rfl | rfl | rfl <;> rfl) | (intro u hu; simp at hu; rcases hu with rfl | rfl | rfl | rfl <;> rfl) | (intro u hu; simp at hu; rcases hu with rfl | rfl | rfl <;> rfl) | (intro u hu; simp at hu; rcases hu with rfl | rfl <;> rfl) | (intro u hu; simp at hu; obtain ⟨_, _, rfl⟩ := hu; rfl))))
            refine ED.next (.i (by repeat constructor)) ?_
            refine ED.take 7 rfl (by decide +kernel) CutX.no_panic (by decide +kernel) rfl rfl rfl (RV.assign rfl) ?_
            refine ED.take 8 rfl (by decide +kernel) CutX.no_panic (by decide +kernel) rfl rfl rfl (RV.assign rfl) ?_
            refine ED.done (by decide +kernel) ?_
            exact PX.cutX () ⟨rfl, rfl, rfl, trivial⟩ (.i (by repeat constructor))
          refine .go ?_; repeat constructor
          exact PX.ret rfl Tryd.results29 (.cons (.blkA rfl rfl rfl (by repeat constructor) rfl) (.cons (.tmp rfl) (.cons (.tmp rfl) .nil))) (fun w hs => ⟨(), rfl, hs.ent (.i (by repeat constructor))⟩)
      · rw [if_neg (by rw [hnend]; decide)] at hgo
        refine .g0 ?_; repeat constructor
        refine ES.draw (X := Unit) (fun _ => [(0, Sv t), (4, Pv g4 0), (7, Pv g30 0), (8, .bool nt), (9, Pv g9 0)]) (fun _ => [RD g30 t (spanT t a).at_ (spanT t a).e, SB g9 (orS s (spanT t a).set), SB g4 zeroS]) [SB g9 s, SB g4 zeroS] mixed (.i (by repeat constructor)) ?_ (fun _ => ?_)
        · refine ED.take 0 rfl (by decide +kernel) CutX.no_panic (by decide +kernel) rfl rfl rfl (RV.loadAggB rfl rfl rfl (by repeat constructor) rfl) ?_
          refine ED.take 1 rfl (by decide +kernel) CutX.no_panic (by decide +kernel) rfl rfl rfl (RV.move rfl) ?_
          refine ED.loud 2 rfl (by decide +kernel) ?_
          refine EL.callMw1 rfl rfl rfl ent42 rfl hsc (by repeat constructor) ?_
          refine ED.next (.i (by repeat constructor)) ?_
          refine ED.loud 3 rfl (by decide +kernel) ?_
          refine EL.callP rfl rfl rfl ent41 rfl (or_c s (spanT t a).set) ?_
          refine ED.next (.i (by repeat constructor)) ?_
          refine ED.last 4 rfl (by decide +kernel) (by decide +kernel) (by decide +kernel) ?_
          (apply EL.storeAll; exact rfl; exact rfl; exact rfl; exact rfl; exact rfl; (case p => repeat constructor); exact rfl; (case h1 => exact (by first | rfl | exact all1 rfl | (intro u hu; simp only [List.mem_cons, List.not_mem_nil, or_false] at hu; rcases hu with rfl | rfl | rfl | rfl <;> rfl) | (intro u hu; simp at hu; rcases hu with rfl | rfl | rfl | rfl <;> rfl) | (intro u hu; simp at hu; rcases hu with rfl | rfl | rfl <;> rfl) | (intro u hu; simp at hu; rcases hu with rfl | rfl <;> rfl) | (intro u hu; simp at hu; obtain ⟨_, _, rfl⟩ := hu; rfl))))
          refine EL.endQ ?_
          exact PX.cutX () ⟨rfl, rfl, rfl, rfl, rfl, trivial⟩ (.i (by repeat constructor))
        refine .go ?_; repeat constructor
        refine EL.assign rfl rfl rfl ?_
        refine .go ?_; repeat constructor
        refine PX.loop ((spanT t a).at_, false, orS s (spanT t a).set, (spanT t a).e) ?_ ?_ ⟨rfl, rfl, rfl, rfl, rfl, rfl, trivial⟩ (.i (by repeat constructor))
        · by_cases he : (spanT t a).e = 0
          · rw [if_neg (by simpa using he)] at hgo
            have := hsa.2.2 he
            exact .inl ⟨he, by omega, m, by omega, hgo⟩
          · rw [if_pos he] at hgo
            exact .inr ⟨he, hgo.symm⟩
        · simp only [if_true]
          split
          · rename_i he
            have := hsa.2.2 he
            omega
          · omega
  · rcases hI with ⟨hh, _⟩ | ⟨_, hr⟩
    · exact absurd hh hne
    rw [hr, brOut_bad nt e hne]
    refine .g0 ?_; repeat constructor
    refine ES.draw (X := Unit) (fun _ => [(4, Pv g4 0), (5, Iv 0), (6, Iv e)]) (fun _ => [SB g4 zeroS]) [RD g30 t a e] mixed (.i (by repeat constructor)) ?_ (fun _ => ?_)
    · refine ED.take 1 rfl (by decide +kernel) CutX.no_panic (by decide +kernel) rfl rfl rfl (RV.move rfl) ?_
      refine ED.take 2 rfl (by decide +kernel) CutX.no_panic (by decide +kernel) rfl rfl rfl (RV.nilCheck rfl) ?_
      refine ED.take 3 rfl (by decide +kernel) CutX.no_panic (by decide +kernel) rfl rfl rfl (RV.fieldAddr rfl rfl rfl rfl rfl rfl) ?_
      refine ED.take 4 rfl (by decide +kernel) CutX.no_panic (by decide +kernel) rfl rfl rfl (RV.loadB rfl rfl rfl (by repeat constructor) rfl) ?_
      refine ED.loud 0 rfl (by decide +kernel) ?_
      refine EL.buildZA rfl rfl rfl rfl rfl ?_
      refine ED.next (.i (by repeat constructor)) ?_
      refine ED.loud 5 rfl (by decide +kernel) ?_
      (apply EL.storeAll; exact rfl; exact rfl; exact rfl; exact rfl; exact rfl; (case p => repeat constructor); exact rfl; (case h1 => exact (by first | rfl | exact all1 rfl | (intro u hu; simp only [List.mem_cons, List.not_mem_nil, or_false] at hu; rcases hu with rfl | rfl | rfl | rfl <;> rfl) | (intro u hu; simp at hu; rcases hu with rfl | rfl | rfl | rfl <;> rfl) | (intro u hu; simp at hu; rcases hu with rfl | rfl | rfl <;> rfl) | (intro u hu; simp at hu; rcases hu with rfl | rfl <;> rfl) | (intro u hu; simp at hu; obtain ⟨_, _, rfl⟩ := hu; rfl))))
      refine ED.next (.i (by repeat constructor)) ?_
      refine ED.take 6 rfl (by decide +kernel) CutX.no_panic (by decide +kernel) rfl rfl rfl (RV.assign rfl) ?_
      refine ED.take 7 rfl (by decide +kernel) CutX.no_panic (by decide +kernel) rfl rfl rfl (RV.assign rfl) ?_
      refine ED.done (by decide +kernel) ?_
      exact PX.cutX () ⟨rfl, rfl, rfl, trivial⟩ (.i (by repeat constructor))
    refine .go ?_; repeat constructor
    exact PX.ret rfl Tryd.results29 (.cons (.blkA rfl rfl rfl (by repeat constructor) rfl) (.cons (.tmp rfl) (.cons (.tmp rfl) .nil))) (fun w hs => ⟨(), rfl, hs.ent (.i (by repeat constructor))⟩)
end Go.Proofs.YtcoajnpneableaaDoor
namespace Go.Proofs.YtcoajnpneableaaDoor
open Go Go.RowKit Sl
set_option maxRecDepth 100000
set_option maxHeartbeats 8000000
set_option linter.unusedVariables false
set_option linter.unusedSimpArgs false
attribute [local irreducible] ES EL PX wps
inductive RE where
  | cat (ks : List RE)
  | byte (s : BS)
  | bol
  | eol
  | group (n : Nat) (k : RE)
  | rep (lo : Nat) (hi : Int) (k : RE)
  | back (n : Nat)
deriving Inhabited
def RE.kind : RE → Nat
  | .cat _ => 0
  | .byte _ => 1
  | .bol => 2
  | .eol => 3
  | .group .. => 4
  | .rep .. => 5
  | .back _ => 6
def RE.set : RE → BS
  | .byte s => s
  | _ => zeroS
def RE.lo : RE → Nat
  | .rep lo _ _ => lo
  | _ => 0
def RE.hi : RE → Int
  | .rep _ hi _ => hi
  | _ => 0
def RE.num : RE → Nat
  | .group n _ => n
  | .back n => n
  | _ => 0
def RE.kids : RE → List RE
  | .cat ks => ks
  | .group _ k => [k]
  | .rep _ _ k => [k]
  | _ => []
structure Tok where
  kind : Nat
  at_ : Nat
  set : BS
  lo : Int
  hi : Int
  e : Int
def badT (a : Nat) (e : Int) : Tok := ⟨7, a, zeroS, 0, 0, e⟩
def byteT (a : Nat) (s : BS) : Tok := ⟨0, a, s, 0, 0, 0⟩
def oneT (a : Nat) (b : UInt8) : Tok := byteT a (ofS [b])
def isDig (b : UInt8) : Bool := decide (48 ≤ b.toNat ∧ b.toNat ≤ 57)
def numGo (t : List UInt8) : Nat → Nat → Nat → Nat × Nat
  | 0, n, a => (n, a)
  | k + 1, n, a => if a < t.length ∧ isDig (t.getD a 0) = true then numGo t k (min (10 * n + ((t.getD a 0).toNat - 48)) 256) (a + 1) else (n, a)
def numM (t : List UInt8) (a : Nat) : Int × Nat :=
  let r := numGo t (t.length - a) 0 a
  (if r.2 = a then -1 else (r.1 : Int), r.2)
def ivM (t : List UInt8) (a : Nat) : Option (Nat × Int × Nat) :=
  let l := numM t a
  let h := if l.2 < t.length ∧ t.getD l.2 0 = 44 then numM t (l.2 + 1) else l
  if l.1 < 0 ∨ 255 < l.1 ∨ 255 < h.1 ∨ (0 ≤ h.1 ∧ h.1 < l.1) then none
  else if t.length < h.2 + 2 ∨ (t.drop h.2).take 2 ≠ [92, 125] then none
  else some (l.1.toNat, h.1, h.2 + 2)
def isAln (b : UInt8) : Bool := isDig b || decide (97 ≤ (b ||| 32).toNat ∧ (b ||| 32).toNat ≤ 122)
def escT (t : List UInt8) (a : Nat) (begin_ : Bool) : Tok × Nat :=
  if a + 1 = t.length then (badT a 6, a)
  else
    let b := t.getD (a + 1) 0
    if b.toNat = 40 then (⟨3, a, zeroS, 0, 0, 0⟩, a + 2)
    else if b.toNat = 41 then (⟨4, a, zeroS, 0, 0, 0⟩, a + 2)
    else if b.toNat = 123 then
      match ivM t (a + 2) with
      | none => (badT a 9, a)
      | some (lo, hi, n) => if begin_ = true then (badT a 9, a) else (⟨5, a, zeroS, (lo : Int), hi, 0⟩, n)
    else if b.toNat = 125 then (badT a 9, a)
    else if b.toNat = 110 then (oneT a 10, a + 2)
    else if 49 ≤ b.toNat ∧ b.toNat ≤ 57 then (⟨6, a, zeroS, ((b.toNat - 48 : Nat) : Int), 0, 0⟩, a + 2)
    else if isAln b = true then (badT a 12, a)
    else (oneT a b, a + 2)
def eolM (t : List UInt8) (a : Nat) : Bool := decide (a + 1 = t.length) || (decide (a + 2 < t.length) && decide ((t.drop (a + 1)).take 2 = [92, 41]))
def readT (t : List UInt8) (a : Nat) (first begin_ : Bool) : Tok × Nat :=
  let b := t.getD a 0
  if b.toNat = 92 then escT t a begin_
  else if b.toNat = 91 then (if (brackM t a).e ≠ 0 then (badT a (brackM t a).e, a) else (byteT a (brackM t a).set, (brackM t a).at_))
  else if b.toNat = 46 then (byteT a (notS zeroS), a + 1)
  else if b.toNat = 42 ∧ begin_ = false then (⟨5, a, zeroS, 0, -1, 0⟩, a + 1)
  else if b.toNat = 94 ∧ first = true then (⟨1, a, zeroS, 0, 0, 0⟩, a + 1)
  else if b.toNat = 36 ∧ eolM t a = true then (⟨2, a, zeroS, 0, 0, 0⟩, a + 1)
  else (oneT a b, a + 1)
def toksGo (t : List UInt8) : Nat → Nat → Bool → Bool → List Tok
  | 0, _, _, _ => []
  | n + 1, a, first, begin_ =>
    if t.length ≤ a then []
    else
      let r := readT t a first begin_
      if r.1.kind = 7 then [r.1] else r.1 :: toksGo t n r.2 (decide (r.1.kind = 3)) (decide (r.1.kind = 3) || decide (r.1.kind = 1))
def toksM (t : List UInt8) : List Tok := toksGo t t.length 0 true true
structure Frame where
  kids : List RE
  sizes : List Nat
  group : Nat
  at_ : Nat
structure PS where
  top : Frame
  rest : List Frame
  groups : Nat
  shut : List Bool
  size : Nat
def Frame.put (f : Frame) (r : RE) (n : Nat) : Frame := { f with kids := f.kids ++ [r], sizes := f.sizes ++ [n] }
def growE (n : Nat) : Int := if 256 < n then 13 else 0
def timesM (lo : Nat) (hi : Int) : Nat := if hi < 0 then max lo 1 else hi.toNat
def takeM (p : PS) (k : Tok) : PS × Int :=
  match k.kind with
  | 0 => ({ p with top := p.top.put (.byte k.set) 1, size := p.size + 1 }, growE (p.size + 1))
  | 1 => ({ p with top := p.top.put .bol 0 }, 0)
  | 2 => ({ p with top := p.top.put .eol 0 }, 0)
  | 3 => if p.groups = 9 then (p, 4) else ({ p with top := ⟨[], [], p.groups + 1, k.at_⟩, rest := p.top :: p.rest, groups := p.groups + 1 }, 0)
  | 4 => match p.rest with
    | [] => (p, 10)
    | f :: r => ({ p with top := f.put (.group p.top.group (.cat p.top.kids)) p.top.sizes.sum, rest := r, shut := p.shut.set p.top.group true }, 0)
  | 5 =>
    let old := p.top.sizes.getLastD 0
    let f := { p.top with kids := p.top.kids.dropLast ++ [.rep k.lo.toNat k.hi (p.top.kids.getLastD .bol)], sizes := p.top.sizes.dropLast ++ [old * timesM k.lo.toNat k.hi] }
    ({ p with top := f, size := p.size - old + old * timesM k.lo.toNat k.hi }, growE (p.size - old + old * timesM k.lo.toNat k.hi))
  | 6 => if p.shut.getD k.lo.toNat false = true then ({ p with top := p.top.put (.back k.lo.toNat) 1, size := p.size + 1 }, growE (p.size + 1)) else (p, 11)
  | _ => (p, k.e)
structure Parsed where
  tree : RE
  e : Int
  at_ : Nat
def endM (p : PS) : Parsed := match p.rest with
  | [] => ⟨.cat p.top.kids, 0, 0⟩
  | _ => ⟨.cat [], 10, p.top.at_⟩
def parseGo : List Tok → PS → Parsed
  | [], p => endM p
  | k :: ks, p => if (takeM p k).2 ≠ 0 then ⟨.cat [], (takeM p k).2, k.at_⟩ else parseGo ks (takeM p k).1
def ps0 : PS := ⟨⟨[], [], 0, 0⟩, [], 0, List.replicate 10 false, 0⟩
def parseM (t : List UInt8) : Parsed := if 512 < t.length then ⟨.cat [], 2, 0⟩ else parseGo (toksM t) ps0
def Frame.tot (f : Frame) : Nat := f.sizes.sum
structure PS.Ok (p : PS) : Prop where
  len : ∀ f ∈ p.top :: p.rest, f.kids.length = f.sizes.length
  tot : p.size = p.top.tot + (p.rest.map Frame.tot).sum
  le : p.size ≤ 256
  shut : p.shut.length = 10
  groups : p.groups ≤ 9
  num : ∀ f ∈ p.top :: p.rest, f.group ≤ 9
theorem ps0_ok : ps0.Ok := ⟨by simp [ps0], by simp [ps0, Frame.tot], by simp [ps0], by simp [ps0], by simp [ps0], by simp [ps0]⟩
end Go.Proofs.YtcoajnpneableaaDoor
namespace Go.Proofs.YtcoajnpneableaaDoor
open Go Go.RowKit Sl
set_option maxRecDepth 100000
set_option maxHeartbeats 8000000
set_option linter.unusedVariables false
set_option linter.unusedSimpArgs false
attribute [local irreducible] ES EL PX wps
mutual
def posR : RE → Nat
  | .cat ks => posL ks
  | .byte _ => 1
  | .bol => 0
  | .eol => 0
  | .group _ k => posR k
  | .rep lo hi k => posR k * timesM lo hi
  | .back _ => 1
def posL : List RE → Nat
  | [] => 0
  | k :: ks => posR k + posL ks
end
theorem posL_sum : ∀ ks : List RE, posL ks = (ks.map posR).sum
  | [] => rfl
  | k :: ks => by rw [posL, posL_sum ks, List.map_cons, List.sum_cons]
theorem posR_cat (ks : List RE) : posR (.cat ks) = (ks.map posR).sum := by rw [posR, posL_sum]
structure DR where
  at_ : Nat
  e : Int
  place : Nat
  groups : Nat
  closed : List Bool
  size : Int
def DR.fail (r : DR) (e : Int) (a : Nat) : DR := if r.e = 0 then { r with e := e, place := a } else r
def DR.grown (r : DR) (n : Int) (a : Nat) : DR := if 256 < r.size + n then DR.fail { r with size := r.size + n } 13 a else { r with size := r.size + n }
def DR.to (r : DR) (a : Nat) : DR := { r with at_ := a }
def see2 (t : List UInt8) (a : Nat) (x y : UInt8) : Bool := decide (a + 2 ≤ t.length) && decide ((t.drop a).take 2 = [x, y])
def dEsc (t : List UInt8) (r : DR) : RE × DR :=
  if r.at_ + 1 = t.length then (.cat [], r.fail 6 r.at_)
  else
    let b := t.getD (r.at_ + 1) 0
    let r1 := r.to (r.at_ + 2)
    if b.toNat = 110 then (.byte (ofS [10]), r1.grown 1 r.at_)
    else if 49 ≤ b.toNat ∧ b.toNat ≤ 57 then (.back (b.toNat - 48), (if r1.closed.getD (b.toNat - 48) false = true then r1 else r1.fail 11 r.at_).grown 1 r.at_)
    else if isAln b = true then (.byte (ofS [b]), (r1.fail 12 r.at_).grown 1 r.at_)
    else (.byte (ofS [b]), r1.grown 1 r.at_)
def dLeaf (t : List UInt8) (r : DR) (first : Bool) : RE × DR :=
  let b := t.getD r.at_ 0
  if see2 t r.at_ 92 123 = true ∨ see2 t r.at_ 92 125 = true then (.cat [], r.fail 9 r.at_)
  else if b.toNat = 92 then dEsc t r
  else if b.toNat = 91 then (if (brackM t r.at_).e ≠ 0 then (.cat [], r.fail (brackM t r.at_).e r.at_) else (.byte (brackM t r.at_).set, (r.to (brackM t r.at_).at_).grown 1 r.at_))
  else if b.toNat = 94 ∧ first = true then (.bol, r.to (r.at_ + 1))
  else if b.toNat = 36 ∧ (r.at_ + 1 = t.length ∨ see2 t (r.at_ + 1) 92 41 = true) then (.eol, r.to (r.at_ + 1))
  else if b.toNat = 46 then (.byte (notS zeroS), (r.to (r.at_ + 1)).grown 1 r.at_)
  else (.byte (ofS [b]), (r.to (r.at_ + 1)).grown 1 r.at_)
def ivA (t : List UInt8) (a : Nat) : Nat := (if (numM t a).2 < t.length ∧ t.getD (numM t a).2 0 = 44 then numM t ((numM t a).2 + 1) else numM t a).2
def dReps (t : List UInt8) : Nat → RE → DR → RE × DR
  | 0, p, r => (p, r)
  | n + 1, p, r =>
    if r.e ≠ 0 then (p, r)
    else if decide (r.at_ < t.length) && decide ((t.getD r.at_ 0).toNat = 42) then dReps t n (.rep 0 (-1) p) ((r.to (r.at_ + 1)).grown ((posR (.rep 0 (-1) p) : Int) - posR p) r.at_)
    else if see2 t r.at_ 92 123 = true then
      match ivM t (r.at_ + 2) with
      | none => (p, (r.to (ivA t (r.at_ + 2))).fail 9 r.at_)
      | some (lo, hi, a) => dReps t n (.rep lo hi p) ((r.to a).grown ((posR (.rep lo hi p) : Int) - posR p) r.at_)
    else (p, r)
def isAnch : RE → Bool
  | .bol => true
  | .eol => true
  | _ => false
def dRow (t : List UInt8) : Nat → Bool → Nat → List RE → DR → RE × DR
  | 0, _, _, ks, r => (.cat ks, r)
  | n + 1, in_, op, ks, r =>
    if r.e ≠ 0 then (.cat ks, r)
    else if r.at_ = t.length then (.cat ks, if in_ = true then r.fail 10 op else r)
    else if see2 t r.at_ 92 41 = true then (.cat ks, (if in_ = true then r else r.fail 10 r.at_).to (r.at_ + 2))
    else
      let x : RE × DR :=
        if see2 t r.at_ 92 40 = true then
          (if r.groups = 9 then (.cat [], r.fail 4 r.at_)
          else
            let y := dRow t n true r.at_ [] { r with groups := r.groups + 1, at_ := r.at_ + 2 }
            (.group (r.groups + 1) y.1, { y.2 with closed := y.2.closed.set (r.groups + 1) true }))
        else dLeaf t r (decide (ks = []))
      let z := if isAnch x.1 = true then x else dReps t t.length x.1 x.2
      dRow t n in_ op (ks ++ [z.1]) z.2
def dr0 : DR := ⟨0, 0, 0, 0, List.replicate 10 false, 0⟩
def docM (t : List UInt8) : Parsed :=
  if 512 < t.length then ⟨.cat [], 2, 0⟩
  else
    let x := dRow t (t.length + 1) false 0 [] dr0
    if x.2.e ≠ 0 then ⟨.cat [], x.2.e, x.2.place⟩ else ⟨x.1, 0, 0⟩
structure DRel (ks : List RE) (r : DR) (P : PS) : Prop where
  kids : P.top.kids = ks
  sizes : P.top.sizes = ks.map posR
  groups : P.groups = r.groups
  shut : P.shut = r.closed
  size : (P.size : Int) = r.size
  tot : P.top.sizes.sum + (P.rest.map Frame.tot).sum ≤ P.size
  e : r.e = 0
theorem fail_ok {r : DR} (h : r.e = 0) (e : Int) (a : Nat) : r.fail e a = { r with e := e, place := a } := if_pos h
theorem grown_two {r : DR} (h : r.e = 0) (n : Int) (a : Nat) : (growE (r.size + n).toNat = 0 ∧ r.grown n a = { r with size := r.size + n }) ∨ (growE (r.size + n).toNat = 13 ∧ r.grown n a = { r with size := r.size + n, e := 13, place := a }) := by
  unfold DR.grown growE
  by_cases hb : 256 < r.size + n
  · right
    rw [if_pos hb, if_pos (by omega)]
    exact ⟨rfl, fail_ok (r := { r with size := r.size + n }) h 13 a⟩
  · left
    rw [if_neg hb, if_neg (by omega)]
    exact ⟨rfl, rfl⟩
end Go.Proofs.YtcoajnpneableaaDoor
