/- Layer 2 (bset): the document's Not, Or, And; the classes agree. -/
import Derived.Test.YtlianigenfknpaaBd
namespace Go.Proofs.Ytlianigenfknpaa
open Go Go.RowKit Sl
set_option maxRecDepth 100000
set_option maxHeartbeats 8000000
set_option linter.unusedVariables false
set_option linter.unusedSimpArgs false
attribute [local irreducible] ES EL PX wps
attribute [local irreducible] fillS memGo

theorem rnot_c (s : BS) (w : World) : Pure Try.prog 19 #[Bs s] (fun _ : Unit => Bs (notS s)) (fun _ => []) w := by
  obtain ⟨p, hp⟩ : ∃ p : Nat → Bool, p = fun b => !hasS s b := ⟨_, rfl⟩
  have hpi : ∀ i, p i = !hasS s i := fun i => by rw [hp]
  have hm : fillS p 256 = notS s := fill_eq p _ fun k hk => by rw [has_not, hpi]
  refine calls_of_ES TB Try.func19 rfl _ Try.ntmps19 rfl (Sat.start w) ?_
  repeat (first | apply ES.seq | apply ES.skip | apply ES.region | apply EL.nil | apply ES.block | apply ES.nil | apply ES.exit | apply ES.ret | apply PX.hit | (apply PX.miss; exact rfl) | apply PX.then_x | apply PX.then_r | apply PX.block_n | apply PX.block_r | refine PX.then_n (e := .normal) ?_)
  (refine EL.box rfl rfl rfl ?_; intro g1)
  (refine EL.alloc rfl rfl rfl ?_; intro g2)
  repeat (first | apply ES.seq | apply ES.skip | apply ES.region | apply EL.nil | apply ES.block | apply ES.nil | apply ES.exit | apply ES.ret | apply PX.hit | (apply PX.miss; exact rfl) | apply PX.then_x | apply PX.then_r | apply PX.block_n | apply PX.block_r | refine PX.then_n (e := .normal) ?_)
  (refine EL.alloc rfl rfl rfl ?_; intro g3)
  repeat (first | apply ES.seq | apply ES.skip | apply ES.region | apply EL.nil | apply ES.block | apply ES.nil | apply ES.exit | apply ES.ret | apply PX.hit | (apply PX.miss; exact rfl) | apply PX.then_x | apply PX.then_r | apply PX.block_n | apply PX.block_r | refine PX.then_n (e := .normal) ?_)
  refine EL.assign rfl rfl rfl ?_
  repeat (first | apply ES.seq | apply ES.skip | apply ES.region | apply EL.nil | apply ES.block | apply ES.nil | apply ES.exit | apply ES.ret | apply PX.hit | (apply PX.miss; exact rfl) | apply PX.then_x | apply PX.then_r | apply PX.block_n | apply PX.block_r | refine PX.then_n (e := .normal) ?_)
  refine ES.blkEq (g := g3) (o' := .cells (fillS p 0).cells 24) (by repeat (first | exact PickSet.here _ _ _ | apply PickSet.there)) (by rw [← fillS_0 p]; rfl) ?_
  refine ES.loop (σ := Nat) (fun i => i ≤ 256) (fun i => [(1, Pv g1 0), (2, Pv g2 0), (3, Pv g3 0), (4, Iv i)]) (fun i => [SB g3 (fillS p i), SB g2 zeroS, SB g1 s]) (fun i => 256 - i) 0 (by omega) ⟨rfl, rfl, rfl, rfl, trivial⟩ (by repeat (first | exact Ent.nil _ | exact Ent.refl _ | (apply Ent.cons; case p => repeat (first | exact Pick.here _ _ | apply Pick.there)) | apply Ent.drop)) ?_
  intro i hi
  repeat (first | apply ES.seq | apply ES.skip | apply ES.region | apply EL.nil | apply ES.block | apply ES.nil | apply ES.exit | apply ES.ret | apply PX.hit | (apply PX.miss; exact rfl) | apply PX.then_x | apply PX.then_r | apply PX.block_n | apply PX.block_r | refine PX.then_n (e := .normal) ?_)
  refine EL.move rfl rfl rfl ?_
  refine EL.lss rfl rfl rfl rfl ?_
  repeat (first | apply ES.seq | apply ES.skip | apply ES.region | apply EL.nil | apply ES.block | apply ES.nil | apply ES.exit | apply ES.ret | apply PX.hit | (apply PX.miss; exact rfl) | apply PX.then_x | apply PX.then_r | apply PX.block_n | apply PX.block_r | refine PX.then_n (e := .normal) ?_)
  refine ES.condD rfl (fun hlt => ?_) (fun hge => ?_)
  · have hlt' : i < 256 := by omega
    repeat (first | apply ES.seq | apply ES.skip | apply ES.region | apply EL.nil | apply ES.block | apply ES.nil | apply ES.exit | apply ES.ret | apply PX.hit | (apply PX.miss; exact rfl) | apply PX.then_x | apply PX.then_r | apply PX.block_n | apply PX.block_r | refine PX.then_n (e := .normal) ?_)
    (apply EL.loadAggB; exact rfl; exact rfl; exact rfl; exact rfl; exact rfl; (case hm => (repeat (first | exact Mem.here _ _ | apply Mem.there))); exact rfl)
    refine EL.move rfl rfl rfl ?_
    refine EL.callP rfl rfl rfl ent33 rfl (rhas_c s i hlt') ?_
    refine EL.not rfl rfl rfl ?_
    repeat (first | apply ES.seq | apply ES.skip | apply ES.region | apply EL.nil | apply ES.block | apply ES.nil | apply ES.exit | apply ES.ret | apply PX.hit | (apply PX.miss; exact rfl) | apply PX.then_x | apply PX.then_r | apply PX.block_n | apply PX.block_r | refine PX.then_n (e := .normal) ?_)
    refine ES.cutC (X := Unit) (fun _ => [(1, Pv g1 0), (2, Pv g2 0), (3, Pv g3 0), (4, Iv i)]) (fun _ => [SB g3 (fillS p (i + 1)), SB g2 zeroS, SB g1 s]) ?_ (fun _ => ?_)
    · refine ES.cond rfl (fun hb => ?_) (fun hb => ?_)
      · rw [← fillS_y p i (by rw [hpi]; exact hb)]
        repeat (first | apply ES.seq | apply ES.skip | apply ES.region | apply EL.nil | apply ES.block | apply ES.nil | apply ES.exit | apply ES.ret | apply PX.hit | (apply PX.miss; exact rfl) | apply PX.then_x | apply PX.then_r | apply PX.block_n | apply PX.block_r | refine PX.then_n (e := .normal) ?_)
        (apply EL.loadAggB; exact rfl; exact rfl; exact rfl; exact rfl; exact rfl; (case hm => (repeat (first | exact Mem.here _ _ | apply Mem.there))); exact rfl)
        refine EL.move rfl rfl rfl ?_
        refine EL.callP rfl rfl rfl ent24 rfl (with_c (fillS p i) i hlt') ?_
        (apply EL.storeAll; exact rfl; exact rfl; exact rfl; exact rfl; exact rfl; (case p => (repeat (first | exact PickSet.here _ _ _ | apply PickSet.there))); exact rfl; (case h1 => exact (by first | rfl | (intro u hu; simp only [List.mem_cons, List.not_mem_nil, or_false] at hu; rcases hu with rfl | rfl | rfl | rfl <;> rfl) | (intro u hu; simp at hu; rcases hu with rfl | rfl | rfl | rfl <;> rfl) | (intro u hu; simp at hu; rcases hu with rfl | rfl | rfl <;> rfl) | (intro u hu; simp at hu; rcases hu with rfl | rfl <;> rfl) | (intro u hu; simp at hu; obtain ⟨_, _, rfl⟩ := hu; rfl))))
        repeat (first | apply ES.seq | apply ES.skip | apply ES.region | apply EL.nil | apply ES.block | apply ES.nil | apply ES.exit | apply ES.ret | apply PX.hit | (apply PX.miss; exact rfl) | apply PX.then_x | apply PX.then_r | apply PX.block_n | apply PX.block_r | refine PX.then_n (e := .normal) ?_)
        exact PX.cutX () ⟨rfl, rfl, rfl, rfl, trivial⟩ (by repeat (first | exact Ent.nil _ | exact Ent.refl _ | (apply Ent.cons; case p => repeat (first | exact Pick.here _ _ | apply Pick.there)) | apply Ent.drop))
      · rw [fillS_n p i (by rw [hpi]; exact hb)]
        repeat (first | apply ES.seq | apply ES.skip | apply ES.region | apply EL.nil | apply ES.block | apply ES.nil | apply ES.exit | apply ES.ret | apply PX.hit | (apply PX.miss; exact rfl) | apply PX.then_x | apply PX.then_r | apply PX.block_n | apply PX.block_r | refine PX.then_n (e := .normal) ?_)
        exact PX.cutX () ⟨rfl, rfl, rfl, rfl, trivial⟩ (by repeat (first | exact Ent.nil _ | exact Ent.refl _ | (apply Ent.cons; case p => repeat (first | exact Pick.here _ _ | apply Pick.there)) | apply Ent.drop))
    repeat (first | apply ES.seq | apply ES.skip | apply ES.region | apply EL.nil | apply ES.block | apply ES.nil | apply ES.exit | apply ES.ret | apply PX.hit | (apply PX.miss; exact rfl) | apply PX.then_x | apply PX.then_r | apply PX.block_n | apply PX.block_r | refine PX.then_n (e := .normal) ?_)
    refine EL.move rfl rfl rfl ?_
    refine EL.add1 rfl rfl rfl rfl (by omega) ?_
    refine EL.assign rfl rfl rfl ?_
    repeat (first | apply ES.seq | apply ES.skip | apply ES.region | apply EL.nil | apply ES.block | apply ES.nil | apply ES.exit | apply ES.ret | apply PX.hit | (apply PX.miss; exact rfl) | apply PX.then_x | apply PX.then_r | apply PX.block_n | apply PX.block_r | refine PX.then_n (e := .normal) ?_)
    exact PX.loop (i + 1) (by omega) (by omega) ⟨rfl, rfl, rfl, rfl, trivial⟩ (by repeat (first | exact Ent.nil _ | exact Ent.refl _ | (apply Ent.cons; case p => repeat (first | exact Pick.here _ _ | apply Pick.there)) | apply Ent.drop))
  obtain rfl : i = 256 := by omega
  rw [hm]
  repeat (first | apply ES.seq | apply ES.skip | apply ES.region | apply EL.nil | apply ES.block | apply ES.nil | apply ES.exit | apply ES.ret | apply PX.hit | (apply PX.miss; exact rfl) | apply PX.then_x | apply PX.then_r | apply PX.block_n | apply PX.block_r | refine PX.then_n (e := .normal) ?_)
  (apply EL.loadAggB; exact rfl; exact rfl; exact rfl; exact rfl; exact rfl; (case hm => (repeat (first | exact Mem.here _ _ | apply Mem.there))); exact rfl)
  (apply EL.storeAll; exact rfl; exact rfl; exact rfl; exact rfl; exact rfl; (case p => (repeat (first | exact PickSet.here _ _ _ | apply PickSet.there))); exact rfl; (case h1 => exact (by first | rfl | (intro u hu; simp only [List.mem_cons, List.not_mem_nil, or_false] at hu; rcases hu with rfl | rfl | rfl | rfl <;> rfl) | (intro u hu; simp at hu; rcases hu with rfl | rfl | rfl | rfl <;> rfl) | (intro u hu; simp at hu; rcases hu with rfl | rfl | rfl <;> rfl) | (intro u hu; simp at hu; rcases hu with rfl | rfl <;> rfl) | (intro u hu; simp at hu; obtain ⟨_, _, rfl⟩ := hu; rfl))))
  repeat (first | apply ES.seq | apply ES.skip | apply ES.region | apply EL.nil | apply ES.block | apply ES.nil | apply ES.exit | apply ES.ret | apply PX.hit | (apply PX.miss; exact rfl) | apply PX.then_x | apply PX.then_r | apply PX.block_n | apply PX.block_r | refine PX.then_n (e := .normal) ?_)
  exact PX.ret rfl Try.results19 (.cons (.blkA rfl rfl rfl (by repeat (first | exact Mem.here _ _ | apply Mem.there)) rfl) .nil) (fun w hs => ⟨(), rfl, hs.ent (.nil _)⟩)
theorem ror_c (s t : BS) (w : World) : Pure Try.prog 20 #[Bs s, Bs t] (fun _ : Unit => Bs (orS s t)) (fun _ => []) w := by
  obtain ⟨p, hp⟩ : ∃ p : Nat → Bool, p = fun b => hasS s b || hasS t b := ⟨_, rfl⟩
  have hpi : ∀ i, p i = (hasS s i || hasS t i) := fun i => by rw [hp]
  have hm : fillS p 256 = orS s t := fill_eq p _ fun k hk => by rw [has_or, hpi]
  refine calls_of_ES TB Try.func20 rfl _ Try.ntmps20 rfl (Sat.start w) ?_
  repeat (first | apply ES.seq | apply ES.skip | apply ES.region | apply EL.nil | apply ES.block | apply ES.nil | apply ES.exit | apply ES.ret | apply PX.hit | (apply PX.miss; exact rfl) | apply PX.then_x | apply PX.then_r | apply PX.block_n | apply PX.block_r | refine PX.then_n (e := .normal) ?_)
  (refine EL.box rfl rfl rfl ?_; intro g2)
  (refine EL.box rfl rfl rfl ?_; intro g3)
  (refine EL.alloc rfl rfl rfl ?_; intro g4)
  repeat (first | apply ES.seq | apply ES.skip | apply ES.region | apply EL.nil | apply ES.block | apply ES.nil | apply ES.exit | apply ES.ret | apply PX.hit | (apply PX.miss; exact rfl) | apply PX.then_x | apply PX.then_r | apply PX.block_n | apply PX.block_r | refine PX.then_n (e := .normal) ?_)
  (refine EL.alloc rfl rfl rfl ?_; intro g5)
  repeat (first | apply ES.seq | apply ES.skip | apply ES.region | apply EL.nil | apply ES.block | apply ES.nil | apply ES.exit | apply ES.ret | apply PX.hit | (apply PX.miss; exact rfl) | apply PX.then_x | apply PX.then_r | apply PX.block_n | apply PX.block_r | refine PX.then_n (e := .normal) ?_)
  refine EL.assign rfl rfl rfl ?_
  repeat (first | apply ES.seq | apply ES.skip | apply ES.region | apply EL.nil | apply ES.block | apply ES.nil | apply ES.exit | apply ES.ret | apply PX.hit | (apply PX.miss; exact rfl) | apply PX.then_x | apply PX.then_r | apply PX.block_n | apply PX.block_r | refine PX.then_n (e := .normal) ?_)
  refine ES.blkEq (g := g5) (o' := .cells (fillS p 0).cells 24) (by repeat (first | exact PickSet.here _ _ _ | apply PickSet.there)) (by rw [← fillS_0 p]; rfl) ?_
  refine ES.loop (σ := Nat) (fun i => i ≤ 256) (fun i => [(2, Pv g2 0), (3, Pv g3 0), (4, Pv g4 0), (5, Pv g5 0), (6, Iv i)]) (fun i => [SB g5 (fillS p i), SB g4 zeroS, SB g3 t, SB g2 s]) (fun i => 256 - i) 0 (by omega) ⟨rfl, rfl, rfl, rfl, rfl, trivial⟩ (by repeat (first | exact Ent.nil _ | exact Ent.refl _ | (apply Ent.cons; case p => repeat (first | exact Pick.here _ _ | apply Pick.there)) | apply Ent.drop)) ?_
  intro i hi
  repeat (first | apply ES.seq | apply ES.skip | apply ES.region | apply EL.nil | apply ES.block | apply ES.nil | apply ES.exit | apply ES.ret | apply PX.hit | (apply PX.miss; exact rfl) | apply PX.then_x | apply PX.then_r | apply PX.block_n | apply PX.block_r | refine PX.then_n (e := .normal) ?_)
  refine EL.move rfl rfl rfl ?_
  refine EL.lss rfl rfl rfl rfl ?_
  repeat (first | apply ES.seq | apply ES.skip | apply ES.region | apply EL.nil | apply ES.block | apply ES.nil | apply ES.exit | apply ES.ret | apply PX.hit | (apply PX.miss; exact rfl) | apply PX.then_x | apply PX.then_r | apply PX.block_n | apply PX.block_r | refine PX.then_n (e := .normal) ?_)
  refine ES.condD rfl (fun hlt => ?_) (fun hge => ?_)
  · have hlt' : i < 256 := by omega
    repeat (first | apply ES.seq | apply ES.skip | apply ES.region | apply EL.nil | apply ES.block | apply ES.nil | apply ES.exit | apply ES.ret | apply PX.hit | (apply PX.miss; exact rfl) | apply PX.then_x | apply PX.then_r | apply PX.block_n | apply PX.block_r | refine PX.then_n (e := .normal) ?_)
    refine EL.cut [(18, .bool (p i)), (2, Pv g2 0), (3, Pv g3 0), (4, Pv g4 0), (5, Pv g5 0), (6, Iv i)] [SB g5 (fillS p i), SB g4 zeroS, SB g3 t, SB g2 s] ?_ ?_
    · repeat (first | apply ES.seq | apply ES.skip | apply ES.region | apply EL.nil | apply ES.block | apply ES.nil | apply ES.exit | apply ES.ret | apply PX.hit | (apply PX.miss; exact rfl) | apply PX.then_x | apply PX.then_r | apply PX.block_n | apply PX.block_r | refine PX.then_n (e := .normal) ?_)
      (apply EL.loadAggB; exact rfl; exact rfl; exact rfl; exact rfl; exact rfl; (case hm => (repeat (first | exact Mem.here _ _ | apply Mem.there))); exact rfl)
      refine EL.move rfl rfl rfl ?_
      refine EL.callP rfl rfl rfl ent33 rfl (rhas_c s i hlt') ?_
      refine EL.move rfl rfl rfl ?_
      first | refine EL.splitD (d := 14) rfl (fun hp14 => ?_) (fun hp14 => ?_) | refine EL.splitN (d := 14) rfl (fun hp14 => ?_) (fun hp14 => ?_) | refine EL.splitB (d := 14) rfl (fun hp14 => ?_) (fun hp14 => ?_)
      · refine EL.pass rfl rfl rfl ?_
        refine EL.pass rfl rfl rfl ?_
        refine EL.pass rfl rfl rfl ?_
        refine EL.pickT rfl rfl rfl rfl ?_
        exact EL.endK ⟨getB rfl (by rw [hpi]; first | (rw [show hasS s i = true from decide_eq_true hp14]; rfl) | (rw [show hasS s i = false from decide_eq_false hp14]; rfl)), rfl, rfl, rfl, rfl, rfl, trivial⟩ (by repeat (first | exact Ent.nil _ | exact Ent.refl _ | (apply Ent.cons; case p => repeat (first | exact Pick.here _ _ | apply Pick.there)) | apply Ent.drop))
      · (apply EL.loadAggB; exact rfl; exact rfl; exact rfl; exact rfl; exact rfl; (case hm => (repeat (first | exact Mem.here _ _ | apply Mem.there))); exact rfl)
        refine EL.move rfl rfl rfl ?_
        refine EL.callP rfl rfl rfl ent33 rfl (rhas_c t i hlt') ?_
        refine EL.pickF rfl rfl rfl rfl ?_
        exact EL.endK ⟨getB rfl (by rw [hpi]; first | (rw [show hasS s i = true from decide_eq_true hp14]; rfl) | (rw [show hasS s i = false from decide_eq_false hp14]; rfl)), rfl, rfl, rfl, rfl, rfl, trivial⟩ (by repeat (first | exact Ent.nil _ | exact Ent.refl _ | (apply Ent.cons; case p => repeat (first | exact Pick.here _ _ | apply Pick.there)) | apply Ent.drop))
    refine ES.cutC (X := Unit) (fun _ => [(2, Pv g2 0), (3, Pv g3 0), (4, Pv g4 0), (5, Pv g5 0), (6, Iv i)]) (fun _ => [SB g5 (fillS p (i + 1)), SB g4 zeroS, SB g3 t, SB g2 s]) ?_ (fun _ => ?_)
    · refine ES.cond rfl (fun hb => ?_) (fun hb => ?_)
      · rw [← fillS_y p i hb]
        repeat (first | apply ES.seq | apply ES.skip | apply ES.region | apply EL.nil | apply ES.block | apply ES.nil | apply ES.exit | apply ES.ret | apply PX.hit | (apply PX.miss; exact rfl) | apply PX.then_x | apply PX.then_r | apply PX.block_n | apply PX.block_r | refine PX.then_n (e := .normal) ?_)
        (apply EL.loadAggB; exact rfl; exact rfl; exact rfl; exact rfl; exact rfl; (case hm => (repeat (first | exact Mem.here _ _ | apply Mem.there))); exact rfl)
        refine EL.move rfl rfl rfl ?_
        refine EL.callP rfl rfl rfl ent24 rfl (with_c (fillS p i) i hlt') ?_
        (apply EL.storeAll; exact rfl; exact rfl; exact rfl; exact rfl; exact rfl; (case p => (repeat (first | exact PickSet.here _ _ _ | apply PickSet.there))); exact rfl; (case h1 => exact (by first | rfl | (intro u hu; simp only [List.mem_cons, List.not_mem_nil, or_false] at hu; rcases hu with rfl | rfl | rfl | rfl <;> rfl) | (intro u hu; simp at hu; rcases hu with rfl | rfl | rfl | rfl <;> rfl) | (intro u hu; simp at hu; rcases hu with rfl | rfl | rfl <;> rfl) | (intro u hu; simp at hu; rcases hu with rfl | rfl <;> rfl) | (intro u hu; simp at hu; obtain ⟨_, _, rfl⟩ := hu; rfl))))
        repeat (first | apply ES.seq | apply ES.skip | apply ES.region | apply EL.nil | apply ES.block | apply ES.nil | apply ES.exit | apply ES.ret | apply PX.hit | (apply PX.miss; exact rfl) | apply PX.then_x | apply PX.then_r | apply PX.block_n | apply PX.block_r | refine PX.then_n (e := .normal) ?_)
        exact PX.cutX () ⟨rfl, rfl, rfl, rfl, rfl, trivial⟩ (by repeat (first | exact Ent.nil _ | exact Ent.refl _ | (apply Ent.cons; case p => repeat (first | exact Pick.here _ _ | apply Pick.there)) | apply Ent.drop))
      · rw [fillS_n p i hb]
        repeat (first | apply ES.seq | apply ES.skip | apply ES.region | apply EL.nil | apply ES.block | apply ES.nil | apply ES.exit | apply ES.ret | apply PX.hit | (apply PX.miss; exact rfl) | apply PX.then_x | apply PX.then_r | apply PX.block_n | apply PX.block_r | refine PX.then_n (e := .normal) ?_)
        exact PX.cutX () ⟨rfl, rfl, rfl, rfl, rfl, trivial⟩ (by repeat (first | exact Ent.nil _ | exact Ent.refl _ | (apply Ent.cons; case p => repeat (first | exact Pick.here _ _ | apply Pick.there)) | apply Ent.drop))
    repeat (first | apply ES.seq | apply ES.skip | apply ES.region | apply EL.nil | apply ES.block | apply ES.nil | apply ES.exit | apply ES.ret | apply PX.hit | (apply PX.miss; exact rfl) | apply PX.then_x | apply PX.then_r | apply PX.block_n | apply PX.block_r | refine PX.then_n (e := .normal) ?_)
    refine EL.move rfl rfl rfl ?_
    refine EL.add1 rfl rfl rfl rfl (by omega) ?_
    refine EL.assign rfl rfl rfl ?_
    repeat (first | apply ES.seq | apply ES.skip | apply ES.region | apply EL.nil | apply ES.block | apply ES.nil | apply ES.exit | apply ES.ret | apply PX.hit | (apply PX.miss; exact rfl) | apply PX.then_x | apply PX.then_r | apply PX.block_n | apply PX.block_r | refine PX.then_n (e := .normal) ?_)
    exact PX.loop (i + 1) (by omega) (by omega) ⟨rfl, rfl, rfl, rfl, rfl, trivial⟩ (by repeat (first | exact Ent.nil _ | exact Ent.refl _ | (apply Ent.cons; case p => repeat (first | exact Pick.here _ _ | apply Pick.there)) | apply Ent.drop))
  obtain rfl : i = 256 := by omega
  rw [hm]
  repeat (first | apply ES.seq | apply ES.skip | apply ES.region | apply EL.nil | apply ES.block | apply ES.nil | apply ES.exit | apply ES.ret | apply PX.hit | (apply PX.miss; exact rfl) | apply PX.then_x | apply PX.then_r | apply PX.block_n | apply PX.block_r | refine PX.then_n (e := .normal) ?_)
  (apply EL.loadAggB; exact rfl; exact rfl; exact rfl; exact rfl; exact rfl; (case hm => (repeat (first | exact Mem.here _ _ | apply Mem.there))); exact rfl)
  (apply EL.storeAll; exact rfl; exact rfl; exact rfl; exact rfl; exact rfl; (case p => (repeat (first | exact PickSet.here _ _ _ | apply PickSet.there))); exact rfl; (case h1 => exact (by first | rfl | (intro u hu; simp only [List.mem_cons, List.not_mem_nil, or_false] at hu; rcases hu with rfl | rfl | rfl | rfl <;> rfl) | (intro u hu; simp at hu; rcases hu with rfl | rfl | rfl | rfl <;> rfl) | (intro u hu; simp at hu; rcases hu with rfl | rfl | rfl <;> rfl) | (intro u hu; simp at hu; rcases hu with rfl | rfl <;> rfl) | (intro u hu; simp at hu; obtain ⟨_, _, rfl⟩ := hu; rfl))))
  repeat (first | apply ES.seq | apply ES.skip | apply ES.region | apply EL.nil | apply ES.block | apply ES.nil | apply ES.exit | apply ES.ret | apply PX.hit | (apply PX.miss; exact rfl) | apply PX.then_x | apply PX.then_r | apply PX.block_n | apply PX.block_r | refine PX.then_n (e := .normal) ?_)
  exact PX.ret rfl Try.results20 (.cons (.blkA rfl rfl rfl (by repeat (first | exact Mem.here _ _ | apply Mem.there)) rfl) .nil) (fun w hs => ⟨(), rfl, hs.ent (.nil _)⟩)
theorem and_not (s t : BS) : notS (orS (notS s) (notS t)) = andS s t := bs_ext _ _ fun k _ => by
  rw [has_not, has_or, has_not, has_not, has_and]
  cases hasS s k <;> cases hasS t k <;> rfl
theorem rand_c (s t : BS) (w : World) : Pure Try.prog 21 #[Bs s, Bs t] (fun _ : Unit => Bs (andS s t)) (fun _ => []) w := by
  refine calls_of_ES TB Try.func21 rfl _ Try.ntmps21 rfl (Sat.start w) ?_
  repeat (first | apply ES.seq | apply ES.skip | apply ES.region | apply EL.nil | apply ES.block | apply ES.nil | apply ES.exit | apply ES.ret | apply PX.hit | (apply PX.miss; exact rfl) | apply PX.then_x | apply PX.then_r | apply PX.block_n | apply PX.block_r | refine PX.then_n (e := .normal) ?_)
  (refine EL.box rfl rfl rfl ?_; intro g2)
  (refine EL.box rfl rfl rfl ?_; intro g3)
  (refine EL.alloc rfl rfl rfl ?_; intro g4)
  repeat (first | apply EL.nil | apply ES.seq | apply ES.skip)
  refine ES.draw (X := Unit) (fun _ => [(4, Pv g4 0)]) (fun _ => [SB g4 (andS s t)]) [SB g3 t, SB g2 s] mixed (by repeat (first | exact Ent.nil _ | exact Ent.refl _ | (apply Ent.cons; case p => repeat (first | exact Pick.here _ _ | apply Pick.there)) | apply Ent.drop)) ?_ (fun _ => ?_)
  · rw [← and_not]
    refine ED.take 0 rfl (by decide +kernel) CutX.no_panic (by decide +kernel) rfl rfl rfl (RV.loadAggB rfl rfl rfl (by repeat (first | exact Mem.here _ _ | apply Mem.there)) rfl) ?_
    refine ED.take 2 rfl (by decide +kernel) CutX.no_panic (by decide +kernel) rfl rfl rfl (RV.loadAggB rfl rfl rfl (by repeat (first | exact Mem.here _ _ | apply Mem.there)) rfl) ?_
    refine ED.loud 1 rfl (by decide +kernel) ?_
    refine EL.callP rfl rfl rfl ent19 rfl (rnot_c s) ?_
    refine ED.next (by repeat (first | exact Ent.nil _ | exact Ent.refl _ | (apply Ent.cons; case p => repeat (first | exact Pick.here _ _ | apply Pick.there)) | apply Ent.drop)) ?_
    refine ED.loud 3 rfl (by decide +kernel) ?_
    refine EL.callP rfl rfl rfl ent19 rfl (rnot_c t) ?_
    refine ED.next (by repeat (first | exact Ent.nil _ | exact Ent.refl _ | (apply Ent.cons; case p => repeat (first | exact Pick.here _ _ | apply Pick.there)) | apply Ent.drop)) ?_
    refine ED.loud 4 rfl (by decide +kernel) ?_
    refine EL.callP rfl rfl rfl ent20 rfl (ror_c (notS s) (notS t)) ?_
    refine ED.next (by repeat (first | exact Ent.nil _ | exact Ent.refl _ | (apply Ent.cons; case p => repeat (first | exact Pick.here _ _ | apply Pick.there)) | apply Ent.drop)) ?_
    refine ED.loud 5 rfl (by decide +kernel) ?_
    refine EL.callP rfl rfl rfl ent19 rfl (rnot_c (orS (notS s) (notS t))) ?_
    refine ED.next (by repeat (first | exact Ent.nil _ | exact Ent.refl _ | (apply Ent.cons; case p => repeat (first | exact Pick.here _ _ | apply Pick.there)) | apply Ent.drop)) ?_
    refine ED.last 6 rfl (by decide +kernel) (by decide +kernel) (by decide +kernel) ?_
    (apply EL.storeAll; exact rfl; exact rfl; exact rfl; exact rfl; exact rfl; (case p => (repeat (first | exact PickSet.here _ _ _ | apply PickSet.there))); exact rfl; (case h1 => exact (by first | rfl | (intro u hu; simp only [List.mem_cons, List.not_mem_nil, or_false] at hu; rcases hu with rfl | rfl | rfl | rfl <;> rfl) | (intro u hu; simp at hu; rcases hu with rfl | rfl | rfl | rfl <;> rfl) | (intro u hu; simp at hu; rcases hu with rfl | rfl | rfl <;> rfl) | (intro u hu; simp at hu; rcases hu with rfl | rfl <;> rfl) | (intro u hu; simp at hu; obtain ⟨_, _, rfl⟩ := hu; rfl))))
    refine EL.endQ ?_
    exact PX.cutX () ⟨rfl, trivial⟩ (by repeat (first | exact Ent.nil _ | exact Ent.refl _ | (apply Ent.cons; case p => repeat (first | exact Pick.here _ _ | apply Pick.there)) | apply Ent.drop))
  repeat (first | apply ES.seq | apply ES.skip | apply ES.region | apply EL.nil | apply ES.block | apply ES.nil | apply ES.exit | apply ES.ret | apply PX.hit | (apply PX.miss; exact rfl) | apply PX.then_x | apply PX.then_r | apply PX.block_n | apply PX.block_r | refine PX.then_n (e := .normal) ?_)
  exact PX.ret rfl Try.results21 (.cons (.blkA rfl rfl rfl (by repeat (first | exact Mem.here _ _ | apply Mem.there)) rfl) .nil) (fun w hs => ⟨(), rfl, hs.ent (.nil _)⟩)
end Go.Proofs.Ytlianigenfknpaa
