/- Layer 15 (ytab): contracts of Piece and of the reference's Apply. -/
import Derived.Test.YtbclmngjhhmbdaaYa
namespace Go.Proofs.Ytbclmngjhhmbdaa
open Go Go.RowKit Sl
set_option maxRecDepth 100000
set_option maxHeartbeats 8000000
set_option linter.unusedVariables false
set_option linter.unusedSimpArgs false
attribute [local irreducible] ES EL PX wps

theorem refapply_c (t l : List UInt8) (ht : t.length = 256) (hl : l.length ≤ 140737488351232) (w : World) :
    Pure Try.prog 16 #[.agg (t.map Uv).toArray, Sv l] (fun _ : Unit => Sv (l.map fun b => t.getD b.toNat 0)) (fun _ => []) w := by
  refine calls_of_ES TB Try.func16 rfl _ Try.ntmps16 rfl (Sat.start w) ?_
  repeat (first | apply ES.seq | apply ES.skip | apply ES.region | apply EL.nil | apply ES.block | apply ES.nil | apply ES.exit | apply ES.ret | apply PX.hit | (apply PX.miss; exact rfl) | apply PX.then_x | apply PX.then_r | apply PX.block_n | apply PX.block_r | refine PX.then_n (e := .normal) ?_)
  (refine EL.box rfl rfl rfl ?_; intro g2)
  refine EL.assign rfl rfl rfl ?_
  repeat (first | apply ES.seq | apply ES.skip | apply ES.region | apply EL.nil | apply ES.block | apply ES.nil | apply ES.exit | apply ES.ret | apply PX.hit | (apply PX.miss; exact rfl) | apply PX.then_x | apply PX.then_r | apply PX.block_n | apply PX.block_r | refine PX.then_n (e := .normal) ?_)
  refine EL.assign rfl rfl rfl ?_
  repeat (first | apply ES.seq | apply ES.skip | apply ES.region | apply EL.nil | apply ES.block | apply ES.nil | apply ES.exit | apply ES.ret | apply PX.hit | (apply PX.miss; exact rfl) | apply PX.then_x | apply PX.then_r | apply PX.block_n | apply PX.block_r | refine PX.then_n (e := .normal) ?_)
  refine EL.assign rfl rfl rfl ?_
  repeat (first | apply ES.seq | apply ES.skip | apply ES.region | apply EL.nil | apply ES.block | apply ES.nil | apply ES.exit | apply ES.ret | apply PX.hit | (apply PX.miss; exact rfl) | apply PX.then_x | apply PX.then_r | apply PX.block_n | apply PX.block_r | refine PX.then_n (e := .normal) ?_)
  refine ES.nilRow 5 1 ?_
  refine ES.loop (σ := Nat × List Value × Nat × Option Addr) (fun (k, cs, c, ad) => k ≤ l.length ∧ cs = ((l.take k).map fun b => t.getD b.toNat 0).map Uv)
    (fun (k, cs, c, ad) => [(0, .agg (t.map Uv).toArray), (1, Sv l), (2, Pv g2 0), (5, .slice ad k c), (6, Iv k)])
    (fun (k, cs, c, ad) => [HA.row (.slice ad k c) 5 1 k cs, HA.blk g2 (.cells (t.map Uv).toArray 31 (0, 0))])
    (fun (k, cs, c, ad) => l.length - k) (0, [], 0, none) ⟨Nat.zero_le _, rfl⟩ ⟨rfl, rfl, rfl, rfl, rfl, trivial⟩ (by repeat (first | exact Ent.nil _ | exact Ent.refl _ | (apply Ent.cons; case p => repeat (first | exact Pick.here _ _ | apply Pick.there)))) ?_
  rintro ⟨k, cs, c, ad⟩ ⟨hk, hcs⟩
  dsimp only at hk hcs ⊢
  repeat (first | apply ES.seq | apply ES.skip | apply ES.region | apply EL.nil | apply ES.block | apply ES.nil | apply ES.exit | apply ES.ret | apply PX.hit | (apply PX.miss; exact rfl) | apply PX.then_x | apply PX.then_r | apply PX.block_n | apply PX.block_r | refine PX.then_n (e := .normal) ?_)
  refine EL.move rfl rfl rfl ?_
  refine EL.move rfl rfl rfl ?_
  refine EL.lenS rfl rfl rfl rfl rfl ?_
  refine EL.lss rfl rfl rfl rfl ?_
  repeat (first | apply ES.seq | apply ES.skip | apply ES.region | apply EL.nil | apply ES.block | apply ES.nil | apply ES.exit | apply ES.ret | apply PX.hit | (apply PX.miss; exact rfl) | apply PX.then_x | apply PX.then_r | apply PX.block_n | apply PX.block_r | refine PX.then_n (e := .normal) ?_)
  refine ES.condD rfl (fun hlt => ?_) (fun hge => ?_)
  · have hlt' : k < l.length := by omega
    repeat (first | apply ES.seq | apply ES.skip | apply ES.region | apply EL.nil | apply ES.block | apply ES.nil | apply ES.exit | apply ES.ret | apply PX.hit | (apply PX.miss; exact rfl) | apply PX.then_x | apply PX.then_r | apply PX.block_n | apply PX.block_r | refine PX.then_n (e := .normal) ?_)
    refine EL.move rfl rfl rfl ?_
    refine EL.move rfl rfl rfl ?_
    refine EL.move rfl rfl rfl ?_
    refine EL.indexSN rfl rfl rfl rfl rfl rfl (by omega) ?_
    refine EL.indexAddrA1 rfl rfl rfl rfl rfl rfl rfl rfl (UInt8.toNat_lt _) ?_
    refine EL.loadB rfl rfl rfl rfl rfl (by repeat (first | exact Mem.here _ _ | apply Mem.there)) (map_get Uv t _ 0 (by rw [ht]; exact UInt8.toNat_lt _)) ?_
    (refine EL.buildSlice1 rfl rfl rfl rfl rfl rfl rfl rfl rfl rfl ?_; intro b19)
    (refine EL.append1 rfl rfl rfl rfl rfl rfl rfl rfl rfl (by repeat (first | exact Mem.here _ _ | apply Mem.there)) (by repeat (first | exact Pick.here _ _ | apply Pick.there)) (by intro u hu; simp [Value.cells] at hu; subst hu; rfl) (by rfl) (by unfold maxLen; omega) (by first | omega | (show 1 * _ ≤ _; omega) | (show 8 * _ ≤ _; omega) | (show 16 * _ ≤ _; omega) | (show 24 * _ ≤ _; omega) | (show _ * 1 ≤ _; omega) | (show _ * 8 ≤ _; omega) | (show _ * 16 ≤ _; omega) | (show _ * 24 ≤ _; omega)) ?_; intro a20 c20)
    refine EL.assign rfl rfl rfl ?_
    repeat (first | apply ES.seq | apply ES.skip | apply ES.region | apply EL.nil | apply ES.block | apply ES.nil | apply ES.exit | apply ES.ret | apply PX.hit | (apply PX.miss; exact rfl) | apply PX.then_x | apply PX.then_r | apply PX.block_n | apply PX.block_r | refine PX.then_n (e := .normal) ?_)
    refine EL.move rfl rfl rfl ?_
    refine EL.add1 rfl rfl rfl rfl (by omega) ?_
    refine EL.assign rfl rfl rfl ?_
    repeat (first | apply ES.seq | apply ES.skip | apply ES.region | apply EL.nil | apply ES.block | apply ES.nil | apply ES.exit | apply ES.ret | apply PX.hit | (apply PX.miss; exact rfl) | apply PX.then_x | apply PX.then_r | apply PX.block_n | apply PX.block_r | refine PX.then_n (e := .normal) ?_)
    refine PX.loop (k + 1, cs ++ [Uv (t.getD (l.getD k 0).toNat 0)], c20, some ⟨a20, 0, none⟩) ⟨by simp only; omega, ?_⟩ (by simp only; omega) ⟨rfl, rfl, rfl, rfl, rfl, trivial⟩ (by repeat (first | exact Ent.nil _ | exact Ent.refl _ | (apply Ent.cons; case p => repeat (first | exact Pick.here _ _ | apply Pick.there))))
    simp only [hcs, List.take_succ_eq_append_getElem hlt', List.map_append, List.map_cons, List.map_nil]
    simp [List.getD_eq_getElem?_getD, List.getElem?_eq_getElem hlt']
  · have hkl : k = l.length := by omega
    subst hkl
    rw [List.take_length] at hcs
    subst hcs
    repeat (first | apply ES.seq | apply ES.skip | apply ES.region | apply EL.nil | apply ES.block | apply ES.nil | apply ES.exit | apply ES.ret | apply PX.hit | (apply PX.miss; exact rfl) | apply PX.then_x | apply PX.then_r | apply PX.block_n | apply PX.block_r | refine PX.then_n (e := .normal) ?_)
    refine EL.move rfl rfl rfl ?_
    refine EL.bytesS rfl rfl rfl rfl rfl rfl rfl rfl rfl (by repeat (first | exact Mem.here _ _ | apply Mem.there)) ?_
    refine EL.assign rfl rfl rfl ?_
    repeat (first | apply ES.seq | apply ES.skip | apply ES.region | apply EL.nil | apply ES.block | apply ES.nil | apply ES.exit | apply ES.ret | apply PX.hit | (apply PX.miss; exact rfl) | apply PX.then_x | apply PX.then_r | apply PX.block_n | apply PX.block_r | refine PX.then_n (e := .normal) ?_)
    exact PX.ret rfl Try.results16 (.cons (.tmp rfl) .nil) (fun w hs => ⟨(), rfl, hs.ent (.nil _)⟩)

theorem alnum_prog (b : UInt8) : alnumB b = ((decide (48 ≤ (b.toNat : Int)) && decide ((b.toNat : Int) ≤ 57)) || (decide (97 ≤ ((b ||| 32).toNat : Int)) && decide (((b ||| 32).toNat : Int) ≤ 122))) := by
  have := alnum_or b
  unfold alnumB
  generalize (b ||| 32).toNat = x at *
  rw [Bool.eq_iff_iff]
  simp
  omega
theorem piece_c (l : List UInt8) (hl : l.length ≤ 140737488351232) (w : World) :
    Pure Try.prog 10 #[Sv l] (fun _ : Unit => .tuple #[Sv (pieceM l).1, .agg #[Iv (pieceM l).2.1, Iv (pieceM l).2.2]]) (fun _ => []) w := by
  refine calls_of_ES TB Try.func10 rfl _ Try.ntmps10 rfl (Sat.start w) ?_
  repeat (first | apply ES.seq | apply ES.skip | apply ES.region | apply EL.nil | apply ES.block | apply ES.nil | apply ES.exit | apply ES.ret | apply PX.hit | (apply PX.miss; exact rfl) | apply PX.then_x | apply PX.then_r | apply PX.block_n | apply PX.block_r | refine PX.then_n (e := .normal) ?_)
  refine EL.assign rfl rfl rfl ?_
  (refine EL.alloc rfl rfl rfl ?_; intro g3)
  repeat (first | apply ES.seq | apply ES.skip | apply ES.region | apply EL.nil | apply ES.block | apply ES.nil | apply ES.exit | apply ES.ret | apply PX.hit | (apply PX.miss; exact rfl) | apply PX.then_x | apply PX.then_r | apply PX.block_n | apply PX.block_r | refine PX.then_n (e := .normal) ?_)
  refine EL.assign rfl rfl rfl ?_
  repeat (first | apply ES.seq | apply ES.skip | apply ES.region | apply EL.nil | apply ES.block | apply ES.nil | apply ES.exit | apply ES.ret | apply PX.hit | (apply PX.miss; exact rfl) | apply PX.then_x | apply PX.then_r | apply PX.block_n | apply PX.block_r | refine PX.then_n (e := .normal) ?_)
  refine EL.assign rfl rfl rfl ?_
  repeat (first | apply ES.seq | apply ES.skip | apply ES.region | apply EL.nil | apply ES.block | apply ES.nil | apply ES.exit | apply ES.ret | apply PX.hit | (apply PX.miss; exact rfl) | apply PX.then_x | apply PX.then_r | apply PX.block_n | apply PX.block_r | refine PX.then_n (e := .normal) ?_)
  refine ES.nilRow 5 1 ?_
  refine ES.loop (σ := Nat × List UInt8 × List Value × Nat × Nat × Option Addr) (fun (k, out, cs, n, c, ad) => k ≤ l.length ∧ n ≤ k ∧ cs = out.map Uv ∧ n = out.length ∧ ∃ j, l.length - k < j ∧ pc j (l.drop k) k out = pieceM l)
    (fun (k, out, cs, n, c, ad) => [(0, Sv l), (2, Sv []), (3, Pv g3 0), (4, .slice ad n c), (5, Iv k)])
    (fun (k, out, cs, n, c, ad) => [HA.row (.slice ad n c) 5 1 n cs, HA.blk g3 (.cells #[Iv 0, Iv 0] 24 (0, 0))])
    (fun (k, out, cs, n, c, ad) => l.length - k) (0, [], [], 0, 0, none) ⟨Nat.zero_le _, Nat.le_refl _, rfl, rfl, _, by omega, rfl⟩ ⟨rfl, rfl, rfl, rfl, rfl, trivial⟩ (by repeat (first | exact Ent.nil _ | exact Ent.refl _ | (apply Ent.cons; case p => repeat (first | exact Pick.here _ _ | apply Pick.there)))) ?_
  rintro ⟨k, out, cs, n, c, ad⟩ ⟨hk, hnk, hcs, hn, j, hj, hpc⟩
  dsimp only at hk hnk hcs hn hj hpc ⊢
  repeat (first | apply ES.seq | apply ES.skip | apply ES.region | apply EL.nil | apply ES.block | apply ES.nil | apply ES.exit | apply ES.ret | apply PX.hit | (apply PX.miss; exact rfl) | apply PX.then_x | apply PX.then_r | apply PX.block_n | apply PX.block_r | refine PX.then_n (e := .normal) ?_)
  refine EL.move rfl rfl rfl ?_
  refine EL.move rfl rfl rfl ?_
  refine EL.lenS rfl rfl rfl rfl rfl ?_
  refine EL.lss rfl rfl rfl rfl ?_
  repeat (first | apply ES.seq | apply ES.skip | apply ES.region | apply EL.nil | apply ES.block | apply ES.nil | apply ES.exit | apply ES.ret | apply PX.hit | (apply PX.miss; exact rfl) | apply PX.then_x | apply PX.then_r | apply PX.block_n | apply PX.block_r | refine PX.then_n (e := .normal) ?_)
  obtain ⟨j, rfl⟩ : ∃ i, j = i + 1 := ⟨j - 1, by omega⟩
  refine ES.condD rfl (fun hlt => ?_) (fun hge => ?_)
  · have hlt' : k < l.length := by omega
    rw [drop_getD l k 0 hlt'] at hpc
    repeat (first | apply ES.seq | apply ES.skip | apply ES.region | apply EL.nil | apply ES.block | apply ES.nil | apply ES.exit | apply ES.ret | apply PX.hit | (apply PX.miss; exact rfl) | apply PX.then_x | apply PX.then_r | apply PX.block_n | apply PX.block_r | refine PX.then_n (e := .normal) ?_)
    refine EL.move rfl rfl rfl ?_
    refine EL.move rfl rfl rfl ?_
    refine EL.indexSN rfl rfl rfl rfl rfl rfl (by omega) ?_
    refine EL.assign rfl rfl rfl ?_
    repeat (first | apply ES.seq | apply ES.skip | apply ES.region | apply EL.nil | apply ES.block | apply ES.nil | apply ES.exit | apply ES.ret | apply PX.hit | (apply PX.miss; exact rfl) | apply PX.then_x | apply PX.then_r | apply PX.block_n | apply PX.block_r | refine PX.then_n (e := .normal) ?_)
    refine EL.move rfl rfl rfl ?_
    refine EL.neqI rfl rfl rfl rfl ?_
    repeat (first | apply ES.seq | apply ES.skip | apply ES.region | apply EL.nil | apply ES.block | apply ES.nil | apply ES.exit | apply ES.ret | apply PX.hit | (apply PX.miss; exact rfl) | apply PX.then_x | apply PX.then_r | apply PX.block_n | apply PX.block_r | refine PX.then_n (e := .normal) ?_)
    refine ES.condN rfl (fun hb => ?_) (fun hb => ?_)
    · rw [pc_plain _ _ _ _ _ (fun e => hb (by rw [e]; rfl))] at hpc
      repeat (first | apply ES.seq | apply ES.skip | apply ES.region | apply EL.nil | apply ES.block | apply ES.nil | apply ES.exit | apply ES.ret | apply PX.hit | (apply PX.miss; exact rfl) | apply PX.then_x | apply PX.then_r | apply PX.block_n | apply PX.block_r | refine PX.then_n (e := .normal) ?_)
      refine EL.move rfl rfl rfl ?_
      refine EL.move rfl rfl rfl ?_
      (refine EL.buildSlice1 rfl rfl rfl rfl rfl rfl rfl rfl rfl rfl ?_; intro b20)
      (refine EL.append1 rfl rfl rfl rfl rfl rfl rfl rfl rfl (by repeat (first | exact Mem.here _ _ | apply Mem.there)) (by repeat (first | exact Pick.here _ _ | apply Pick.there)) (by intro u hu; simp [Value.cells] at hu; subst hu; rfl) (by rfl) (by unfold maxLen; omega) (by first | omega | (show 1 * _ ≤ _; omega) | (show 8 * _ ≤ _; omega) | (show 16 * _ ≤ _; omega) | (show 24 * _ ≤ _; omega) | (show _ * 1 ≤ _; omega) | (show _ * 8 ≤ _; omega) | (show _ * 16 ≤ _; omega) | (show _ * 24 ≤ _; omega)) ?_; intro a21 c21)
      refine EL.assign rfl rfl rfl ?_
      repeat (first | apply ES.seq | apply ES.skip | apply ES.region | apply EL.nil | apply ES.block | apply ES.nil | apply ES.exit | apply ES.ret | apply PX.hit | (apply PX.miss; exact rfl) | apply PX.then_x | apply PX.then_r | apply PX.block_n | apply PX.block_r | refine PX.then_n (e := .normal) ?_)
      refine EL.move rfl rfl rfl ?_
      refine EL.add1 rfl rfl rfl rfl (by omega) ?_
      refine EL.assign rfl rfl rfl ?_
      repeat (first | apply ES.seq | apply ES.skip | apply ES.region | apply EL.nil | apply ES.block | apply ES.nil | apply ES.exit | apply ES.ret | apply PX.hit | (apply PX.miss; exact rfl) | apply PX.then_x | apply PX.then_r | apply PX.block_n | apply PX.block_r | refine PX.then_n (e := .normal) ?_)
      exact PX.loop (k + 1, out ++ [l.getD k 0], cs ++ [Uv (l.getD k 0)], n + 1, c21, some ⟨a21, 0, none⟩) ⟨by simp only; omega, by simp only; omega, by simp [hcs], by simp [hn], j, by simp only; omega, hpc⟩ (by simp only; omega) ⟨rfl, rfl, rfl, rfl, rfl, trivial⟩ (by repeat (first | exact Ent.nil _ | exact Ent.refl _ | (apply Ent.cons; case p => repeat (first | exact Pick.here _ _ | apply Pick.there))))
    · rw [u8_of _ 92 hb] at hpc
      repeat (first | apply ES.seq | apply ES.skip | apply ES.region | apply EL.nil | apply ES.block | apply ES.nil | apply ES.exit | apply ES.ret | apply PX.hit | (apply PX.miss; exact rfl) | apply PX.then_x | apply PX.then_r | apply PX.block_n | apply PX.block_r | refine PX.then_n (e := .normal) ?_)
      refine EL.move rfl rfl rfl ?_
      refine EL.add1 rfl rfl rfl rfl (by omega) ?_
      refine EL.assign rfl rfl rfl ?_
      repeat (first | apply ES.seq | apply ES.skip | apply ES.region | apply EL.nil | apply ES.block | apply ES.nil | apply ES.exit | apply ES.ret | apply PX.hit | (apply PX.miss; exact rfl) | apply PX.then_x | apply PX.then_r | apply PX.block_n | apply PX.block_r | refine PX.then_n (e := .normal) ?_)
      refine EL.move rfl rfl rfl ?_
      refine EL.move rfl rfl rfl ?_
      refine EL.lenS rfl rfl rfl rfl rfl ?_
      refine EL.eqlI rfl rfl rfl rfl ?_
      refine EL.assign rfl rfl rfl ?_
      repeat (first | apply ES.seq | apply ES.skip | apply ES.region | apply EL.nil | apply ES.block | apply ES.nil | apply ES.exit | apply ES.ret | apply PX.hit | (apply PX.miss; exact rfl) | apply PX.then_x | apply PX.then_r | apply PX.block_n | apply PX.block_r | refine PX.then_n (e := .normal) ?_)
      refine ES.condD rfl (fun he => ?_) (fun he => ?_)
      · rw [show l.drop (k + 1) = [] by simp; omega, pc_end] at hpc
        repeat (first | apply ES.seq | apply ES.skip | apply ES.region | apply EL.nil | apply ES.block | apply ES.nil | apply ES.exit | apply ES.ret | apply PX.hit | (apply PX.miss; exact rfl) | apply PX.then_x | apply PX.then_r | apply PX.block_n | apply PX.block_r | refine PX.then_n (e := .normal) ?_)
        refine EL.move rfl rfl rfl ?_
        refine EL.sub1 rfl rfl rfl rfl (by omega) (by omega) ?_
        (apply EL.build2; exact rfl; exact rfl; exact rfl; exact rfl; exact rfl; exact rfl; exact rfl; exact rfl; exact rfl; exact rfl)
        refine EL.assign rfl rfl rfl ?_
        (apply EL.storeAll; exact rfl; exact rfl; exact rfl; exact rfl; exact rfl; (case p => (repeat (first | exact PickSet.here _ _ _ | apply PickSet.there))); exact rfl; (case h1 => exact (by first | rfl | (intro u hu; simp at hu; rcases hu with rfl | rfl | rfl | rfl <;> rfl) | (intro u hu; simp at hu; rcases hu with rfl | rfl | rfl <;> rfl) | (intro u hu; simp at hu; rcases hu with rfl | rfl <;> rfl) | (intro u hu; simp at hu; obtain ⟨_, _, rfl⟩ := hu; rfl))))
        repeat (first | apply ES.seq | apply ES.skip | apply ES.region | apply EL.nil | apply ES.block | apply ES.nil | apply ES.exit | apply ES.ret | apply PX.hit | (apply PX.miss; exact rfl) | apply PX.then_x | apply PX.then_r | apply PX.block_n | apply PX.block_r | refine PX.then_n (e := .normal) ?_)
        exact PX.ret rfl Try.results10 (.cons (.tmp rfl) (.cons (.blkA rfl rfl rfl (by repeat (first | exact Mem.here _ _ | apply Mem.there)) rfl) .nil)) (fun w hs => ⟨(), by rw [← hpc]; rfl, hs.ent (.nil _)⟩)
      · have hlt2 : k + 1 < l.length := by omega
        rw [drop_getD l (k + 1) 0 hlt2] at hpc
        repeat (first | apply ES.seq | apply ES.skip | apply ES.region | apply EL.nil | apply ES.block | apply ES.nil | apply ES.exit | apply ES.ret | apply PX.hit | (apply PX.miss; exact rfl) | apply PX.then_x | apply PX.then_r | apply PX.block_n | apply PX.block_r | refine PX.then_n (e := .normal) ?_)
        refine EL.move rfl rfl rfl ?_
        refine EL.move rfl rfl rfl ?_
        refine EL.indexSN rfl rfl rfl rfl rfl rfl (by omega) ?_
        refine EL.eqlI rfl rfl rfl rfl ?_
        refine EL.assign rfl rfl rfl ?_
        repeat (first | apply ES.seq | apply ES.skip | apply ES.region | apply EL.nil | apply ES.block | apply ES.nil | apply ES.exit | apply ES.ret | apply PX.hit | (apply PX.miss; exact rfl) | apply PX.then_x | apply PX.then_r | apply PX.block_n | apply PX.block_r | refine PX.then_n (e := .normal) ?_)
        obtain ⟨b2, hb2⟩ : ∃ b2, b2 = l.getD (k + 1) 0 := ⟨_, rfl⟩
        rw [← hb2] at hpc ⊢
        refine ES.condD rfl (fun h110 => ?_) (fun h110 => ?_)
        · rw [u8_of _ 110 h110, pc_n] at hpc
          repeat (first | apply ES.seq | apply ES.skip | apply ES.region | apply EL.nil | apply ES.block | apply ES.nil | apply ES.exit | apply ES.ret | apply PX.hit | (apply PX.miss; exact rfl) | apply PX.then_x | apply PX.then_r | apply PX.block_n | apply PX.block_r | refine PX.then_n (e := .normal) ?_)
          refine EL.move rfl rfl rfl ?_
          (refine EL.buildSlice1 rfl rfl rfl rfl rfl rfl rfl rfl rfl rfl ?_; intro b44)
          (refine EL.append1 rfl rfl rfl rfl rfl rfl rfl rfl rfl (by repeat (first | exact Mem.here _ _ | apply Mem.there)) (by repeat (first | exact Pick.here _ _ | apply Pick.there)) (by intro u hu; simp [Value.cells] at hu; subst hu; rfl) (by rfl) (by unfold maxLen; omega) (by first | omega | (show 1 * _ ≤ _; omega) | (show 8 * _ ≤ _; omega) | (show 16 * _ ≤ _; omega) | (show 24 * _ ≤ _; omega) | (show _ * 1 ≤ _; omega) | (show _ * 8 ≤ _; omega) | (show _ * 16 ≤ _; omega) | (show _ * 24 ≤ _; omega)) ?_; intro a45 c45)
          refine EL.assign rfl rfl rfl ?_
          repeat (first | apply ES.seq | apply ES.skip | apply ES.region | apply EL.nil | apply ES.block | apply ES.nil | apply ES.exit | apply ES.ret | apply PX.hit | (apply PX.miss; exact rfl) | apply PX.then_x | apply PX.then_r | apply PX.block_n | apply PX.block_r | refine PX.then_n (e := .normal) ?_)
          refine EL.move rfl rfl rfl ?_
          refine EL.add1 rfl rfl rfl rfl (by omega) ?_
          refine EL.assign rfl rfl rfl ?_
          repeat (first | apply ES.seq | apply ES.skip | apply ES.region | apply EL.nil | apply ES.block | apply ES.nil | apply ES.exit | apply ES.ret | apply PX.hit | (apply PX.miss; exact rfl) | apply PX.then_x | apply PX.then_r | apply PX.block_n | apply PX.block_r | refine PX.then_n (e := .normal) ?_)
          exact PX.loop (k + 2, out ++ [10], cs ++ [Uv 10], n + 1, c45, some ⟨a45, 0, none⟩) ⟨by simp only; omega, by simp only; omega, by simp [hcs], by simp [hn], j, by simp only; omega, hpc⟩ (by simp only; omega) ⟨rfl, rfl, rfl, rfl, rfl, trivial⟩ (by repeat (first | exact Ent.nil _ | exact Ent.refl _ | (apply Ent.cons; case p => repeat (first | exact Pick.here _ _ | apply Pick.there))))
        · have h110' : b2 ≠ 110 := fun e => h110 (by rw [e]; rfl)
          refine ES.seq ?_
          refine ES.cutR [(46, .bool (alnumB b2)), (0, Sv l), (2, Sv []), (3, Pv g3 0), (4, .slice ad n c), (5, Iv (k + 1 : Nat))] [HA.row (.slice ad n c) 5 1 n cs, HA.blk g3 (.cells #[Iv 0, Iv 0] 24 (0, 0))] ?_ ?_
          · repeat (first | apply ES.seq | apply ES.skip | apply ES.region | apply EL.nil | apply ES.block | apply ES.nil | apply ES.exit | apply ES.ret | apply PX.hit | (apply PX.miss; exact rfl) | apply PX.then_x | apply PX.then_r | apply PX.block_n | apply PX.block_r | refine PX.then_n (e := .normal) ?_)
            refine EL.move rfl rfl rfl ?_
            refine EL.move rfl rfl rfl ?_
            (refine EL.indexSN rfl rfl rfl rfl rfl rfl hlt2 ?_; rw [← hb2])
            refine EL.geq rfl rfl rfl rfl ?_
            refine EL.move rfl rfl rfl ?_
            first | refine EL.splitD (d := 51) rfl (fun hp51 => ?_) (fun hp51 => ?_) | refine EL.splitN (d := 51) rfl (fun hp51 => ?_) (fun hp51 => ?_) | refine EL.splitB (d := 51) rfl (fun hp51 => ?_) (fun hp51 => ?_)
            · refine EL.move rfl rfl rfl ?_
              refine EL.move rfl rfl rfl ?_
              (refine EL.indexSN rfl rfl rfl rfl rfl rfl hlt2 ?_; rw [← hb2])
              refine EL.leq rfl rfl rfl rfl ?_
              refine EL.pickT rfl rfl rfl rfl ?_
              refine EL.move rfl rfl rfl ?_
              first | refine EL.splitD (d := 57) rfl (fun hp57 => ?_) (fun hp57 => ?_) | refine EL.splitN (d := 57) rfl (fun hp57 => ?_) (fun hp57 => ?_) | refine EL.splitB (d := 57) rfl (fun hp57 => ?_) (fun hp57 => ?_)
              · refine EL.pass rfl rfl rfl ?_
                refine EL.pass rfl rfl rfl ?_
                refine EL.pass rfl rfl rfl ?_
                refine EL.pass rfl rfl rfl ?_
                refine EL.pass rfl rfl rfl ?_
                refine EL.pass rfl rfl rfl ?_
                refine EL.pass rfl rfl rfl ?_
                refine EL.pass rfl rfl rfl ?_
                refine EL.pass rfl rfl rfl ?_
                refine EL.pass rfl rfl rfl ?_
                refine EL.pass rfl rfl rfl ?_
                refine EL.pass rfl rfl rfl ?_
                refine EL.pickT rfl rfl rfl rfl ?_
                refine EL.assign rfl rfl rfl ?_
                exact EL.endK ⟨getB rfl (by rw [Bool.eq_iff_iff]; simp only [alnum_prog, Bool.or_eq_true, Bool.and_eq_true, decide_eq_true_eq, Bool.false_eq_true, true_iff, false_iff]; omega), rfl, rfl, rfl, rfl, rfl, trivial⟩ (by repeat (first | exact Ent.nil _ | exact Ent.refl _ | (apply Ent.cons; case p => repeat (first | exact Pick.here _ _ | apply Pick.there))))
              · refine EL.move rfl rfl rfl ?_
                refine EL.move rfl rfl rfl ?_
                (refine EL.indexSN rfl rfl rfl rfl rfl rfl hlt2 ?_; rw [← hb2])
                refine EL.orU8 32 rfl rfl rfl rfl rfl ?_
                refine EL.geq rfl rfl rfl rfl ?_
                refine EL.move rfl rfl rfl ?_
                first | refine EL.splitD (d := 63) rfl (fun hp63 => ?_) (fun hp63 => ?_) | refine EL.splitN (d := 63) rfl (fun hp63 => ?_) (fun hp63 => ?_) | refine EL.splitB (d := 63) rfl (fun hp63 => ?_) (fun hp63 => ?_)
                · refine EL.move rfl rfl rfl ?_
                  refine EL.move rfl rfl rfl ?_
                  (refine EL.indexSN rfl rfl rfl rfl rfl rfl hlt2 ?_; rw [← hb2])
                  refine EL.orU8 32 rfl rfl rfl rfl rfl ?_
                  refine EL.leq rfl rfl rfl rfl ?_
                  refine EL.pickT rfl rfl rfl rfl ?_
                  refine EL.pickF rfl rfl rfl rfl ?_
                  refine EL.assign rfl rfl rfl ?_
                  exact EL.endK ⟨getB rfl (by rw [Bool.eq_iff_iff]; simp only [alnum_prog, Bool.or_eq_true, Bool.and_eq_true, decide_eq_true_eq, Bool.false_eq_true, true_iff, false_iff]; omega), rfl, rfl, rfl, rfl, rfl, trivial⟩ (by repeat (first | exact Ent.nil _ | exact Ent.refl _ | (apply Ent.cons; case p => repeat (first | exact Pick.here _ _ | apply Pick.there))))
                · refine EL.pass rfl rfl rfl ?_
                  refine EL.pass rfl rfl rfl ?_
                  refine EL.pass rfl rfl rfl ?_
                  refine EL.pass rfl rfl rfl ?_
                  refine EL.pass rfl rfl rfl ?_
                  refine EL.pickF rfl rfl rfl rfl ?_
                  refine EL.pickF rfl rfl rfl rfl ?_
                  refine EL.assign rfl rfl rfl ?_
                  exact EL.endK ⟨getB rfl (by rw [Bool.eq_iff_iff]; simp only [alnum_prog, Bool.or_eq_true, Bool.and_eq_true, decide_eq_true_eq, Bool.false_eq_true, true_iff, false_iff]; omega), rfl, rfl, rfl, rfl, rfl, trivial⟩ (by repeat (first | exact Ent.nil _ | exact Ent.refl _ | (apply Ent.cons; case p => repeat (first | exact Pick.here _ _ | apply Pick.there))))
            · refine EL.pass rfl rfl rfl ?_
              refine EL.pass rfl rfl rfl ?_
              refine EL.pass rfl rfl rfl ?_
              refine EL.pass rfl rfl rfl ?_
              refine EL.pickF rfl rfl rfl rfl ?_
              refine EL.move rfl rfl rfl ?_
              refine EL.move rfl rfl rfl ?_
              refine EL.move rfl rfl rfl ?_
              (refine EL.indexSN rfl rfl rfl rfl rfl rfl hlt2 ?_; rw [← hb2])
              refine EL.orU8 32 rfl rfl rfl rfl rfl ?_
              refine EL.geq rfl rfl rfl rfl ?_
              refine EL.move rfl rfl rfl ?_
              first | refine EL.splitD (d := 63) rfl (fun hp63 => ?_) (fun hp63 => ?_) | refine EL.splitN (d := 63) rfl (fun hp63 => ?_) (fun hp63 => ?_) | refine EL.splitB (d := 63) rfl (fun hp63 => ?_) (fun hp63 => ?_)
              · refine EL.move rfl rfl rfl ?_
                refine EL.move rfl rfl rfl ?_
                (refine EL.indexSN rfl rfl rfl rfl rfl rfl hlt2 ?_; rw [← hb2])
                refine EL.orU8 32 rfl rfl rfl rfl rfl ?_
                refine EL.leq rfl rfl rfl rfl ?_
                refine EL.pickT rfl rfl rfl rfl ?_
                refine EL.pickF rfl rfl rfl rfl ?_
                refine EL.assign rfl rfl rfl ?_
                exact EL.endK ⟨getB rfl (by rw [Bool.eq_iff_iff]; simp only [alnum_prog, Bool.or_eq_true, Bool.and_eq_true, decide_eq_true_eq, Bool.false_eq_true, true_iff, false_iff]; omega), rfl, rfl, rfl, rfl, rfl, trivial⟩ (by repeat (first | exact Ent.nil _ | exact Ent.refl _ | (apply Ent.cons; case p => repeat (first | exact Pick.here _ _ | apply Pick.there))))
              · refine EL.pass rfl rfl rfl ?_
                refine EL.pass rfl rfl rfl ?_
                refine EL.pass rfl rfl rfl ?_
                refine EL.pass rfl rfl rfl ?_
                refine EL.pass rfl rfl rfl ?_
                refine EL.pickF rfl rfl rfl rfl ?_
                refine EL.pickF rfl rfl rfl rfl ?_
                refine EL.assign rfl rfl rfl ?_
                exact EL.endK ⟨getB rfl (by rw [Bool.eq_iff_iff]; simp only [alnum_prog, Bool.or_eq_true, Bool.and_eq_true, decide_eq_true_eq, Bool.false_eq_true, true_iff, false_iff]; omega), rfl, rfl, rfl, rfl, rfl, trivial⟩ (by repeat (first | exact Ent.nil _ | exact Ent.refl _ | (apply Ent.cons; case p => repeat (first | exact Pick.here _ _ | apply Pick.there))))
          refine ES.cond rfl (fun ha => ?_) (fun ha => ?_)
          · rw [pc_bad _ _ _ _ _ h110' ha] at hpc
            repeat (first | apply ES.seq | apply ES.skip | apply ES.region | apply EL.nil | apply ES.block | apply ES.nil | apply ES.exit | apply ES.ret | apply PX.hit | (apply PX.miss; exact rfl) | apply PX.then_x | apply PX.then_r | apply PX.block_n | apply PX.block_r | refine PX.then_n (e := .normal) ?_)
            refine EL.move rfl rfl rfl ?_
            refine EL.sub1 rfl rfl rfl rfl (by omega) (by omega) ?_
            (apply EL.build2; exact rfl; exact rfl; exact rfl; exact rfl; exact rfl; exact rfl; exact rfl; exact rfl; exact rfl; exact rfl)
            refine EL.assign rfl rfl rfl ?_
            (apply EL.storeAll; exact rfl; exact rfl; exact rfl; exact rfl; exact rfl; (case p => (repeat (first | exact PickSet.here _ _ _ | apply PickSet.there))); exact rfl; (case h1 => exact (by first | rfl | (intro u hu; simp at hu; rcases hu with rfl | rfl | rfl | rfl <;> rfl) | (intro u hu; simp at hu; rcases hu with rfl | rfl | rfl <;> rfl) | (intro u hu; simp at hu; rcases hu with rfl | rfl <;> rfl) | (intro u hu; simp at hu; obtain ⟨_, _, rfl⟩ := hu; rfl))))
            repeat (first | apply ES.seq | apply ES.skip | apply ES.region | apply EL.nil | apply ES.block | apply ES.nil | apply ES.exit | apply ES.ret | apply PX.hit | (apply PX.miss; exact rfl) | apply PX.then_x | apply PX.then_r | apply PX.block_n | apply PX.block_r | refine PX.then_n (e := .normal) ?_)
            exact PX.ret rfl Try.results10 (.cons (.tmp rfl) (.cons (.blkA rfl rfl rfl (by repeat (first | exact Mem.here _ _ | apply Mem.there)) rfl) .nil)) (fun w hs => ⟨(), by rw [← hpc]; rfl, hs.ent (.nil _)⟩)
          · rw [pc_ok _ _ _ _ _ h110' ha] at hpc
            repeat (first | apply ES.seq | apply ES.skip | apply ES.region | apply EL.nil | apply ES.block | apply ES.nil | apply ES.exit | apply ES.ret | apply PX.hit | (apply PX.miss; exact rfl) | apply PX.then_x | apply PX.then_r | apply PX.block_n | apply PX.block_r | refine PX.then_n (e := .normal) ?_)
            refine EL.move rfl rfl rfl ?_
            refine EL.move rfl rfl rfl ?_
            refine EL.move rfl rfl rfl ?_
            refine EL.indexSN rfl rfl rfl rfl rfl rfl (by omega) ?_
            rw [← hb2]
            (refine EL.buildSlice1 rfl rfl rfl rfl rfl rfl rfl rfl rfl rfl ?_; intro b28)
            (refine EL.append1 rfl rfl rfl rfl rfl rfl rfl rfl rfl (by repeat (first | exact Mem.here _ _ | apply Mem.there)) (by repeat (first | exact Pick.here _ _ | apply Pick.there)) (by intro u hu; simp [Value.cells] at hu; subst hu; rfl) (by rfl) (by unfold maxLen; omega) (by first | omega | (show 1 * _ ≤ _; omega) | (show 8 * _ ≤ _; omega) | (show 16 * _ ≤ _; omega) | (show 24 * _ ≤ _; omega) | (show _ * 1 ≤ _; omega) | (show _ * 8 ≤ _; omega) | (show _ * 16 ≤ _; omega) | (show _ * 24 ≤ _; omega)) ?_; intro a29 c29)
            refine EL.assign rfl rfl rfl ?_
            repeat (first | apply ES.seq | apply ES.skip | apply ES.region | apply EL.nil | apply ES.block | apply ES.nil | apply ES.exit | apply ES.ret | apply PX.hit | (apply PX.miss; exact rfl) | apply PX.then_x | apply PX.then_r | apply PX.block_n | apply PX.block_r | refine PX.then_n (e := .normal) ?_)
            refine EL.move rfl rfl rfl ?_
            refine EL.add1 rfl rfl rfl rfl (by omega) ?_
            refine EL.assign rfl rfl rfl ?_
            repeat (first | apply ES.seq | apply ES.skip | apply ES.region | apply EL.nil | apply ES.block | apply ES.nil | apply ES.exit | apply ES.ret | apply PX.hit | (apply PX.miss; exact rfl) | apply PX.then_x | apply PX.then_r | apply PX.block_n | apply PX.block_r | refine PX.then_n (e := .normal) ?_)
            exact PX.loop (k + 2, out ++ [b2], cs ++ [Uv b2], n + 1, c29, some ⟨a29, 0, none⟩) ⟨by simp only; omega, by simp only; omega, by simp [hcs], by simp [hn], j, by simp only; omega, hpc⟩ (by simp only; omega) ⟨rfl, rfl, rfl, rfl, rfl, trivial⟩ (by repeat (first | exact Ent.nil _ | exact Ent.refl _ | (apply Ent.cons; case p => repeat (first | exact Pick.here _ _ | apply Pick.there))))
  · have hkl : k = l.length := by omega
    subst hkl
    subst hcs
    repeat (first | apply ES.seq | apply ES.skip | apply ES.region | apply EL.nil | apply ES.block | apply ES.nil | apply ES.exit | apply ES.ret | apply PX.hit | (apply PX.miss; exact rfl) | apply PX.then_x | apply PX.then_r | apply PX.block_n | apply PX.block_r | refine PX.then_n (e := .normal) ?_)
    refine EL.move rfl rfl rfl ?_
    refine EL.bytesS rfl rfl rfl rfl rfl rfl rfl rfl rfl (by repeat (first | exact Mem.here _ _ | apply Mem.there)) ?_
    refine EL.buildZ rfl rfl rfl rfl rfl ?_
    refine EL.assign rfl rfl rfl ?_
    (apply EL.storeAll; exact rfl; exact rfl; exact rfl; exact rfl; exact rfl; (case p => (repeat (first | exact PickSet.here _ _ _ | apply PickSet.there))); exact rfl; (case h1 => exact (by first | rfl | (intro u hu; simp at hu; rcases hu with rfl | rfl | rfl | rfl <;> rfl) | (intro u hu; simp at hu; rcases hu with rfl | rfl | rfl <;> rfl) | (intro u hu; simp at hu; rcases hu with rfl | rfl <;> rfl) | (intro u hu; simp at hu; obtain ⟨_, _, rfl⟩ := hu; rfl))))
    repeat (first | apply ES.seq | apply ES.skip | apply ES.region | apply EL.nil | apply ES.block | apply ES.nil | apply ES.exit | apply ES.ret | apply PX.hit | (apply PX.miss; exact rfl) | apply PX.then_x | apply PX.then_r | apply PX.block_n | apply PX.block_r | refine PX.then_n (e := .normal) ?_)
    rw [List.drop_length] at hpc
    exact PX.ret rfl Try.results10 (.cons (.tmp rfl) (.cons (.blkA rfl rfl rfl (by repeat (first | exact Mem.here _ _ | apply Mem.there)) rfl) .nil)) (fun w hs => ⟨(), by rw [← hpc]; rfl, hs.ent (.nil _)⟩)
end Go.Proofs.Ytbclmngjhhmbdaa
