/- Layer 15 (ytab): contracts of New and of DocNew. -/
import Derived.Test.YtbclmngjhhmbdaaYc
namespace Go.Proofs.Ytbclmngjhhmbdaa
open Go Go.RowKit Sl
set_option maxRecDepth 100000
set_option maxHeartbeats 8000000
set_option linter.unusedVariables false
set_option linter.unusedSimpArgs false
attribute [local irreducible] ES EL PX wps

theorem zero31 (e : Nat) : Obj.cells ty31.zero.cells e = .cells ((List.replicate 256 (0 : UInt8)).map Uv).toArray e := by
  show Obj.cells (Array.replicate 256 (Uv 0)) e = _
  rw [rep_arr Uv]
theorem zero39 (e : Nat) : Obj.cells ty39.zero.cells e = .cells ((List.replicate 256 false).map Value.bool).toArray e := by
  show Obj.cells (Array.replicate 256 (.bool false)) e = _
  rw [rep_arr Value.bool]
theorem arr_eq {α : Type} (f : α → Value) {l l' : List α} (e : Nat) (h : l = l') : Obj.cells (l.map f).toArray e = .cells (l'.map f).toArray e := by rw [h]
theorem new_c (f g : List UInt8) (hf : f.length ≤ 140737488351232) (hg : g.length ≤ 140737488351232) (w : World) :
    Pure Try.prog 13 #[Sv f, Sv g] (fun _ : Unit => .tuple #[.agg ((newM f g).1.map Uv).toArray, Iv (newM f g).2]) (fun _ => []) w := by
  refine calls_of_ES TB Try.func13 rfl _ Try.ntmps13 rfl (Sat.start w) ?_
  repeat (first | apply ES.seq | apply ES.skip | apply ES.region | apply EL.nil | apply ES.block | apply ES.nil | apply ES.exit | apply ES.ret | apply PX.hit | (apply PX.miss; exact rfl) | apply PX.then_x | apply PX.then_r | apply PX.block_n | apply PX.block_r | refine PX.then_n (e := .normal) ?_)
  (refine EL.alloc rfl rfl rfl ?_; intro g4)
  refine EL.assign rfl rfl rfl ?_
  repeat (first | apply ES.seq | apply ES.skip | apply ES.region | apply EL.nil | apply ES.block | apply ES.nil | apply ES.exit | apply ES.ret | apply PX.hit | (apply PX.miss; exact rfl) | apply PX.then_x | apply PX.then_r | apply PX.block_n | apply PX.block_r | refine PX.then_n (e := .normal) ?_)
  (refine EL.alloc rfl rfl rfl ?_; intro g6)
  repeat (first | apply ES.seq | apply ES.skip | apply ES.region | apply EL.nil | apply ES.block | apply ES.nil | apply ES.exit | apply ES.ret | apply PX.hit | (apply PX.miss; exact rfl) | apply PX.then_x | apply PX.then_r | apply PX.block_n | apply PX.block_r | refine PX.then_n (e := .normal) ?_)
  refine EL.move rfl rfl rfl ?_
  refine EL.lenS rfl rfl rfl rfl rfl ?_
  refine EL.move rfl rfl rfl ?_
  refine EL.lenS rfl rfl rfl rfl rfl ?_
  refine EL.neqI rfl rfl rfl rfl ?_
  repeat (first | apply ES.seq | apply ES.skip | apply ES.region | apply EL.nil | apply ES.block | apply ES.nil | apply ES.exit | apply ES.ret | apply PX.hit | (apply PX.miss; exact rfl) | apply PX.then_x | apply PX.then_r | apply PX.block_n | apply PX.block_r | refine PX.then_n (e := .normal) ?_)
  refine ES.blkEq (g := g4) (by repeat (first | exact PickSet.here _ _ _ | apply PickSet.there)) (zero31 31) ?_
  refine ES.blkEq (g := g6) (by repeat (first | exact PickSet.here _ _ _ | apply PickSet.there)) (zero31 31) ?_
  refine ES.condN rfl (fun hne => ?_) (fun heq => ?_)
  · repeat (first | apply ES.seq | apply ES.skip | apply ES.region | apply EL.nil | apply ES.block | apply ES.nil | apply ES.exit | apply ES.ret | apply PX.hit | (apply PX.miss; exact rfl) | apply PX.then_x | apply PX.then_r | apply PX.block_n | apply PX.block_r | refine PX.then_n (e := .normal) ?_)
    (refine EL.loadAggB rfl rfl rfl rfl rfl (by repeat (first | exact Mem.here _ _ | apply Mem.there)) (by simp; rfl) ?_)
    refine EL.storeAll (vs := (List.replicate 256 (0 : UInt8)).map Uv) rfl rfl rfl rfl (by simp; rfl) (by repeat (first | exact PickSet.here _ _ _ | apply PickSet.there)) (by simp) (one_map Uv (fun _ => rfl) _) ?_
    refine EL.assign rfl rfl rfl ?_
    repeat (first | apply ES.seq | apply ES.skip | apply ES.region | apply EL.nil | apply ES.block | apply ES.nil | apply ES.exit | apply ES.ret | apply PX.hit | (apply PX.miss; exact rfl) | apply PX.then_x | apply PX.then_r | apply PX.block_n | apply PX.block_r | refine PX.then_n (e := .normal) ?_)
    exact PX.ret rfl Try.results13 (.cons (.blkA rfl rfl rfl (by repeat (first | exact Mem.here _ _ | apply Mem.there)) (by simp; rfl)) (.cons (.tmp rfl) .nil)) (fun w hs => ⟨(), by rw [newM_bad f g (by omega)]; rfl, hs.ent (.nil _)⟩)
  · have hlen : f.length = g.length := by omega
    repeat (first | apply ES.seq | apply ES.skip | apply ES.region | apply EL.nil | apply ES.block | apply ES.nil | apply ES.exit | apply ES.ret | apply PX.hit | (apply PX.miss; exact rfl) | apply PX.then_x | apply PX.then_r | apply PX.block_n | apply PX.block_r | refine PX.then_n (e := .normal) ?_)
    (refine EL.alloc rfl rfl rfl ?_; intro g7)
    repeat (first | apply ES.seq | apply ES.skip | apply ES.region | apply EL.nil | apply ES.block | apply ES.nil | apply ES.exit | apply ES.ret | apply PX.hit | (apply PX.miss; exact rfl) | apply PX.then_x | apply PX.then_r | apply PX.block_n | apply PX.block_r | refine PX.then_n (e := .normal) ?_)
    refine EL.move rfl rfl rfl ?_
    repeat (first | apply ES.seq | apply ES.skip | apply ES.region | apply EL.nil | apply ES.block | apply ES.nil | apply ES.exit | apply ES.ret | apply PX.hit | (apply PX.miss; exact rfl) | apply PX.then_x | apply PX.then_r | apply PX.block_n | apply PX.block_r | refine PX.then_n (e := .normal) ?_)
    refine ES.blkEq (g := g7) (by repeat (first | exact PickSet.here _ _ _ | apply PickSet.there)) (zero39 39) ?_
    refine ES.blkEq (g := g6) (by repeat (first | exact PickSet.here _ _ _ | apply PickSet.there)) (arr_eq Uv 31 (l' := (List.range 0).map UInt8.ofNat ++ List.replicate (256 - 0) 0) (by simp)) ?_
    refine ES.loop (σ := Nat) (fun k => k ≤ 256) (fun k => [(0, Sv f), (1, Sv g), (4, Pv g4 0), (5, Iv 0), (6, Pv g6 0), (7, Pv g7 0), (16, Iv k)])
      (fun k => [HA.blk g7 (.cells ((List.replicate 256 false).map Value.bool).toArray 39), HA.blk g6 (.cells (((List.range k).map UInt8.ofNat ++ List.replicate (256 - k) 0).map Uv).toArray 31), HA.blk g4 (.cells ((List.replicate 256 (0 : UInt8)).map Uv).toArray 31)])
      (fun k => 256 - k) 0 (Nat.zero_le _) ⟨rfl, rfl, rfl, rfl, rfl, rfl, rfl, trivial⟩ (by repeat (first | exact Ent.nil _ | exact Ent.refl _ | (apply Ent.cons; case p => repeat (first | exact Pick.here _ _ | apply Pick.there)))) ?_
    intro k hk
    repeat (first | apply ES.seq | apply ES.skip | apply ES.region | apply EL.nil | apply ES.block | apply ES.nil | apply ES.exit | apply ES.ret | apply PX.hit | (apply PX.miss; exact rfl) | apply PX.then_x | apply PX.then_r | apply PX.block_n | apply PX.block_r | refine PX.then_n (e := .normal) ?_)
    refine EL.lss rfl rfl rfl rfl ?_
    repeat (first | apply ES.seq | apply ES.skip | apply ES.region | apply EL.nil | apply ES.block | apply ES.nil | apply ES.exit | apply ES.ret | apply PX.hit | (apply PX.miss; exact rfl) | apply PX.then_x | apply PX.then_r | apply PX.block_n | apply PX.block_r | refine PX.then_n (e := .normal) ?_)
    refine ES.condD rfl (fun hlt => ?_) (fun hge => ?_)
    · have hk' : k < 256 := by omega
      have hk8 : ((UInt8.ofNat k).toNat : Int) = k := by simp; omega
      repeat (first | apply ES.seq | apply ES.skip | apply ES.region | apply EL.nil | apply ES.block | apply ES.nil | apply ES.exit | apply ES.ret | apply PX.hit | (apply PX.miss; exact rfl) | apply PX.then_x | apply PX.then_r | apply PX.block_n | apply PX.block_r | refine PX.then_n (e := .normal) ?_)
      refine EL.move rfl rfl rfl ?_
      refine EL.assign rfl rfl rfl ?_
      repeat (first | apply ES.seq | apply ES.skip | apply ES.region | apply EL.nil | apply ES.block | apply ES.nil | apply ES.exit | apply ES.ret | apply PX.hit | (apply PX.miss; exact rfl) | apply PX.then_x | apply PX.then_r | apply PX.block_n | apply PX.block_r | refine PX.then_n (e := .normal) ?_)
      refine EL.move rfl rfl rfl ?_
      refine EL.move rfl rfl rfl ?_
      refine EL.convI ((UInt8.ofNat k).toNat : Int) rfl rfl rfl rfl rfl rfl (by rw [hk8]; exact wrap_u8 k hk') ?_
      refine EL.indexAddrA1 rfl rfl rfl rfl rfl rfl rfl rfl (by omega) ?_
      refine EL.storeBm Uv (b := UInt8.ofNat k) rfl rfl rfl rfl rfl rfl (by repeat (first | exact PickSet.here _ _ _ | apply PickSet.there)) (by simp; omega) ?_
      repeat (first | apply ES.seq | apply ES.skip | apply ES.region | apply EL.nil | apply ES.block | apply ES.nil | apply ES.exit | apply ES.ret | apply PX.hit | (apply PX.miss; exact rfl) | apply PX.then_x | apply PX.then_r | apply PX.block_n | apply PX.block_r | refine PX.then_n (e := .normal) ?_)
      refine EL.add1 rfl rfl rfl rfl (by omega) ?_
      refine EL.move rfl rfl rfl ?_
      repeat (first | apply ES.seq | apply ES.skip | apply ES.region | apply EL.nil | apply ES.block | apply ES.nil | apply ES.exit | apply ES.ret | apply PX.hit | (apply PX.miss; exact rfl) | apply PX.then_x | apply PX.then_r | apply PX.block_n | apply PX.block_r | refine PX.then_n (e := .normal) ?_)
      have hfs := fill_set UInt8.ofNat 0 256 k hk'
      rw [hfs]
      exact PX.loop (k + 1) (by omega) (by omega) ⟨rfl, rfl, rfl, rfl, rfl, rfl, rfl, trivial⟩ (by repeat (first | exact Ent.nil _ | exact Ent.refl _ | (apply Ent.cons; case p => repeat (first | exact Pick.here _ _ | apply Pick.there))))
    · obtain rfl : k = 256 := by omega
      repeat (first | apply ES.seq | apply ES.skip | apply ES.region | apply EL.nil | apply ES.block | apply ES.nil | apply ES.exit | apply ES.ret | apply PX.hit | (apply PX.miss; exact rfl) | apply PX.then_x | apply PX.then_r | apply PX.block_n | apply PX.block_r | refine PX.then_n (e := .normal) ?_)
      refine EL.move rfl rfl rfl ?_
      refine EL.lenS rfl rfl rfl rfl rfl ?_
      refine EL.move rfl rfl rfl ?_
      repeat (first | apply ES.seq | apply ES.skip | apply ES.region | apply EL.nil | apply ES.block | apply ES.nil | apply ES.exit | apply ES.ret | apply PX.hit | (apply PX.miss; exact rfl) | apply PX.then_x | apply PX.then_r | apply PX.block_n | apply PX.block_r | refine PX.then_n (e := .normal) ?_)
      refine ES.blkEq (g := g6) (by repeat (first | exact PickSet.here _ _ _ | apply PickSet.there)) (arr_eq Uv 31 (l' := idT) (by simp [idT])) ?_
      refine ES.loop (σ := Nat × List UInt8 × List Bool) (fun (i, t, s) => i ≤ f.length ∧ t.length = 256 ∧ s.length = 256 ∧ (f.take i).Nodup ∧ (∀ b : UInt8, s.getD b.toNat false = decide (b ∈ f.take i)) ∧ tabGo t (f.drop i) (g.drop i) = tabGo idT f g)
        (fun (i, t, s) => [(0, Sv f), (1, Sv g), (4, Pv g4 0), (5, Iv 0), (6, Pv g6 0), (7, Pv g7 0), (25, Iv f.length), (26, Iv i)])
        (fun (i, t, s) => [HA.blk g7 (.cells (s.map Value.bool).toArray 39), HA.blk g6 (.cells (t.map Uv).toArray 31), HA.blk g4 (.cells ((List.replicate 256 (0 : UInt8)).map Uv).toArray 31)])
        (fun (i, t, s) => f.length - i) (0, idT, List.replicate 256 false) ⟨Nat.zero_le _, idT_len, by simp, by simp, fun b => by rw [rep_getD]; simp, rfl⟩ ⟨rfl, rfl, rfl, rfl, rfl, rfl, rfl, rfl, trivial⟩ (by repeat (first | exact Ent.nil _ | exact Ent.refl _ | (apply Ent.cons; case p => repeat (first | exact Pick.here _ _ | apply Pick.there)))) ?_
      rintro ⟨i, t, s⟩ ⟨hi, ht, hs, hnd, hseen, htab⟩
      dsimp only at hi ht hs hnd hseen htab ⊢
      repeat (first | apply ES.seq | apply ES.skip | apply ES.region | apply EL.nil | apply ES.block | apply ES.nil | apply ES.exit | apply ES.ret | apply PX.hit | (apply PX.miss; exact rfl) | apply PX.then_x | apply PX.then_r | apply PX.block_n | apply PX.block_r | refine PX.then_n (e := .normal) ?_)
      refine EL.lss rfl rfl rfl rfl ?_
      repeat (first | apply ES.seq | apply ES.skip | apply ES.region | apply EL.nil | apply ES.block | apply ES.nil | apply ES.exit | apply ES.ret | apply PX.hit | (apply PX.miss; exact rfl) | apply PX.then_x | apply PX.then_r | apply PX.block_n | apply PX.block_r | refine PX.then_n (e := .normal) ?_)
      refine ES.condD rfl (fun hlt => ?_) (fun hge => ?_)
      · have hlt' : i < f.length := by omega
        have hltg : i < g.length := by omega
        have hb := (f.getD i 0).toNat_lt
        repeat (first | apply ES.seq | apply ES.skip | apply ES.region | apply EL.nil | apply ES.block | apply ES.nil | apply ES.exit | apply ES.ret | apply PX.hit | (apply PX.miss; exact rfl) | apply PX.then_x | apply PX.then_r | apply PX.block_n | apply PX.block_r | refine PX.then_n (e := .normal) ?_)
        refine EL.move rfl rfl rfl ?_
        refine EL.assign rfl rfl rfl ?_
        repeat (first | apply ES.seq | apply ES.skip | apply ES.region | apply EL.nil | apply ES.block | apply ES.nil | apply ES.exit | apply ES.ret | apply PX.hit | (apply PX.miss; exact rfl) | apply PX.then_x | apply PX.then_r | apply PX.block_n | apply PX.block_r | refine PX.then_n (e := .normal) ?_)
        refine EL.move rfl rfl rfl ?_
        refine EL.move rfl rfl rfl ?_
        refine EL.indexSN rfl rfl rfl rfl rfl rfl (by omega) ?_
        refine EL.indexAddrA1 rfl rfl rfl rfl rfl rfl rfl rfl hb ?_
        refine EL.loadBm Value.bool false rfl rfl rfl rfl rfl (by repeat (first | exact Mem.here _ _ | apply Mem.there)) (by omega) ?_
        repeat (first | apply ES.seq | apply ES.skip | apply ES.region | apply EL.nil | apply ES.block | apply ES.nil | apply ES.exit | apply ES.ret | apply PX.hit | (apply PX.miss; exact rfl) | apply PX.then_x | apply PX.then_r | apply PX.block_n | apply PX.block_r | refine PX.then_n (e := .normal) ?_)
        rw [hseen]
        refine ES.condD rfl (fun hin => ?_) (fun hin => ?_)
        · repeat (first | apply ES.seq | apply ES.skip | apply ES.region | apply EL.nil | apply ES.block | apply ES.nil | apply ES.exit | apply ES.ret | apply PX.hit | (apply PX.miss; exact rfl) | apply PX.then_x | apply PX.then_r | apply PX.block_n | apply PX.block_r | refine PX.then_n (e := .normal) ?_)
          refine EL.buildZA rfl rfl rfl rfl rfl ?_
          refine EL.storeAll (vs := (List.replicate 256 (0 : UInt8)).map Uv) rfl rfl (getA rfl (congrArg Value.agg (rep_arr Uv 256 0))) rfl (by simp; rfl) (by repeat (first | exact PickSet.here _ _ _ | apply PickSet.there)) (by simp) (one_map Uv (fun _ => rfl) _) ?_
          refine EL.assign rfl rfl rfl ?_
          repeat (first | apply ES.seq | apply ES.skip | apply ES.region | apply EL.nil | apply ES.block | apply ES.nil | apply ES.exit | apply ES.ret | apply PX.hit | (apply PX.miss; exact rfl) | apply PX.then_x | apply PX.then_r | apply PX.block_n | apply PX.block_r | refine PX.then_n (e := .normal) ?_)
          exact PX.ret rfl Try.results13 (.cons (.blkA rfl rfl rfl (by repeat (first | exact Mem.here _ _ | apply Mem.there)) (by simp; rfl)) (.cons (.tmp rfl) .nil)) (fun w hs => ⟨(), by rw [newM_dup f g (not_nodup_of_take f (i + 1) (fun h => (take_nodup f i hlt' hnd).1 h hin))]; rfl, hs.ent (.nil _)⟩)
        · repeat (first | apply ES.seq | apply ES.skip | apply ES.region | apply EL.nil | apply ES.block | apply ES.nil | apply ES.exit | apply ES.ret | apply PX.hit | (apply PX.miss; exact rfl) | apply PX.then_x | apply PX.then_r | apply PX.block_n | apply PX.block_r | refine PX.then_n (e := .normal) ?_)
          refine EL.move rfl rfl rfl ?_
          refine EL.move rfl rfl rfl ?_
          refine EL.indexSN rfl rfl rfl rfl rfl rfl (by omega) ?_
          refine EL.indexAddrA1 rfl rfl rfl rfl rfl rfl rfl rfl hb ?_
          refine EL.storeBm Value.bool (b := true) rfl rfl rfl rfl rfl rfl (by repeat (first | exact PickSet.here _ _ _ | apply PickSet.there)) (by omega) ?_
          repeat (first | apply ES.seq | apply ES.skip | apply ES.region | apply EL.nil | apply ES.block | apply ES.nil | apply ES.exit | apply ES.ret | apply PX.hit | (apply PX.miss; exact rfl) | apply PX.then_x | apply PX.then_r | apply PX.block_n | apply PX.block_r | refine PX.then_n (e := .normal) ?_)
          refine ES.draw (X := Unit) (fun _ => [(0, Sv f), (1, Sv g), (4, Pv g4 0), (5, Iv 0), (6, Pv g6 0), (7, Pv g7 0), (25, Iv f.length), (26, Iv i)])
            (fun _ => [HA.blk g7 (.cells ((s.set (f.getD i 0).toNat true).map Value.bool).toArray 39), HA.blk g6 (.cells ((t.set (f.getD i 0).toNat (g.getD i 0)).map Uv).toArray 31), HA.blk g4 (.cells ((List.replicate 256 (0 : UInt8)).map Uv).toArray 31)]) [] mixed (by repeat (first | exact Ent.nil _ | exact Ent.refl _ | (apply Ent.cons; case p => repeat (first | exact Pick.here _ _ | apply Pick.there)))) ?_ (fun _ => ?_)
          · refine ED.take 0 rfl (by decide +kernel) CutX.no_panic (by decide +kernel) rfl rfl rfl (RV.move rfl) ?_
            refine ED.take 1 rfl (by decide +kernel) CutX.no_panic (by decide +kernel) rfl rfl rfl (RV.move rfl) ?_
            refine ED.take 2 rfl (by decide +kernel) CutX.no_panic (by decide +kernel) rfl rfl rfl (RV.indexSN rfl rfl rfl rfl (by omega)) ?_
            refine ED.take 3 rfl (by decide +kernel) CutX.no_panic (by decide +kernel) rfl rfl rfl (RV.move rfl) ?_
            refine ED.take 4 rfl (by decide +kernel) CutX.no_panic (by decide +kernel) rfl rfl rfl (RV.move rfl) ?_
            refine ED.take 5 rfl (by decide +kernel) CutX.no_panic (by decide +kernel) rfl rfl rfl (RV.indexSN rfl rfl rfl rfl (by omega)) ?_
            refine ED.take 6 rfl (by decide +kernel) CutX.no_panic (by decide +kernel) rfl rfl rfl (RV.indexAddrA1 rfl rfl rfl rfl rfl rfl hb) ?_
            refine ED.loud 7 rfl (by decide +kernel) ?_
            refine EL.storeBm Uv (b := g.getD i 0) rfl rfl rfl rfl rfl rfl (by repeat (first | exact PickSet.here _ _ _ | apply PickSet.there)) (by omega) ?_
            refine ED.next (by repeat (first | exact Ent.nil _ | exact Ent.refl _ | (apply Ent.cons; case p => repeat (first | exact Pick.here _ _ | apply Pick.there)))) ?_
            refine ED.done (by decide +kernel) ?_
            exact PX.cutX () ⟨rfl, rfl, rfl, rfl, rfl, rfl, rfl, rfl, trivial⟩ (by repeat (first | exact Ent.nil _ | exact Ent.refl _ | (apply Ent.cons; case p => repeat (first | exact Pick.here _ _ | apply Pick.there))))
          repeat (first | apply ES.seq | apply ES.skip | apply ES.region | apply EL.nil | apply ES.block | apply ES.nil | apply ES.exit | apply ES.ret | apply PX.hit | (apply PX.miss; exact rfl) | apply PX.then_x | apply PX.then_r | apply PX.block_n | apply PX.block_r | refine PX.then_n (e := .normal) ?_)
          refine EL.add1 rfl rfl rfl rfl (by omega) ?_
          refine EL.move rfl rfl rfl ?_
          repeat (first | apply ES.seq | apply ES.skip | apply ES.region | apply EL.nil | apply ES.block | apply ES.nil | apply ES.exit | apply ES.ret | apply PX.hit | (apply PX.miss; exact rfl) | apply PX.then_x | apply PX.then_r | apply PX.block_n | apply PX.block_r | refine PX.then_n (e := .normal) ?_)
          refine PX.loop (i + 1, t.set (f.getD i 0).toNat (g.getD i 0), s.set (f.getD i 0).toNat true) ⟨by simp only; omega, by simp [ht], by simp [hs], (take_nodup f i hlt' hnd).2 hin, fun b => ?_, ?_⟩ (by simp only; omega) ⟨rfl, rfl, rfl, rfl, rfl, rfl, rfl, rfl, trivial⟩ (by repeat (first | exact Ent.nil _ | exact Ent.refl _ | (apply Ent.cons; case p => repeat (first | exact Pick.here _ _ | apply Pick.there))))
          · rw [seen_step s (f.getD i 0) b (by omega), hseen, take_succ_getD f i 0 hlt', dec_comm]
            simp [Bool.or_comm]
          · rw [drop_getD f i 0 hlt', drop_getD g i 0 hltg] at htab
            exact htab
      · have hif : i = f.length := by omega
        subst hif
        rw [List.take_length] at hnd
        have htab' : t = tabGo idT f g := by rw [← htab, List.drop_length]; rfl
        subst htab'
        repeat (first | apply ES.seq | apply ES.skip | apply ES.region | apply EL.nil | apply ES.block | apply ES.nil | apply ES.exit | apply ES.ret | apply PX.hit | (apply PX.miss; exact rfl) | apply PX.then_x | apply PX.then_r | apply PX.block_n | apply PX.block_r | refine PX.then_n (e := .normal) ?_)
        (refine EL.loadAggB rfl rfl rfl rfl rfl (by repeat (first | exact Mem.here _ _ | apply Mem.there)) (by simp [ht]; rfl) ?_)
        refine EL.storeAll (vs := (tabGo idT f g).map Uv) rfl rfl rfl rfl (by simp [ht]; rfl) (by repeat (first | exact PickSet.here _ _ _ | apply PickSet.there)) (by simp [ht]) (one_map Uv (fun _ => rfl) _) ?_
        refine EL.assign rfl rfl rfl ?_
        repeat (first | apply ES.seq | apply ES.skip | apply ES.region | apply EL.nil | apply ES.block | apply ES.nil | apply ES.exit | apply ES.ret | apply PX.hit | (apply PX.miss; exact rfl) | apply PX.then_x | apply PX.then_r | apply PX.block_n | apply PX.block_r | refine PX.then_n (e := .normal) ?_)
        exact PX.ret rfl Try.results13 (.cons (.blkA rfl rfl rfl (by repeat (first | exact Mem.here _ _ | apply Mem.there)) (by simp [ht]; rfl)) (.cons (.tmp rfl) .nil)) (fun w hs => ⟨(), by rw [newM_ok f g hlen hnd]; rfl, hs.ent (.nil _)⟩)

theorem docnew_c (f g : List UInt8) (hf : f.length ≤ 140737488351232) (hg : g.length ≤ 140737488351232) (w : World) :
    Pure Try.prog 14 #[Sv f, Sv g] (fun _ : Unit => .tuple #[.agg ((newM f g).1.map Uv).toArray, Iv (newM f g).2]) (fun _ => []) w := by
  refine calls_of_ES TB Try.func14 rfl _ Try.ntmps14 rfl (Sat.start w) ?_
  repeat (first | apply ES.seq | apply ES.skip | apply ES.region | apply EL.nil | apply ES.block | apply ES.nil | apply ES.exit | apply ES.ret | apply PX.hit | (apply PX.miss; exact rfl) | apply PX.then_x | apply PX.then_r | apply PX.block_n | apply PX.block_r | refine PX.then_n (e := .normal) ?_)
  (refine EL.alloc rfl rfl rfl ?_; intro g4)
  refine EL.assign rfl rfl rfl ?_
  repeat (first | apply ES.seq | apply ES.skip | apply ES.region | apply EL.nil | apply ES.block | apply ES.nil | apply ES.exit | apply ES.ret | apply PX.hit | (apply PX.miss; exact rfl) | apply PX.then_x | apply PX.then_r | apply PX.block_n | apply PX.block_r | refine PX.then_n (e := .normal) ?_)
  (refine EL.alloc rfl rfl rfl ?_; intro g6)
  repeat (first | apply ES.seq | apply ES.skip | apply ES.region | apply EL.nil | apply ES.block | apply ES.nil | apply ES.exit | apply ES.ret | apply PX.hit | (apply PX.miss; exact rfl) | apply PX.then_x | apply PX.then_r | apply PX.block_n | apply PX.block_r | refine PX.then_n (e := .normal) ?_)
  refine EL.move rfl rfl rfl ?_
  refine EL.lenS rfl rfl rfl rfl rfl ?_
  refine EL.move rfl rfl rfl ?_
  refine EL.lenS rfl rfl rfl rfl rfl ?_
  refine EL.neqI rfl rfl rfl rfl ?_
  repeat (first | apply ES.seq | apply ES.skip | apply ES.region | apply EL.nil | apply ES.block | apply ES.nil | apply ES.exit | apply ES.ret | apply PX.hit | (apply PX.miss; exact rfl) | apply PX.then_x | apply PX.then_r | apply PX.block_n | apply PX.block_r | refine PX.then_n (e := .normal) ?_)
  refine ES.blkEq (g := g4) (by repeat (first | exact PickSet.here _ _ _ | apply PickSet.there)) (zero31 31) ?_
  refine ES.blkEq (g := g6) (by repeat (first | exact PickSet.here _ _ _ | apply PickSet.there)) (zero31 31) ?_
  refine ES.condN rfl (fun hne => ?_) (fun heq => ?_)
  · repeat (first | apply ES.seq | apply ES.skip | apply ES.region | apply EL.nil | apply ES.block | apply ES.nil | apply ES.exit | apply ES.ret | apply PX.hit | (apply PX.miss; exact rfl) | apply PX.then_x | apply PX.then_r | apply PX.block_n | apply PX.block_r | refine PX.then_n (e := .normal) ?_)
    (refine EL.loadAggB rfl rfl rfl rfl rfl (by repeat (first | exact Mem.here _ _ | apply Mem.there)) (by simp; rfl) ?_)
    refine EL.storeAll (vs := (List.replicate 256 (0 : UInt8)).map Uv) rfl rfl rfl rfl (by simp; rfl) (by repeat (first | exact PickSet.here _ _ _ | apply PickSet.there)) (by simp) (one_map Uv (fun _ => rfl) _) ?_
    refine EL.assign rfl rfl rfl ?_
    repeat (first | apply ES.seq | apply ES.skip | apply ES.region | apply EL.nil | apply ES.block | apply ES.nil | apply ES.exit | apply ES.ret | apply PX.hit | (apply PX.miss; exact rfl) | apply PX.then_x | apply PX.then_r | apply PX.block_n | apply PX.block_r | refine PX.then_n (e := .normal) ?_)
    exact PX.ret rfl Try.results14 (.cons (.blkA rfl rfl rfl (by repeat (first | exact Mem.here _ _ | apply Mem.there)) (by simp; rfl)) (.cons (.tmp rfl) .nil)) (fun w hs => ⟨(), by rw [newM_bad f g (by omega)]; rfl, hs.ent (.nil _)⟩)
  · have hlen : f.length = g.length := by omega
    repeat (first | apply ES.seq | apply ES.skip | apply ES.region | apply EL.nil | apply ES.block | apply ES.nil | apply ES.exit | apply ES.ret | apply PX.hit | (apply PX.miss; exact rfl) | apply PX.then_x | apply PX.then_r | apply PX.block_n | apply PX.block_r | refine PX.then_n (e := .normal) ?_)
    refine EL.assign rfl rfl rfl ?_
    repeat (first | apply ES.seq | apply ES.skip | apply ES.region | apply EL.nil | apply ES.block | apply ES.nil | apply ES.exit | apply ES.ret | apply PX.hit | (apply PX.miss; exact rfl) | apply PX.then_x | apply PX.then_r | apply PX.block_n | apply PX.block_r | refine PX.then_n (e := .normal) ?_)
    refine ES.loop (σ := Nat) (fun i => i ≤ f.length ∧ (f.take i).Nodup) (fun i => [(0, Sv f), (1, Sv g), (4, Pv g4 0), (5, Iv 0), (6, Pv g6 0), (7, Iv i)])
      (fun i => [HA.blk g6 (.cells ((List.replicate 256 (0 : UInt8)).map Uv).toArray 31), HA.blk g4 (.cells ((List.replicate 256 (0 : UInt8)).map Uv).toArray 31)])
      (fun i => f.length - i) 0 ⟨Nat.zero_le _, by simp⟩ ⟨rfl, rfl, rfl, rfl, rfl, rfl, trivial⟩ (by repeat (first | exact Ent.nil _ | exact Ent.refl _ | (apply Ent.cons; case p => repeat (first | exact Pick.here _ _ | apply Pick.there)))) ?_
    rintro i ⟨hi, hnd⟩
    repeat (first | apply ES.seq | apply ES.skip | apply ES.region | apply EL.nil | apply ES.block | apply ES.nil | apply ES.exit | apply ES.ret | apply PX.hit | (apply PX.miss; exact rfl) | apply PX.then_x | apply PX.then_r | apply PX.block_n | apply PX.block_r | refine PX.then_n (e := .normal) ?_)
    refine EL.move rfl rfl rfl ?_
    refine EL.move rfl rfl rfl ?_
    refine EL.lenS rfl rfl rfl rfl rfl ?_
    refine EL.lss rfl rfl rfl rfl ?_
    repeat (first | apply ES.seq | apply ES.skip | apply ES.region | apply EL.nil | apply ES.block | apply ES.nil | apply ES.exit | apply ES.ret | apply PX.hit | (apply PX.miss; exact rfl) | apply PX.then_x | apply PX.then_r | apply PX.block_n | apply PX.block_r | refine PX.then_n (e := .normal) ?_)
    refine ES.condD rfl (fun hlt => ?_) (fun hge => ?_)
    · have hlt' : i < f.length := by omega
      repeat (first | apply ES.seq | apply ES.skip | apply ES.region | apply EL.nil | apply ES.block | apply ES.nil | apply ES.exit | apply ES.ret | apply PX.hit | (apply PX.miss; exact rfl) | apply PX.then_x | apply PX.then_r | apply PX.block_n | apply PX.block_r | refine PX.then_n (e := .normal) ?_)
      refine EL.assign rfl rfl rfl ?_
      repeat (first | apply ES.seq | apply ES.skip | apply ES.region | apply EL.nil | apply ES.block | apply ES.nil | apply ES.exit | apply ES.ret | apply PX.hit | (apply PX.miss; exact rfl) | apply PX.then_x | apply PX.then_r | apply PX.block_n | apply PX.block_r | refine PX.then_n (e := .normal) ?_)
      refine ES.loop (σ := Nat) (fun j => j ≤ i ∧ f.getD i 0 ∉ f.take j) (fun j => [(0, Sv f), (1, Sv g), (4, Pv g4 0), (5, Iv 0), (6, Pv g6 0), (7, Iv i), (8, Iv j)])
        (fun j => [HA.blk g6 (.cells ((List.replicate 256 (0 : UInt8)).map Uv).toArray 31), HA.blk g4 (.cells ((List.replicate 256 (0 : UInt8)).map Uv).toArray 31)])
        (fun j => i - j) 0 ⟨Nat.zero_le _, by simp⟩ ⟨rfl, rfl, rfl, rfl, rfl, rfl, rfl, trivial⟩ (by repeat (first | exact Ent.nil _ | exact Ent.refl _ | (apply Ent.cons; case p => repeat (first | exact Pick.here _ _ | apply Pick.there)))) ?_
      rintro j ⟨hj, hnot⟩
      repeat (first | apply ES.seq | apply ES.skip | apply ES.region | apply EL.nil | apply ES.block | apply ES.nil | apply ES.exit | apply ES.ret | apply PX.hit | (apply PX.miss; exact rfl) | apply PX.then_x | apply PX.then_r | apply PX.block_n | apply PX.block_r | refine PX.then_n (e := .normal) ?_)
      refine EL.move rfl rfl rfl ?_
      refine EL.move rfl rfl rfl ?_
      refine EL.lss rfl rfl rfl rfl ?_
      repeat (first | apply ES.seq | apply ES.skip | apply ES.region | apply EL.nil | apply ES.block | apply ES.nil | apply ES.exit | apply ES.ret | apply PX.hit | (apply PX.miss; exact rfl) | apply PX.then_x | apply PX.then_r | apply PX.block_n | apply PX.block_r | refine PX.then_n (e := .normal) ?_)
      refine ES.condD rfl (fun hjlt => ?_) (fun hjge => ?_)
      · have hj' : j < f.length := by omega
        repeat (first | apply ES.seq | apply ES.skip | apply EL.nil | apply ES.block | apply ES.nil | apply ES.exit | apply ES.ret | apply PX.hit | (apply PX.miss; exact rfl) | apply PX.then_x | apply PX.then_r | apply PX.block_n | apply PX.block_r | refine PX.then_n (e := .normal) ?_)
        refine ES.draw (X := Unit) (fun _ => [(0, Sv f), (1, Sv g), (4, Pv g4 0), (5, Iv 0), (6, Pv g6 0), (7, Iv i), (8, Iv j), (34, .bool (decide (((f.getD i 0).toNat : Int) = (f.getD j 0).toNat)))])
          (fun _ => [HA.blk g6 (.cells ((List.replicate 256 (0 : UInt8)).map Uv).toArray 31), HA.blk g4 (.cells ((List.replicate 256 (0 : UInt8)).map Uv).toArray 31)]) [] mixed (by repeat (first | exact Ent.nil _ | exact Ent.refl _ | (apply Ent.cons; case p => repeat (first | exact Pick.here _ _ | apply Pick.there)))) ?_ (fun _ => ?_)
        · refine ED.take 0 rfl (by decide +kernel) CutX.no_panic (by decide +kernel) rfl rfl rfl (RV.move rfl) ?_
          refine ED.take 1 rfl (by decide +kernel) CutX.no_panic (by decide +kernel) rfl rfl rfl (RV.move rfl) ?_
          refine ED.take 2 rfl (by decide +kernel) CutX.no_panic (by decide +kernel) rfl rfl rfl (RV.indexSN rfl rfl rfl rfl (by omega)) ?_
          refine ED.take 3 rfl (by decide +kernel) CutX.no_panic (by decide +kernel) rfl rfl rfl (RV.move rfl) ?_
          refine ED.take 4 rfl (by decide +kernel) CutX.no_panic (by decide +kernel) rfl rfl rfl (RV.move rfl) ?_
          refine ED.take 5 rfl (by decide +kernel) CutX.no_panic (by decide +kernel) rfl rfl rfl (RV.indexSN rfl rfl rfl rfl (by omega)) ?_
          refine ED.take 6 rfl (by decide +kernel) CutX.no_panic (by decide +kernel) rfl rfl rfl (RV.eqlI rfl rfl) ?_
          refine ED.done (by decide +kernel) ?_
          exact PX.cutX () ⟨rfl, rfl, rfl, rfl, rfl, rfl, rfl, rfl, trivial⟩ (by repeat (first | exact Ent.nil _ | exact Ent.refl _ | (apply Ent.cons; case p => repeat (first | exact Pick.here _ _ | apply Pick.there))))
        refine ES.condD rfl (fun he => ?_) (fun he => ?_)
        · repeat (first | apply ES.seq | apply ES.skip | apply ES.region | apply EL.nil | apply ES.block | apply ES.nil | apply ES.exit | apply ES.ret | apply PX.hit | (apply PX.miss; exact rfl) | apply PX.then_x | apply PX.then_r | apply PX.block_n | apply PX.block_r | refine PX.then_n (e := .normal) ?_)
          (refine EL.loadAggB rfl rfl rfl rfl rfl (by repeat (first | exact Mem.here _ _ | apply Mem.there)) (by simp; rfl) ?_)
          refine EL.storeAll (vs := (List.replicate 256 (0 : UInt8)).map Uv) rfl rfl rfl rfl (by simp; rfl) (by repeat (first | exact PickSet.here _ _ _ | apply PickSet.there)) (by simp) (one_map Uv (fun _ => rfl) _) ?_
          refine EL.assign rfl rfl rfl ?_
          repeat (first | apply ES.seq | apply ES.skip | apply ES.region | apply EL.nil | apply ES.block | apply ES.nil | apply ES.exit | apply ES.ret | apply PX.hit | (apply PX.miss; exact rfl) | apply PX.then_x | apply PX.then_r | apply PX.block_n | apply PX.block_r | refine PX.then_n (e := .normal) ?_)
          refine PX.ret rfl Try.results14 (.cons (.blkA rfl rfl rfl (by repeat (first | exact Mem.here _ _ | apply Mem.there)) (by simp; rfl)) (.cons (.tmp rfl) .nil)) (fun w hs => ⟨(), by rw [newM_dup f g (not_nodup_of_take f (i + 1) (fun h => (take_nodup f i hlt' hnd).1 h (by rw [u8_of _ _ he]; exact getD_mem_take f j i 0 (by omega) hj')))]; rfl, hs.ent (.nil _)⟩)
        · repeat (first | apply ES.seq | apply ES.skip | apply ES.region | apply EL.nil | apply ES.block | apply ES.nil | apply ES.exit | apply ES.ret | apply PX.hit | (apply PX.miss; exact rfl) | apply PX.then_x | apply PX.then_r | apply PX.block_n | apply PX.block_r | refine PX.then_n (e := .normal) ?_)
          refine EL.move rfl rfl rfl ?_
          refine EL.add1 rfl rfl rfl rfl (by omega) ?_
          refine EL.assign rfl rfl rfl ?_
          repeat (first | apply ES.seq | apply ES.skip | apply ES.region | apply EL.nil | apply ES.block | apply ES.nil | apply ES.exit | apply ES.ret | apply PX.hit | (apply PX.miss; exact rfl) | apply PX.then_x | apply PX.then_r | apply PX.block_n | apply PX.block_r | refine PX.then_n (e := .normal) ?_)
          refine PX.loop (j + 1) ⟨by omega, ?_⟩ (by omega) ⟨rfl, rfl, rfl, rfl, rfl, rfl, rfl, trivial⟩ (by repeat (first | exact Ent.nil _ | exact Ent.refl _ | (apply Ent.cons; case p => repeat (first | exact Pick.here _ _ | apply Pick.there))))
          rw [take_succ_getD f j 0 hj']
          simp only [List.mem_append, List.mem_singleton, not_or]
          exact ⟨hnot, fun e => he (by rw [e])⟩
      · obtain rfl : j = i := by omega
        repeat (first | apply ES.seq | apply ES.skip | apply ES.region | apply EL.nil | apply ES.block | apply ES.nil | apply ES.exit | apply ES.ret | apply PX.hit | (apply PX.miss; exact rfl) | apply PX.then_x | apply PX.then_r | apply PX.block_n | apply PX.block_r | refine PX.then_n (e := .normal) ?_)
        refine EL.move rfl rfl rfl ?_
        refine EL.add1 rfl rfl rfl rfl (by omega) ?_
        refine EL.assign rfl rfl rfl ?_
        repeat (first | apply ES.seq | apply ES.skip | apply ES.region | apply EL.nil | apply ES.block | apply ES.nil | apply ES.exit | apply ES.ret | apply PX.hit | (apply PX.miss; exact rfl) | apply PX.then_x | apply PX.then_r | apply PX.block_n | apply PX.block_r | refine PX.then_n (e := .normal) ?_)
        exact PX.loop (j + 1) ⟨by omega, (take_nodup f j hlt' hnd).2 hnot⟩ (by omega) ⟨rfl, rfl, rfl, rfl, rfl, rfl, trivial⟩ (by repeat (first | exact Ent.nil _ | exact Ent.refl _ | (apply Ent.cons; case p => repeat (first | exact Pick.here _ _ | apply Pick.there))))
    · have hif : i = f.length := by omega
      subst hif
      rw [List.take_length] at hnd
      repeat (first | apply ES.seq | apply ES.skip | apply ES.region | apply EL.nil | apply ES.block | apply ES.nil | apply ES.exit | apply ES.ret | apply PX.hit | (apply PX.miss; exact rfl) | apply PX.then_x | apply PX.then_r | apply PX.block_n | apply PX.block_r | refine PX.then_n (e := .normal) ?_)
      refine EL.assign rfl rfl rfl ?_
      repeat (first | apply ES.seq | apply ES.skip | apply ES.region | apply EL.nil | apply ES.block | apply ES.nil | apply ES.exit | apply ES.ret | apply PX.hit | (apply PX.miss; exact rfl) | apply PX.then_x | apply PX.then_r | apply PX.block_n | apply PX.block_r | refine PX.then_n (e := .normal) ?_)
      refine ES.blkEq (g := g6) (by repeat (first | exact PickSet.here _ _ _ | apply PickSet.there)) (arr_eq Uv 31 (l' := (List.range 0).map (fun b => lastv (UInt8.ofNat b) f g (UInt8.ofNat b)) ++ List.replicate (256 - 0) 0) (by simp)) ?_
      refine ES.loop (σ := Nat) (fun b => b ≤ 256) (fun b => [(0, Sv f), (1, Sv g), (4, Pv g4 0), (5, Iv 0), (6, Pv g6 0), (9, Iv b)])
        (fun b => [HA.blk g6 (.cells (((List.range b).map (fun b => lastv (UInt8.ofNat b) f g (UInt8.ofNat b)) ++ List.replicate (256 - b) 0).map Uv).toArray 31), HA.blk g4 (.cells ((List.replicate 256 (0 : UInt8)).map Uv).toArray 31)])
        (fun b => 256 - b) 0 (Nat.zero_le _) ⟨rfl, rfl, rfl, rfl, rfl, rfl, trivial⟩ (by repeat (first | exact Ent.nil _ | exact Ent.refl _ | (apply Ent.cons; case p => repeat (first | exact Pick.here _ _ | apply Pick.there)))) ?_
      intro b hb
      repeat (first | apply ES.seq | apply ES.skip | apply ES.region | apply EL.nil | apply ES.block | apply ES.nil | apply ES.exit | apply ES.ret | apply PX.hit | (apply PX.miss; exact rfl) | apply PX.then_x | apply PX.then_r | apply PX.block_n | apply PX.block_r | refine PX.then_n (e := .normal) ?_)
      refine EL.move rfl rfl rfl ?_
      refine EL.lss rfl rfl rfl rfl ?_
      repeat (first | apply ES.seq | apply ES.skip | apply ES.region | apply EL.nil | apply ES.block | apply ES.nil | apply ES.exit | apply ES.ret | apply PX.hit | (apply PX.miss; exact rfl) | apply PX.then_x | apply PX.then_r | apply PX.block_n | apply PX.block_r | refine PX.then_n (e := .normal) ?_)
      refine ES.condD rfl (fun hlt => ?_) (fun hge => ?_)
      · have hb' : b < 256 := by omega
        have hk8 : ((UInt8.ofNat b).toNat : Int) = b := by simp; omega
        repeat (first | apply ES.seq | apply ES.skip | apply ES.region | apply EL.nil | apply ES.block | apply ES.nil | apply ES.exit | apply ES.ret | apply PX.hit | (apply PX.miss; exact rfl) | apply PX.then_x | apply PX.then_r | apply PX.block_n | apply PX.block_r | refine PX.then_n (e := .normal) ?_)
        refine EL.move rfl rfl rfl ?_
        refine EL.move rfl rfl rfl ?_
        refine EL.convI ((UInt8.ofNat b).toNat : Int) rfl rfl rfl rfl rfl rfl (by rw [hk8]; exact wrap_u8 b hb') ?_
        refine EL.indexAddrA1 rfl rfl rfl rfl rfl rfl rfl rfl (by omega) ?_
        refine EL.storeBm Uv (b := UInt8.ofNat b) rfl rfl rfl rfl rfl rfl (by repeat (first | exact PickSet.here _ _ _ | apply PickSet.there)) (by simp; omega) ?_
        repeat (first | apply ES.seq | apply ES.skip | apply ES.region | apply EL.nil | apply ES.block | apply ES.nil | apply ES.exit | apply ES.ret | apply PX.hit | (apply PX.miss; exact rfl) | apply PX.then_x | apply PX.then_r | apply PX.block_n | apply PX.block_r | refine PX.then_n (e := .normal) ?_)
        refine EL.assign rfl rfl rfl ?_
        repeat (first | apply ES.seq | apply ES.skip | apply ES.region | apply EL.nil | apply ES.block | apply ES.nil | apply ES.exit | apply ES.ret | apply PX.hit | (apply PX.miss; exact rfl) | apply PX.then_x | apply PX.then_r | apply PX.block_n | apply PX.block_r | refine PX.then_n (e := .normal) ?_)
        refine ES.loop (σ := Nat × UInt8) (fun (i, v) => i ≤ f.length ∧ lastv (UInt8.ofNat b) (f.drop i) (g.drop i) v = lastv (UInt8.ofNat b) f g (UInt8.ofNat b))
          (fun (i, v) => [(0, Sv f), (1, Sv g), (4, Pv g4 0), (5, Iv 0), (6, Pv g6 0), (9, Iv b), (10, Iv i)])
          (fun (i, v) => [HA.blk g6 (.cells ((((List.range b).map (fun b => lastv (UInt8.ofNat b) f g (UInt8.ofNat b)) ++ List.replicate (256 - b) 0).set b v).map Uv).toArray 31), HA.blk g4 (.cells ((List.replicate 256 (0 : UInt8)).map Uv).toArray 31)])
          (fun (i, v) => f.length - i) (0, UInt8.ofNat b) ⟨Nat.zero_le _, rfl⟩ ⟨rfl, rfl, rfl, rfl, rfl, rfl, rfl, trivial⟩ (by repeat (first | exact Ent.nil _ | exact Ent.refl _ | (apply Ent.cons; case p => repeat (first | exact Pick.here _ _ | apply Pick.there)))) ?_
        rintro ⟨i, v⟩ ⟨hi, hv⟩
        dsimp only at hi hv ⊢
        repeat (first | apply ES.seq | apply ES.skip | apply ES.region | apply EL.nil | apply ES.block | apply ES.nil | apply ES.exit | apply ES.ret | apply PX.hit | (apply PX.miss; exact rfl) | apply PX.then_x | apply PX.then_r | apply PX.block_n | apply PX.block_r | refine PX.then_n (e := .normal) ?_)
        refine EL.move rfl rfl rfl ?_
        refine EL.move rfl rfl rfl ?_
        refine EL.lenS rfl rfl rfl rfl rfl ?_
        refine EL.lss rfl rfl rfl rfl ?_
        repeat (first | apply ES.seq | apply ES.skip | apply ES.region | apply EL.nil | apply ES.block | apply ES.nil | apply ES.exit | apply ES.ret | apply PX.hit | (apply PX.miss; exact rfl) | apply PX.then_x | apply PX.then_r | apply PX.block_n | apply PX.block_r | refine PX.then_n (e := .normal) ?_)
        refine ES.condD rfl (fun hlt => ?_) (fun hge => ?_)
        · have hlt' : i < f.length := by omega
          have hltg : i < g.length := by omega
          rw [drop_getD f i 0 hlt', drop_getD g i 0 hltg, lastv] at hv
          repeat (first | apply ES.seq | apply ES.skip | apply ES.region | apply EL.nil | apply ES.block | apply ES.nil | apply ES.exit | apply ES.ret | apply PX.hit | (apply PX.miss; exact rfl) | apply PX.then_x | apply PX.then_r | apply PX.block_n | apply PX.block_r | refine PX.then_n (e := .normal) ?_)
          refine EL.move rfl rfl rfl ?_
          refine EL.move rfl rfl rfl ?_
          refine EL.indexSN rfl rfl rfl rfl rfl rfl (by omega) ?_
          refine EL.convN rfl rfl rfl rfl rfl rfl (le_big8 _ _) ?_
          refine EL.move rfl rfl rfl ?_
          refine EL.eqlI rfl rfl rfl rfl ?_
          repeat (first | apply ES.seq | apply ES.skip | apply ES.region | apply EL.nil | apply ES.block | apply ES.nil | apply ES.exit | apply ES.ret | apply PX.hit | (apply PX.miss; exact rfl) | apply PX.then_x | apply PX.then_r | apply PX.block_n | apply PX.block_r | refine PX.then_n (e := .normal) ?_)
          refine ES.condD rfl (fun he => ?_) (fun he => ?_)
          · repeat (first | apply ES.seq | apply ES.skip | apply ES.region | apply EL.nil | apply ES.block | apply ES.nil | apply ES.exit | apply ES.ret | apply PX.hit | (apply PX.miss; exact rfl) | apply PX.then_x | apply PX.then_r | apply PX.block_n | apply PX.block_r | refine PX.then_n (e := .normal) ?_)
            refine EL.move rfl rfl rfl ?_
            refine EL.move rfl rfl rfl ?_
            refine EL.move rfl rfl rfl ?_
            refine EL.indexSN rfl rfl rfl rfl rfl rfl (by omega) ?_
            refine EL.indexAddrA1 rfl rfl rfl rfl rfl rfl rfl rfl (by omega) ?_
            refine EL.storeBm Uv (b := g.getD i 0) rfl rfl rfl rfl rfl rfl (by repeat (first | exact PickSet.here _ _ _ | apply PickSet.there)) (by simp; omega) ?_
            rw [List.set_set]
            repeat (first | apply ES.seq | apply ES.skip | apply ES.region | apply EL.nil | apply ES.block | apply ES.nil | apply ES.exit | apply ES.ret | apply PX.hit | (apply PX.miss; exact rfl) | apply PX.then_x | apply PX.then_r | apply PX.block_n | apply PX.block_r | refine PX.then_n (e := .normal) ?_)
            refine EL.move rfl rfl rfl ?_
            refine EL.add1 rfl rfl rfl rfl (by omega) ?_
            refine EL.assign rfl rfl rfl ?_
            repeat (first | apply ES.seq | apply ES.skip | apply ES.region | apply EL.nil | apply ES.block | apply ES.nil | apply ES.exit | apply ES.ret | apply PX.hit | (apply PX.miss; exact rfl) | apply PX.then_x | apply PX.then_r | apply PX.block_n | apply PX.block_r | refine PX.then_n (e := .normal) ?_)
            refine PX.loop (i + 1, g.getD i 0) ⟨by simp only; omega, ?_⟩ (by simp only; omega) ⟨rfl, rfl, rfl, rfl, rfl, rfl, rfl, trivial⟩ (by repeat (first | exact Ent.nil _ | exact Ent.refl _ | (apply Ent.cons; case p => repeat (first | exact Pick.here _ _ | apply Pick.there))))
            rw [← hv, if_pos (u8_of _ _ (by omega))]
          · repeat (first | apply ES.seq | apply ES.skip | apply ES.region | apply EL.nil | apply ES.block | apply ES.nil | apply ES.exit | apply ES.ret | apply PX.hit | (apply PX.miss; exact rfl) | apply PX.then_x | apply PX.then_r | apply PX.block_n | apply PX.block_r | refine PX.then_n (e := .normal) ?_)
            refine EL.move rfl rfl rfl ?_
            refine EL.add1 rfl rfl rfl rfl (by omega) ?_
            refine EL.assign rfl rfl rfl ?_
            repeat (first | apply ES.seq | apply ES.skip | apply ES.region | apply EL.nil | apply ES.block | apply ES.nil | apply ES.exit | apply ES.ret | apply PX.hit | (apply PX.miss; exact rfl) | apply PX.then_x | apply PX.then_r | apply PX.block_n | apply PX.block_r | refine PX.then_n (e := .normal) ?_)
            refine PX.loop (i + 1, v) ⟨by simp only; omega, ?_⟩ (by simp only; omega) ⟨rfl, rfl, rfl, rfl, rfl, rfl, rfl, trivial⟩ (by repeat (first | exact Ent.nil _ | exact Ent.refl _ | (apply Ent.cons; case p => repeat (first | exact Pick.here _ _ | apply Pick.there))))
            rw [← hv, if_neg (fun e => he (by rw [e]; omega))]
        · have hif : i = f.length := by omega
          subst hif
          have hv' : v = lastv (UInt8.ofNat b) f g (UInt8.ofNat b) := by rw [← hv, List.drop_length]; rfl
          subst hv'
          have hfs := fill_set (fun b => lastv (UInt8.ofNat b) f g (UInt8.ofNat b)) 0 256 b hb'
          rw [hfs]
          repeat (first | apply ES.seq | apply ES.skip | apply ES.region | apply EL.nil | apply ES.block | apply ES.nil | apply ES.exit | apply ES.ret | apply PX.hit | (apply PX.miss; exact rfl) | apply PX.then_x | apply PX.then_r | apply PX.block_n | apply PX.block_r | refine PX.then_n (e := .normal) ?_)
          refine EL.move rfl rfl rfl ?_
          refine EL.add1 rfl rfl rfl rfl (by omega) ?_
          refine EL.assign rfl rfl rfl ?_
          repeat (first | apply ES.seq | apply ES.skip | apply ES.region | apply EL.nil | apply ES.block | apply ES.nil | apply ES.exit | apply ES.ret | apply PX.hit | (apply PX.miss; exact rfl) | apply PX.then_x | apply PX.then_r | apply PX.block_n | apply PX.block_r | refine PX.then_n (e := .normal) ?_)
          exact PX.loop (b + 1) (by omega) (by omega) ⟨rfl, rfl, rfl, rfl, rfl, rfl, trivial⟩ (by repeat (first | exact Ent.nil _ | exact Ent.refl _ | (apply Ent.cons; case p => repeat (first | exact Pick.here _ _ | apply Pick.there))))
      · obtain rfl : b = 256 := by omega
        repeat (first | apply ES.seq | apply ES.skip | apply ES.region | apply EL.nil | apply ES.block | apply ES.nil | apply ES.exit | apply ES.ret | apply PX.hit | (apply PX.miss; exact rfl) | apply PX.then_x | apply PX.then_r | apply PX.block_n | apply PX.block_r | refine PX.then_n (e := .normal) ?_)
        refine EL.blkEq (g := g6) (by repeat (first | exact PickSet.here _ _ _ | apply PickSet.there)) (arr_eq Uv 31 (l' := tabGo idT f g) (by rw [tab_last]; simp)) ?_
        repeat (first | apply ES.seq | apply ES.skip | apply ES.region | apply EL.nil | apply ES.block | apply ES.nil | apply ES.exit | apply ES.ret | apply PX.hit | (apply PX.miss; exact rfl) | apply PX.then_x | apply PX.then_r | apply PX.block_n | apply PX.block_r | refine PX.then_n (e := .normal) ?_)
        (refine EL.loadAggB rfl rfl rfl rfl rfl (by repeat (first | exact Mem.here _ _ | apply Mem.there)) (by simp [tabGo_len, idT_len]; rfl) ?_)
        refine EL.storeAll (vs := (tabGo idT f g).map Uv) rfl rfl rfl rfl (by simp [tabGo_len, idT_len]; rfl) (by repeat (first | exact PickSet.here _ _ _ | apply PickSet.there)) (by simp [tabGo_len, idT_len]) (one_map Uv (fun _ => rfl) _) ?_
        refine EL.assign rfl rfl rfl ?_
        repeat (first | apply ES.seq | apply ES.skip | apply ES.region | apply EL.nil | apply ES.block | apply ES.nil | apply ES.exit | apply ES.ret | apply PX.hit | (apply PX.miss; exact rfl) | apply PX.then_x | apply PX.then_r | apply PX.block_n | apply PX.block_r | refine PX.then_n (e := .normal) ?_)
        exact PX.ret rfl Try.results14 (.cons (.blkA rfl rfl rfl (by repeat (first | exact Mem.here _ _ | apply Mem.there)) (by simp [tabGo_len, idT_len]; rfl)) (.cons (.tmp rfl) .nil)) (fun w hs => ⟨(), by rw [newM_ok f g hlen hnd]; rfl, hs.ent (.nil _)⟩)
end Go.Proofs.Ytbclmngjhhmbdaa
