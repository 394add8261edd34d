/- Layer 1 (lines): the laws' helpers; the laws LinesCuts, LinesTells, LinesStops. -/
import Derived.Test.YtcaphghkflffgaaNd
import Derived.Test.YtcaphghkflffgaaSlaw
namespace Go.Proofs.Ytcaphghkflffgaa
open Go.ChangeShapes Go.WideShapes Go.ChangeAt
open Go Go.RowKit Sl
set_option maxRecDepth 100000
set_option maxHeartbeats 8000000
set_option linter.unusedVariables false
set_option linter.unusedSimpArgs false
attribute [local irreducible] ES EL PX wps

def mostM (m : Int) (ls : LL) : LL := if m < 0 then ls else ls.take m.toNat
theorem mostM_done (m : Int) (ls : LL) (h0 : m ≠ 0) (h : ∀ k : Nat, 0 < k → k ≤ ls.length → (k : Int) ≠ m) : mostM m ls = ls := by
  unfold mostM
  split
  · rfl
  · refine List.take_of_length_le ?_
    rcases Nat.lt_or_ge m.toNat ls.length with h1 | h1
    · exact absurd (by omega : ((m.toNat : Nat) : Int) = m) (h m.toNat (by omega) (by omega))
    · rcases Nat.lt_or_ge ls.length m.toNat with h2 | h2
      · omega
      · exact absurd (by omega : ((m.toNat : Nat) : Int) = m) (h m.toNat (by omega) (by omega))
theorem mostM_stop (m : Int) (ls : LL) (j : Nat) (h : (j : Int) = m) : mostM m ls = ls.take j := by
  unfold mostM
  rw [if_neg (by omega)]
  congr 1; omega
theorem allLaw_c (t : List UInt8) (m : Int) (ht : t.length ≤ 1073741824) (w : World) : Pure Try.prog 10 #[Sv t, Iv m] (fun x : Option Addr × Nat => .tuple #[.slice x.1 (mostM m (cutM t)).length x.2, .bool true]) (fun x => [HA.row (.slice x.1 (mostM m (cutM t)).length x.2) 9 1 (mostM m (cutM t)).length ((mostM m (cutM t)).map Sv)]) w := by
  have hcount := cutM_len t
  refine calls_of_ESM TB Try.func10 rfl _ Try.ntmps10 rfl (Sat.start w) ?_
  repeat (first | apply ES.seq | apply ES.skip | apply ES.region | apply EL.nil | apply ES.block | apply ES.nil | apply ES.exit | apply ES.ret | apply PX.hit | (apply PX.miss; exact rfl) | apply PX.then_x | apply PX.then_r | apply PX.block_n | apply PX.block_r | refine PX.then_n (e := .normal) ?_ | refine PX.then_d ?_ | apply ES.label | apply ES.scope | apply PX.sc_n | apply PX.sc_r | apply PX.sc_x)
  (refine EL.box rfl rfl rfl ?_; intro g3)
  (refine EL.alloc rfl rfl rfl ?_; intro g4)
  (refine EL.alloc rfl rfl rfl ?_; intro g5)
  repeat (first | apply ES.seq | apply ES.skip | apply ES.region | apply EL.nil | apply ES.block | apply ES.nil | apply ES.exit | apply ES.ret | apply PX.hit | (apply PX.miss; exact rfl) | apply PX.then_x | apply PX.then_r | apply PX.block_n | apply PX.block_r | refine PX.then_n (e := .normal) ?_ | refine PX.then_d ?_ | apply ES.label | apply ES.scope | apply PX.sc_n | apply PX.sc_r | apply PX.sc_x)
  (refine EL.alloc rfl rfl rfl ?_; intro g6)
  repeat (first | apply ES.seq | apply ES.skip | apply ES.region | apply EL.nil | apply ES.block | apply ES.nil | apply ES.exit | apply ES.ret | apply PX.hit | (apply PX.miss; exact rfl) | apply PX.then_x | apply PX.then_r | apply PX.block_n | apply PX.block_r | refine PX.then_n (e := .normal) ?_ | refine PX.then_d ?_ | apply ES.label | apply ES.scope | apply PX.sc_n | apply PX.sc_r | apply PX.sc_x)
  refine EL.move rfl rfl rfl ?_
  (refine EL.callX rfl rfl rfl ent21 rfl (all_c t) ?_; intro gc)
  refine EL.assign rfl rfl rfl ?_
  repeat (first | apply ES.seq | apply ES.skip | apply ES.region | apply EL.nil | apply ES.block | apply ES.nil | apply ES.exit | apply ES.ret | apply PX.hit | (apply PX.miss; exact rfl) | apply PX.then_x | apply PX.then_r | apply PX.block_n | apply PX.block_r | refine PX.then_n (e := .normal) ?_ | refine PX.then_d ?_ | apply ES.label | apply ES.scope | apply PX.sc_n | apply PX.sc_r | apply PX.sc_x)
  refine EL.move rfl rfl rfl ?_
  refine EL.eqlFn rfl rfl rfl Try.underlying42 rfl ?_
  refine EL.move rfl rfl rfl ?_
  refine EL.rew (d := 14) (v' := .bool false) rfl (by first | rfl | (decide) | (simp)) ?_
  (apply EL.loadB; exact rfl; exact rfl; exact rfl; exact rfl; exact rfl; (case hm => (repeat (first | exact Mem.here _ _ | apply Mem.there))); exact rfl)
  refine EL.eqlI rfl rfl rfl rfl ?_
  refine EL.pickF rfl rfl rfl rfl ?_
  repeat (first | apply ES.seq | apply ES.skip | apply ES.region | apply EL.nil | apply ES.block | apply ES.nil | apply ES.exit | apply ES.ret | apply PX.hit | (apply PX.miss; exact rfl) | apply PX.then_x | apply PX.then_r | apply PX.block_n | apply PX.block_r | refine PX.then_n (e := .normal) ?_ | refine PX.then_d ?_ | apply ES.label | apply ES.scope | apply PX.sc_n | apply PX.sc_r | apply PX.sc_x)
  refine ES.condD rfl (fun h0 => ?_) (fun h0 => ?_)
  · have hc : mostM m (cutM t) = [] := by rw [mostM_stop m _ 0 (by omega)]; rfl
    repeat (first | apply ES.seq | apply ES.skip | apply ES.region | apply EL.nil | apply ES.block | apply ES.nil | apply ES.exit | apply ES.ret | apply PX.hit | (apply PX.miss; exact rfl) | apply PX.then_x | apply PX.then_r | apply PX.block_n | apply PX.block_r | refine PX.then_n (e := .normal) ?_ | refine PX.then_d ?_ | apply ES.label | apply ES.scope | apply PX.sc_n | apply PX.sc_r | apply PX.sc_x)
    refine EL.move rfl rfl rfl ?_
    refine EL.neqFn rfl rfl rfl Try.underlying42 rfl ?_
    (apply EL.storeB; exact rfl; exact rfl; exact rfl; exact rfl; exact rfl; exact rfl; (case p => (repeat (first | exact PickSet.here _ _ _ | apply PickSet.there))); exact (by first | decide | simp))
    (apply EL.storeB; exact rfl; exact rfl; exact rfl; exact rfl; exact rfl; exact rfl; (case p => (repeat (first | exact PickSet.here _ _ _ | apply PickSet.there))); exact (by first | decide | simp))
    repeat (first | apply ES.seq | apply ES.skip | apply ES.region | apply EL.nil | apply ES.block | apply ES.nil | apply ES.exit | apply ES.ret | apply PX.hit | (apply PX.miss; exact rfl) | apply PX.then_x | apply PX.then_r | apply PX.block_n | apply PX.block_r | refine PX.then_n (e := .normal) ?_ | refine PX.then_d ?_ | apply ES.label | apply ES.scope | apply PX.sc_n | apply PX.sc_r | apply PX.sc_x)
    exact PX.retM [] rfl (.nil _) Try.results10 (.cons (.blk1 rfl rfl rfl (by repeat (first | exact Mem.here _ _ | apply Mem.there)) rfl) (.cons (.blk1 rfl rfl rfl (by repeat (first | exact Mem.here _ _ | apply Mem.there)) rfl) .nil)) (fun w hs => ⟨(none, 0), by rw [hc]; rfl, by rw [hc]; exact (hs.nilRow 9 1).ent (by repeat (first | exact Ent.nil _ | exact Ent.refl _ | (apply Ent.cons; case p => repeat (first | exact Pick.here _ _ | apply Pick.there)) | apply Ent.drop))⟩)
  repeat (first | apply ES.seq | apply ES.skip | apply ES.region | apply EL.nil | apply ES.block | apply ES.nil | apply ES.exit | apply ES.ret | apply PX.hit | (apply PX.miss; exact rfl) | apply PX.then_x | apply PX.then_r | apply PX.block_n | apply PX.block_r | refine PX.then_n (e := .normal) ?_ | refine PX.then_d ?_ | apply ES.label | apply ES.scope | apply PX.sc_n | apply PX.sc_r | apply PX.sc_x)
  refine EL.move rfl rfl rfl ?_
  repeat (first | apply ES.seq | apply ES.skip | apply ES.region | apply EL.nil | apply ES.block | apply ES.nil | apply ES.exit | apply ES.ret | apply PX.hit | (apply PX.miss; exact rfl) | apply PX.then_x | apply PX.then_r | apply PX.block_n | apply PX.block_r | refine PX.then_n (e := .normal) ?_ | refine PX.then_d ?_ | apply ES.label | apply ES.scope | apply PX.sc_n | apply PX.sc_r | apply PX.sc_x)
  refine ES.nilRow 9 1 ?_
  refine ES.rangeFunc (σ := Nat × Option Addr × Nat) (τ := Nat × Option Addr × Nat) (fun i s => s.1 = i ∧ i ≤ (cutM t).length ∧ ∀ k : Nat, 0 < k → k ≤ i → (k : Int) ≠ m) (fun s => [HA.blk g6 (.cells #[.slice s.2.1 s.1 s.2.2] 22), HA.row (.slice s.2.1 s.1 s.2.2) 9 1 s.1 (((cutM t).take s.1).map Sv), HA.blk g3 (.cells #[Iv m] 3), HA.blk g4 (.cells #[.slice none 0 0] 22), HA.blk g5 (.cells #[.bool false] 4)])
    (fun c i s => c = .exit 0 ∧ s.1 = i ∧ i ≤ (cutM t).length ∧ (i : Int) = m) (fun s => [HA.blk g6 (.cells #[.slice s.2.1 s.1 s.2.2] 22), HA.row (.slice s.2.1 s.1 s.2.2) 9 1 s.1 (((cutM t).take s.1).map Sv), HA.blk g3 (.cells #[Iv m] 3), HA.blk g4 (.cells #[.slice none 0 0] 22), HA.blk g5 (.cells #[.bool false] 4)]) (0, none, 0) ⟨rfl, Nat.zero_le _, fun k h1 h2 => by omega⟩
    rfl rfl ent26 (all1_iter gc t (by omega) _ _) (by repeat (first | exact Takes.nil _ | (apply Takes.cons; case p => repeat (first | exact Pick.here _ _ | apply Pick.there)))) (by repeat (first | exact Takes.nil _ | (apply Takes.cons; case p => repeat (first | exact Pick.here _ _ | apply Pick.there)))) (yn_two t) rfl ?_ (fun D s hs => ?_) (fun D c i s hc => ?_)
  · rintro l i ⟨j, ad, cap⟩ x R1 ⟨rfl, hj, hno⟩ hx
    dsimp only at hj hx hno ⊢
    obtain ⟨ln, hln, rfl⟩ := yn_of hx
    have hlt : j < (cutM t).length := (List.getElem?_eq_some_iff.1 hln).1
    have htk : (cutM t).take (j + 1) = (cutM t).take j ++ [ln] := by
      rw [List.take_succ_eq_append_getElem hlt, (List.getElem?_eq_some_iff.1 hln).2]
    repeat (first | apply ES.seq | apply ES.skip | apply ES.region | apply EL.nil | apply ES.block | apply ES.nil | apply ES.exit | apply ES.ret | apply PX.hit | (apply PX.miss; exact rfl) | apply PX.then_x | apply PX.then_r | apply PX.block_n | apply PX.block_r | refine PX.then_n (e := .normal) ?_ | refine PX.then_d ?_ | apply ES.label | apply ES.scope | apply PX.sc_n | apply PX.sc_r | apply PX.sc_x)
    refine EL.assign rfl rfl rfl ?_
    repeat (first | apply ES.seq | apply ES.skip | apply ES.region | apply EL.nil | apply ES.block | apply ES.nil | apply ES.exit | apply ES.ret | apply PX.hit | (apply PX.miss; exact rfl) | apply PX.then_x | apply PX.then_r | apply PX.block_n | apply PX.block_r | refine PX.then_n (e := .normal) ?_ | refine PX.then_d ?_ | apply ES.label | apply ES.scope | apply PX.sc_n | apply PX.sc_r | apply PX.sc_x)
    refine EL.assign rfl rfl rfl ?_
    repeat (first | apply ES.seq | apply ES.skip | apply ES.region | apply EL.nil | apply ES.block | apply ES.nil | apply ES.exit | apply ES.ret | apply PX.hit | (apply PX.miss; exact rfl) | apply PX.then_x | apply PX.then_r | apply PX.block_n | apply PX.block_r | refine PX.then_n (e := .normal) ?_ | refine PX.then_d ?_ | apply ES.label | apply ES.scope | apply PX.sc_n | apply PX.sc_r | apply PX.sc_x)
    refine PX.assigned [(8, Iv ((j + 1 : Nat) : Int)), (9, Sv ln), (3, Pv g3 0), (4, Pv g4 0), (5, Pv g5 0), (6, Pv g6 0)] [HA.blk g6 (.cells #[.slice ad j cap] 22), HA.row (.slice ad j cap) 9 1 j (((cutM t).take j).map Sv), HA.blk g3 (.cells #[Iv m] 3), HA.blk g4 (.cells #[.slice none 0 0] 22), HA.blk g5 (.cells #[.bool false] 4)] ⟨rfl, rfl, rfl, rfl, rfl, rfl, trivial⟩ (by repeat (first | exact Ent.nil _ | exact Ent.refl _ | (apply Ent.cons; case p => repeat (first | exact Pick.here _ _ | apply Pick.there)) | apply Ent.drop)) (fun R2 => ?_)
    repeat (first | apply ES.seq | apply ES.skip | apply ES.region | apply EL.nil | apply ES.block | apply ES.nil | apply ES.exit | apply ES.ret | apply PX.hit | (apply PX.miss; exact rfl) | apply PX.then_x | apply PX.then_r | apply PX.block_n | apply PX.block_r | refine PX.then_n (e := .normal) ?_ | refine PX.then_d ?_ | apply ES.label | apply ES.scope | apply PX.sc_n | apply PX.sc_r | apply PX.sc_x)
    (apply EL.loadB; exact rfl; exact rfl; exact rfl; exact rfl; exact rfl; (case hm => (repeat (first | exact Mem.here _ _ | apply Mem.there))); exact rfl)
    refine EL.move rfl rfl rfl ?_
    (refine EL.buildSlice1 rfl rfl rfl rfl rfl rfl rfl rfl rfl rfl ?_; intro b25)
    (refine EL.append1 rfl rfl rfl rfl rfl rfl rfl rfl rfl (by repeat (first | exact Mem.here _ _ | apply Mem.there)) (by repeat (first | exact Pick.here _ _ | apply Pick.there)) (by intro u hu; simp [Value.cells] at hu; subst hu; rfl) (by rfl) (by unfold maxLen; omega) (by first | omega | (show 1 * _ ≤ _; omega) | (show 8 * _ ≤ _; omega) | (show 16 * _ ≤ _; omega) | (show 24 * _ ≤ _; omega) | (show _ * 1 ≤ _; omega) | (show _ * 8 ≤ _; omega) | (show _ * 16 ≤ _; omega) | (show _ * 24 ≤ _; omega)) ?_; intro a26 c26)
    (apply EL.storeB; exact rfl; exact rfl; exact rfl; exact rfl; exact rfl; exact rfl; (case p => (repeat (first | exact PickSet.here _ _ _ | apply PickSet.there))); exact (by first | decide | simp))
    repeat (first | apply ES.seq | apply ES.skip | apply ES.region | apply EL.nil | apply ES.block | apply ES.nil | apply ES.exit | apply ES.ret | apply PX.hit | (apply PX.miss; exact rfl) | apply PX.then_x | apply PX.then_r | apply PX.block_n | apply PX.block_r | refine PX.then_n (e := .normal) ?_ | refine PX.then_d ?_ | apply ES.label | apply ES.scope | apply PX.sc_n | apply PX.sc_r | apply PX.sc_x)
    refine EL.move rfl rfl rfl ?_
    (apply EL.loadB; exact rfl; exact rfl; exact rfl; exact rfl; exact rfl; (case hm => (repeat (first | exact Mem.here _ _ | apply Mem.there))); exact rfl)
    refine EL.lenL rfl rfl rfl rfl rfl ?_
    refine EL.neqI rfl rfl rfl rfl ?_
    repeat (first | apply ES.seq | apply ES.skip | apply ES.region | apply EL.nil | apply ES.block | apply ES.nil | apply ES.exit | apply ES.ret | apply PX.hit | (apply PX.miss; exact rfl) | apply PX.then_x | apply PX.then_r | apply PX.block_n | apply PX.block_r | refine PX.then_n (e := .normal) ?_ | refine PX.then_d ?_ | apply ES.label | apply ES.scope | apply PX.sc_n | apply PX.sc_r | apply PX.sc_x)
    refine ES.condN rfl (fun hne => absurd rfl hne) (fun _ => ?_)
    repeat (first | apply ES.seq | apply ES.skip | apply ES.region | apply EL.nil | apply ES.block | apply ES.nil | apply ES.exit | apply ES.ret | apply PX.hit | (apply PX.miss; exact rfl) | apply PX.then_x | apply PX.then_r | apply PX.block_n | apply PX.block_r | refine PX.then_n (e := .normal) ?_ | refine PX.then_d ?_ | apply ES.label | apply ES.scope | apply PX.sc_n | apply PX.sc_r | apply PX.sc_x)
    (apply EL.loadB; exact rfl; exact rfl; exact rfl; exact rfl; exact rfl; (case hm => (repeat (first | exact Mem.here _ _ | apply Mem.there))); exact rfl)
    refine EL.lenL rfl rfl rfl rfl rfl ?_
    (apply EL.loadB; exact rfl; exact rfl; exact rfl; exact rfl; exact rfl; (case hm => (repeat (first | exact Mem.here _ _ | apply Mem.there))); exact rfl)
    refine EL.eqlI rfl rfl rfl rfl ?_
    repeat (first | apply ES.seq | apply ES.skip | apply ES.region | apply EL.nil | apply ES.block | apply ES.nil | apply ES.exit | apply ES.ret | apply PX.hit | (apply PX.miss; exact rfl) | apply PX.then_x | apply PX.then_r | apply PX.block_n | apply PX.block_r | refine PX.then_n (e := .normal) ?_ | refine PX.then_d ?_ | apply ES.label | apply ES.scope | apply PX.sc_n | apply PX.sc_r | apply PX.sc_x)
    refine ES.condD rfl (fun heq => ?_) (fun hne => ?_)
    · repeat (first | apply ES.seq | apply ES.skip | apply ES.region | apply EL.nil | apply ES.block | apply ES.nil | apply ES.exit | apply ES.ret | apply PX.hit | (apply PX.miss; exact rfl) | apply PX.then_x | apply PX.then_r | apply PX.block_n | apply PX.block_r | refine PX.then_n (e := .normal) ?_ | refine PX.then_d ?_ | apply ES.label | apply ES.scope | apply PX.sc_n | apply PX.sc_r | apply PX.sc_x)
      refine PX.roundX (j + 1, some ⟨a26, 0, none⟩, c26) ⟨rfl, rfl, by omega, heq⟩ ?_
      dsimp only
      rw [htk, List.map_append]
      exact (by repeat (first | exact Ent.nil _ | exact Ent.refl _ | (apply Ent.cons; case p => repeat (first | exact Pick.here _ _ | apply Pick.there)) | apply Ent.drop))
    · repeat (first | apply ES.seq | apply ES.skip | apply ES.region | apply EL.nil | apply ES.block | apply ES.nil | apply ES.exit | apply ES.ret | apply PX.hit | (apply PX.miss; exact rfl) | apply PX.then_x | apply PX.then_r | apply PX.block_n | apply PX.block_r | refine PX.then_n (e := .normal) ?_ | refine PX.then_d ?_ | apply ES.label | apply ES.scope | apply PX.sc_n | apply PX.sc_r | apply PX.sc_x)
      refine PX.round (j + 1, some ⟨a26, 0, none⟩, c26) ⟨rfl, by omega, fun k h1 h2 => ?_⟩ ?_
      · rcases Nat.lt_or_ge k (j + 1) with h3 | h3
        · exact hno k h1 (by omega)
        · rw [show k = j + 1 by omega]; exact hne
      dsimp only
      rw [htk, List.map_append]
      exact (by repeat (first | exact Ent.nil _ | exact Ent.refl _ | (apply Ent.cons; case p => repeat (first | exact Pick.here _ _ | apply Pick.there)) | apply Ent.drop))
  · obtain ⟨j, ad, cap⟩ := s
    obtain ⟨hj, _, hno⟩ := hs
    rw [yn_len] at hj hno
    dsimp only at hj ⊢
    subst hj
    have hc : mostM m (cutM t) = cutM t := mostM_done m _ h0 hno
    rw [List.take_length, hc]
    repeat (first | apply ES.seq | apply ES.skip | apply ES.region | apply EL.nil | apply ES.block | apply ES.nil | apply ES.exit | apply ES.ret | apply PX.hit | (apply PX.miss; exact rfl) | apply PX.then_x | apply PX.then_r | apply PX.block_n | apply PX.block_r | refine PX.then_n (e := .normal) ?_ | refine PX.then_d ?_ | apply ES.label | apply ES.scope | apply PX.sc_n | apply PX.sc_r | apply PX.sc_x)
    (apply EL.loadB; exact rfl; exact rfl; exact rfl; exact rfl; exact rfl; (case hm => (repeat (first | exact Mem.here _ _ | apply Mem.there))); exact rfl)
    (apply EL.storeB; exact rfl; exact rfl; exact rfl; exact rfl; exact rfl; exact rfl; (case p => (repeat (first | exact PickSet.here _ _ _ | apply PickSet.there))); exact (by first | decide | simp))
    (apply EL.storeB; exact rfl; exact rfl; exact rfl; exact rfl; exact rfl; exact rfl; (case p => (repeat (first | exact PickSet.here _ _ _ | apply PickSet.there))); exact (by first | decide | simp))
    repeat (first | apply ES.seq | apply ES.skip | apply ES.region | apply EL.nil | apply ES.block | apply ES.nil | apply ES.exit | apply ES.ret | apply PX.hit | (apply PX.miss; exact rfl) | apply PX.then_x | apply PX.then_r | apply PX.block_n | apply PX.block_r | refine PX.then_n (e := .normal) ?_ | refine PX.then_d ?_ | apply ES.label | apply ES.scope | apply PX.sc_n | apply PX.sc_r | apply PX.sc_x)
    exact PX.retM [D] rfl (by repeat (first | exact Takes.nil _ | (apply Takes.cons; case p => repeat (first | exact Pick.here _ _ | apply Pick.there)))) Try.results10 (.cons (.blk1 rfl rfl rfl (by repeat (first | exact Mem.here _ _ | apply Mem.there)) rfl) (.cons (.blk1 rfl rfl rfl (by repeat (first | exact Mem.here _ _ | apply Mem.there)) rfl) .nil)) (fun w hs => ⟨(ad, cap), rfl, hs.ent (by repeat (first | exact Ent.nil _ | exact Ent.refl _ | (apply Ent.cons; case p => repeat (first | exact Pick.here _ _ | apply Pick.there)) | apply Ent.drop))⟩)
  · obtain ⟨j, ad, cap⟩ := s
    obtain ⟨rfl, rfl, hle, heq⟩ := hc
    dsimp only at hle heq ⊢
    have hc : mostM m (cutM t) = (cutM t).take j := mostM_stop m _ j heq
    have hl : ((cutM t).take j).length = j := by rw [List.length_take]; omega
    rw [hc, hl]
    repeat (first | apply ES.seq | apply ES.skip | apply ES.region | apply EL.nil | apply ES.block | apply ES.nil | apply ES.exit | apply ES.ret | apply PX.hit | (apply PX.miss; exact rfl) | apply PX.then_x | apply PX.then_r | apply PX.block_n | apply PX.block_r | refine PX.then_n (e := .normal) ?_ | refine PX.then_d ?_ | apply ES.label | apply ES.scope | apply PX.sc_n | apply PX.sc_r | apply PX.sc_x)
    (apply EL.loadB; exact rfl; exact rfl; exact rfl; exact rfl; exact rfl; (case hm => (repeat (first | exact Mem.here _ _ | apply Mem.there))); exact rfl)
    (apply EL.storeB; exact rfl; exact rfl; exact rfl; exact rfl; exact rfl; exact rfl; (case p => (repeat (first | exact PickSet.here _ _ _ | apply PickSet.there))); exact (by first | decide | simp))
    (apply EL.storeB; exact rfl; exact rfl; exact rfl; exact rfl; exact rfl; exact rfl; (case p => (repeat (first | exact PickSet.here _ _ _ | apply PickSet.there))); exact (by first | decide | simp))
    repeat (first | apply ES.seq | apply ES.skip | apply ES.region | apply EL.nil | apply ES.block | apply ES.nil | apply ES.exit | apply ES.ret | apply PX.hit | (apply PX.miss; exact rfl) | apply PX.then_x | apply PX.then_r | apply PX.block_n | apply PX.block_r | refine PX.then_n (e := .normal) ?_ | refine PX.then_d ?_ | apply ES.label | apply ES.scope | apply PX.sc_n | apply PX.sc_r | apply PX.sc_x)
    exact PX.retM [D] rfl (by repeat (first | exact Takes.nil _ | (apply Takes.cons; case p => repeat (first | exact Pick.here _ _ | apply Pick.there)))) Try.results10 (.cons (.blk1 rfl rfl rfl (by repeat (first | exact Mem.here _ _ | apply Mem.there)) rfl) (.cons (.blk1 rfl rfl rfl (by repeat (first | exact Mem.here _ _ | apply Mem.there)) rfl) .nil)) (fun w hs => ⟨(ad, cap), rfl, hs.ent (by repeat (first | exact Ent.nil _ | exact Ent.refl _ | (apply Ent.cons; case p => repeat (first | exact Pick.here _ _ | apply Pick.there)) | apply Ent.drop))⟩)
theorem aw1 : cutM [97, 10, 10, 98] = [[97], [], [98]] := by decide +kernel
theorem aw2 : joinM [[97], []] = [97, 10, 10] := by decide +kernel
theorem aw3 : numM [97, 10, 98] 2 = (2, 0) := by decide +kernel
theorem aw4 : tailM [97, 10, 98, 10, 99] 2 = [[98], [99]] := by decide +kernel
theorem num_aw (w : World) : Pure Try.prog 15 #[Sv [97, 10, 98], Iv 2] (fun _ : Unit => .tuple #[Iv 2, Iv 0]) (fun _ => []) w := by
  have h := number_c [97, 10, 98] 2 (by decide) w
  rw [aw3] at h; exact h
theorem cut_aw (w : World) : Pure Try.prog 14 #[Sv [97, 10, 10, 98]] (fun x : Option Addr × Nat => .slice x.1 3 x.2) (fun x => [HA.row (.slice x.1 3 x.2) 9 1 3 [Sv [97], Sv [], Sv [98]]]) w := by
  have h := lcut_c [97, 10, 10, 98] (by decide) w
  rw [aw1] at h; exact h
theorem join_aw (ad : Option Addr) (cap : Nat) (w : World) (hrd : Rd w w.heap.size ad [Sv [97], Sv []]) : Pure Try.prog 17 #[.slice ad 2 cap] (fun _ : Unit => Sv [97, 10, 10]) (fun _ => []) w := by
  have h := join_c ad cap [[97], []] (by decide) w hrd
  rw [aw2] at h; exact h
theorem tail_aw (w : World) : Pure Try.prog 19 #[Sv [97, 10, 98, 10, 99], Iv 2] (fun x : Option Addr × Nat => .slice x.1 2 x.2) (fun x => [HA.row (.slice x.1 2 x.2) 9 1 2 [Sv [98], Sv [99]]]) w := by
  have h := tail_c [97, 10, 98, 10, 99] 2 (by decide) w
  rw [aw4] at h; exact h
theorem same_aw3 (ad1 : Option Addr) (cap1 : Nat) (ad2 : Option Addr) (cap2 : Nat) (w : World) (h1 : Rd w w.heap.size ad1 [Sv [97], Sv [], Sv [98]]) (h2 : Rd w w.heap.size ad2 [Sv [97], Sv [], Sv [98]]) : Pure Try.prog 12 #[.slice ad1 3 cap1, .slice ad2 3 cap2] (fun _ : Unit => .bool true) (fun _ => []) w :=
  same_eq ad1 cap1 [[97], [], [98]] ad2 cap2 (by decide) w h1 h2
theorem same_aw2 (ad1 : Option Addr) (cap1 : Nat) (ad2 : Option Addr) (cap2 : Nat) (w : World) (h1 : Rd w w.heap.size ad1 [Sv [98], Sv [99]]) (h2 : Rd w w.heap.size ad2 [Sv [98], Sv [99]]) : Pure Try.prog 12 #[.slice ad1 2 cap1, .slice ad2 2 cap2] (fun _ : Unit => .bool true) (fun _ => []) w :=
  same_eq ad1 cap1 [[98], [99]] ad2 cap2 (by decide) w h1 h2
theorem awake_c (w : World) : Pure Try.prog 11 #[] (fun _ : Unit => .bool true) (fun _ => []) w := by
  refine calls_of_ES TB Try.func11 rfl _ Try.ntmps11 rfl (Sat.start w) ?_
  repeat (first | apply ES.seq | apply ES.skip | apply ES.region | apply EL.nil | apply ES.block | apply ES.nil | apply ES.exit | apply ES.ret | apply PX.hit | (apply PX.miss; exact rfl) | apply PX.then_x | apply PX.then_r | apply PX.block_n | apply PX.block_r | refine PX.then_n (e := .normal) ?_ | refine PX.then_d ?_ | apply ES.label | apply ES.scope | apply PX.sc_n | apply PX.sc_r | apply PX.sc_x)
  refine EL.assign rfl rfl rfl ?_
  repeat (first | apply ES.seq | apply ES.skip | apply ES.region | apply EL.nil | apply ES.block | apply ES.nil | apply ES.exit | apply ES.ret | apply PX.hit | (apply PX.miss; exact rfl) | apply PX.then_x | apply PX.then_r | apply PX.block_n | apply PX.block_r | refine PX.then_n (e := .normal) ?_ | refine PX.then_d ?_ | apply ES.label | apply ES.scope | apply PX.sc_n | apply PX.sc_r | apply PX.sc_x)
  refine EL.callP rfl rfl rfl ent15 rfl num_aw ?_
  refine EL.move rfl rfl rfl ?_
  refine EL.extract rfl rfl rfl rfl ?_
  refine EL.extract rfl rfl rfl rfl ?_
  refine EL.assign rfl rfl rfl ?_
  refine EL.assign rfl rfl rfl ?_
  repeat (first | apply ES.seq | apply ES.skip | apply ES.region | apply EL.nil | apply ES.block | apply ES.nil | apply ES.exit | apply ES.ret | apply PX.hit | (apply PX.miss; exact rfl) | apply PX.then_x | apply PX.then_r | apply PX.block_n | apply PX.block_r | refine PX.then_n (e := .normal) ?_ | refine PX.then_d ?_ | apply ES.label | apply ES.scope | apply PX.sc_n | apply PX.sc_r | apply PX.sc_x)
  repeat (first | apply ES.seq | apply ES.skip | apply ES.region | apply EL.nil | apply ES.block | apply ES.nil | apply ES.exit | apply ES.ret | apply PX.hit | (apply PX.miss; exact rfl) | apply PX.then_x | apply PX.then_r | apply PX.block_n | apply PX.block_r | refine PX.then_n (e := .normal) ?_ | refine PX.then_d ?_ | apply ES.label | apply ES.scope | apply PX.sc_n | apply PX.sc_r | apply PX.sc_x)
  (refine EL.callX rfl rfl rfl ent14 rfl cut_aw ?_; rintro ⟨ad, cap⟩)
  (refine EL.buildSliceS [Sv [97], Sv [], Sv [98]] rfl rfl rfl rfl rfl rfl rfl rfl rfl rfl (by intro u hu; simp at hu; rcases hu with rfl | rfl | rfl <;> rfl) ?_; intro b8)
  refine EL.callPw rfl rfl rfl ent12 rfl (fun w hs => same_aw3 _ _ _ _ w (Rd.row hs (by repeat (first | exact Mem.here _ _ | apply Mem.there)) (by decide)) (Rd.row hs (by repeat (first | exact Mem.here _ _ | apply Mem.there)) (by decide))) ?_
  refine EL.move rfl rfl rfl ?_
  refine EL.rew (d := 10) (v' := .bool true) rfl (by first | rfl | (decide) | (simp)) ?_
  (refine EL.buildSliceS [Sv [97], Sv []] rfl rfl rfl rfl rfl rfl rfl rfl rfl rfl (by intro u hu; simp at hu; rcases hu with rfl | rfl <;> rfl) ?_; intro b11)
  refine EL.callPw rfl rfl rfl ent17 rfl (fun w hs => join_aw _ _ w (Rd.row hs (by repeat (first | exact Mem.here _ _ | apply Mem.there)) (by decide))) ?_
  refine EL.eqlS rfl rfl rfl rfl ?_
  refine EL.pickT rfl rfl rfl rfl ?_
  refine EL.move rfl rfl rfl ?_
  refine EL.rew (d := 15) (v' := .bool true) rfl (seqT _) ?_
  refine EL.move rfl rfl rfl ?_
  refine EL.eqlI rfl rfl rfl rfl ?_
  refine EL.pickT rfl rfl rfl rfl ?_
  refine EL.move rfl rfl rfl ?_
  refine EL.rew (d := 19) (v' := .bool true) rfl (congrArg Value.bool (decide_eq_true rfl)) ?_
  refine EL.move rfl rfl rfl ?_
  refine EL.eqlI rfl rfl rfl rfl ?_
  refine EL.pickT rfl rfl rfl rfl ?_
  refine EL.move rfl rfl rfl ?_
  refine EL.rew (d := 23) (v' := .bool true) rfl (congrArg Value.bool (decide_eq_true rfl)) ?_
  (refine EL.callX rfl rfl rfl ent19 rfl tail_aw ?_; rintro ⟨ad2, cap2⟩)
  (refine EL.buildSliceS [Sv [98], Sv [99]] rfl rfl rfl rfl rfl rfl rfl rfl rfl rfl (by intro u hu; simp at hu; rcases hu with rfl | rfl <;> rfl) ?_; intro b25)
  refine EL.callPw rfl rfl rfl ent12 rfl (fun w hs => same_aw2 _ _ _ _ w (Rd.row hs (by repeat (first | exact Mem.here _ _ | apply Mem.there)) (by decide)) (Rd.row hs (by repeat (first | exact Mem.here _ _ | apply Mem.there)) (by decide))) ?_
  refine EL.pickT rfl rfl rfl rfl ?_
  refine EL.assign rfl rfl rfl ?_
  repeat (first | apply ES.seq | apply ES.skip | apply ES.region | apply EL.nil | apply ES.block | apply ES.nil | apply ES.exit | apply ES.ret | apply PX.hit | (apply PX.miss; exact rfl) | apply PX.then_x | apply PX.then_r | apply PX.block_n | apply PX.block_r | refine PX.then_n (e := .normal) ?_ | refine PX.then_d ?_ | apply ES.label | apply ES.scope | apply PX.sc_n | apply PX.sc_r | apply PX.sc_x)
  exact PX.ret rfl Try.results11 (.cons (.tmp rfl) .nil) (fun w hs => ⟨(), rfl, hs.ent (.nil _)⟩)
end Go.Proofs.Ytcaphghkflffgaa
