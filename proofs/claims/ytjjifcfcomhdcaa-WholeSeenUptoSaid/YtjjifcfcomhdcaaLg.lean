/- Layer 16 (listing): the laws' helpers: lines told one at a time, the test of being awake. -/
import Derived.Test.YtjjifcfcomhdcaaLf
namespace Go.Proofs.Ytjjifcfcomhdcaa
open Go Go.RowKit Sl
set_option maxRecDepth 100000
set_option maxHeartbeats 8000000
set_option linter.unusedVariables false
set_option linter.unusedSimpArgs false
attribute [local irreducible] ES EL PX wps

def cutM (m : Int) (ls : LL) : LL := if m < 0 then ls else ls.take m.toNat
theorem cutM_done (m : Int) (ls : LL) (h0 : m ≠ 0) (h : ∀ k : Nat, 0 < k → k ≤ ls.length → (k : Int) ≠ m) : cutM m ls = ls := by
  unfold cutM
  split
  · rfl
  · refine List.take_of_length_le ?_
    rcases Nat.lt_or_ge m.toNat ls.length with h1 | h1
    · exact absurd (by omega : ((m.toNat : Nat) : Int) = m) (h m.toNat (by omega) (by omega))
    · rcases Nat.lt_or_ge ls.length m.toNat with h2 | h2
      · omega
      · exact absurd (by omega : ((m.toNat : Nat) : Int) = m) (h m.toNat (by omega) (by omega))
theorem cutM_stop (m : Int) (ls : LL) (j : Nat) (h : (j : Int) = m) : cutM m ls = ls.take j := by
  unfold cutM
  rw [if_neg (by omega)]
  congr 1; omega
theorem allLaw_c (t : List UInt8) (m : Int) (ht : t.length ≤ 1073741824) (w : World) : Pure Try.prog 10 #[Sv t, Iv m] (fun x : Option Addr × Nat => .tuple #[.slice x.1 (cutM m (linesM t)).length x.2, .bool true]) (fun x => [HA.row (.slice x.1 (cutM m (linesM t)).length x.2) 9 1 (cutM m (linesM t)).length ((cutM m (linesM t)).map Sv)]) w := by
  have hcount := foldL_count t
  have hlen : (linesM t).length = (foldL t).1.length + 1 := by simp [linesM]
  refine calls_of_ESM TB Try.func10 rfl _ Try.ntmps10 rfl (Sat.start w) ?_
  repeat (first | apply ES.seq | apply ES.skip | apply ES.region | apply EL.nil | apply ES.block | apply ES.nil | apply ES.exit | apply ES.ret | apply PX.hit | (apply PX.miss; exact rfl) | apply PX.then_x | apply PX.then_r | apply PX.block_n | apply PX.block_r | refine PX.then_n (e := .normal) ?_ | refine PX.then_d ?_ | apply ES.label | apply ES.scope | apply PX.sc_n | apply PX.sc_r | apply PX.sc_x)
  (refine EL.box rfl rfl rfl ?_; intro g3)
  refine EL.assign rfl rfl rfl ?_
  refine EL.assign rfl rfl rfl ?_
  repeat (first | apply ES.seq | apply ES.skip | apply ES.region | apply EL.nil | apply ES.block | apply ES.nil | apply ES.exit | apply ES.ret | apply PX.hit | (apply PX.miss; exact rfl) | apply PX.then_x | apply PX.then_r | apply PX.block_n | apply PX.block_r | refine PX.then_n (e := .normal) ?_ | refine PX.then_d ?_ | apply ES.label | apply ES.scope | apply PX.sc_n | apply PX.sc_r | apply PX.sc_x)
  (refine EL.alloc rfl rfl rfl ?_; intro g6)
  repeat (first | apply ES.seq | apply ES.skip | apply ES.region | apply EL.nil | apply ES.block | apply ES.nil | apply ES.exit | apply ES.ret | apply PX.hit | (apply PX.miss; exact rfl) | apply PX.then_x | apply PX.then_r | apply PX.block_n | apply PX.block_r | refine PX.then_n (e := .normal) ?_ | refine PX.then_d ?_ | apply ES.label | apply ES.scope | apply PX.sc_n | apply PX.sc_r | apply PX.sc_x)
  refine EL.move rfl rfl rfl ?_
  (refine EL.callX rfl rfl rfl ent21 rfl (all_c t) ?_; intro gc)
  refine EL.assign rfl rfl rfl ?_
  repeat (first | apply ES.seq | apply ES.skip | apply ES.region | apply EL.nil | apply ES.block | apply ES.nil | apply ES.exit | apply ES.ret | apply PX.hit | (apply PX.miss; exact rfl) | apply PX.then_x | apply PX.then_r | apply PX.block_n | apply PX.block_r | refine PX.then_n (e := .normal) ?_ | refine PX.then_d ?_ | apply ES.label | apply ES.scope | apply PX.sc_n | apply PX.sc_r | apply PX.sc_x)
  refine EL.move rfl rfl rfl ?_
  refine EL.eqlFn rfl rfl rfl Try.underlying46 rfl ?_
  refine EL.move rfl rfl rfl ?_
  refine EL.rew (d := 13) (v' := .bool false) rfl (by first | rfl | (decide) | (simp)) ?_
  (apply EL.loadB; exact rfl; exact rfl; exact rfl; exact rfl; exact rfl; (case hm => (repeat (first | exact Mem.here _ _ | apply Mem.there))); exact rfl)
  refine EL.eqlI rfl rfl rfl rfl ?_
  refine EL.pickF rfl rfl rfl rfl ?_
  repeat (first | apply ES.seq | apply ES.skip | apply ES.region | apply EL.nil | apply ES.block | apply ES.nil | apply ES.exit | apply ES.ret | apply PX.hit | (apply PX.miss; exact rfl) | apply PX.then_x | apply PX.then_r | apply PX.block_n | apply PX.block_r | refine PX.then_n (e := .normal) ?_ | refine PX.then_d ?_ | apply ES.label | apply ES.scope | apply PX.sc_n | apply PX.sc_r | apply PX.sc_x)
  refine ES.condD rfl (fun h0 => ?_) (fun h0 => ?_)
  · have hc : cutM m (linesM t) = [] := by rw [cutM_stop m _ 0 (by omega)]; rfl
    repeat (first | apply ES.seq | apply ES.skip | apply ES.region | apply EL.nil | apply ES.block | apply ES.nil | apply ES.exit | apply ES.ret | apply PX.hit | (apply PX.miss; exact rfl) | apply PX.then_x | apply PX.then_r | apply PX.block_n | apply PX.block_r | refine PX.then_n (e := .normal) ?_ | refine PX.then_d ?_ | apply ES.label | apply ES.scope | apply PX.sc_n | apply PX.sc_r | apply PX.sc_x)
    refine EL.move rfl rfl rfl ?_
    refine EL.neqFn rfl rfl rfl Try.underlying46 rfl ?_
    refine EL.assign rfl rfl rfl ?_
    refine EL.assign rfl rfl rfl ?_
    repeat (first | apply ES.seq | apply ES.skip | apply ES.region | apply EL.nil | apply ES.block | apply ES.nil | apply ES.exit | apply ES.ret | apply PX.hit | (apply PX.miss; exact rfl) | apply PX.then_x | apply PX.then_r | apply PX.block_n | apply PX.block_r | refine PX.then_n (e := .normal) ?_ | refine PX.then_d ?_ | apply ES.label | apply ES.scope | apply PX.sc_n | apply PX.sc_r | apply PX.sc_x)
    exact PX.retM [] rfl (.nil _) Try.results10 (.cons (.tmp rfl) (.cons (.tmp rfl) .nil)) (fun w hs => ⟨(none, 0), by rw [hc]; rfl, by rw [hc]; exact (hs.nilRow 9 1).ent (by repeat (first | exact Ent.nil _ | exact Ent.refl _ | (apply Ent.cons; case p => repeat (first | exact Pick.here _ _ | apply Pick.there)) | apply Ent.drop))⟩)
  repeat (first | apply ES.seq | apply ES.skip | apply ES.region | apply EL.nil | apply ES.block | apply ES.nil | apply ES.exit | apply ES.ret | apply PX.hit | (apply PX.miss; exact rfl) | apply PX.then_x | apply PX.then_r | apply PX.block_n | apply PX.block_r | refine PX.then_n (e := .normal) ?_ | refine PX.then_d ?_ | apply ES.label | apply ES.scope | apply PX.sc_n | apply PX.sc_r | apply PX.sc_x)
  refine EL.move rfl rfl rfl ?_
  repeat (first | apply ES.seq | apply ES.skip | apply ES.region | apply EL.nil | apply ES.block | apply ES.nil | apply ES.exit | apply ES.ret | apply PX.hit | (apply PX.miss; exact rfl) | apply PX.then_x | apply PX.then_r | apply PX.block_n | apply PX.block_r | refine PX.then_n (e := .normal) ?_ | refine PX.then_d ?_ | apply ES.label | apply ES.scope | apply PX.sc_n | apply PX.sc_r | apply PX.sc_x)
  refine ES.nilRow 9 1 ?_
  refine ES.rangeFunc (σ := Nat × Option Addr × Nat) (τ := Nat × Option Addr × Nat) (fun i s => s.1 = i ∧ i ≤ (linesM t).length ∧ ∀ k : Nat, 0 < k → k ≤ i → (k : Int) ≠ m) (fun s => [HA.blk g6 (.cells #[.slice s.2.1 s.1 s.2.2] 22), HA.row (.slice s.2.1 s.1 s.2.2) 9 1 s.1 (((linesM t).take s.1).map Sv), HA.blk g3 (.cells #[Iv m] 3)])
    (fun c i s => c = .exit 0 ∧ s.1 = i ∧ i ≤ (linesM t).length ∧ (i : Int) = m) (fun s => [HA.blk g6 (.cells #[.slice s.2.1 s.1 s.2.2] 22), HA.row (.slice s.2.1 s.1 s.2.2) 9 1 s.1 (((linesM t).take s.1).map Sv), HA.blk g3 (.cells #[Iv m] 3)]) (0, none, 0) ⟨rfl, Nat.zero_le _, fun k h1 h2 => by omega⟩
    rfl rfl ent28 (all1_iter gc t (by omega) _ _) (by repeat (first | exact Takes.nil _ | (apply Takes.cons; case p => repeat (first | exact Pick.here _ _ | apply Pick.there)))) (by repeat (first | exact Takes.nil _ | (apply Takes.cons; case p => repeat (first | exact Pick.here _ _ | apply Pick.there)))) (by intro x hx; obtain ⟨_, _, rfl⟩ := List.mem_map.1 hx; rfl) rfl ?_ (fun D s hs => ?_) (fun D c i s hc => ?_)
  · rintro l i ⟨j, ad, cap⟩ x R1 ⟨rfl, hj, hno⟩ hx
    dsimp only at hj hx hno ⊢
    obtain ⟨ln, hln, rfl⟩ : ∃ ln, (linesM t)[j]? = some ln ∧ x = [Sv ln] := by
      rw [List.getElem?_map] at hx
      obtain ⟨ln, h1, h2⟩ := Option.map_eq_some_iff.1 hx
      exact ⟨ln, h1, h2.symm⟩
    have hlt : j < (linesM t).length := (List.getElem?_eq_some_iff.1 hln).1
    have htk : (linesM t).take (j + 1) = (linesM t).take j ++ [ln] := by
      rw [List.take_succ_eq_append_getElem hlt, (List.getElem?_eq_some_iff.1 hln).2]
    repeat (first | apply ES.seq | apply ES.skip | apply ES.region | apply EL.nil | apply ES.block | apply ES.nil | apply ES.exit | apply ES.ret | apply PX.hit | (apply PX.miss; exact rfl) | apply PX.then_x | apply PX.then_r | apply PX.block_n | apply PX.block_r | refine PX.then_n (e := .normal) ?_ | refine PX.then_d ?_ | apply ES.label | apply ES.scope | apply PX.sc_n | apply PX.sc_r | apply PX.sc_x)
    refine EL.assign rfl rfl rfl ?_
    repeat (first | apply ES.seq | apply ES.skip | apply ES.region | apply EL.nil | apply ES.block | apply ES.nil | apply ES.exit | apply ES.ret | apply PX.hit | (apply PX.miss; exact rfl) | apply PX.then_x | apply PX.then_r | apply PX.block_n | apply PX.block_r | refine PX.then_n (e := .normal) ?_ | refine PX.then_d ?_ | apply ES.label | apply ES.scope | apply PX.sc_n | apply PX.sc_r | apply PX.sc_x)
    refine PX.assigned [(8, Sv ln), (3, Pv g3 0), (6, Pv g6 0)] [HA.blk g6 (.cells #[.slice ad j cap] 22), HA.row (.slice ad j cap) 9 1 j (((linesM t).take j).map Sv), HA.blk g3 (.cells #[Iv m] 3)] ⟨rfl, rfl, rfl, trivial⟩ (by repeat (first | exact Ent.nil _ | exact Ent.refl _ | (apply Ent.cons; case p => repeat (first | exact Pick.here _ _ | apply Pick.there)) | apply Ent.drop)) (fun R2 => ?_)
    repeat (first | apply ES.seq | apply ES.skip | apply ES.region | apply EL.nil | apply ES.block | apply ES.nil | apply ES.exit | apply ES.ret | apply PX.hit | (apply PX.miss; exact rfl) | apply PX.then_x | apply PX.then_r | apply PX.block_n | apply PX.block_r | refine PX.then_n (e := .normal) ?_ | refine PX.then_d ?_ | apply ES.label | apply ES.scope | apply PX.sc_n | apply PX.sc_r | apply PX.sc_x)
    (apply EL.loadB; exact rfl; exact rfl; exact rfl; exact rfl; exact rfl; (case hm => (repeat (first | exact Mem.here _ _ | apply Mem.there))); exact rfl)
    refine EL.move rfl rfl rfl ?_
    (refine EL.buildSlice1 rfl rfl rfl rfl rfl rfl rfl rfl rfl rfl ?_; intro b23)
    (refine EL.append1 rfl rfl rfl rfl rfl rfl rfl rfl rfl (by repeat (first | exact Mem.here _ _ | apply Mem.there)) (by repeat (first | exact Pick.here _ _ | apply Pick.there)) (by intro u hu; simp [Value.cells] at hu; subst hu; rfl) (by rfl) (by unfold maxLen; omega) (by first | omega | (show 1 * _ ≤ _; omega) | (show 8 * _ ≤ _; omega) | (show 16 * _ ≤ _; omega) | (show 24 * _ ≤ _; omega) | (show _ * 1 ≤ _; omega) | (show _ * 8 ≤ _; omega) | (show _ * 16 ≤ _; omega) | (show _ * 24 ≤ _; omega)) ?_; intro a24 c24)
    (apply EL.storeB; exact rfl; exact rfl; exact rfl; exact rfl; exact rfl; exact rfl; (case p => (repeat (first | exact PickSet.here _ _ _ | apply PickSet.there))); exact (by first | decide | simp))
    repeat (first | apply ES.seq | apply ES.skip | apply ES.region | apply EL.nil | apply ES.block | apply ES.nil | apply ES.exit | apply ES.ret | apply PX.hit | (apply PX.miss; exact rfl) | apply PX.then_x | apply PX.then_r | apply PX.block_n | apply PX.block_r | refine PX.then_n (e := .normal) ?_ | refine PX.then_d ?_ | apply ES.label | apply ES.scope | apply PX.sc_n | apply PX.sc_r | apply PX.sc_x)
    (apply EL.loadB; exact rfl; exact rfl; exact rfl; exact rfl; exact rfl; (case hm => (repeat (first | exact Mem.here _ _ | apply Mem.there))); exact rfl)
    refine EL.lenL rfl rfl rfl rfl rfl ?_
    (apply EL.loadB; exact rfl; exact rfl; exact rfl; exact rfl; exact rfl; (case hm => (repeat (first | exact Mem.here _ _ | apply Mem.there))); exact rfl)
    refine EL.eqlI rfl rfl rfl rfl ?_
    repeat (first | apply ES.seq | apply ES.skip | apply ES.region | apply EL.nil | apply ES.block | apply ES.nil | apply ES.exit | apply ES.ret | apply PX.hit | (apply PX.miss; exact rfl) | apply PX.then_x | apply PX.then_r | apply PX.block_n | apply PX.block_r | refine PX.then_n (e := .normal) ?_ | refine PX.then_d ?_ | apply ES.label | apply ES.scope | apply PX.sc_n | apply PX.sc_r | apply PX.sc_x)
    refine ES.condD rfl (fun heq => ?_) (fun hne => ?_)
    · repeat (first | apply ES.seq | apply ES.skip | apply ES.region | apply EL.nil | apply ES.block | apply ES.nil | apply ES.exit | apply ES.ret | apply PX.hit | (apply PX.miss; exact rfl) | apply PX.then_x | apply PX.then_r | apply PX.block_n | apply PX.block_r | refine PX.then_n (e := .normal) ?_ | refine PX.then_d ?_ | apply ES.label | apply ES.scope | apply PX.sc_n | apply PX.sc_r | apply PX.sc_x)
      refine PX.roundX (j + 1, some ⟨a24, 0, none⟩, c24) ⟨rfl, rfl, by omega, heq⟩ ?_
      dsimp only
      rw [htk, List.map_append]
      exact (by repeat (first | exact Ent.nil _ | exact Ent.refl _ | (apply Ent.cons; case p => repeat (first | exact Pick.here _ _ | apply Pick.there)) | apply Ent.drop))
    · repeat (first | apply ES.seq | apply ES.skip | apply ES.region | apply EL.nil | apply ES.block | apply ES.nil | apply ES.exit | apply ES.ret | apply PX.hit | (apply PX.miss; exact rfl) | apply PX.then_x | apply PX.then_r | apply PX.block_n | apply PX.block_r | refine PX.then_n (e := .normal) ?_ | refine PX.then_d ?_ | apply ES.label | apply ES.scope | apply PX.sc_n | apply PX.sc_r | apply PX.sc_x)
      refine PX.round (j + 1, some ⟨a24, 0, none⟩, c24) ⟨rfl, by omega, fun k h1 h2 => ?_⟩ ?_
      · rcases Nat.lt_or_ge k (j + 1) with h3 | h3
        · exact hno k h1 (by omega)
        · rw [show k = j + 1 by omega]; exact hne
      dsimp only
      rw [htk, List.map_append]
      exact (by repeat (first | exact Ent.nil _ | exact Ent.refl _ | (apply Ent.cons; case p => repeat (first | exact Pick.here _ _ | apply Pick.there)) | apply Ent.drop))
  · obtain ⟨j, ad, cap⟩ := s
    obtain ⟨hj, _, hno⟩ := hs
    rw [List.length_map] at hj hno
    dsimp only at hj ⊢
    subst hj
    have hc : cutM m (linesM t) = linesM t := cutM_done m _ h0 hno
    rw [List.take_length, hc]
    repeat (first | apply ES.seq | apply ES.skip | apply ES.region | apply EL.nil | apply ES.block | apply ES.nil | apply ES.exit | apply ES.ret | apply PX.hit | (apply PX.miss; exact rfl) | apply PX.then_x | apply PX.then_r | apply PX.block_n | apply PX.block_r | refine PX.then_n (e := .normal) ?_ | refine PX.then_d ?_ | apply ES.label | apply ES.scope | apply PX.sc_n | apply PX.sc_r | apply PX.sc_x)
    (apply EL.loadB; exact rfl; exact rfl; exact rfl; exact rfl; exact rfl; (case hm => (repeat (first | exact Mem.here _ _ | apply Mem.there))); exact rfl)
    refine EL.assign rfl rfl rfl ?_
    refine EL.assign rfl rfl rfl ?_
    repeat (first | apply ES.seq | apply ES.skip | apply ES.region | apply EL.nil | apply ES.block | apply ES.nil | apply ES.exit | apply ES.ret | apply PX.hit | (apply PX.miss; exact rfl) | apply PX.then_x | apply PX.then_r | apply PX.block_n | apply PX.block_r | refine PX.then_n (e := .normal) ?_ | refine PX.then_d ?_ | apply ES.label | apply ES.scope | apply PX.sc_n | apply PX.sc_r | apply PX.sc_x)
    exact PX.retM [D] rfl (by repeat (first | exact Takes.nil _ | (apply Takes.cons; case p => repeat (first | exact Pick.here _ _ | apply Pick.there)))) Try.results10 (.cons (.tmp rfl) (.cons (.tmp rfl) .nil)) (fun w hs => ⟨(ad, cap), rfl, hs.ent (by repeat (first | exact Ent.nil _ | exact Ent.refl _ | (apply Ent.cons; case p => repeat (first | exact Pick.here _ _ | apply Pick.there)) | apply Ent.drop))⟩)
  · obtain ⟨j, ad, cap⟩ := s
    obtain ⟨rfl, rfl, hle, heq⟩ := hc
    dsimp only at hle heq ⊢
    have hc : cutM m (linesM t) = (linesM t).take j := cutM_stop m _ j heq
    have hl : ((linesM t).take j).length = j := by rw [List.length_take]; omega
    rw [hc, hl]
    repeat (first | apply ES.seq | apply ES.skip | apply ES.region | apply EL.nil | apply ES.block | apply ES.nil | apply ES.exit | apply ES.ret | apply PX.hit | (apply PX.miss; exact rfl) | apply PX.then_x | apply PX.then_r | apply PX.block_n | apply PX.block_r | refine PX.then_n (e := .normal) ?_ | refine PX.then_d ?_ | apply ES.label | apply ES.scope | apply PX.sc_n | apply PX.sc_r | apply PX.sc_x)
    (apply EL.loadB; exact rfl; exact rfl; exact rfl; exact rfl; exact rfl; (case hm => (repeat (first | exact Mem.here _ _ | apply Mem.there))); exact rfl)
    refine EL.assign rfl rfl rfl ?_
    refine EL.assign rfl rfl rfl ?_
    repeat (first | apply ES.seq | apply ES.skip | apply ES.region | apply EL.nil | apply ES.block | apply ES.nil | apply ES.exit | apply ES.ret | apply PX.hit | (apply PX.miss; exact rfl) | apply PX.then_x | apply PX.then_r | apply PX.block_n | apply PX.block_r | refine PX.then_n (e := .normal) ?_ | refine PX.then_d ?_ | apply ES.label | apply ES.scope | apply PX.sc_n | apply PX.sc_r | apply PX.sc_x)
    exact PX.retM [D] rfl (by repeat (first | exact Takes.nil _ | (apply Takes.cons; case p => repeat (first | exact Pick.here _ _ | apply Pick.there)))) Try.results10 (.cons (.tmp rfl) (.cons (.tmp rfl) .nil)) (fun w hs => ⟨(ad, cap), rfl, hs.ent (by repeat (first | exact Ent.nil _ | exact Ent.refl _ | (apply Ent.cons; case p => repeat (first | exact Pick.here _ _ | apply Pick.there)) | apply Ent.drop))⟩)
theorem aw1 : linesM [97, 9] = [[97, 92, 116, 36]] := by decide +kernel
theorem aw2 : linesM [97, 9, 98, 92] = [[97, 92, 116, 98, 92, 92, 36]] := by decide +kernel
theorem aw3 : escM 200 = [92, 51, 49, 48] := by decide +kernel
theorem aw4 : readM [[97, 92, 116, 36]] = ([97, 9], 0) := by rw [← aw1]; exact read_lines _
theorem read_aw (ad : Option Addr) (cap : Nat) (w : World) (hrd : Rd w w.heap.size ad ([[97, 92, 116, 36]].map Sv)) : Pure Try.prog 17 #[.slice ad 1 cap] (fun _ : Unit => .tuple #[Sv [97, 9], Iv 0]) (fun _ => []) w := by
  have h := read_c ad cap [[97, 92, 116, 36]] (by decide) w hrd
  rw [aw4] at h; exact h
theorem esc_aw (w : World) : Pure Try.prog 12 #[Uv 200] (fun _ : Unit => Sv [92, 51, 49, 48]) (fun _ => []) w := by
  have h := esc_c 200 w
  rw [aw3] at h; exact h
theorem lines_aw (w : World) : Pure Try.prog 15 #[Sv [97, 9, 98, 92]] (fun x : Option Addr × Nat => .slice x.1 1 x.2) (fun x => [HA.row (.slice x.1 1 x.2) 9 1 1 [Sv [97, 92, 116, 98, 92, 92, 36]]]) w := by
  have h := lines_c [97, 9, 98, 92] (by decide) w
  rw [aw2] at h; exact h
theorem same_aw (ad1 : Option Addr) (cap1 : Nat) (ad2 : Option Addr) (cap2 : Nat) (w : World) (h1 : Rd w w.heap.size ad1 ([[97, 92, 116, 98, 92, 92, 36]].map Sv)) (h2 : Rd w w.heap.size ad2 ([[97, 92, 116, 98, 92, 92, 36]].map Sv)) : Pure Try.prog 14 #[.slice ad1 1 cap1, .slice ad2 1 cap2] (fun _ : Unit => .bool true) (fun _ => []) w := by
  have h := same_c ad1 cap1 [[97, 92, 116, 98, 92, 92, 36]] ad2 cap2 [[97, 92, 116, 98, 92, 92, 36]] (by decide) w h1 h2
  rw [decide_eq_true rfl] at h; exact h
theorem awake_c (w : World) : Pure Try.prog 11 #[] (fun _ : Unit => .bool true) (fun _ => []) w := by
  refine calls_of_ES TB Try.func11 rfl _ Try.ntmps11 rfl (Sat.start w) ?_
  repeat (first | apply ES.seq | apply ES.skip | apply ES.region | apply EL.nil | apply ES.block | apply ES.nil | apply ES.exit | apply ES.ret | apply PX.hit | (apply PX.miss; exact rfl) | apply PX.then_x | apply PX.then_r | apply PX.block_n | apply PX.block_r | refine PX.then_n (e := .normal) ?_ | refine PX.then_d ?_ | apply ES.label | apply ES.scope | apply PX.sc_n | apply PX.sc_r | apply PX.sc_x)
  refine EL.assign rfl rfl rfl ?_
  repeat (first | apply ES.seq | apply ES.skip | apply ES.region | apply EL.nil | apply ES.block | apply ES.nil | apply ES.exit | apply ES.ret | apply PX.hit | (apply PX.miss; exact rfl) | apply PX.then_x | apply PX.then_r | apply PX.block_n | apply PX.block_r | refine PX.then_n (e := .normal) ?_ | refine PX.then_d ?_ | apply ES.label | apply ES.scope | apply PX.sc_n | apply PX.sc_r | apply PX.sc_x)
  (refine EL.buildSlice1 rfl rfl rfl rfl rfl rfl rfl rfl rfl rfl ?_; intro b4)
  refine EL.callPw rfl rfl rfl ent17 rfl (fun w hs => read_aw _ _ w (Rd.row hs (by repeat (first | exact Mem.here _ _ | apply Mem.there)) (by decide))) ?_
  refine EL.move rfl rfl rfl ?_
  refine EL.extract rfl rfl rfl rfl ?_
  refine EL.extract rfl rfl rfl rfl ?_
  refine EL.assign rfl rfl rfl ?_
  refine EL.assign rfl rfl rfl ?_
  repeat (first | apply ES.seq | apply ES.skip | apply ES.region | apply EL.nil | apply ES.block | apply ES.nil | apply ES.exit | apply ES.ret | apply PX.hit | (apply PX.miss; exact rfl) | apply PX.then_x | apply PX.then_r | apply PX.block_n | apply PX.block_r | refine PX.then_n (e := .normal) ?_ | refine PX.then_d ?_ | apply ES.label | apply ES.scope | apply PX.sc_n | apply PX.sc_r | apply PX.sc_x)
  repeat (first | apply ES.seq | apply ES.skip | apply ES.region | apply EL.nil | apply ES.block | apply ES.nil | apply ES.exit | apply ES.ret | apply PX.hit | (apply PX.miss; exact rfl) | apply PX.then_x | apply PX.then_r | apply PX.block_n | apply PX.block_r | refine PX.then_n (e := .normal) ?_ | refine PX.then_d ?_ | apply ES.label | apply ES.scope | apply PX.sc_n | apply PX.sc_r | apply PX.sc_x)
  refine EL.callP rfl rfl rfl ent12 rfl esc_aw ?_
  refine EL.eqlS rfl rfl rfl rfl ?_
  refine EL.move rfl rfl rfl ?_
  refine EL.rew (d := 10) (v' := .bool true) rfl (by first | rfl | (decide) | (simp)) ?_
  (refine EL.callX rfl rfl rfl ent15 rfl lines_aw ?_; rintro ⟨ad, cap⟩)
  (refine EL.buildSlice1 rfl rfl rfl rfl rfl rfl rfl rfl rfl rfl ?_; intro b12)
  refine EL.callPw rfl rfl rfl ent14 rfl (fun w hs => same_aw _ _ _ _ w (Rd.row hs (by repeat (first | exact Mem.here _ _ | apply Mem.there)) (by decide)) (Rd.row hs (by repeat (first | exact Mem.here _ _ | apply Mem.there)) (by decide))) ?_
  refine EL.pickT rfl rfl rfl rfl ?_
  refine EL.move rfl rfl rfl ?_
  refine EL.rew (d := 15) (v' := .bool true) rfl (by first | rfl | (decide) | (simp)) ?_
  refine EL.move rfl rfl rfl ?_
  refine EL.eqlI rfl rfl rfl rfl ?_
  refine EL.pickT rfl rfl rfl rfl ?_
  refine EL.move rfl rfl rfl ?_
  refine EL.rew (d := 19) (v' := .bool true) rfl (by first | rfl | (decide) | (simp)) ?_
  refine EL.move rfl rfl rfl ?_
  refine EL.eqlS rfl rfl rfl rfl ?_
  refine EL.pickT rfl rfl rfl rfl ?_
  refine EL.assign rfl rfl rfl ?_
  repeat (first | apply ES.seq | apply ES.skip | apply ES.region | apply EL.nil | apply ES.block | apply ES.nil | apply ES.exit | apply ES.ret | apply PX.hit | (apply PX.miss; exact rfl) | apply PX.then_x | apply PX.then_r | apply PX.block_n | apply PX.block_r | refine PX.then_n (e := .normal) ?_ | refine PX.then_d ?_ | apply ES.label | apply ES.scope | apply PX.sc_n | apply PX.sc_r | apply PX.sc_x)
  exact PX.ret rfl Try.results11 (.cons (.tmp rfl) .nil) (fun w hs => ⟨(), rfl, hs.ent (.nil _)⟩)
end Go.Proofs.Ytjjifcfcomhdcaa
