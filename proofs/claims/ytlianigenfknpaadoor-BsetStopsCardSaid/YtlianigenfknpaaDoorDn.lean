/- Layer 2 (bset): the laws of the members: told one at a time, counted, told again. -/
import Derived.Test.YtlianigenfknpaaDoorDm
import Derived.Test.YtlianigenfknpaaDoorDf
import Derived.Test.YtlianigenfknpaaDoorDh
import Derived.Test.YtlianigenfknpaaDoorSlt
import Derived.Test.YtlianigenfknpaaDoorSlm
namespace Go.Proofs.YtlianigenfknpaaDoor
open Go Go.RowKit Sl
set_option maxRecDepth 100000
set_option maxHeartbeats 8000000
set_option linter.unusedVariables false
set_option linter.unusedSimpArgs false
attribute [local irreducible] ES EL PX wps

theorem beqE {s t : BS} (h : s = t) : Value.bool (decide (s = t)) = .bool true := by rw [decide_eq_true h]
/-! counts -/
def cntN (n x : Nat) : Nat := ((List.range n).filter (x.testBit ·)).length
theorem pop_cnt : ∀ b : Fin 256, pop8 b.val = cntN 8 b.val := by decide +kernel
theorem cnt_split (n x : Nat) : cntN (8 + n) x = cntN 8 (x % 256) + cntN n (x / 256) := by
  unfold cntN
  rw [List.range_add, List.filter_append, List.length_append]
  congr 1
  · congr 1
    refine List.filter_congr fun j hj => ?_
    have hj' := List.mem_range.1 hj
    rw [show (256 : Nat) = 2 ^ 8 from rfl, Nat.testBit_mod_two_pow, decide_eq_true hj', Bool.true_and]
  · rw [List.filter_map, List.length_map]
    congr 1
    refine List.filter_congr fun j hj => ?_
    simp only [Function.comp]
    rw [show (256 : Nat) = 2 ^ 8 from rfl, Nat.testBit_div_two_pow, Nat.add_comm]
theorem sum8_cnt : ∀ k x, sum8 k x = cntN (8 * k) x
  | 0, x => rfl
  | k + 1, x => by
    have h := pop_cnt ⟨x % 256, Nat.mod_lt _ (by omega)⟩
    simp only at h
    rw [show 8 * (k + 1) = 8 + 8 * k by omega, cnt_split, ← sum8_cnt k (x / 256), ← h]
    rfl
theorem oc_bits (x : UInt64) : ocM x = (bitsN x.toNat).length := by rw [ocM_sum, sum8_cnt]; rfl
theorem countGo_mem (s : BS) : ∀ n, countGo s n = (memF s n).length
  | 0 => rfl
  | n + 1 => by
    rw [countGo, countGo_mem s n, memF_step, List.length_append, oc_bits]
    simp [memI]
theorem count_members (s : BS) : countS s = (membersM s).length := by
  rw [countS, countGo_mem, members_eq, List.length_map]
theorem mem_members (s : BS) (b : UInt8) : b ∈ membersM s ↔ hasS s b.toNat = true := by
  unfold membersM
  rw [memGo_filter, List.mem_map]
  constructor
  · rintro ⟨k, hk, rfl⟩
    obtain ⟨h1, h2⟩ := List.mem_filter.1 hk
    have := List.mem_range.1 h1
    have e : (UInt8.ofNat k).toNat = k := by simp; omega
    rw [e]; exact h2
  · intro h
    exact ⟨b.toNat, List.mem_filter.2 ⟨List.mem_range.2 b.toNat_lt, h⟩, by simp⟩
/-- Of its members the set is made. -/
theorem of_members (s : BS) : ofS (membersM s) = s := by
  refine bs_ext _ _ fun k hk => ?_
  rw [has_ofS _ _ hk, Bool.eq_iff_iff, List.any_eq_true]
  have e : (UInt8.ofNat k).toNat = k := by simp; omega
  constructor
  · rintro ⟨b, hb, hbk⟩
    have := (mem_members s b).1 hb
    rw [eq_of_beq hbk] at this
    exact this
  · intro h
    exact ⟨UInt8.ofNat k, (mem_members s _).2 (by rw [e]; exact h), by rw [e]; simp⟩
theorem members_le (s : BS) : (membersM s).length ≤ 256 := memGo_le _ _
/-! the law's helper: the members, most of them at the most -/
def cutB (m : Int) (l : List UInt8) : List UInt8 := if m < 0 then l else l.take m.toNat
theorem cutB_done (m : Int) (ls : List UInt8) (h0 : m ≠ 0) (h : ∀ k : Nat, 0 < k → k ≤ ls.length → (k : Int) ≠ m) : cutB m ls = ls := by
  unfold cutB
  split
  · rfl
  · refine List.take_of_length_le ?_
    rcases Nat.lt_or_ge m.toNat ls.length with h1 | h1
    · exact absurd (by omega : ((m.toNat : Nat) : Int) = m) (h m.toNat (by omega) (by omega))
    · rcases Nat.lt_or_ge ls.length m.toNat with h2 | h2
      · omega
      · exact absurd (by omega : ((m.toNat : Nat) : Int) = m) (h m.toNat (by omega) (by omega))
theorem cutB_stop (m : Int) (ls : List UInt8) (j : Nat) (h : (j : Int) = m) : cutB m ls = ls.take j := by
  unfold cutB
  rw [if_neg (by omega)]
  congr 1; omega
theorem membersLaw_c (s : BS) (m : Int) (w : World) (hT : TabR w w.heap.size) : Pure Tryd.prog 6 #[Bs s, Iv m] (fun _ : Unit => .tuple #[Sv (cutB m (membersM s)), .bool true]) (fun _ => []) w := by
  have hlen := members_le s
  refine calls_of_ESM TB Tryd.func6 rfl _ Tryd.ntmps6 rfl (Sat.start w) ?_
  repeat (first | apply ES.seq | apply ES.skip | apply ES.region | apply EL.nil | apply ES.block | apply ES.nil | apply ES.exit | apply ES.ret | apply PX.hit | (apply PX.miss; exact rfl) | apply PX.then_x | apply PX.then_r | apply PX.block_n | apply PX.block_r | refine PX.then_n (e := .normal) ?_ | refine PX.then_d ?_ | apply ES.label | apply ES.scope | apply PX.sc_n | apply PX.sc_r | apply PX.sc_x)
  (refine EL.box rfl rfl rfl ?_; intro g2)
  (refine EL.box rfl rfl rfl ?_; intro g3)
  refine EL.assign rfl rfl rfl ?_
  refine EL.assign rfl rfl rfl ?_
  repeat (first | apply ES.seq | apply ES.skip | apply ES.region | apply EL.nil | apply ES.block | apply ES.nil | apply ES.exit | apply ES.ret | apply PX.hit | (apply PX.miss; exact rfl) | apply PX.then_x | apply PX.then_r | apply PX.block_n | apply PX.block_r | refine PX.then_n (e := .normal) ?_ | refine PX.then_d ?_ | apply ES.label | apply ES.scope | apply PX.sc_n | apply PX.sc_r | apply PX.sc_x)
  (refine EL.alloc rfl rfl rfl ?_; intro g6)
  repeat (first | apply ES.seq | apply ES.skip | apply ES.region | apply EL.nil | apply ES.block | apply ES.nil | apply ES.exit | apply ES.ret | apply PX.hit | (apply PX.miss; exact rfl) | apply PX.then_x | apply PX.then_r | apply PX.block_n | apply PX.block_r | refine PX.then_n (e := .normal) ?_ | refine PX.then_d ?_ | apply ES.label | apply ES.scope | apply PX.sc_n | apply PX.sc_r | apply PX.sc_x)
  (apply EL.loadAggB; exact rfl; exact rfl; exact rfl; exact rfl; exact rfl; (case hm => (repeat (first | exact Mem.here _ _ | apply Mem.there))); exact rfl)
  (refine EL.callX rfl rfl rfl ent17 rfl (members_c s) ?_; intro gs)
  refine EL.assign rfl rfl rfl ?_
  repeat (first | apply ES.seq | apply ES.skip | apply ES.region | apply EL.nil | apply ES.block | apply ES.nil | apply ES.exit | apply ES.ret | apply PX.hit | (apply PX.miss; exact rfl) | apply PX.then_x | apply PX.then_r | apply PX.block_n | apply PX.block_r | refine PX.then_n (e := .normal) ?_ | refine PX.then_d ?_ | apply ES.label | apply ES.scope | apply PX.sc_n | apply PX.sc_r | apply PX.sc_x)
  refine EL.move rfl rfl rfl ?_
  refine EL.eqlFn rfl rfl rfl Tryd.underlying41 rfl ?_
  refine EL.move rfl rfl rfl ?_
  refine EL.rew (d := 13) (v' := .bool false) rfl (by first | rfl | (decide) | (simp)) ?_
  (apply EL.loadB; exact rfl; exact rfl; exact rfl; exact rfl; exact rfl; (case hm => (repeat (first | exact Mem.here _ _ | apply Mem.there))); exact rfl)
  refine EL.eqlI rfl rfl rfl rfl ?_
  refine EL.pickF rfl rfl rfl rfl ?_
  repeat (first | apply ES.seq | apply ES.skip | apply ES.region | apply EL.nil | apply ES.block | apply ES.nil | apply ES.exit | apply ES.ret | apply PX.hit | (apply PX.miss; exact rfl) | apply PX.then_x | apply PX.then_r | apply PX.block_n | apply PX.block_r | refine PX.then_n (e := .normal) ?_ | refine PX.then_d ?_ | apply ES.label | apply ES.scope | apply PX.sc_n | apply PX.sc_r | apply PX.sc_x)
  refine ES.condD rfl (fun h0 => ?_) (fun h0 => ?_)
  · have hc : cutB m (membersM s) = [] := by rw [cutB_stop m _ 0 (by omega)]; rfl
    repeat (first | apply ES.seq | apply ES.skip | apply ES.region | apply EL.nil | apply ES.block | apply ES.nil | apply ES.exit | apply ES.ret | apply PX.hit | (apply PX.miss; exact rfl) | apply PX.then_x | apply PX.then_r | apply PX.block_n | apply PX.block_r | refine PX.then_n (e := .normal) ?_ | refine PX.then_d ?_ | apply ES.label | apply ES.scope | apply PX.sc_n | apply PX.sc_r | apply PX.sc_x)
    refine EL.move rfl rfl rfl ?_
    refine EL.neqFn rfl rfl rfl Tryd.underlying41 rfl ?_
    refine EL.assign rfl rfl rfl ?_
    refine EL.assign rfl rfl rfl ?_
    repeat (first | apply ES.seq | apply ES.skip | apply ES.region | apply EL.nil | apply ES.block | apply ES.nil | apply ES.exit | apply ES.ret | apply PX.hit | (apply PX.miss; exact rfl) | apply PX.then_x | apply PX.then_r | apply PX.block_n | apply PX.block_r | refine PX.then_n (e := .normal) ?_ | refine PX.then_d ?_ | apply ES.label | apply ES.scope | apply PX.sc_n | apply PX.sc_r | apply PX.sc_x)
    exact PX.retM [] rfl (.nil _) Tryd.results6 (.cons (.tmp rfl) (.cons (.tmp rfl) .nil)) (fun w hs => ⟨(), by rw [hc]; rfl, hs.ent (by repeat (first | exact Ent.nil _ | exact Ent.refl _ | (apply Ent.cons; case p => repeat (first | exact Pick.here _ _ | apply Pick.there)) | apply Ent.drop))⟩)
  repeat (first | apply ES.seq | apply ES.skip | apply ES.region | apply EL.nil | apply ES.block | apply ES.nil | apply ES.exit | apply ES.ret | apply PX.hit | (apply PX.miss; exact rfl) | apply PX.then_x | apply PX.then_r | apply PX.block_n | apply PX.block_r | refine PX.then_n (e := .normal) ?_ | refine PX.then_d ?_ | apply ES.label | apply ES.scope | apply PX.sc_n | apply PX.sc_r | apply PX.sc_x)
  refine EL.move rfl rfl rfl ?_
  repeat (first | apply ES.seq | apply ES.skip | apply ES.region | apply EL.nil | apply ES.block | apply ES.nil | apply ES.exit | apply ES.ret | apply PX.hit | (apply PX.miss; exact rfl) | apply PX.then_x | apply PX.then_r | apply PX.block_n | apply PX.block_r | refine PX.then_n (e := .normal) ?_ | refine PX.then_d ?_ | apply ES.label | apply ES.scope | apply PX.sc_n | apply PX.sc_r | apply PX.sc_x)
  refine ES.nilRow 5 1 ?_
  refine ES.rangeFunc (σ := Nat × Option Addr × Nat) (τ := Nat × Option Addr × Nat) (fun i s' => s'.1 = i ∧ i ≤ (membersM s).length ∧ ∀ k : Nat, 0 < k → k ≤ i → (k : Int) ≠ m) (fun s' => [HA.blk g6 (.cells #[.slice s'.2.1 s'.1 s'.2.2] 31), HA.row (.slice s'.2.1 s'.1 s'.2.2) 5 1 s'.1 (((membersM s).take s'.1).map Uv), HA.blk g3 (.cells #[Iv m] 3)])
    (fun c i s' => c = .exit 0 ∧ s'.1 = i ∧ i ≤ (membersM s).length ∧ (i : Int) = m) (fun s' => [HA.blk g6 (.cells #[.slice s'.2.1 s'.1 s'.2.2] 31), HA.row (.slice s'.2.1 s'.1 s'.2.2) 5 1 s'.1 (((membersM s).take s'.1).map Uv), HA.blk g3 (.cells #[Iv m] 3)]) (0, none, 0) ⟨rfl, Nat.zero_le _, fun k h1 h2 => by omega⟩
    rfl rfl ent28 (mem1_iter gs s _ _ hT) (by repeat (first | exact Takes.nil _ | (apply Takes.cons; case p => repeat (first | exact Pick.here _ _ | apply Pick.there)))) (by repeat (first | exact Takes.nil _ | (apply Takes.cons; case p => repeat (first | exact Pick.here _ _ | apply Pick.there)))) (by intro x hx; obtain ⟨_, _, rfl⟩ := List.mem_map.1 hx; rfl) rfl ?_ (fun D s' hs => ?_) (fun D c i s' hc => ?_)
  · rintro l i ⟨j, ad, cap⟩ x R1 ⟨rfl, hj, hno⟩ hx
    dsimp only at hj hx hno ⊢
    obtain ⟨b, hb, rfl⟩ : ∃ b, (membersM s)[j]? = some b ∧ x = [Uv b] := by
      rw [List.getElem?_map] at hx
      obtain ⟨ln, h1, h2⟩ := Option.map_eq_some_iff.1 hx
      exact ⟨ln, h1, h2.symm⟩
    have hlt : j < (membersM s).length := (List.getElem?_eq_some_iff.1 hb).1
    have htk : (membersM s).take (j + 1) = (membersM s).take j ++ [b] := by
      rw [List.take_succ_eq_append_getElem hlt, (List.getElem?_eq_some_iff.1 hb).2]
    repeat (first | apply ES.seq | apply ES.skip | apply ES.region | apply EL.nil | apply ES.block | apply ES.nil | apply ES.exit | apply ES.ret | apply PX.hit | (apply PX.miss; exact rfl) | apply PX.then_x | apply PX.then_r | apply PX.block_n | apply PX.block_r | refine PX.then_n (e := .normal) ?_ | refine PX.then_d ?_ | apply ES.label | apply ES.scope | apply PX.sc_n | apply PX.sc_r | apply PX.sc_x)
    refine EL.assign rfl rfl rfl ?_
    repeat (first | apply ES.seq | apply ES.skip | apply ES.region | apply EL.nil | apply ES.block | apply ES.nil | apply ES.exit | apply ES.ret | apply PX.hit | (apply PX.miss; exact rfl) | apply PX.then_x | apply PX.then_r | apply PX.block_n | apply PX.block_r | refine PX.then_n (e := .normal) ?_ | refine PX.then_d ?_ | apply ES.label | apply ES.scope | apply PX.sc_n | apply PX.sc_r | apply PX.sc_x)
    refine PX.assigned [(8, Uv b), (3, Pv g3 0), (6, Pv g6 0)] [HA.blk g6 (.cells #[.slice ad j cap] 31), HA.row (.slice ad j cap) 5 1 j (((membersM s).take j).map Uv), HA.blk g3 (.cells #[Iv m] 3)] ⟨rfl, rfl, rfl, trivial⟩ (by repeat (first | exact Ent.nil _ | exact Ent.refl _ | (apply Ent.cons; case p => repeat (first | exact Pick.here _ _ | apply Pick.there)) | apply Ent.drop)) (fun R2 => ?_)
    repeat (first | apply ES.seq | apply ES.skip | apply ES.region | apply EL.nil | apply ES.block | apply ES.nil | apply ES.exit | apply ES.ret | apply PX.hit | (apply PX.miss; exact rfl) | apply PX.then_x | apply PX.then_r | apply PX.block_n | apply PX.block_r | refine PX.then_n (e := .normal) ?_ | refine PX.then_d ?_ | apply ES.label | apply ES.scope | apply PX.sc_n | apply PX.sc_r | apply PX.sc_x)
    (apply EL.loadB; exact rfl; exact rfl; exact rfl; exact rfl; exact rfl; (case hm => (repeat (first | exact Mem.here _ _ | apply Mem.there))); exact rfl)
    refine EL.move rfl rfl rfl ?_
    (refine EL.buildSlice1 rfl rfl rfl rfl rfl rfl rfl rfl rfl rfl ?_; intro b23)
    (refine EL.append1 rfl rfl rfl rfl rfl rfl rfl rfl rfl (by repeat (first | exact Mem.here _ _ | apply Mem.there)) (by repeat (first | exact Pick.here _ _ | apply Pick.there)) (by intro u hu; simp [Value.cells] at hu; subst hu; rfl) (by rfl) (by unfold maxLen; omega) (by first | omega | (show 1 * _ ≤ _; omega) | (show 8 * _ ≤ _; omega) | (show 16 * _ ≤ _; omega) | (show 24 * _ ≤ _; omega) | (show _ * 1 ≤ _; omega) | (show _ * 8 ≤ _; omega) | (show _ * 16 ≤ _; omega) | (show _ * 24 ≤ _; omega)) ?_; intro a24 c24)
    (apply EL.storeB; exact rfl; exact rfl; exact rfl; exact rfl; exact rfl; exact rfl; (case p => (repeat (first | exact PickSet.here _ _ _ | apply PickSet.there))); exact (by first | decide | simp))
    repeat (first | apply ES.seq | apply ES.skip | apply ES.region | apply EL.nil | apply ES.block | apply ES.nil | apply ES.exit | apply ES.ret | apply PX.hit | (apply PX.miss; exact rfl) | apply PX.then_x | apply PX.then_r | apply PX.block_n | apply PX.block_r | refine PX.then_n (e := .normal) ?_ | refine PX.then_d ?_ | apply ES.label | apply ES.scope | apply PX.sc_n | apply PX.sc_r | apply PX.sc_x)
    refine EL.cutX (X := Unit) (fun _ => [(33, .bool (decide (((j + 1 : Nat) : Int) = m))), (3, Pv g3 0), (6, Pv g6 0)]) (fun _ => [HA.blk g6 (.cells #[.slice (some ⟨a24, 0, none⟩) (j + 1) c24] 31), HA.row (.slice (some ⟨a24, 0, none⟩) (j + 1) c24) 5 1 (j + 1) (((membersM s).take j).map Uv ++ [Uv b]), HA.blk g3 (.cells #[Iv m] 3)] ++ R2) ?_ (fun _ => ?_)
    · repeat (first | apply ES.seq | apply ES.skip | apply ES.region | apply EL.nil | apply ES.block | apply ES.nil | apply ES.exit | apply ES.ret | apply PX.hit | (apply PX.miss; exact rfl) | apply PX.then_x | apply PX.then_r | apply PX.block_n | apply PX.block_r | refine PX.then_n (e := .normal) ?_ | refine PX.then_d ?_ | apply ES.label | apply ES.scope | apply PX.sc_n | apply PX.sc_r | apply PX.sc_x)
      (apply EL.loadB; exact rfl; exact rfl; exact rfl; exact rfl; exact rfl; (case hm => (repeat (first | exact Mem.here _ _ | apply Mem.there))); exact rfl)
      refine EL.lenL rfl rfl rfl rfl rfl ?_
      (apply EL.loadB; exact rfl; exact rfl; exact rfl; exact rfl; exact rfl; (case hm => (repeat (first | exact Mem.here _ _ | apply Mem.there))); exact rfl)
      refine EL.eqlI rfl rfl rfl rfl ?_
      refine EL.move rfl rfl rfl ?_
      first | refine EL.splitD (d := 29) rfl (fun hp29 => ?_) (fun hp29 => ?_) | refine EL.splitN (d := 29) rfl (fun hp29 => ?_) (fun hp29 => ?_) | refine EL.splitB (d := 29) rfl (fun hp29 => ?_) (fun hp29 => ?_)
      · refine EL.pass rfl rfl rfl ?_
        refine EL.pass rfl rfl rfl ?_
        refine EL.pass rfl rfl rfl ?_
        refine EL.pickT rfl rfl rfl rfl ?_
        exact EL.endX () ⟨getA rfl (congrArg Value.bool (by first | exact (decide_eq_true (by assumption)).symm | exact decide_eq_decide.2 (by omega))), rfl, rfl, trivial⟩ (by repeat (first | exact Ent.nil _ | exact Ent.refl _ | (apply Ent.cons; case p => repeat (first | exact Pick.here _ _ | apply Pick.there)) | apply Ent.drop))
      · (apply EL.loadB; exact rfl; exact rfl; exact rfl; exact rfl; exact rfl; (case hm => (repeat (first | exact Mem.here _ _ | apply Mem.there))); exact rfl)
        refine EL.lenL rfl rfl rfl rfl rfl ?_
        refine EL.gtr rfl rfl rfl rfl ?_
        refine EL.pickF rfl rfl rfl rfl ?_
        exact EL.endX () ⟨getA rfl (congrArg Value.bool (by first | exact (decide_eq_true (by assumption)).symm | exact decide_eq_decide.2 (by omega))), rfl, rfl, trivial⟩ (by repeat (first | exact Ent.nil _ | exact Ent.refl _ | (apply Ent.cons; case p => repeat (first | exact Pick.here _ _ | apply Pick.there)) | apply Ent.drop))
    refine ES.condD rfl (fun heq => ?_) (fun hne => ?_)
    · repeat (first | apply ES.seq | apply ES.skip | apply ES.region | apply EL.nil | apply ES.block | apply ES.nil | apply ES.exit | apply ES.ret | apply PX.hit | (apply PX.miss; exact rfl) | apply PX.then_x | apply PX.then_r | apply PX.block_n | apply PX.block_r | refine PX.then_n (e := .normal) ?_ | refine PX.then_d ?_ | apply ES.label | apply ES.scope | apply PX.sc_n | apply PX.sc_r | apply PX.sc_x)
      refine PX.roundX (j + 1, some ⟨a24, 0, none⟩, c24) ⟨rfl, rfl, by omega, heq⟩ ?_
      dsimp only
      rw [htk, List.map_append]
      exact (by repeat (first | exact Ent.nil _ | exact Ent.refl _ | (apply Ent.cons; case p => repeat (first | exact Pick.here _ _ | apply Pick.there)) | apply Ent.drop))
    · repeat (first | apply ES.seq | apply ES.skip | apply ES.region | apply EL.nil | apply ES.block | apply ES.nil | apply ES.exit | apply ES.ret | apply PX.hit | (apply PX.miss; exact rfl) | apply PX.then_x | apply PX.then_r | apply PX.block_n | apply PX.block_r | refine PX.then_n (e := .normal) ?_ | refine PX.then_d ?_ | apply ES.label | apply ES.scope | apply PX.sc_n | apply PX.sc_r | apply PX.sc_x)
      refine PX.round (j + 1, some ⟨a24, 0, none⟩, c24) ⟨rfl, by omega, fun k h1 h2 => ?_⟩ ?_
      · rcases Nat.lt_or_ge k (j + 1) with h3 | h3
        · exact hno k h1 (by omega)
        · rw [show k = j + 1 by omega]; exact hne
      dsimp only
      rw [htk, List.map_append]
      exact (by repeat (first | exact Ent.nil _ | exact Ent.refl _ | (apply Ent.cons; case p => repeat (first | exact Pick.here _ _ | apply Pick.there)) | apply Ent.drop))
  · obtain ⟨j, ad, cap⟩ := s'
    obtain ⟨hj, _, hno⟩ := hs
    rw [List.length_map] at hj hno
    dsimp only at hj ⊢
    subst hj
    have hc : cutB m (membersM s) = membersM s := cutB_done m _ h0 hno
    rw [List.take_length, hc]
    repeat (first | apply ES.seq | apply ES.skip | apply ES.region | apply EL.nil | apply ES.block | apply ES.nil | apply ES.exit | apply ES.ret | apply PX.hit | (apply PX.miss; exact rfl) | apply PX.then_x | apply PX.then_r | apply PX.block_n | apply PX.block_r | refine PX.then_n (e := .normal) ?_ | refine PX.then_d ?_ | apply ES.label | apply ES.scope | apply PX.sc_n | apply PX.sc_r | apply PX.sc_x)
    (apply EL.loadB; exact rfl; exact rfl; exact rfl; exact rfl; exact rfl; (case hm => (repeat (first | exact Mem.here _ _ | apply Mem.there))); exact rfl)
    refine EL.bytesS rfl rfl rfl rfl rfl rfl rfl rfl rfl (by repeat (first | exact Mem.here _ _ | apply Mem.there)) ?_
    refine EL.assign rfl rfl rfl ?_
    refine EL.assign rfl rfl rfl ?_
    repeat (first | apply ES.seq | apply ES.skip | apply ES.region | apply EL.nil | apply ES.block | apply ES.nil | apply ES.exit | apply ES.ret | apply PX.hit | (apply PX.miss; exact rfl) | apply PX.then_x | apply PX.then_r | apply PX.block_n | apply PX.block_r | refine PX.then_n (e := .normal) ?_ | refine PX.then_d ?_ | apply ES.label | apply ES.scope | apply PX.sc_n | apply PX.sc_r | apply PX.sc_x)
    exact PX.retM [D] rfl (by repeat (first | exact Takes.nil _ | (apply Takes.cons; case p => repeat (first | exact Pick.here _ _ | apply Pick.there)))) Tryd.results6 (.cons (.tmp rfl) (.cons (.tmp rfl) .nil)) (fun w hs => ⟨(), rfl, hs.ent (by repeat (first | exact Ent.nil _ | exact Ent.refl _ | (apply Ent.cons; case p => repeat (first | exact Pick.here _ _ | apply Pick.there)) | apply Ent.drop))⟩)
  · obtain ⟨j, ad, cap⟩ := s'
    obtain ⟨rfl, rfl, hle, heq⟩ := hc
    dsimp only at hle heq ⊢
    have hc : cutB m (membersM s) = (membersM s).take j := cutB_stop m _ j heq
    have hl : ((membersM s).take j).length = j := by rw [List.length_take]; omega
    rw [hc]
    repeat (first | apply ES.seq | apply ES.skip | apply ES.region | apply EL.nil | apply ES.block | apply ES.nil | apply ES.exit | apply ES.ret | apply PX.hit | (apply PX.miss; exact rfl) | apply PX.then_x | apply PX.then_r | apply PX.block_n | apply PX.block_r | refine PX.then_n (e := .normal) ?_ | refine PX.then_d ?_ | apply ES.label | apply ES.scope | apply PX.sc_n | apply PX.sc_r | apply PX.sc_x)
    (apply EL.loadB; exact rfl; exact rfl; exact rfl; exact rfl; exact rfl; (case hm => (repeat (first | exact Mem.here _ _ | apply Mem.there))); exact rfl)
    refine EL.bytesS rfl rfl rfl rfl rfl rfl rfl rfl rfl (by repeat (first | exact Mem.here _ _ | apply Mem.there)) ?_
    refine EL.assign rfl rfl rfl ?_
    refine EL.assign rfl rfl rfl ?_
    repeat (first | apply ES.seq | apply ES.skip | apply ES.region | apply EL.nil | apply ES.block | apply ES.nil | apply ES.exit | apply ES.ret | apply PX.hit | (apply PX.miss; exact rfl) | apply PX.then_x | apply PX.then_r | apply PX.block_n | apply PX.block_r | refine PX.then_n (e := .normal) ?_ | refine PX.then_d ?_ | apply ES.label | apply ES.scope | apply PX.sc_n | apply PX.sc_r | apply PX.sc_x)
    exact PX.retM [D] rfl (by repeat (first | exact Takes.nil _ | (apply Takes.cons; case p => repeat (first | exact Pick.here _ _ | apply Pick.there)))) Tryd.results6 (.cons (.tmp rfl) (.cons (.tmp rfl) .nil)) (fun w hs => ⟨(), rfl, hs.ent (by repeat (first | exact Ent.nil _ | exact Ent.refl _ | (apply Ent.cons; case p => repeat (first | exact Pick.here _ _ | apply Pick.there)) | apply Ent.drop))⟩)
theorem count_m (s : BS) (w : World) : Pure Tryd.prog 10 #[Bs s] (fun _ : Unit => Iv ((membersM s).length : Nat)) (fun _ => []) w := by
  rw [← count_members]; exact count_c s w
theorem of_mem_c (s : BS) (w : World) : Pure Tryd.prog 13 #[Sv (membersM s)] (fun _ : Unit => Bs s) (fun _ => []) w := by
  have h := of_c (membersM s) (by have := members_le s; omega) w
  rwa [of_members] at h
theorem tells_c (s : BS) (b : UInt8) (w : World) (hT : TabR w w.heap.size) : Pure Tryd.prog 3 #[Bs s, Uv b] (fun _ : Unit => .bool true) (fun _ => []) w := by
  have hb := b.toNat_lt
  have hcut : cutB (-1) (membersM s) = membersM s := rfl
  have hml := membersLaw_c s (-1)
  rw [hcut] at hml
  refine calls_of_ES TB Tryd.func3 rfl _ Tryd.ntmps3 rfl (Sat.start w) ?_
  repeat (first | apply ES.seq | apply ES.skip | apply ES.region | apply EL.nil | apply ES.block | apply ES.nil | apply ES.exit | apply ES.ret | apply PX.hit | (apply PX.miss; exact rfl) | apply PX.then_x | apply PX.then_r | apply PX.block_n | apply PX.block_r | refine PX.then_n (e := .normal) ?_ | refine PX.then_d ?_ | apply ES.label | apply ES.scope | apply PX.sc_n | apply PX.sc_r | apply PX.sc_x)
  (refine EL.box rfl rfl rfl ?_; intro g2)
  refine EL.assign rfl rfl rfl ?_
  repeat (first | apply ES.seq | apply ES.skip | apply ES.region | apply EL.nil | apply ES.block | apply ES.nil | apply ES.exit | apply ES.ret | apply PX.hit | (apply PX.miss; exact rfl) | apply PX.then_x | apply PX.then_r | apply PX.block_n | apply PX.block_r | refine PX.then_n (e := .normal) ?_ | refine PX.then_d ?_ | apply ES.label | apply ES.scope | apply PX.sc_n | apply PX.sc_r | apply PX.sc_x)
  (apply EL.loadAggB; exact rfl; exact rfl; exact rfl; exact rfl; exact rfl; (case hm => (repeat (first | exact Mem.here _ _ | apply Mem.there))); exact rfl)
  refine EL.callPw rfl rfl rfl ent6 rfl (fun w hs => hml w (Rd.sat hT hs)) ?_
  refine EL.move rfl rfl rfl ?_
  refine EL.extract rfl rfl rfl rfl ?_
  refine EL.extract rfl rfl rfl rfl ?_
  refine EL.assign rfl rfl rfl ?_
  refine EL.assign rfl rfl rfl ?_
  repeat (first | apply ES.seq | apply ES.skip | apply ES.region | apply EL.nil | apply ES.block | apply ES.nil | apply ES.exit | apply ES.ret | apply PX.hit | (apply PX.miss; exact rfl) | apply PX.then_x | apply PX.then_r | apply PX.block_n | apply PX.block_r | refine PX.then_n (e := .normal) ?_ | refine PX.then_d ?_ | apply ES.label | apply ES.scope | apply PX.sc_n | apply PX.sc_r | apply PX.sc_x)
  repeat (first | apply ES.seq | apply ES.skip | apply EL.nil | apply ES.block | apply ES.nil | apply ES.exit | apply ES.ret | apply PX.hit | (apply PX.miss; exact rfl) | apply PX.then_x | apply PX.then_r | apply PX.block_n | apply PX.block_r | refine PX.then_n (e := .normal) ?_ | refine PX.then_d ?_ | apply ES.label | apply ES.scope | apply PX.sc_n | apply PX.sc_r | apply PX.sc_x)
  refine ES.draw (X := Unit) (fun _ => [(4, .bool true)]) (fun _ => []) [SB g2 s] mixed (by repeat (first | exact Ent.nil _ | exact Ent.refl _ | (apply Ent.cons; case p => repeat (first | exact Pick.here _ _ | apply Pick.there)) | apply Ent.drop)) ?_ (fun _ => ?_)
  · refine ED.loud 0 rfl (by decide +kernel) ?_
    refine EL.callP rfl rfl rfl ent7 rfl awake_c ?_
    refine ED.next (by repeat (first | exact Ent.nil _ | exact Ent.refl _ | (apply Ent.cons; case p => repeat (first | exact Pick.here _ _ | apply Pick.there)) | apply Ent.drop)) ?_
    refine ED.take 1 rfl (by decide +kernel) CutX.no_panic (by decide +kernel) rfl rfl rfl (RV.move rfl) ?_
    refine ED.rew (d := 13) (v' := .bool true) rfl (by first | rfl | (decide) | (simp)) ?_
    refine ED.take 2 rfl (by decide +kernel) CutX.no_panic (by decide +kernel) rfl rfl rfl (RV.move rfl) ?_
    refine ED.take 3 rfl (by decide +kernel) CutX.no_panic (by decide +kernel) rfl rfl rfl (RV.pickT rfl rfl) ?_
    refine ED.take 4 rfl (by decide +kernel) CutX.no_panic (by decide +kernel) rfl rfl rfl (RV.move rfl) ?_
    refine ED.rew (d := 16) (v' := .bool true) rfl (by first | rfl | (decide) | (simp)) ?_
    refine ED.take 5 rfl (by decide +kernel) CutX.no_panic (by decide +kernel) rfl rfl rfl (RV.loadAggB rfl rfl rfl (by repeat (first | exact Mem.here _ _ | apply Mem.there)) rfl) ?_
    refine ED.take 6 rfl (by decide +kernel) CutX.no_panic (by decide +kernel) rfl rfl rfl (RV.move rfl) ?_
    refine ED.take 8 rfl (by decide +kernel) CutX.no_panic (by decide +kernel) rfl rfl rfl (RV.loadAggB rfl rfl rfl (by repeat (first | exact Mem.here _ _ | apply Mem.there)) rfl) ?_
    refine ED.take 9 rfl (by decide +kernel) CutX.no_panic (by decide +kernel) rfl rfl rfl (RV.move rfl) ?_
    refine ED.take 10 rfl (by decide +kernel) CutX.no_panic (by decide +kernel) rfl rfl rfl (RV.convN rfl rfl rfl rfl (le_big8 _ _)) ?_
    refine ED.loud 7 rfl (by decide +kernel) ?_
    refine EL.callP rfl rfl rfl ent8 rfl (has_c s b) ?_
    refine ED.next (by repeat (first | exact Ent.nil _ | exact Ent.refl _ | (apply Ent.cons; case p => repeat (first | exact Pick.here _ _ | apply Pick.there)) | apply Ent.drop)) ?_
    refine ED.loud 11 rfl (by decide +kernel) ?_
    refine EL.callP rfl rfl rfl ent9 rfl (rhas_c s b.toNat hb) ?_
    refine ED.next (by repeat (first | exact Ent.nil _ | exact Ent.refl _ | (apply Ent.cons; case p => repeat (first | exact Pick.here _ _ | apply Pick.there)) | apply Ent.drop)) ?_
    refine ED.take 12 rfl (by decide +kernel) CutX.no_panic (by decide +kernel) rfl rfl rfl (RV.eqlB rfl rfl rfl rfl) ?_
    refine ED.take 13 rfl (by decide +kernel) CutX.no_panic (by decide +kernel) rfl rfl rfl (RV.pickT rfl rfl) ?_
    refine ED.take 14 rfl (by decide +kernel) CutX.no_panic (by decide +kernel) rfl rfl rfl (RV.move rfl) ?_
    refine ED.rew (d := 26) (v' := .bool true) rfl (congrArg Value.bool (beq_self_eq_true _)) ?_
    refine ED.take 15 rfl (by decide +kernel) CutX.no_panic (by decide +kernel) rfl rfl rfl (RV.loadAggB rfl rfl rfl (by repeat (first | exact Mem.here _ _ | apply Mem.there)) rfl) ?_
    refine ED.take 17 rfl (by decide +kernel) CutX.no_panic (by decide +kernel) rfl rfl rfl (RV.loadAggB rfl rfl rfl (by repeat (first | exact Mem.here _ _ | apply Mem.there)) rfl) ?_
    refine ED.loud 16 rfl (by decide +kernel) ?_
    refine EL.callP rfl rfl rfl ent10 rfl (count_m s) ?_
    refine ED.next (by repeat (first | exact Ent.nil _ | exact Ent.refl _ | (apply Ent.cons; case p => repeat (first | exact Pick.here _ _ | apply Pick.there)) | apply Ent.drop)) ?_
    refine ED.loud 18 rfl (by decide +kernel) ?_
    refine EL.callP rfl rfl rfl ent11 rfl (rcount_c s) ?_
    refine ED.next (by repeat (first | exact Ent.nil _ | exact Ent.refl _ | (apply Ent.cons; case p => repeat (first | exact Pick.here _ _ | apply Pick.there)) | apply Ent.drop)) ?_
    refine ED.take 19 rfl (by decide +kernel) CutX.no_panic (by decide +kernel) rfl rfl rfl (RV.eqlI rfl rfl) ?_
    refine ED.take 20 rfl (by decide +kernel) CutX.no_panic (by decide +kernel) rfl rfl rfl (RV.pickT rfl rfl) ?_
    refine ED.take 21 rfl (by decide +kernel) CutX.no_panic (by decide +kernel) rfl rfl rfl (RV.move rfl) ?_
    refine ED.rew (d := 33) (v' := .bool true) rfl (congrArg Value.bool (decide_eq_true rfl)) ?_
    refine ED.take 22 rfl (by decide +kernel) CutX.no_panic (by decide +kernel) rfl rfl rfl (RV.move rfl) ?_
    refine ED.take 23 rfl (by decide +kernel) CutX.no_panic (by decide +kernel) rfl rfl rfl (RV.loadAggB rfl rfl rfl (by repeat (first | exact Mem.here _ _ | apply Mem.there)) rfl) ?_
    refine ED.loud 24 rfl (by decide +kernel) ?_
    (refine EL.callX rfl rfl rfl ent12 rfl (rmembers_c s) ?_; rintro ⟨ad, cap⟩)
    refine ED.next (by repeat (first | exact Ent.nil _ | exact Ent.refl _ | (apply Ent.cons; case p => repeat (first | exact Pick.here _ _ | apply Pick.there)) | apply Ent.drop)) ?_
    refine ED.loud 25 rfl (by decide +kernel) ?_
    (refine EL.bytesS rfl rfl rfl rfl rfl rfl rfl rfl rfl (by repeat (first | exact Mem.here _ _ | apply Mem.there)) ?_)
    refine ED.next (by repeat (first | exact Ent.nil _ | exact Ent.refl _ | (apply Ent.cons; case p => repeat (first | exact Pick.here _ _ | apply Pick.there)) | apply Ent.drop)) ?_
    refine ED.take 26 rfl (by decide +kernel) CutX.no_panic (by decide +kernel) rfl rfl rfl (RV.eqlS rfl rfl) ?_
    refine ED.take 27 rfl (by decide +kernel) CutX.no_panic (by decide +kernel) rfl rfl rfl (RV.pickT rfl rfl) ?_
    refine ED.take 28 rfl (by decide +kernel) CutX.no_panic (by decide +kernel) rfl rfl rfl (RV.assign rfl) ?_
    refine ED.done (by decide +kernel) ?_
    exact PX.cutX () ⟨getA rfl (congrArg Value.bool (decide_eq_true rfl)), trivial⟩ (by repeat (first | exact Ent.nil _ | exact Ent.refl _ | (apply Ent.cons; case p => repeat (first | exact Pick.here _ _ | apply Pick.there)) | apply Ent.drop))
  repeat (first | apply ES.seq | apply ES.skip | apply ES.region | apply EL.nil | apply ES.block | apply ES.nil | apply ES.exit | apply ES.ret | apply PX.hit | (apply PX.miss; exact rfl) | apply PX.then_x | apply PX.then_r | apply PX.block_n | apply PX.block_r | refine PX.then_n (e := .normal) ?_ | refine PX.then_d ?_ | apply ES.label | apply ES.scope | apply PX.sc_n | apply PX.sc_r | apply PX.sc_x)
  exact PX.ret rfl Tryd.results3 (.cons (.tmp rfl) .nil) (fun w hs => ⟨(), rfl, hs.ent (.nil _)⟩)
theorem few_len (n : Nat) (l : List UInt8) : ((cutB (n : Int) l).length : Int) = min (n : Int) (l.length : Int) := by
  unfold cutB
  rw [if_neg (by omega), List.length_take]
  omega
theorem few_take (n : Nat) (l : List UInt8) : cutB (n : Int) l = (l.drop 0).take ((cutB (n : Int) l).length - 0) := by
  unfold cutB
  rw [if_neg (by omega), List.drop_zero, List.length_take, Nat.sub_zero, ← List.take_take]
  simp
theorem stops_c (s : BS) (b : UInt8) (w : World) (hT : TabR w w.heap.size) : Pure Tryd.prog 4 #[Bs s, Uv b] (fun _ : Unit => .bool true) (fun _ => []) w := by
  have hb := b.toNat_lt
  have hlen := members_le s
  have hcut : cutB (-1) (membersM s) = membersM s := rfl
  have hml := membersLaw_c s (-1)
  rw [hcut] at hml
  have hfl := few_len b.toNat (membersM s)
  have hft := few_take b.toNat (membersM s)
  have hfew := membersLaw_c s (b.toNat : Int)
  have hfle : (cutB (b.toNat : Int) (membersM s)).length ≤ (membersM s).length := by unfold cutB; rw [if_neg (by omega), List.length_take]; omega
  obtain ⟨few, hfewE⟩ : ∃ few, few = cutB (b.toNat : Int) (membersM s) := ⟨_, rfl⟩
  rw [← hfewE] at hfl hft hfew hfle
  refine calls_of_ES TB Tryd.func4 rfl _ Tryd.ntmps4 rfl (Sat.start w) ?_
  repeat (first | apply ES.seq | apply ES.skip | apply ES.region | apply EL.nil | apply ES.block | apply ES.nil | apply ES.exit | apply ES.ret | apply PX.hit | (apply PX.miss; exact rfl) | apply PX.then_x | apply PX.then_r | apply PX.block_n | apply PX.block_r | refine PX.then_n (e := .normal) ?_ | refine PX.then_d ?_ | apply ES.label | apply ES.scope | apply PX.sc_n | apply PX.sc_r | apply PX.sc_x)
  (refine EL.box rfl rfl rfl ?_; intro g2)
  refine EL.assign rfl rfl rfl ?_
  repeat (first | apply ES.seq | apply ES.skip | apply ES.region | apply EL.nil | apply ES.block | apply ES.nil | apply ES.exit | apply ES.ret | apply PX.hit | (apply PX.miss; exact rfl) | apply PX.then_x | apply PX.then_r | apply PX.block_n | apply PX.block_r | refine PX.then_n (e := .normal) ?_ | refine PX.then_d ?_ | apply ES.label | apply ES.scope | apply PX.sc_n | apply PX.sc_r | apply PX.sc_x)
  refine EL.callP rfl rfl rfl ent7 rfl awake_c ?_
  refine EL.not rfl rfl rfl ?_
  repeat (first | apply ES.seq | apply ES.skip | apply ES.region | apply EL.nil | apply ES.block | apply ES.nil | apply ES.exit | apply ES.ret | apply PX.hit | (apply PX.miss; exact rfl) | apply PX.then_x | apply PX.then_r | apply PX.block_n | apply PX.block_r | refine PX.then_n (e := .normal) ?_ | refine PX.then_d ?_ | apply ES.label | apply ES.scope | apply PX.sc_n | apply PX.sc_r | apply PX.sc_x)
  refine ES.condF rfl ?_
  repeat (first | apply ES.seq | apply ES.skip | apply ES.region | apply EL.nil | apply ES.block | apply ES.nil | apply ES.exit | apply ES.ret | apply PX.hit | (apply PX.miss; exact rfl) | apply PX.then_x | apply PX.then_r | apply PX.block_n | apply PX.block_r | refine PX.then_n (e := .normal) ?_ | refine PX.then_d ?_ | apply ES.label | apply ES.scope | apply PX.sc_n | apply PX.sc_r | apply PX.sc_x)
  (apply EL.loadAggB; exact rfl; exact rfl; exact rfl; exact rfl; exact rfl; (case hm => (repeat (first | exact Mem.here _ _ | apply Mem.there))); exact rfl)
  refine EL.callPw rfl rfl rfl ent6 rfl (fun w hs => hml w (Rd.sat hT hs)) ?_
  refine EL.move rfl rfl rfl ?_
  refine EL.extract rfl rfl rfl rfl ?_
  refine EL.extract rfl rfl rfl rfl ?_
  refine EL.assign rfl rfl rfl ?_
  refine EL.assign rfl rfl rfl ?_
  repeat (first | apply ES.seq | apply ES.skip | apply ES.region | apply EL.nil | apply ES.block | apply ES.nil | apply ES.exit | apply ES.ret | apply PX.hit | (apply PX.miss; exact rfl) | apply PX.then_x | apply PX.then_r | apply PX.block_n | apply PX.block_r | refine PX.then_n (e := .normal) ?_ | refine PX.then_d ?_ | apply ES.label | apply ES.scope | apply PX.sc_n | apply PX.sc_r | apply PX.sc_x)
  (apply EL.loadAggB; exact rfl; exact rfl; exact rfl; exact rfl; exact rfl; (case hm => (repeat (first | exact Mem.here _ _ | apply Mem.there))); exact rfl)
  refine EL.move rfl rfl rfl ?_
  refine EL.convN rfl rfl rfl rfl rfl rfl (le_big8 _ _) ?_
  refine EL.callPw rfl rfl rfl ent6 rfl (fun w hs => hfew w (Rd.sat hT hs)) ?_
  refine EL.move rfl rfl rfl ?_
  refine EL.extract rfl rfl rfl rfl ?_
  refine EL.extract rfl rfl rfl rfl ?_
  refine EL.assign rfl rfl rfl ?_
  refine EL.assign rfl rfl rfl ?_
  repeat (first | apply ES.seq | apply ES.skip | apply ES.region | apply EL.nil | apply ES.block | apply ES.nil | apply ES.exit | apply ES.ret | apply PX.hit | (apply PX.miss; exact rfl) | apply PX.then_x | apply PX.then_r | apply PX.block_n | apply PX.block_r | refine PX.then_n (e := .normal) ?_ | refine PX.then_d ?_ | apply ES.label | apply ES.scope | apply PX.sc_n | apply PX.sc_r | apply PX.sc_x)
  repeat (first | apply ES.seq | apply ES.skip | apply EL.nil | apply ES.block | apply ES.nil | apply ES.exit | apply ES.ret | apply PX.hit | (apply PX.miss; exact rfl) | apply PX.then_x | apply PX.then_r | apply PX.block_n | apply PX.block_r | refine PX.then_n (e := .normal) ?_ | refine PX.then_d ?_ | apply ES.label | apply ES.scope | apply PX.sc_n | apply PX.sc_r | apply PX.sc_x)
  refine ES.draw (X := Unit) (fun _ => [(4, .bool true)]) (fun _ => []) [SB g2 s] mixed (by repeat (first | exact Ent.nil _ | exact Ent.refl _ | (apply Ent.cons; case p => repeat (first | exact Pick.here _ _ | apply Pick.there)) | apply Ent.drop)) ?_ (fun _ => ?_)
  · refine ED.take 0 rfl (by decide +kernel) CutX.no_panic (by decide +kernel) rfl rfl rfl (RV.move rfl) ?_
    refine ED.take 1 rfl (by decide +kernel) CutX.no_panic (by decide +kernel) rfl rfl rfl (RV.move rfl) ?_
    refine ED.rew (d := 24) (v' := .bool true) rfl (by first | rfl | (decide) | (simp)) ?_
    refine ED.take 2 rfl (by decide +kernel) CutX.no_panic (by decide +kernel) rfl rfl rfl (RV.move rfl) ?_
    refine ED.take 3 rfl (by decide +kernel) CutX.no_panic (by decide +kernel) rfl rfl rfl (RV.pickT rfl rfl) ?_
    refine ED.take 4 rfl (by decide +kernel) CutX.no_panic (by decide +kernel) rfl rfl rfl (RV.move rfl) ?_
    refine ED.rew (d := 27) (v' := .bool true) rfl (by first | rfl | (decide) | (simp)) ?_
    refine ED.take 5 rfl (by decide +kernel) CutX.no_panic (by decide +kernel) rfl rfl rfl (RV.move rfl) ?_
    refine ED.take 6 rfl (by decide +kernel) CutX.no_panic (by decide +kernel) rfl rfl rfl (RV.lenS rfl rfl rfl) ?_
    refine ED.take 7 rfl (by decide +kernel) CutX.no_panic (by decide +kernel) rfl rfl rfl (RV.move rfl) ?_
    refine ED.take 8 rfl (by decide +kernel) CutX.no_panic (by decide +kernel) rfl rfl rfl (RV.convN rfl rfl rfl rfl (le_big8 _ _)) ?_
    refine ED.take 9 rfl (by decide +kernel) CutX.no_panic (by decide +kernel) rfl rfl rfl (RV.move rfl) ?_
    refine ED.take 10 rfl (by decide +kernel) CutX.no_panic (by decide +kernel) rfl rfl rfl (RV.lenS rfl rfl rfl) ?_
    refine ED.take 11 rfl (by decide +kernel) CutX.no_panic (by decide +kernel) rfl rfl rfl (RV.minI rfl rfl) ?_
    refine ED.take 12 rfl (by decide +kernel) CutX.no_panic (by decide +kernel) rfl rfl rfl (RV.eqlI rfl rfl) ?_
    refine ED.take 13 rfl (by decide +kernel) CutX.no_panic (by decide +kernel) rfl rfl rfl (RV.pickT rfl rfl) ?_
    refine ED.take 14 rfl (by decide +kernel) CutX.no_panic (by decide +kernel) rfl rfl rfl (RV.move rfl) ?_
    refine ED.rew (d := 37) (v' := .bool true) rfl (congrArg Value.bool (decide_eq_true hfl)) ?_
    refine ED.take 15 rfl (by decide +kernel) CutX.no_panic (by decide +kernel) rfl rfl rfl (RV.move rfl) ?_
    refine ED.take 16 rfl (by decide +kernel) CutX.no_panic (by decide +kernel) rfl rfl rfl (RV.move rfl) ?_
    refine ED.take 17 rfl (by decide +kernel) CutX.no_panic (by decide +kernel) rfl rfl rfl (RV.move rfl) ?_
    refine ED.take 18 rfl (by decide +kernel) CutX.no_panic (by decide +kernel) rfl rfl rfl (RV.lenS rfl rfl rfl) ?_
    refine ED.take 19 rfl (by decide +kernel) CutX.no_panic (by decide +kernel) rfl rfl rfl (RV.sliceS rfl rfl rfl rfl ⟨_, rfl⟩ (by omega) (by omega)) ?_
    refine ED.take 20 rfl (by decide +kernel) CutX.no_panic (by decide +kernel) rfl rfl rfl (RV.eqlS rfl rfl) ?_
    refine ED.take 21 rfl (by decide +kernel) CutX.no_panic (by decide +kernel) rfl rfl rfl (RV.pickT rfl rfl) ?_
    refine ED.take 22 rfl (by decide +kernel) CutX.no_panic (by decide +kernel) rfl rfl rfl (RV.move rfl) ?_
    refine ED.rew (d := 45) (v' := .bool true) rfl (congrArg Value.bool (decide_eq_true hft)) ?_
    refine ED.take 23 rfl (by decide +kernel) CutX.no_panic (by decide +kernel) rfl rfl rfl (RV.move rfl) ?_
    refine ED.take 25 rfl (by decide +kernel) CutX.no_panic (by decide +kernel) rfl rfl rfl (RV.loadAggB rfl rfl rfl (by repeat (first | exact Mem.here _ _ | apply Mem.there)) rfl) ?_
    refine ED.loud 24 rfl (by decide +kernel) ?_
    refine EL.callP rfl rfl rfl ent13 rfl (of_mem_c s) ?_
    refine ED.next (by repeat (first | exact Ent.nil _ | exact Ent.refl _ | (apply Ent.cons; case p => repeat (first | exact Pick.here _ _ | apply Pick.there)) | apply Ent.drop)) ?_
    refine ED.take 26 rfl (by decide +kernel) CutX.no_panic (by decide +kernel) rfl rfl rfl (RV.eqlBS rfl rfl eqg24 rfl rfl rfl rfl rfl) ?_
    refine ED.take 27 rfl (by decide +kernel) CutX.no_panic (by decide +kernel) rfl rfl rfl (RV.pickT rfl rfl) ?_
    refine ED.take 28 rfl (by decide +kernel) CutX.no_panic (by decide +kernel) rfl rfl rfl (RV.move rfl) ?_
    refine ED.rew (d := 51) (v' := .bool true) rfl (beqE rfl) ?_
    refine ED.take 29 rfl (by decide +kernel) CutX.no_panic (by decide +kernel) rfl rfl rfl (RV.move rfl) ?_
    refine ED.take 30 rfl (by decide +kernel) CutX.no_panic (by decide +kernel) rfl rfl rfl (RV.lenS rfl rfl rfl) ?_
    refine ED.take 31 rfl (by decide +kernel) CutX.no_panic (by decide +kernel) rfl rfl rfl (RV.loadAggB rfl rfl rfl (by repeat (first | exact Mem.here _ _ | apply Mem.there)) rfl) ?_
    refine ED.loud 32 rfl (by decide +kernel) ?_
    refine EL.callP rfl rfl rfl ent10 rfl (count_m s) ?_
    refine ED.next (by repeat (first | exact Ent.nil _ | exact Ent.refl _ | (apply Ent.cons; case p => repeat (first | exact Pick.here _ _ | apply Pick.there)) | apply Ent.drop)) ?_
    refine ED.take 33 rfl (by decide +kernel) CutX.no_panic (by decide +kernel) rfl rfl rfl (RV.eqlI rfl rfl) ?_
    refine ED.take 34 rfl (by decide +kernel) CutX.no_panic (by decide +kernel) rfl rfl rfl (RV.pickT rfl rfl) ?_
    refine ED.take 35 rfl (by decide +kernel) CutX.no_panic (by decide +kernel) rfl rfl rfl (RV.assign rfl) ?_
    refine ED.done (by decide +kernel) ?_
    exact PX.cutX () ⟨getA rfl (congrArg Value.bool (decide_eq_true rfl)), trivial⟩ (by repeat (first | exact Ent.nil _ | exact Ent.refl _ | (apply Ent.cons; case p => repeat (first | exact Pick.here _ _ | apply Pick.there)) | apply Ent.drop))
  repeat (first | apply ES.seq | apply ES.skip | apply ES.region | apply EL.nil | apply ES.block | apply ES.nil | apply ES.exit | apply ES.ret | apply PX.hit | (apply PX.miss; exact rfl) | apply PX.then_x | apply PX.then_r | apply PX.block_n | apply PX.block_r | refine PX.then_n (e := .normal) ?_ | refine PX.then_d ?_ | apply ES.label | apply ES.scope | apply PX.sc_n | apply PX.sc_r | apply PX.sc_x)
  exact PX.ret rfl Tryd.results4 (.cons (.tmp rfl) .nil) (fun w hs => ⟨(), rfl, hs.ent (.nil _)⟩)
end Go.Proofs.YtlianigenfknpaaDoor
