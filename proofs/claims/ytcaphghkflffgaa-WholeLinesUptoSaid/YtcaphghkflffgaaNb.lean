/- Layer 1 (lines): the iterator All; Cut; the document's Cut; the law's all. -/
import Derived.Test.YtcaphghkflffgaaNa
import Derived.Test.YtcaphghkflffgaaSlg
namespace Go.Proofs.Ytcaphghkflffgaa
open Go Go.RowKit Sl
set_option maxRecDepth 100000
set_option maxHeartbeats 8000000
set_option linter.unusedVariables false
set_option linter.unusedSimpArgs false
attribute [local irreducible] ES EL PX wps

def yn (t : List UInt8) : List (List Value) := (cutM t).mapIdx fun i l => [Iv ((i + 1 : Nat) : Int), Sv l]
theorem yn_len (t : List UInt8) : (yn t).length = (cutM t).length := by simp [yn]
theorem yn_at {t : List UInt8} {i : Nat} {l : List UInt8} (h : (cutM t)[i]? = some l) : (yn t)[i]? = some [Iv ((i + 1 : Nat) : Int), Sv l] := by
  unfold yn
  rw [List.getElem?_mapIdx, h]; rfl
theorem yn_of {t : List UInt8} {i : Nat} {x : List Value} (h : (yn t)[i]? = some x) : ∃ l, (cutM t)[i]? = some l ∧ x = [Iv ((i + 1 : Nat) : Int), Sv l] := by
  unfold yn at h
  rw [List.getElem?_mapIdx] at h
  obtain ⟨l, h1, h2⟩ := Option.map_eq_some_iff.1 h
  exact ⟨l, h1, h2.symm⟩
theorem yn_two (t : List UInt8) : ∀ x ∈ yn t, x.length = 2 := by
  intro x hx
  obtain ⟨i, h, rfl⟩ := List.mem_mapIdx.1 hx
  rfl
theorem all1_iter (gc : Nat) (t : List UInt8) (ht : t.length ≤ 70368744177664) (W0 : World) (B0 : Nat) : Iter Try.prog 26 #[Pv gc 0] (yn t) [HA.blk gc (.cells #[Sv t] 9)] W0 B0 := by
  have hcl := cutM_len t
  intro l I Ix hY A R W hI hs
  replace hs : Sat W0 B0 (HA.blk gc (.cells #[Sv t] 9) :: A :: R) W := hs
  refine calls_of_ES TB Try.func26 rfl _ Try.ntmps26 rfl hs ?_
  repeat (first | apply ES.seq | apply ES.skip | apply ES.region | apply EL.nil | apply ES.block | apply ES.nil | apply ES.exit | apply ES.ret | apply PX.hit | (apply PX.miss; exact rfl) | apply PX.then_x | apply PX.then_r | apply PX.block_n | apply PX.block_r | refine PX.then_n (e := .normal) ?_ | refine PX.then_d ?_ | apply ES.label | apply ES.scope | apply PX.sc_n | apply PX.sc_r | apply PX.sc_x)
  (apply EL.loadB; exact rfl; exact rfl; exact rfl; exact rfl; exact rfl; (case hm => (repeat (first | exact Mem.here _ _ | apply Mem.there))); exact rfl)
  refine EL.assign rfl rfl rfl ?_
  repeat (first | apply ES.seq | apply ES.skip | apply ES.region | apply EL.nil | apply ES.block | apply ES.nil | apply ES.exit | apply ES.ret | apply PX.hit | (apply PX.miss; exact rfl) | apply PX.then_x | apply PX.then_r | apply PX.block_n | apply PX.block_r | refine PX.then_n (e := .normal) ?_ | refine PX.then_d ?_ | apply ES.label | apply ES.scope | apply PX.sc_n | apply PX.sc_r | apply PX.sc_x)
  refine EL.assign rfl rfl rfl ?_
  repeat (first | apply ES.seq | apply ES.skip | apply ES.region | apply EL.nil | apply ES.block | apply ES.nil | apply ES.exit | apply ES.ret | apply PX.hit | (apply PX.miss; exact rfl) | apply PX.then_x | apply PX.then_r | apply PX.block_n | apply PX.block_r | refine PX.then_n (e := .normal) ?_ | refine PX.then_d ?_ | apply ES.label | apply ES.scope | apply PX.sc_n | apply PX.sc_r | apply PX.sc_x)
  refine ES.loop (σ := Nat × List UInt8 × HA) (fun (i, r, A) => i ≤ (cutM t).length ∧ cutM r = (cutM t).drop i ∧ r.length ≤ t.length ∧ I i A) (fun (i, r, A) => [(0, .func (.yield l) #[] #[]), (1, Pv gc 0), (3, Sv r), (4, Iv ((i + 1 : Nat) : Int))])
    (fun (i, r, A) => HA.blk gc (.cells #[Sv t] 9) :: A :: R) (fun (i, r, A) => r.length) (0, t, A) ⟨Nat.zero_le _, rfl, Nat.le_refl _, hI⟩ ⟨rfl, rfl, rfl, rfl, trivial⟩ (by repeat (first | exact Ent.nil _ | exact Ent.refl _ | (apply Ent.cons; case p => repeat (first | exact Pick.here _ _ | apply Pick.there)) | apply Ent.drop)) ?_
  rintro ⟨i, r, A⟩ ⟨hi, hr, hrl, hI⟩
  dsimp only at hi hr hrl hI ⊢
  repeat (first | apply ES.seq | apply ES.skip | apply ES.region | apply EL.nil | apply ES.block | apply ES.nil | apply ES.exit | apply ES.ret | apply PX.hit | (apply PX.miss; exact rfl) | apply PX.then_x | apply PX.then_r | apply PX.block_n | apply PX.block_r | refine PX.then_n (e := .normal) ?_ | refine PX.then_d ?_ | apply ES.label | apply ES.scope | apply PX.sc_n | apply PX.sc_r | apply PX.sc_x)
  refine EL.move rfl rfl rfl ?_
  refine EL.neqS rfl rfl rfl rfl ?_
  repeat (first | apply ES.seq | apply ES.skip | apply ES.region | apply EL.nil | apply ES.block | apply ES.nil | apply ES.exit | apply ES.ret | apply PX.hit | (apply PX.miss; exact rfl) | apply PX.then_x | apply PX.then_r | apply PX.block_n | apply PX.block_r | refine PX.then_n (e := .normal) ?_ | refine PX.then_d ?_ | apply ES.label | apply ES.scope | apply PX.sc_n | apply PX.sc_r | apply PX.sc_x)
  refine ES.condN rfl (fun hne => ?_) (fun he => ?_)
  · have hst := cutM_step r hne
    have hlt := cutP_lt r hne
    have hcc := cut_c r (by omega)
    obtain ⟨p, hp⟩ : ∃ p, p = cutP r := ⟨_, rfl⟩
    rw [← hp] at hst hlt hcc
    rw [hr] at hst
    have hat : (cutM t)[i]? = some p.1 := by
      have h0 := congrArg (·[0]?) hst
      simpa using h0
    have hil : i < (cutM t).length := (List.getElem?_eq_some_iff.1 hat).1
    have hdr : cutM p.2.1 = (cutM t).drop (i + 1) := by
      have h1 := congrArg List.tail hst
      simp only [List.tail_drop, List.tail_cons] at h1
      exact h1.symm
    have hx := yn_at hat
    repeat (first | apply ES.seq | apply ES.skip | apply ES.region | apply EL.nil | apply ES.block | apply ES.nil | apply ES.exit | apply ES.ret | apply PX.hit | (apply PX.miss; exact rfl) | apply PX.then_x | apply PX.then_r | apply PX.block_n | apply PX.block_r | refine PX.then_n (e := .normal) ?_ | refine PX.then_d ?_ | apply ES.label | apply ES.scope | apply PX.sc_n | apply PX.sc_r | apply PX.sc_x)
    refine EL.move rfl rfl rfl ?_
    refine EL.callP rfl rfl rfl ent27 rfl hcc ?_
    refine EL.move rfl rfl rfl ?_
    refine EL.extract rfl rfl rfl rfl ?_
    refine EL.extract rfl rfl rfl rfl ?_
    refine EL.extract rfl rfl rfl rfl ?_
    refine EL.assign rfl rfl rfl ?_
    refine EL.assign rfl rfl rfl ?_
    refine EL.assign rfl rfl rfl ?_
    repeat (first | apply ES.seq | apply ES.skip | apply ES.region | apply EL.nil | apply ES.block | apply ES.nil | apply ES.exit | apply ES.ret | apply PX.hit | (apply PX.miss; exact rfl) | apply PX.then_x | apply PX.then_r | apply PX.block_n | apply PX.block_r | refine PX.then_n (e := .normal) ?_ | refine PX.then_d ?_ | apply ES.label | apply ES.scope | apply PX.sc_n | apply PX.sc_r | apply PX.sc_x)
    refine EL.move rfl rfl rfl ?_
    refine EL.assign rfl rfl rfl ?_
    repeat (first | apply ES.seq | apply ES.skip | apply ES.region | apply EL.nil | apply ES.block | apply ES.nil | apply ES.exit | apply ES.ret | apply PX.hit | (apply PX.miss; exact rfl) | apply PX.then_x | apply PX.then_r | apply PX.block_n | apply PX.block_r | refine PX.then_n (e := .normal) ?_ | refine PX.then_d ?_ | apply ES.label | apply ES.scope | apply PX.sc_n | apply PX.sc_r | apply PX.sc_x)
    repeat (first | apply ES.seq | apply ES.skip | apply ES.region | apply EL.nil | apply ES.block | apply ES.nil | apply ES.exit | apply ES.ret | apply PX.hit | (apply PX.miss; exact rfl) | apply PX.then_x | apply PX.then_r | apply PX.block_n | apply PX.block_r | refine PX.then_n (e := .normal) ?_ | refine PX.then_d ?_ | apply ES.label | apply ES.scope | apply PX.sc_n | apply PX.sc_r | apply PX.sc_x)
    refine EL.move rfl rfl rfl ?_
    refine EL.move rfl rfl rfl ?_
    refine EL.move rfl rfl rfl ?_
    refine EL.yield rfl rfl rfl rfl hY hI hx (by repeat (first | exact Pick.here _ _ | apply Pick.there)) (fun A' hI' => ?_) (fun A' hX' => ?_)
    · refine EL.not rfl rfl rfl ?_
      repeat (first | apply ES.seq | apply ES.skip | apply ES.region | apply EL.nil | apply ES.block | apply ES.nil | apply ES.exit | apply ES.ret | apply PX.hit | (apply PX.miss; exact rfl) | apply PX.then_x | apply PX.then_r | apply PX.block_n | apply PX.block_r | refine PX.then_n (e := .normal) ?_ | refine PX.then_d ?_ | apply ES.label | apply ES.scope | apply PX.sc_n | apply PX.sc_r | apply PX.sc_x)
      refine ES.condF rfl ?_
      repeat (first | apply ES.seq | apply ES.skip | apply ES.region | apply EL.nil | apply ES.block | apply ES.nil | apply ES.exit | apply ES.ret | apply PX.hit | (apply PX.miss; exact rfl) | apply PX.then_x | apply PX.then_r | apply PX.block_n | apply PX.block_r | refine PX.then_n (e := .normal) ?_ | refine PX.then_d ?_ | apply ES.label | apply ES.scope | apply PX.sc_n | apply PX.sc_r | apply PX.sc_x)
      refine EL.move rfl rfl rfl ?_
      refine EL.add1 rfl rfl rfl rfl (by omega) ?_
      refine EL.assign rfl rfl rfl ?_
      repeat (first | apply ES.seq | apply ES.skip | apply ES.region | apply EL.nil | apply ES.block | apply ES.nil | apply ES.exit | apply ES.ret | apply PX.hit | (apply PX.miss; exact rfl) | apply PX.then_x | apply PX.then_r | apply PX.block_n | apply PX.block_r | refine PX.then_n (e := .normal) ?_ | refine PX.then_d ?_ | apply ES.label | apply ES.scope | apply PX.sc_n | apply PX.sc_r | apply PX.sc_x)
      exact PX.loop (i + 1, p.2.1, A') ⟨by simp only; omega, hdr, by simp only; omega, hI'⟩ (by simp only; omega) ⟨rfl, rfl, rfl, rfl, trivial⟩ (by repeat (first | exact Ent.nil _ | exact Ent.refl _ | (apply Ent.cons; case p => repeat (first | exact Pick.here _ _ | apply Pick.there)) | apply Ent.drop))
    · refine EL.not rfl rfl rfl ?_
      repeat (first | apply ES.seq | apply ES.skip | apply ES.region | apply EL.nil | apply ES.block | apply ES.nil | apply ES.exit | apply ES.ret | apply PX.hit | (apply PX.miss; exact rfl) | apply PX.then_x | apply PX.then_r | apply PX.block_n | apply PX.block_r | refine PX.then_n (e := .normal) ?_ | refine PX.then_d ?_ | apply ES.label | apply ES.scope | apply PX.sc_n | apply PX.sc_r | apply PX.sc_x)
      refine ES.condT rfl ?_
      repeat (first | apply ES.seq | apply ES.skip | apply ES.region | apply EL.nil | apply ES.block | apply ES.nil | apply ES.exit | apply ES.ret | apply PX.hit | (apply PX.miss; exact rfl) | apply PX.then_x | apply PX.then_r | apply PX.block_n | apply PX.block_r | refine PX.then_n (e := .normal) ?_ | refine PX.then_d ?_ | apply ES.label | apply ES.scope | apply PX.sc_n | apply PX.sc_r | apply PX.sc_x)
      exact PX.ret rfl Try.results26 .nil (fun w hs => ⟨⟨_, rfl⟩, .inr ⟨_, A', hX', hs.ent (by repeat (first | exact Ent.nil _ | exact Ent.refl _ | (apply Ent.cons; case p => repeat (first | exact Pick.here _ _ | apply Pick.there)) | apply Ent.drop))⟩⟩)
  · subst he
    have hlen : i = (cutM t).length := by
      have h0 := congrArg List.length hr
      rw [List.length_drop, show cutM [] = [] from rfl, List.length_nil] at h0
      omega
    repeat (first | apply ES.seq | apply ES.skip | apply ES.region | apply EL.nil | apply ES.block | apply ES.nil | apply ES.exit | apply ES.ret | apply PX.hit | (apply PX.miss; exact rfl) | apply PX.then_x | apply PX.then_r | apply PX.block_n | apply PX.block_r | refine PX.then_n (e := .normal) ?_ | refine PX.then_d ?_ | apply ES.label | apply ES.scope | apply PX.sc_n | apply PX.sc_r | apply PX.sc_x)
    exact PX.end rfl Try.results26 .nil (fun w hs => ⟨⟨_, rfl⟩, .inl ⟨A, by rw [yn_len, ← hlen]; exact hI, hs.ent (by repeat (first | exact Ent.nil _ | exact Ent.refl _ | (apply Ent.cons; case p => repeat (first | exact Pick.here _ _ | apply Pick.there)) | apply Ent.drop))⟩⟩)
theorem all_c (t : List UInt8) (w : World) : Pure Try.prog 21 #[Sv t] (fun g : Nat => .func (.func 26) #[] #[Pv g 0]) (fun g => [HA.blk g (.cells #[Sv t] 9)]) w := by
  refine calls_of_ES TB Try.func21 rfl _ Try.ntmps21 rfl (Sat.start w) ?_
  repeat (first | apply ES.seq | apply ES.skip | apply ES.region | apply EL.nil | apply ES.block | apply ES.nil | apply ES.exit | apply ES.ret | apply PX.hit | (apply PX.miss; exact rfl) | apply PX.then_x | apply PX.then_r | apply PX.block_n | apply PX.block_r | refine PX.then_n (e := .normal) ?_ | refine PX.then_d ?_ | apply ES.label | apply ES.scope | apply PX.sc_n | apply PX.sc_r | apply PX.sc_x)
  (refine EL.box rfl rfl rfl ?_; intro g1)
  refine EL.assign rfl rfl rfl ?_
  repeat (first | apply ES.seq | apply ES.skip | apply ES.region | apply EL.nil | apply ES.block | apply ES.nil | apply ES.exit | apply ES.ret | apply PX.hit | (apply PX.miss; exact rfl) | apply PX.then_x | apply PX.then_r | apply PX.block_n | apply PX.block_r | refine PX.then_n (e := .normal) ?_ | refine PX.then_d ?_ | apply ES.label | apply ES.scope | apply PX.sc_n | apply PX.sc_r | apply PX.sc_x)
  refine EL.makeFunc rfl rfl rfl ?_
  refine EL.assign rfl rfl rfl ?_
  repeat (first | apply ES.seq | apply ES.skip | apply ES.region | apply EL.nil | apply ES.block | apply ES.nil | apply ES.exit | apply ES.ret | apply PX.hit | (apply PX.miss; exact rfl) | apply PX.then_x | apply PX.then_r | apply PX.block_n | apply PX.block_r | refine PX.then_n (e := .normal) ?_ | refine PX.then_d ?_ | apply ES.label | apply ES.scope | apply PX.sc_n | apply PX.sc_r | apply PX.sc_x)
  exact PX.ret rfl Try.results21 (.cons (.tmp rfl) .nil) (fun w hs => ⟨g1, rfl, hs.ent (by repeat (first | exact Ent.nil _ | exact Ent.refl _ | (apply Ent.cons; case p => repeat (first | exact Pick.here _ _ | apply Pick.there)) | apply Ent.drop))⟩)
theorem lcut_c (t : List UInt8) (ht : t.length ≤ 1073741824) (w : World) : Pure Try.prog 14 #[Sv t] (fun x : Option Addr × Nat => .slice x.1 (cutM t).length x.2) (fun x => [HA.row (.slice x.1 (cutM t).length x.2) 9 1 (cutM t).length ((cutM t).map Sv)]) w := by
  have hcount := cutM_len t
  refine calls_of_ESM TB Try.func14 rfl _ Try.ntmps14 rfl (Sat.start w) ?_
  repeat (first | apply ES.seq | apply ES.skip | apply ES.region | apply EL.nil | apply ES.block | apply ES.nil | apply ES.exit | apply ES.ret | apply PX.hit | (apply PX.miss; exact rfl) | apply PX.then_x | apply PX.then_r | apply PX.block_n | apply PX.block_r | refine PX.then_n (e := .normal) ?_ | refine PX.then_d ?_ | apply ES.label | apply ES.scope | apply PX.sc_n | apply PX.sc_r | apply PX.sc_x)
  refine EL.assign rfl rfl rfl ?_
  repeat (first | apply ES.seq | apply ES.skip | apply ES.region | apply EL.nil | apply ES.block | apply ES.nil | apply ES.exit | apply ES.ret | apply PX.hit | (apply PX.miss; exact rfl) | apply PX.then_x | apply PX.then_r | apply PX.block_n | apply PX.block_r | refine PX.then_n (e := .normal) ?_ | refine PX.then_d ?_ | apply ES.label | apply ES.scope | apply PX.sc_n | apply PX.sc_r | apply PX.sc_x)
  (refine EL.alloc rfl rfl rfl ?_; intro g3)
  repeat (first | apply ES.seq | apply ES.skip | apply ES.region | apply EL.nil | apply ES.block | apply ES.nil | apply ES.exit | apply ES.ret | apply PX.hit | (apply PX.miss; exact rfl) | apply PX.then_x | apply PX.then_r | apply PX.block_n | apply PX.block_r | refine PX.then_n (e := .normal) ?_ | refine PX.then_d ?_ | apply ES.label | apply ES.scope | apply PX.sc_n | apply PX.sc_r | apply PX.sc_x)
  refine EL.move rfl rfl rfl ?_
  (refine EL.callX rfl rfl rfl ent21 rfl (all_c t) ?_; intro gc)
  repeat (first | apply ES.seq | apply ES.skip | apply ES.region | apply EL.nil | apply ES.block | apply ES.nil | apply ES.exit | apply ES.ret | apply PX.hit | (apply PX.miss; exact rfl) | apply PX.then_x | apply PX.then_r | apply PX.block_n | apply PX.block_r | refine PX.then_n (e := .normal) ?_ | refine PX.then_d ?_ | apply ES.label | apply ES.scope | apply PX.sc_n | apply PX.sc_r | apply PX.sc_x)
  refine ES.nilRow 9 1 ?_
  refine ES.rangeFunc (σ := Nat × Option Addr × Nat) (τ := Unit) (fun i s => s.1 = i ∧ i ≤ (cutM t).length) (fun s => [HA.blk g3 (.cells #[.slice s.2.1 s.1 s.2.2] 22), HA.row (.slice s.2.1 s.1 s.2.2) 9 1 s.1 (((cutM t).take s.1).map Sv)]) (fun _ _ _ => False) (fun _ => []) (0, none, 0) ⟨rfl, Nat.zero_le _⟩
    rfl rfl ent26 (all1_iter gc t (by omega) _ _) (by repeat (first | exact Takes.nil _ | (apply Takes.cons; case p => repeat (first | exact Pick.here _ _ | apply Pick.there)))) (by repeat (first | exact Takes.nil _ | (apply Takes.cons; case p => repeat (first | exact Pick.here _ _ | apply Pick.there)))) (yn_two t) rfl ?_ (fun D s hs => ?_) (fun D c i t h => h.elim)
  · rintro l i ⟨j, ad, cap⟩ x R1 ⟨rfl, hj⟩ hx
    dsimp only at hj hx ⊢
    obtain ⟨ln, hln, rfl⟩ := yn_of hx
    have hlt : j < (cutM t).length := (List.getElem?_eq_some_iff.1 hln).1
    have htk : (cutM t).take (j + 1) = (cutM t).take j ++ [ln] := by
      rw [List.take_succ_eq_append_getElem hlt, (List.getElem?_eq_some_iff.1 hln).2]
    repeat (first | apply ES.seq | apply ES.skip | apply ES.region | apply EL.nil | apply ES.block | apply ES.nil | apply ES.exit | apply ES.ret | apply PX.hit | (apply PX.miss; exact rfl) | apply PX.then_x | apply PX.then_r | apply PX.block_n | apply PX.block_r | refine PX.then_n (e := .normal) ?_ | refine PX.then_d ?_ | apply ES.label | apply ES.scope | apply PX.sc_n | apply PX.sc_r | apply PX.sc_x)
    refine EL.assign rfl rfl rfl ?_
    repeat (first | apply ES.seq | apply ES.skip | apply ES.region | apply EL.nil | apply ES.block | apply ES.nil | apply ES.exit | apply ES.ret | apply PX.hit | (apply PX.miss; exact rfl) | apply PX.then_x | apply PX.then_r | apply PX.block_n | apply PX.block_r | refine PX.then_n (e := .normal) ?_ | refine PX.then_d ?_ | apply ES.label | apply ES.scope | apply PX.sc_n | apply PX.sc_r | apply PX.sc_x)
    refine PX.assigned [(5, Sv ln), (3, Pv g3 0)] [HA.blk g3 (.cells #[.slice ad j cap] 22), HA.row (.slice ad j cap) 9 1 j (((cutM t).take j).map Sv)] ⟨rfl, rfl, trivial⟩ (by repeat (first | exact Ent.nil _ | exact Ent.refl _ | (apply Ent.cons; case p => repeat (first | exact Pick.here _ _ | apply Pick.there)) | apply Ent.drop)) (fun R2 => ?_)
    repeat (first | apply ES.seq | apply ES.skip | apply ES.region | apply EL.nil | apply ES.block | apply ES.nil | apply ES.exit | apply ES.ret | apply PX.hit | (apply PX.miss; exact rfl) | apply PX.then_x | apply PX.then_r | apply PX.block_n | apply PX.block_r | refine PX.then_n (e := .normal) ?_ | refine PX.then_d ?_ | apply ES.label | apply ES.scope | apply PX.sc_n | apply PX.sc_r | apply PX.sc_x)
    (apply EL.loadB; exact rfl; exact rfl; exact rfl; exact rfl; exact rfl; (case hm => (repeat (first | exact Mem.here _ _ | apply Mem.there))); exact rfl)
    refine EL.move rfl rfl rfl ?_
    (refine EL.buildSlice1 rfl rfl rfl rfl rfl rfl rfl rfl rfl rfl ?_; intro b12)
    (refine EL.append1 rfl rfl rfl rfl rfl rfl rfl rfl rfl (by repeat (first | exact Mem.here _ _ | apply Mem.there)) (by repeat (first | exact Pick.here _ _ | apply Pick.there)) (by intro u hu; simp [Value.cells] at hu; subst hu; rfl) (by rfl) (by unfold maxLen; omega) (by first | omega | (show 1 * _ ≤ _; omega) | (show 8 * _ ≤ _; omega) | (show 16 * _ ≤ _; omega) | (show 24 * _ ≤ _; omega) | (show _ * 1 ≤ _; omega) | (show _ * 8 ≤ _; omega) | (show _ * 16 ≤ _; omega) | (show _ * 24 ≤ _; omega)) ?_; intro a13 c13)
    (apply EL.storeB; exact rfl; exact rfl; exact rfl; exact rfl; exact rfl; exact rfl; (case p => (repeat (first | exact PickSet.here _ _ _ | apply PickSet.there))); exact (by first | decide | simp))
    repeat (first | apply ES.seq | apply ES.skip | apply ES.region | apply EL.nil | apply ES.block | apply ES.nil | apply ES.exit | apply ES.ret | apply PX.hit | (apply PX.miss; exact rfl) | apply PX.then_x | apply PX.then_r | apply PX.block_n | apply PX.block_r | refine PX.then_n (e := .normal) ?_ | refine PX.then_d ?_ | apply ES.label | apply ES.scope | apply PX.sc_n | apply PX.sc_r | apply PX.sc_x)
    refine PX.round (j + 1, some ⟨a13, 0, none⟩, c13) ⟨rfl, by omega⟩ ?_
    dsimp only
    rw [htk, List.map_append]
    exact (by repeat (first | exact Ent.nil _ | exact Ent.refl _ | (apply Ent.cons; case p => repeat (first | exact Pick.here _ _ | apply Pick.there)) | apply Ent.drop))
  · obtain ⟨j, ad, cap⟩ := s
    obtain ⟨hj, _⟩ := hs
    rw [yn_len] at hj
    dsimp only at hj ⊢
    subst hj
    rw [List.take_length]
    repeat (first | apply ES.seq | apply ES.skip | apply ES.region | apply EL.nil | apply ES.block | apply ES.nil | apply ES.exit | apply ES.ret | apply PX.hit | (apply PX.miss; exact rfl) | apply PX.then_x | apply PX.then_r | apply PX.block_n | apply PX.block_r | refine PX.then_n (e := .normal) ?_ | refine PX.then_d ?_ | apply ES.label | apply ES.scope | apply PX.sc_n | apply PX.sc_r | apply PX.sc_x)
    (apply EL.loadB; exact rfl; exact rfl; exact rfl; exact rfl; exact rfl; (case hm => (repeat (first | exact Mem.here _ _ | apply Mem.there))); exact rfl)
    refine EL.assign rfl rfl rfl ?_
    repeat (first | apply ES.seq | apply ES.skip | apply ES.region | apply EL.nil | apply ES.block | apply ES.nil | apply ES.exit | apply ES.ret | apply PX.hit | (apply PX.miss; exact rfl) | apply PX.then_x | apply PX.then_r | apply PX.block_n | apply PX.block_r | refine PX.then_n (e := .normal) ?_ | refine PX.then_d ?_ | apply ES.label | apply ES.scope | apply PX.sc_n | apply PX.sc_r | apply PX.sc_x)
    exact PX.retM [D] rfl (by repeat (first | exact Takes.nil _ | (apply Takes.cons; case p => repeat (first | exact Pick.here _ _ | apply Pick.there)))) Try.results14 (.cons (.tmp rfl) .nil) (fun w hs => ⟨(ad, cap), rfl, hs.ent (by repeat (first | exact Ent.nil _ | exact Ent.refl _ | (apply Ent.cons; case p => repeat (first | exact Pick.here _ _ | apply Pick.there)) | apply Ent.drop))⟩)
theorem rcut_c (t : List UInt8) (ht : t.length ≤ 1073741824) (w : World) : Pure Try.prog 13 #[Sv t] (fun x : Option Addr × Nat => .slice x.1 (cutM t).length x.2) (fun x => [HA.row (.slice x.1 (cutM t).length x.2) 9 1 (cutM t).length ((cutM t).map Sv)]) w := by
  refine calls_of_ES TB Try.func13 rfl _ Try.ntmps13 rfl (Sat.start w) ?_
  repeat (first | apply ES.seq | apply ES.skip | apply ES.region | apply EL.nil | apply ES.block | apply ES.nil | apply ES.exit | apply ES.ret | apply PX.hit | (apply PX.miss; exact rfl) | apply PX.then_x | apply PX.then_r | apply PX.block_n | apply PX.block_r | refine PX.then_n (e := .normal) ?_ | refine PX.then_d ?_ | apply ES.label | apply ES.scope | apply PX.sc_n | apply PX.sc_r | apply PX.sc_x)
  refine EL.assign rfl rfl rfl ?_
  repeat (first | apply ES.seq | apply ES.skip | apply ES.region | apply EL.nil | apply ES.block | apply ES.nil | apply ES.exit | apply ES.ret | apply PX.hit | (apply PX.miss; exact rfl) | apply PX.then_x | apply PX.then_r | apply PX.block_n | apply PX.block_r | refine PX.then_n (e := .normal) ?_ | refine PX.then_d ?_ | apply ES.label | apply ES.scope | apply PX.sc_n | apply PX.sc_r | apply PX.sc_x)
  refine EL.assign rfl rfl rfl ?_
  repeat (first | apply ES.seq | apply ES.skip | apply ES.region | apply EL.nil | apply ES.block | apply ES.nil | apply ES.exit | apply ES.ret | apply PX.hit | (apply PX.miss; exact rfl) | apply PX.then_x | apply PX.then_r | apply PX.block_n | apply PX.block_r | refine PX.then_n (e := .normal) ?_ | refine PX.then_d ?_ | apply ES.label | apply ES.scope | apply PX.sc_n | apply PX.sc_r | apply PX.sc_x)
  refine EL.nilRow 9 1 ?_
  repeat (first | apply ES.seq | apply ES.skip | apply ES.region | apply EL.nil | apply ES.block | apply ES.nil | apply ES.exit | apply ES.ret | apply PX.hit | (apply PX.miss; exact rfl) | apply PX.then_x | apply PX.then_r | apply PX.block_n | apply PX.block_r | refine PX.then_n (e := .normal) ?_ | refine PX.then_d ?_ | apply ES.label | apply ES.scope | apply PX.sc_n | apply PX.sc_r | apply PX.sc_x)
  refine EL.assign rfl rfl rfl ?_
  repeat (first | apply ES.seq | apply ES.skip | apply ES.region | apply EL.nil | apply ES.block | apply ES.nil | apply ES.exit | apply ES.ret | apply PX.hit | (apply PX.miss; exact rfl) | apply PX.then_x | apply PX.then_r | apply PX.block_n | apply PX.block_r | refine PX.then_n (e := .normal) ?_ | refine PX.then_d ?_ | apply ES.label | apply ES.scope | apply PX.sc_n | apply PX.sc_r | apply PX.sc_x)
  refine EL.assign rfl rfl rfl ?_
  repeat (first | apply ES.seq | apply ES.skip | apply ES.region | apply EL.nil | apply ES.block | apply ES.nil | apply ES.exit | apply ES.ret | apply PX.hit | (apply PX.miss; exact rfl) | apply PX.then_x | apply PX.then_r | apply PX.block_n | apply PX.block_r | refine PX.then_n (e := .normal) ?_ | refine PX.then_d ?_ | apply ES.label | apply ES.scope | apply PX.sc_n | apply PX.sc_r | apply PX.sc_x)
  refine ES.loop (σ := Nat × Nat × LL × Option Addr × Nat) (fun (i, fr, ls, ad, cap) => i ≤ t.length ∧ fr ≤ i ∧ ls.length ≤ i ∧ cutM t = ls ++ cutGo ((t.drop fr).take (i - fr)) (t.drop i)) (fun (i, fr, ls, ad, cap) => [(0, Sv t), (3, .slice ad ls.length cap), (4, Iv fr), (5, Iv i)]) (fun (i, fr, ls, ad, cap) => [HA.row (.slice ad ls.length cap) 9 1 ls.length (ls.map Sv)]) (fun (i, _) => t.length - i) (0, 0, [], none, 0) ⟨Nat.zero_le _, Nat.le_refl _, Nat.le_refl _, rfl⟩ ⟨rfl, rfl, rfl, rfl, trivial⟩ (by repeat (first | exact Ent.nil _ | exact Ent.refl _ | (apply Ent.cons; case p => repeat (first | exact Pick.here _ _ | apply Pick.there)) | apply Ent.drop)) ?_
  rintro ⟨i, fr, ls, ad, cap⟩ ⟨hi, hf, hll, hcut⟩
  dsimp only at hi hf hll hcut ⊢
  repeat (first | apply ES.seq | apply ES.skip | apply ES.region | apply EL.nil | apply ES.block | apply ES.nil | apply ES.exit | apply ES.ret | apply PX.hit | (apply PX.miss; exact rfl) | apply PX.then_x | apply PX.then_r | apply PX.block_n | apply PX.block_r | refine PX.then_n (e := .normal) ?_ | refine PX.then_d ?_ | apply ES.label | apply ES.scope | apply PX.sc_n | apply PX.sc_r | apply PX.sc_x)
  refine EL.move rfl rfl rfl ?_
  refine EL.move rfl rfl rfl ?_
  refine EL.lenS rfl rfl rfl rfl rfl ?_
  refine EL.lss rfl rfl rfl rfl ?_
  repeat (first | apply ES.seq | apply ES.skip | apply ES.region | apply EL.nil | apply ES.block | apply ES.nil | apply ES.exit | apply ES.ret | apply PX.hit | (apply PX.miss; exact rfl) | apply PX.then_x | apply PX.then_r | apply PX.block_n | apply PX.block_r | refine PX.then_n (e := .normal) ?_ | refine PX.then_d ?_ | apply ES.label | apply ES.scope | apply PX.sc_n | apply PX.sc_r | apply PX.sc_x)
  refine ES.condD rfl (fun hlt => ?_) (fun hge => ?_)
  · have hlt' : i < t.length := by omega
    have hdi : t.drop i = t.getD i 0 :: t.drop (i + 1) := by
      rw [List.drop_eq_getElem_cons hlt', List.getD_eq_getElem?_getD, List.getElem?_eq_getElem hlt']; rfl
    rw [hdi, cutGo] at hcut
    repeat (first | apply ES.seq | apply ES.skip | apply ES.region | apply EL.nil | apply ES.block | apply ES.nil | apply ES.exit | apply ES.ret | apply PX.hit | (apply PX.miss; exact rfl) | apply PX.then_x | apply PX.then_r | apply PX.block_n | apply PX.block_r | refine PX.then_n (e := .normal) ?_ | refine PX.then_d ?_ | apply ES.label | apply ES.scope | apply PX.sc_n | apply PX.sc_r | apply PX.sc_x)
    refine EL.move rfl rfl rfl ?_
    refine EL.move rfl rfl rfl ?_
    refine EL.indexSN rfl rfl rfl rfl rfl rfl (by omega) ?_
    refine EL.eqlI rfl rfl rfl rfl ?_
    repeat (first | apply ES.seq | apply ES.skip | apply ES.region | apply EL.nil | apply ES.block | apply ES.nil | apply ES.exit | apply ES.ret | apply PX.hit | (apply PX.miss; exact rfl) | apply PX.then_x | apply PX.then_r | apply PX.block_n | apply PX.block_r | refine PX.then_n (e := .normal) ?_ | refine PX.then_d ?_ | apply ES.label | apply ES.scope | apply PX.sc_n | apply PX.sc_r | apply PX.sc_x)
    refine ES.cutC (X := { x : Nat × LL × Option Addr × Nat // x.1 ≤ i + 1 ∧ x.2.1.length ≤ i + 1 ∧ cutM t = x.2.1 ++ cutGo ((t.drop x.1).take (i + 1 - x.1)) (t.drop (i + 1)) }) (fun x => [(0, Sv t), (3, .slice x.1.2.2.1 x.1.2.1.length x.1.2.2.2), (4, Iv x.1.1), (5, Iv i)]) (fun x => [HA.row (.slice x.1.2.2.1 x.1.2.1.length x.1.2.2.2) 9 1 x.1.2.1.length (x.1.2.1.map Sv)]) ?_ (fun x => ?_)
    · refine ES.condD rfl (fun h10 => ?_) (fun h10 => ?_)
      · have hc : t.getD i 0 = 10 := UInt8.toNat_inj.1 (by rw [show (10 : UInt8).toNat = 10 from rfl]; omega)
        rw [if_pos hc] at hcut
        repeat (first | apply ES.seq | apply ES.skip | apply ES.region | apply EL.nil | apply ES.block | apply ES.nil | apply ES.exit | apply ES.ret | apply PX.hit | (apply PX.miss; exact rfl) | apply PX.then_x | apply PX.then_r | apply PX.block_n | apply PX.block_r | refine PX.then_n (e := .normal) ?_ | refine PX.then_d ?_ | apply ES.label | apply ES.scope | apply PX.sc_n | apply PX.sc_r | apply PX.sc_x)
        refine EL.move rfl rfl rfl ?_
        refine EL.move rfl rfl rfl ?_
        refine EL.move rfl rfl rfl ?_
        refine EL.move rfl rfl rfl ?_
        refine EL.sliceS rfl rfl rfl rfl rfl ⟨_, rfl⟩ ⟨_, rfl⟩ (by omega) (by omega) ?_
        (refine EL.buildSlice1 rfl rfl rfl rfl rfl rfl rfl rfl rfl rfl ?_; intro b21)
        (refine EL.append1 rfl rfl rfl rfl rfl rfl rfl rfl rfl (by repeat (first | exact Mem.here _ _ | apply Mem.there)) (by repeat (first | exact Pick.here _ _ | apply Pick.there)) (by intro u hu; simp [Value.cells] at hu; subst hu; rfl) (by rfl) (by unfold maxLen; omega) (by first | omega | (show 1 * _ ≤ _; omega) | (show 8 * _ ≤ _; omega) | (show 16 * _ ≤ _; omega) | (show 24 * _ ≤ _; omega) | (show _ * 1 ≤ _; omega) | (show _ * 8 ≤ _; omega) | (show _ * 16 ≤ _; omega) | (show _ * 24 ≤ _; omega)) ?_; intro a22 c22)
        refine EL.assign rfl rfl rfl ?_
        repeat (first | apply ES.seq | apply ES.skip | apply ES.region | apply EL.nil | apply ES.block | apply ES.nil | apply ES.exit | apply ES.ret | apply PX.hit | (apply PX.miss; exact rfl) | apply PX.then_x | apply PX.then_r | apply PX.block_n | apply PX.block_r | refine PX.then_n (e := .normal) ?_ | refine PX.then_d ?_ | apply ES.label | apply ES.scope | apply PX.sc_n | apply PX.sc_r | apply PX.sc_x)
        refine EL.move rfl rfl rfl ?_
        refine EL.add1 rfl rfl rfl rfl (by omega) ?_
        refine EL.assign rfl rfl rfl ?_
        repeat (first | apply ES.seq | apply ES.skip | apply ES.region | apply EL.nil | apply ES.block | apply ES.nil | apply ES.exit | apply ES.ret | apply PX.hit | (apply PX.miss; exact rfl) | apply PX.then_x | apply PX.then_r | apply PX.block_n | apply PX.block_r | refine PX.then_n (e := .normal) ?_ | refine PX.then_d ?_ | apply ES.label | apply ES.scope | apply PX.sc_n | apply PX.sc_r | apply PX.sc_x)
        refine PX.cutX ⟨(i + 1, ls ++ [(t.drop fr).take (i - fr)], some ⟨a22, 0, none⟩, c22), by simp only; omega, by simp only [List.length_append, List.length_singleton]; omega, by rw [hcut]; simp⟩ ⟨rfl, getA rfl (by simp), rfl, rfl, trivial⟩ ?_
        have e1 : (ls ++ [(t.drop fr).take (i - fr)]).length = ls.length + 1 := by simp
        have e2 : (ls ++ [(t.drop fr).take (i - fr)]).map Sv = ls.map Sv ++ [Sv ((t.drop fr).take (i - fr))] := by simp
        dsimp only
        rw [e1, e2]
        exact (by repeat (first | exact Ent.nil _ | exact Ent.refl _ | (apply Ent.cons; case p => repeat (first | exact Pick.here _ _ | apply Pick.there)) | apply Ent.drop))
      · have hc : t.getD i 0 ≠ 10 := fun h => h10 (by rw [h]; rfl)
        rw [if_neg hc] at hcut
        repeat (first | apply ES.seq | apply ES.skip | apply ES.region | apply EL.nil | apply ES.block | apply ES.nil | apply ES.exit | apply ES.ret | apply PX.hit | (apply PX.miss; exact rfl) | apply PX.then_x | apply PX.then_r | apply PX.block_n | apply PX.block_r | refine PX.then_n (e := .normal) ?_ | refine PX.then_d ?_ | apply ES.label | apply ES.scope | apply PX.sc_n | apply PX.sc_r | apply PX.sc_x)
        refine PX.cutX ⟨(fr, ls, ad, cap), by simp only; omega, by simp only; omega, ?_⟩ ⟨rfl, rfl, rfl, rfl, trivial⟩ (by repeat (first | exact Ent.nil _ | exact Ent.refl _ | (apply Ent.cons; case p => repeat (first | exact Pick.here _ _ | apply Pick.there)) | apply Ent.drop))
        dsimp only
        rw [hcut]
        congr 2
        have e : i + 1 - fr = (i - fr) + 1 := by omega
        rw [e, take_snoc (t.drop fr) (i - fr) 0 (by rw [List.length_drop]; omega)]
        congr 2
        rw [List.getD_eq_getElem?_getD, List.getD_eq_getElem?_getD, List.getElem?_drop, show fr + (i - fr) = i by omega]
    obtain ⟨⟨fr', ls', ad', cap'⟩, hx1, hx2, hx3⟩ := x
    dsimp only at hx1 hx2 hx3 ⊢
    repeat (first | apply ES.seq | apply ES.skip | apply ES.region | apply EL.nil | apply ES.block | apply ES.nil | apply ES.exit | apply ES.ret | apply PX.hit | (apply PX.miss; exact rfl) | apply PX.then_x | apply PX.then_r | apply PX.block_n | apply PX.block_r | refine PX.then_n (e := .normal) ?_ | refine PX.then_d ?_ | apply ES.label | apply ES.scope | apply PX.sc_n | apply PX.sc_r | apply PX.sc_x)
    refine EL.move rfl rfl rfl ?_
    refine EL.add1 rfl rfl rfl rfl (by omega) ?_
    refine EL.assign rfl rfl rfl ?_
    repeat (first | apply ES.seq | apply ES.skip | apply ES.region | apply EL.nil | apply ES.block | apply ES.nil | apply ES.exit | apply ES.ret | apply PX.hit | (apply PX.miss; exact rfl) | apply PX.then_x | apply PX.then_r | apply PX.block_n | apply PX.block_r | refine PX.then_n (e := .normal) ?_ | refine PX.then_d ?_ | apply ES.label | apply ES.scope | apply PX.sc_n | apply PX.sc_r | apply PX.sc_x)
    exact PX.loop (i + 1, fr', ls', ad', cap') ⟨by simp only; omega, by simp only; omega, by simp only; omega, hx3⟩ (by simp only; omega) ⟨rfl, rfl, rfl, rfl, trivial⟩ (by repeat (first | exact Ent.nil _ | exact Ent.refl _ | (apply Ent.cons; case p => repeat (first | exact Pick.here _ _ | apply Pick.there)) | apply Ent.drop))
  obtain rfl : i = t.length := by omega
  rw [List.drop_length, cutGo] at hcut
  repeat (first | apply ES.seq | apply ES.skip | apply ES.region | apply EL.nil | apply ES.block | apply ES.nil | apply ES.exit | apply ES.ret | apply PX.hit | (apply PX.miss; exact rfl) | apply PX.then_x | apply PX.then_r | apply PX.block_n | apply PX.block_r | refine PX.then_n (e := .normal) ?_ | refine PX.then_d ?_ | apply ES.label | apply ES.scope | apply PX.sc_n | apply PX.sc_r | apply PX.sc_x)
  refine EL.move rfl rfl rfl ?_
  refine EL.move rfl rfl rfl ?_
  refine EL.lenS rfl rfl rfl rfl rfl ?_
  refine EL.lss rfl rfl rfl rfl ?_
  repeat (first | apply ES.seq | apply ES.skip | apply ES.region | apply EL.nil | apply ES.block | apply ES.nil | apply ES.exit | apply ES.ret | apply PX.hit | (apply PX.miss; exact rfl) | apply PX.then_x | apply PX.then_r | apply PX.block_n | apply PX.block_r | refine PX.then_n (e := .normal) ?_ | refine PX.then_d ?_ | apply ES.label | apply ES.scope | apply PX.sc_n | apply PX.sc_r | apply PX.sc_x)
  refine ES.cutC (X := Option Addr × Nat) (fun x => [(3, .slice x.1 (cutM t).length x.2)]) (fun x => [HA.row (.slice x.1 (cutM t).length x.2) 9 1 (cutM t).length ((cutM t).map Sv)]) ?_ (fun x => ?_)
  · refine ES.condD rfl (fun hl => ?_) (fun hg => ?_)
    · have hne : (t.drop fr).take (t.length - fr) ≠ [] := fun h => by
        have := congrArg List.length h
        rw [List.length_take, List.length_drop, List.length_nil] at this
        omega
      rw [if_neg hne] at hcut
      have e1 : (cutM t).length = ls.length + 1 := by rw [hcut]; simp
      have e2 : (cutM t).map Sv = ls.map Sv ++ [Sv ((t.drop fr).take (t.length - fr))] := by rw [hcut]; simp
      rw [e1, e2]
      repeat (first | apply ES.seq | apply ES.skip | apply ES.region | apply EL.nil | apply ES.block | apply ES.nil | apply ES.exit | apply ES.ret | apply PX.hit | (apply PX.miss; exact rfl) | apply PX.then_x | apply PX.then_r | apply PX.block_n | apply PX.block_r | refine PX.then_n (e := .normal) ?_ | refine PX.then_d ?_ | apply ES.label | apply ES.scope | apply PX.sc_n | apply PX.sc_r | apply PX.sc_x)
      refine EL.move rfl rfl rfl ?_
      refine EL.move rfl rfl rfl ?_
      refine EL.move rfl rfl rfl ?_
      refine EL.sliceS rfl rfl rfl rfl rfl ⟨_, rfl⟩ rfl (by omega) (by omega) ?_
      (refine EL.buildSlice1 rfl rfl rfl rfl rfl rfl rfl rfl rfl rfl ?_; intro b33)
      (refine EL.append1 rfl rfl rfl rfl rfl rfl rfl rfl rfl (by repeat (first | exact Mem.here _ _ | apply Mem.there)) (by repeat (first | exact Pick.here _ _ | apply Pick.there)) (by intro u hu; simp [Value.cells] at hu; subst hu; rfl) (by rfl) (by unfold maxLen; omega) (by first | omega | (show 1 * _ ≤ _; omega) | (show 8 * _ ≤ _; omega) | (show 16 * _ ≤ _; omega) | (show 24 * _ ≤ _; omega) | (show _ * 1 ≤ _; omega) | (show _ * 8 ≤ _; omega) | (show _ * 16 ≤ _; omega) | (show _ * 24 ≤ _; omega)) ?_; intro a34 c34)
      refine EL.assign rfl rfl rfl ?_
      repeat (first | apply ES.seq | apply ES.skip | apply ES.region | apply EL.nil | apply ES.block | apply ES.nil | apply ES.exit | apply ES.ret | apply PX.hit | (apply PX.miss; exact rfl) | apply PX.then_x | apply PX.then_r | apply PX.block_n | apply PX.block_r | refine PX.then_n (e := .normal) ?_ | refine PX.then_d ?_ | apply ES.label | apply ES.scope | apply PX.sc_n | apply PX.sc_r | apply PX.sc_x)
      exact PX.cutX (some ⟨a34, 0, none⟩, c34) ⟨rfl, trivial⟩ (by repeat (first | exact Ent.nil _ | exact Ent.refl _ | (apply Ent.cons; case p => repeat (first | exact Pick.here _ _ | apply Pick.there)) | apply Ent.drop))
    · have hnil : (t.drop fr).take (t.length - fr) = [] := by
        apply List.eq_nil_of_length_eq_zero
        rw [List.length_take, List.length_drop]
        omega
      rw [if_pos hnil, List.append_nil] at hcut
      rw [hcut]
      repeat (first | apply ES.seq | apply ES.skip | apply ES.region | apply EL.nil | apply ES.block | apply ES.nil | apply ES.exit | apply ES.ret | apply PX.hit | (apply PX.miss; exact rfl) | apply PX.then_x | apply PX.then_r | apply PX.block_n | apply PX.block_r | refine PX.then_n (e := .normal) ?_ | refine PX.then_d ?_ | apply ES.label | apply ES.scope | apply PX.sc_n | apply PX.sc_r | apply PX.sc_x)
      exact PX.cutX (ad, cap) ⟨rfl, trivial⟩ (by repeat (first | exact Ent.nil _ | exact Ent.refl _ | (apply Ent.cons; case p => repeat (first | exact Pick.here _ _ | apply Pick.there)) | apply Ent.drop))
  obtain ⟨ad', cap'⟩ := x
  repeat (first | apply ES.seq | apply ES.skip | apply ES.region | apply EL.nil | apply ES.block | apply ES.nil | apply ES.exit | apply ES.ret | apply PX.hit | (apply PX.miss; exact rfl) | apply PX.then_x | apply PX.then_r | apply PX.block_n | apply PX.block_r | refine PX.then_n (e := .normal) ?_ | refine PX.then_d ?_ | apply ES.label | apply ES.scope | apply PX.sc_n | apply PX.sc_r | apply PX.sc_x)
  refine EL.move rfl rfl rfl ?_
  refine EL.assign rfl rfl rfl ?_
  repeat (first | apply ES.seq | apply ES.skip | apply ES.region | apply EL.nil | apply ES.block | apply ES.nil | apply ES.exit | apply ES.ret | apply PX.hit | (apply PX.miss; exact rfl) | apply PX.then_x | apply PX.then_r | apply PX.block_n | apply PX.block_r | refine PX.then_n (e := .normal) ?_ | refine PX.then_d ?_ | apply ES.label | apply ES.scope | apply PX.sc_n | apply PX.sc_r | apply PX.sc_x)
  exact PX.ret rfl Try.results13 (.cons (.tmp rfl) .nil) (fun w hs => ⟨(ad', cap'), rfl, hs.ent (by repeat (first | exact Ent.nil _ | exact Ent.refl _ | (apply Ent.cons; case p => repeat (first | exact Pick.here _ _ | apply Pick.there)) | apply Ent.drop))⟩)
end Go.Proofs.Ytcaphghkflffgaa
