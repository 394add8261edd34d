/- Layer 16 (listing): escapes read: prefixes, suffixes, unescape. -/
import Derived.Test.YtjjifcfcomhdcaaLc
namespace Go.Proofs.Ytjjifcfcomhdcaa
open Go Go.RowKit Sl
set_option maxRecDepth 100000
set_option maxHeartbeats 8000000
set_option linter.unusedVariables false
set_option linter.unusedSimpArgs false
attribute [local irreducible] ES EL PX wps

theorem hasPrefix1_c (s p : List UInt8) (w : World) : Pure Try.prog 37 #[Sv s, Sv p] (fun _ : Unit => .bool (decide (s.take p.length = p))) (fun _ => []) w := by
  refine calls_of_ES TB Try.func37 rfl _ Try.ntmps37 rfl (Sat.start w) ?_
  repeat (first | apply ES.seq | apply ES.skip | apply ES.region | apply EL.nil | apply ES.block | apply ES.nil | apply ES.exit | apply ES.ret | apply PX.hit | (apply PX.miss; exact rfl) | apply PX.then_x | apply PX.then_r | apply PX.block_n | apply PX.block_r | refine PX.then_n (e := .normal) ?_ | refine PX.then_d ?_ | apply ES.label | apply ES.scope | apply PX.sc_n | apply PX.sc_r | apply PX.sc_x)
  refine EL.assign rfl rfl rfl ?_
  repeat (first | apply ES.seq | apply ES.skip | apply ES.region | apply EL.nil | apply ES.block | apply ES.nil | apply ES.exit | apply ES.ret | apply PX.hit | (apply PX.miss; exact rfl) | apply PX.then_x | apply PX.then_r | apply PX.block_n | apply PX.block_r | refine PX.then_n (e := .normal) ?_ | refine PX.then_d ?_ | apply ES.label | apply ES.scope | apply PX.sc_n | apply PX.sc_r | apply PX.sc_x)
  refine EL.cut [(4, .bool (decide (s.take p.length = p)))] [] ?_ ?_
  · repeat (first | apply ES.seq | apply ES.skip | apply ES.region | apply EL.nil | apply ES.block | apply ES.nil | apply ES.exit | apply ES.ret | apply PX.hit | (apply PX.miss; exact rfl) | apply PX.then_x | apply PX.then_r | apply PX.block_n | apply PX.block_r | refine PX.then_n (e := .normal) ?_ | refine PX.then_d ?_ | apply ES.label | apply ES.scope | apply PX.sc_n | apply PX.sc_r | apply PX.sc_x)
    refine EL.move rfl rfl rfl ?_
    refine EL.lenS rfl rfl rfl rfl rfl ?_
    refine EL.move rfl rfl rfl ?_
    refine EL.lenS rfl rfl rfl rfl rfl ?_
    refine EL.geq rfl rfl rfl rfl ?_
    refine EL.move rfl rfl rfl ?_
    first | refine EL.splitD (d := 10) rfl (fun hp10 => ?_) (fun hp10 => ?_) | refine EL.splitN (d := 10) rfl (fun hp10 => ?_) (fun hp10 => ?_) | refine EL.splitB (d := 10) rfl (fun hp10 => ?_) (fun hp10 => ?_)
    · refine EL.move rfl rfl rfl ?_
      refine EL.move rfl rfl rfl ?_
      refine EL.lenS rfl rfl rfl rfl rfl ?_
      refine EL.sliceS rfl rfl rfl rfl rfl rfl ⟨_, rfl⟩ (Nat.zero_le _) (by omega) ?_
      refine EL.move rfl rfl rfl ?_
      refine EL.eqlS rfl rfl rfl rfl ?_
      refine EL.pickT rfl rfl rfl rfl ?_
      refine EL.assign rfl rfl rfl ?_
      exact EL.endK ⟨getB rfl (by first | rfl | (symm; exact decide_eq_false (fun h => by have := congrArg List.length h; rw [List.length_take] at this; omega))), trivial⟩ (by repeat (first | exact Ent.nil _ | exact Ent.refl _ | (apply Ent.cons; case p => repeat (first | exact Pick.here _ _ | apply Pick.there)) | apply Ent.drop))
    · refine EL.pass rfl rfl rfl ?_
      refine EL.pass rfl rfl rfl ?_
      refine EL.pass rfl rfl rfl ?_
      refine EL.pass rfl rfl rfl ?_
      refine EL.pass rfl rfl rfl ?_
      refine EL.pass rfl rfl rfl ?_
      refine EL.pickF rfl rfl rfl rfl ?_
      refine EL.assign rfl rfl rfl ?_
      exact EL.endK ⟨getB rfl (by first | rfl | (symm; exact decide_eq_false (fun h => by have := congrArg List.length h; rw [List.length_take] at this; omega))), trivial⟩ (by repeat (first | exact Ent.nil _ | exact Ent.refl _ | (apply Ent.cons; case p => repeat (first | exact Pick.here _ _ | apply Pick.there)) | apply Ent.drop))
  repeat (first | apply ES.seq | apply ES.skip | apply ES.region | apply EL.nil | apply ES.block | apply ES.nil | apply ES.exit | apply ES.ret | apply PX.hit | (apply PX.miss; exact rfl) | apply PX.then_x | apply PX.then_r | apply PX.block_n | apply PX.block_r | refine PX.then_n (e := .normal) ?_ | refine PX.then_d ?_ | apply ES.label | apply ES.scope | apply PX.sc_n | apply PX.sc_r | apply PX.sc_x)
  exact PX.ret rfl Try.results37 (.cons (.tmp rfl) .nil) (fun w hs => ⟨(), rfl, hs.ent (.nil _)⟩)
theorem hasPrefix_c (s p : List UInt8) (w : World) : Pure Try.prog 33 #[Sv s, Sv p] (fun _ : Unit => .bool (decide (s.take p.length = p))) (fun _ => []) w := by
  refine calls_of_ES TB Try.func33 rfl _ Try.ntmps33 rfl (Sat.start w) ?_
  repeat (first | apply ES.seq | apply ES.skip | apply ES.region | apply EL.nil | apply ES.block | apply ES.nil | apply ES.exit | apply ES.ret | apply PX.hit | (apply PX.miss; exact rfl) | apply PX.then_x | apply PX.then_r | apply PX.block_n | apply PX.block_r | refine PX.then_n (e := .normal) ?_ | refine PX.then_d ?_ | apply ES.label | apply ES.scope | apply PX.sc_n | apply PX.sc_r | apply PX.sc_x)
  refine EL.assign rfl rfl rfl ?_
  repeat (first | apply ES.seq | apply ES.skip | apply ES.region | apply EL.nil | apply ES.block | apply ES.nil | apply ES.exit | apply ES.ret | apply PX.hit | (apply PX.miss; exact rfl) | apply PX.then_x | apply PX.then_r | apply PX.block_n | apply PX.block_r | refine PX.then_n (e := .normal) ?_ | refine PX.then_d ?_ | apply ES.label | apply ES.scope | apply PX.sc_n | apply PX.sc_r | apply PX.sc_x)
  refine EL.move rfl rfl rfl ?_
  refine EL.move rfl rfl rfl ?_
  refine EL.callP rfl rfl rfl ent37 rfl (hasPrefix1_c s p) ?_
  refine EL.assign rfl rfl rfl ?_
  repeat (first | apply ES.seq | apply ES.skip | apply ES.region | apply EL.nil | apply ES.block | apply ES.nil | apply ES.exit | apply ES.ret | apply PX.hit | (apply PX.miss; exact rfl) | apply PX.then_x | apply PX.then_r | apply PX.block_n | apply PX.block_r | refine PX.then_n (e := .normal) ?_ | refine PX.then_d ?_ | apply ES.label | apply ES.scope | apply PX.sc_n | apply PX.sc_r | apply PX.sc_x)
  exact PX.ret rfl Try.results33 (.cons (.tmp rfl) .nil) (fun w hs => ⟨(), rfl, hs.ent (.nil _)⟩)
theorem hasSuffix1_c (s p : List UInt8) (hs : s.length ≤ 9223372036854775807) (w : World) : Pure Try.prog 31 #[Sv s, Sv p] (fun _ : Unit => .bool (decide (p.length ≤ s.length ∧ s.drop (s.length - p.length) = p))) (fun _ => []) w := by
  refine calls_of_ES TB Try.func31 rfl _ Try.ntmps31 rfl (Sat.start w) ?_
  repeat (first | apply ES.seq | apply ES.skip | apply ES.region | apply EL.nil | apply ES.block | apply ES.nil | apply ES.exit | apply ES.ret | apply PX.hit | (apply PX.miss; exact rfl) | apply PX.then_x | apply PX.then_r | apply PX.block_n | apply PX.block_r | refine PX.then_n (e := .normal) ?_ | refine PX.then_d ?_ | apply ES.label | apply ES.scope | apply PX.sc_n | apply PX.sc_r | apply PX.sc_x)
  refine EL.assign rfl rfl rfl ?_
  repeat (first | apply ES.seq | apply ES.skip | apply ES.region | apply EL.nil | apply ES.block | apply ES.nil | apply ES.exit | apply ES.ret | apply PX.hit | (apply PX.miss; exact rfl) | apply PX.then_x | apply PX.then_r | apply PX.block_n | apply PX.block_r | refine PX.then_n (e := .normal) ?_ | refine PX.then_d ?_ | apply ES.label | apply ES.scope | apply PX.sc_n | apply PX.sc_r | apply PX.sc_x)
  refine EL.cut [(4, .bool (decide (p.length ≤ s.length ∧ s.drop (s.length - p.length) = p)))] [] ?_ ?_
  · repeat (first | apply ES.seq | apply ES.skip | apply ES.region | apply EL.nil | apply ES.block | apply ES.nil | apply ES.exit | apply ES.ret | apply PX.hit | (apply PX.miss; exact rfl) | apply PX.then_x | apply PX.then_r | apply PX.block_n | apply PX.block_r | refine PX.then_n (e := .normal) ?_ | refine PX.then_d ?_ | apply ES.label | apply ES.scope | apply PX.sc_n | apply PX.sc_r | apply PX.sc_x)
    refine EL.move rfl rfl rfl ?_
    refine EL.lenS rfl rfl rfl rfl rfl ?_
    refine EL.move rfl rfl rfl ?_
    refine EL.lenS rfl rfl rfl rfl rfl ?_
    refine EL.geq rfl rfl rfl rfl ?_
    refine EL.move rfl rfl rfl ?_
    first | refine EL.splitD (d := 10) rfl (fun hp10 => ?_) (fun hp10 => ?_) | refine EL.splitN (d := 10) rfl (fun hp10 => ?_) (fun hp10 => ?_) | refine EL.splitB (d := 10) rfl (fun hp10 => ?_) (fun hp10 => ?_)
    · refine EL.move rfl rfl rfl ?_
      refine EL.move rfl rfl rfl ?_
      refine EL.lenS rfl rfl rfl rfl rfl ?_
      refine EL.move rfl rfl rfl ?_
      refine EL.lenS rfl rfl rfl rfl rfl ?_
      refine EL.subN rfl rfl rfl rfl rfl (by omega) (by omega) ?_
      refine EL.sliceS rfl rfl rfl rfl rfl ⟨_, rfl⟩ rfl (by omega) (by omega) ?_
      refine EL.move rfl rfl rfl ?_
      refine EL.eqlS rfl rfl rfl rfl ?_
      refine EL.pickT rfl rfl rfl rfl ?_
      refine EL.assign rfl rfl rfl ?_
      exact EL.endK ⟨getB rfl (by first | (refine decide_eq_decide.2 ?_; rw [List.take_of_length_le (by rw [List.length_drop]; exact Nat.le_refl _)]; exact ⟨fun h => ⟨by omega, h⟩, fun h => h.2⟩) | (symm; exact decide_eq_false (fun h => by omega))), trivial⟩ (by repeat (first | exact Ent.nil _ | exact Ent.refl _ | (apply Ent.cons; case p => repeat (first | exact Pick.here _ _ | apply Pick.there)) | apply Ent.drop))
    · refine EL.pass rfl rfl rfl ?_
      refine EL.pass rfl rfl rfl ?_
      refine EL.pass rfl rfl rfl ?_
      refine EL.pass rfl rfl rfl ?_
      refine EL.pass rfl rfl rfl ?_
      refine EL.pass rfl rfl rfl ?_
      refine EL.pass rfl rfl rfl ?_
      refine EL.pass rfl rfl rfl ?_
      refine EL.pass rfl rfl rfl ?_
      refine EL.pickF rfl rfl rfl rfl ?_
      refine EL.assign rfl rfl rfl ?_
      exact EL.endK ⟨getB rfl (by first | (refine decide_eq_decide.2 ?_; rw [List.take_of_length_le (by rw [List.length_drop]; exact Nat.le_refl _)]; exact ⟨fun h => ⟨by omega, h⟩, fun h => h.2⟩) | (symm; exact decide_eq_false (fun h => by omega))), trivial⟩ (by repeat (first | exact Ent.nil _ | exact Ent.refl _ | (apply Ent.cons; case p => repeat (first | exact Pick.here _ _ | apply Pick.there)) | apply Ent.drop))
  repeat (first | apply ES.seq | apply ES.skip | apply ES.region | apply EL.nil | apply ES.block | apply ES.nil | apply ES.exit | apply ES.ret | apply PX.hit | (apply PX.miss; exact rfl) | apply PX.then_x | apply PX.then_r | apply PX.block_n | apply PX.block_r | refine PX.then_n (e := .normal) ?_ | refine PX.then_d ?_ | apply ES.label | apply ES.scope | apply PX.sc_n | apply PX.sc_r | apply PX.sc_x)
  exact PX.ret rfl Try.results31 (.cons (.tmp rfl) .nil) (fun w hs => ⟨(), rfl, hs.ent (.nil _)⟩)
theorem hasSuffix_c (s p : List UInt8) (hs : s.length ≤ 9223372036854775807) (w : World) : Pure Try.prog 23 #[Sv s, Sv p] (fun _ : Unit => .bool (decide (p.length ≤ s.length ∧ s.drop (s.length - p.length) = p))) (fun _ => []) w := by
  refine calls_of_ES TB Try.func23 rfl _ Try.ntmps23 rfl (Sat.start w) ?_
  repeat (first | apply ES.seq | apply ES.skip | apply ES.region | apply EL.nil | apply ES.block | apply ES.nil | apply ES.exit | apply ES.ret | apply PX.hit | (apply PX.miss; exact rfl) | apply PX.then_x | apply PX.then_r | apply PX.block_n | apply PX.block_r | refine PX.then_n (e := .normal) ?_ | refine PX.then_d ?_ | apply ES.label | apply ES.scope | apply PX.sc_n | apply PX.sc_r | apply PX.sc_x)
  refine EL.assign rfl rfl rfl ?_
  repeat (first | apply ES.seq | apply ES.skip | apply ES.region | apply EL.nil | apply ES.block | apply ES.nil | apply ES.exit | apply ES.ret | apply PX.hit | (apply PX.miss; exact rfl) | apply PX.then_x | apply PX.then_r | apply PX.block_n | apply PX.block_r | refine PX.then_n (e := .normal) ?_ | refine PX.then_d ?_ | apply ES.label | apply ES.scope | apply PX.sc_n | apply PX.sc_r | apply PX.sc_x)
  refine EL.move rfl rfl rfl ?_
  refine EL.move rfl rfl rfl ?_
  refine EL.callP rfl rfl rfl ent31 rfl (hasSuffix1_c s p hs) ?_
  refine EL.assign rfl rfl rfl ?_
  repeat (first | apply ES.seq | apply ES.skip | apply ES.region | apply EL.nil | apply ES.block | apply ES.nil | apply ES.exit | apply ES.ret | apply PX.hit | (apply PX.miss; exact rfl) | apply PX.then_x | apply PX.then_r | apply PX.block_n | apply PX.block_r | refine PX.then_n (e := .normal) ?_ | refine PX.then_d ?_ | apply ES.label | apply ES.scope | apply PX.sc_n | apply PX.sc_r | apply PX.sc_x)
  exact PX.ret rfl Try.results23 (.cons (.tmp rfl) .nil) (fun w hs => ⟨(), rfl, hs.ent (.nil _)⟩)
def preE (s : List UInt8) (b : Nat) : Bool := decide (s.take (escM (UInt8.ofNat b)).length = escM (UInt8.ofNat b))
def nextE (s : List UInt8) : Option Nat := (List.range 256).find? (preE s)
theorem nextE_some (s : List UInt8) (k : Nat) (hk : k < 256) (h : ∀ b, b < k → preE s b = false) (hp : preE s k = true) : nextE s = some k := by
  unfold nextE
  rw [List.find?_eq_some_iff_getElem]
  refine ⟨hp, k, by simpa using hk, by simp, fun j hj => ?_⟩
  simp only [List.getElem_range]
  rw [h j hj]; rfl
theorem nextE_none (s : List UInt8) (h : ∀ b, b < 256 → preE s b = false) : nextE s = none := by
  unfold nextE
  rw [List.find?_eq_none]
  intro b hb
  rw [h b (List.mem_range.1 hb)]; simp
def unesc : Nat → List UInt8 → Option (List UInt8)
  | _, [] => some []
  | 0, _ :: _ => none
  | f + 1, c :: s => match nextE (c :: s) with
    | none => none
    | some b => (unesc f ((c :: s).drop (escM (UInt8.ofNat b)).length)).map (UInt8.ofNat b :: ·)
theorem unesc_fuel : ∀ (f g : Nat) (s : List UInt8), s.length ≤ f → s.length ≤ g → unesc f s = unesc g s
  | f, g, [], _, _ => by cases f <;> cases g <;> rfl
  | 0, _, c :: s, h, _ => by simp at h
  | _, 0, c :: s, _, h => by simp at h
  | f + 1, g + 1, c :: s, hf, hg => by
    simp only [unesc]
    cases nextE (c :: s) with
    | none => rfl
    | some b =>
      have he := (escM_len (UInt8.ofNat b)).1
      have hl : ((c :: s).drop (escM (UInt8.ofNat b)).length).length ≤ s.length := by rw [List.length_drop, List.length_cons]; omega
      simp only [List.length_cons] at hf hg
      exact congrArg (Option.map _) (unesc_fuel f g _ (by omega) (by omega))
def unescM (s : List UInt8) : Option (List UInt8) := unesc s.length s
theorem unescM_nil : unescM [] = some [] := rfl
theorem unescM_step (s : List UInt8) (h : s ≠ []) : unescM s = match nextE s with
    | none => none
    | some b => (unescM (s.drop (escM (UInt8.ofNat b)).length)).map (UInt8.ofNat b :: ·) := by
  obtain ⟨c, r, rfl⟩ : ∃ c r, s = c :: r := by
    cases s with
    | nil => exact absurd rfl h
    | cons c r => exact ⟨c, r, rfl⟩
  unfold unescM
  rw [List.length_cons, unesc]
  cases nextE (c :: r) with
  | none => rfl
  | some b =>
    have he := (escM_len (UInt8.ofNat b)).1
    have hl : ((c :: r).drop (escM (UInt8.ofNat b)).length).length ≤ r.length := by rw [List.length_drop, List.length_cons]; omega
    simp only
    rw [unesc_fuel r.length _ _ hl (Nat.le_refl _)]
def unR (s : List UInt8) : List UInt8 × Bool := match unescM s with
  | some t => (t, true)
  | none => ([], false)
theorem unescape_c (s : List UInt8) (hs : s.length ≤ 70368744177664) (w : World) : Pure Try.prog 25 #[Sv s] (fun _ : Unit => .tuple #[Sv (unR s).1, .bool (unR s).2]) (fun _ => []) w := by
  refine calls_of_ES TB Try.func25 rfl _ Try.ntmps25 rfl (Sat.start w) ?_
  repeat (first | apply ES.seq | apply ES.skip | apply ES.region | apply EL.nil | apply ES.block | apply ES.nil | apply ES.exit | apply ES.ret | apply PX.hit | (apply PX.miss; exact rfl) | apply PX.then_x | apply PX.then_r | apply PX.block_n | apply PX.block_r | refine PX.then_n (e := .normal) ?_ | refine PX.then_d ?_ | apply ES.label | apply ES.scope | apply PX.sc_n | apply PX.sc_r | apply PX.sc_x)
  refine EL.assign rfl rfl rfl ?_
  refine EL.assign rfl rfl rfl ?_
  repeat (first | apply ES.seq | apply ES.skip | apply ES.region | apply EL.nil | apply ES.block | apply ES.nil | apply ES.exit | apply ES.ret | apply PX.hit | (apply PX.miss; exact rfl) | apply PX.then_x | apply PX.then_r | apply PX.block_n | apply PX.block_r | refine PX.then_n (e := .normal) ?_ | refine PX.then_d ?_ | apply ES.label | apply ES.scope | apply PX.sc_n | apply PX.sc_r | apply PX.sc_x)
  refine EL.assign rfl rfl rfl ?_
  repeat (first | apply ES.seq | apply ES.skip | apply ES.region | apply EL.nil | apply ES.block | apply ES.nil | apply ES.exit | apply ES.ret | apply PX.hit | (apply PX.miss; exact rfl) | apply PX.then_x | apply PX.then_r | apply PX.block_n | apply PX.block_r | refine PX.then_n (e := .normal) ?_ | refine PX.then_d ?_ | apply ES.label | apply ES.scope | apply PX.sc_n | apply PX.sc_r | apply PX.sc_x)
  refine EL.nilRow 5 1 ?_
  repeat (first | apply ES.seq | apply ES.skip | apply ES.region | apply EL.nil | apply ES.block | apply ES.nil | apply ES.exit | apply ES.ret | apply PX.hit | (apply PX.miss; exact rfl) | apply PX.then_x | apply PX.then_r | apply PX.block_n | apply PX.block_r | refine PX.then_n (e := .normal) ?_ | refine PX.then_d ?_ | apply ES.label | apply ES.scope | apply PX.sc_n | apply PX.sc_r | apply PX.sc_x)
  refine EL.assign rfl rfl rfl ?_
  repeat (first | apply ES.seq | apply ES.skip | apply ES.region | apply EL.nil | apply ES.block | apply ES.nil | apply ES.exit | apply ES.ret | apply PX.hit | (apply PX.miss; exact rfl) | apply PX.then_x | apply PX.then_r | apply PX.block_n | apply PX.block_r | refine PX.then_n (e := .normal) ?_ | refine PX.then_d ?_ | apply ES.label | apply ES.scope | apply PX.sc_n | apply PX.sc_r | apply PX.sc_x)
  refine ES.loop (σ := Nat × List UInt8 × Option Addr × Nat) (fun (at', out, ad, cap) => at' ≤ s.length ∧ out.length ≤ at' ∧ unescM s = (unescM (s.drop at')).map (out ++ ·)) (fun (at', out, ad, cap) => [(0, Sv s), (4, .slice ad out.length cap), (5, Iv at')]) (fun (at', out, ad, cap) => [HA.row (.slice ad out.length cap) 5 1 out.length (out.map Uv)]) (fun (at', _) => s.length - at') (0, [], none, 0) ⟨Nat.zero_le _, Nat.le_refl _, by simp⟩ ⟨rfl, rfl, rfl, trivial⟩ (by repeat (first | exact Ent.nil _ | exact Ent.refl _ | (apply Ent.cons; case p => repeat (first | exact Pick.here _ _ | apply Pick.there)) | apply Ent.drop)) ?_
  rintro ⟨p, out, ad, cap⟩ ⟨hp, hout, hun⟩
  dsimp only at hp hout hun ⊢
  repeat (first | apply ES.seq | apply ES.skip | apply ES.region | apply EL.nil | apply ES.block | apply ES.nil | apply ES.exit | apply ES.ret | apply PX.hit | (apply PX.miss; exact rfl) | apply PX.then_x | apply PX.then_r | apply PX.block_n | apply PX.block_r | refine PX.then_n (e := .normal) ?_ | refine PX.then_d ?_ | apply ES.label | apply ES.scope | apply PX.sc_n | apply PX.sc_r | apply PX.sc_x)
  refine EL.move rfl rfl rfl ?_
  refine EL.move rfl rfl rfl ?_
  refine EL.lenS rfl rfl rfl rfl rfl ?_
  refine EL.lss rfl rfl rfl rfl ?_
  repeat (first | apply ES.seq | apply ES.skip | apply ES.region | apply EL.nil | apply ES.block | apply ES.nil | apply ES.exit | apply ES.ret | apply PX.hit | (apply PX.miss; exact rfl) | apply PX.then_x | apply PX.then_r | apply PX.block_n | apply PX.block_r | refine PX.then_n (e := .normal) ?_ | refine PX.then_d ?_ | apply ES.label | apply ES.scope | apply PX.sc_n | apply PX.sc_r | apply PX.sc_x)
  refine ES.condD rfl (fun hlt => ?_) (fun hge => ?_)
  · have hlt' : p < s.length := by omega
    have hd : (s.drop p).take (s.length - p) = s.drop p := List.take_of_length_le (by rw [List.length_drop]; exact Nat.le_refl _)
    repeat (first | apply ES.seq | apply ES.skip | apply ES.region | apply EL.nil | apply ES.block | apply ES.nil | apply ES.exit | apply ES.ret | apply PX.hit | (apply PX.miss; exact rfl) | apply PX.then_x | apply PX.then_r | apply PX.block_n | apply PX.block_r | refine PX.then_n (e := .normal) ?_ | refine PX.then_d ?_ | apply ES.label | apply ES.scope | apply PX.sc_n | apply PX.sc_r | apply PX.sc_x)
    refine EL.assign rfl rfl rfl ?_
    repeat (first | apply ES.seq | apply ES.skip | apply ES.region | apply EL.nil | apply ES.block | apply ES.nil | apply ES.exit | apply ES.ret | apply PX.hit | (apply PX.miss; exact rfl) | apply PX.then_x | apply PX.then_r | apply PX.block_n | apply PX.block_r | refine PX.then_n (e := .normal) ?_ | refine PX.then_d ?_ | apply ES.label | apply ES.scope | apply PX.sc_n | apply PX.sc_r | apply PX.sc_x)
    refine EL.move rfl rfl rfl ?_
    repeat (first | apply EL.nil | apply ES.seq | apply ES.skip)
    refine ES.cutC (X := { x : Bool × Nat × List UInt8 × Option Addr × Nat // (x.1 = true → ∃ b, nextE (s.drop p) = some b ∧ x.2.1 = p + (escM (UInt8.ofNat b)).length ∧ x.2.1 ≤ s.length ∧ x.2.2.1 = out ++ [UInt8.ofNat b]) ∧ (x.1 = false → nextE (s.drop p) = none) }) (fun x => [(0, Sv s), (4, .slice x.1.2.2.2.1 x.1.2.2.1.length x.1.2.2.2.2), (5, Iv x.1.2.1), (6, .bool x.1.1)]) (fun x => [HA.row (.slice x.1.2.2.2.1 x.1.2.2.1.length x.1.2.2.2.2) 5 1 x.1.2.2.1.length (x.1.2.2.1.map Uv)]) ?_ (fun x => ?_)
    · repeat (first | apply ES.seq | apply ES.skip | apply ES.region | apply EL.nil | apply ES.block | apply ES.nil | apply ES.exit | apply ES.ret | apply PX.hit | (apply PX.miss; exact rfl) | apply PX.then_x | apply PX.then_r | apply PX.block_n | apply PX.block_r | refine PX.then_n (e := .normal) ?_ | refine PX.then_d ?_ | apply ES.label | apply ES.scope | apply PX.sc_n | apply PX.sc_r | apply PX.sc_x)
      refine ES.loop (σ := Nat) (fun k => k ≤ 256 ∧ ∀ b, b < k → preE (s.drop p) b = false) (fun k => [(0, Sv s), (4, .slice ad out.length cap), (5, Iv p), (6, .bool false), (13, Iv k)]) (fun k => [HA.row (.slice ad out.length cap) 5 1 out.length (out.map Uv)]) (fun k => 256 - k) 0 ⟨Nat.zero_le _, fun b h => absurd h (by omega)⟩ ⟨rfl, rfl, rfl, rfl, rfl, trivial⟩ (by repeat (first | exact Ent.nil _ | exact Ent.refl _ | (apply Ent.cons; case p => repeat (first | exact Pick.here _ _ | apply Pick.there)) | apply Ent.drop)) ?_
      rintro k ⟨hk, hno⟩
      repeat (first | apply ES.seq | apply ES.skip | apply ES.region | apply EL.nil | apply ES.block | apply ES.nil | apply ES.exit | apply ES.ret | apply PX.hit | (apply PX.miss; exact rfl) | apply PX.then_x | apply PX.then_r | apply PX.block_n | apply PX.block_r | refine PX.then_n (e := .normal) ?_ | refine PX.then_d ?_ | apply ES.label | apply ES.scope | apply PX.sc_n | apply PX.sc_r | apply PX.sc_x)
      refine EL.lss rfl rfl rfl rfl ?_
      repeat (first | apply ES.seq | apply ES.skip | apply ES.region | apply EL.nil | apply ES.block | apply ES.nil | apply ES.exit | apply ES.ret | apply PX.hit | (apply PX.miss; exact rfl) | apply PX.then_x | apply PX.then_r | apply PX.block_n | apply PX.block_r | refine PX.then_n (e := .normal) ?_ | refine PX.then_d ?_ | apply ES.label | apply ES.scope | apply PX.sc_n | apply PX.sc_r | apply PX.sc_x)
      refine ES.condD rfl (fun hlt2 => ?_) (fun hge2 => ?_)
      · have hk' : k < 256 := by omega
        have hk8 : (UInt8.ofNat k).toNat = k := by simp; omega
        have hel := escM_len (UInt8.ofNat k)
        obtain ⟨e, he⟩ : ∃ e, e = escM (UInt8.ofNat k) := ⟨_, rfl⟩
        have hc := esc_c (UInt8.ofNat k)
        rw [← he] at hc hel
        repeat (first | apply ES.seq | apply ES.skip | apply ES.region | apply EL.nil | apply ES.block | apply ES.nil | apply ES.exit | apply ES.ret | apply PX.hit | (apply PX.miss; exact rfl) | apply PX.then_x | apply PX.then_r | apply PX.block_n | apply PX.block_r | refine PX.then_n (e := .normal) ?_ | refine PX.then_d ?_ | apply ES.label | apply ES.scope | apply PX.sc_n | apply PX.sc_r | apply PX.sc_x)
        refine EL.move rfl rfl rfl ?_
        refine EL.assign rfl rfl rfl ?_
        repeat (first | apply ES.seq | apply ES.skip | apply ES.region | apply EL.nil | apply ES.block | apply ES.nil | apply ES.exit | apply ES.ret | apply PX.hit | (apply PX.miss; exact rfl) | apply PX.then_x | apply PX.then_r | apply PX.block_n | apply PX.block_r | refine PX.then_n (e := .normal) ?_ | refine PX.then_d ?_ | apply ES.label | apply ES.scope | apply PX.sc_n | apply PX.sc_r | apply PX.sc_x)
        refine EL.move rfl rfl rfl ?_
        refine EL.convI ((UInt8.ofNat k).toNat : Int) rfl rfl rfl rfl rfl rfl (by rw [hk8]; exact wrap_u8 _ hk') ?_
        refine EL.callP rfl rfl rfl ent12 rfl hc ?_
        refine EL.assign rfl rfl rfl ?_
        repeat (first | apply ES.seq | apply ES.skip | apply ES.region | apply EL.nil | apply ES.block | apply ES.nil | apply ES.exit | apply ES.ret | apply PX.hit | (apply PX.miss; exact rfl) | apply PX.then_x | apply PX.then_r | apply PX.block_n | apply PX.block_r | refine PX.then_n (e := .normal) ?_ | refine PX.then_d ?_ | apply ES.label | apply ES.scope | apply PX.sc_n | apply PX.sc_r | apply PX.sc_x)
        refine EL.move rfl rfl rfl ?_
        refine EL.move rfl rfl rfl ?_
        refine EL.sliceS rfl rfl rfl rfl rfl ⟨_, rfl⟩ rfl (by omega) (by omega) ?_
        refine EL.move rfl rfl rfl ?_
        refine EL.callP rfl rfl rfl ent33 rfl (hasPrefix_c ((s.drop p).take (s.length - p)) e) ?_
        repeat (first | apply ES.seq | apply ES.skip | apply ES.region | apply EL.nil | apply ES.block | apply ES.nil | apply ES.exit | apply ES.ret | apply PX.hit | (apply PX.miss; exact rfl) | apply PX.then_x | apply PX.then_r | apply PX.block_n | apply PX.block_r | refine PX.then_n (e := .normal) ?_ | refine PX.then_d ?_ | apply ES.label | apply ES.scope | apply PX.sc_n | apply PX.sc_r | apply PX.sc_x)
        refine ES.condD rfl (fun hpre => ?_) (fun hpre => ?_)
        · rw [hd] at hpre
          have hpe : preE (s.drop p) k = true := by unfold preE; rw [← he]; exact decide_eq_true hpre
          have hnx := nextE_some _ k hk' hno hpe
          have hle : p + e.length ≤ s.length := by
            have := congrArg List.length hpre
            rw [List.length_take, List.length_drop] at this
            omega
          repeat (first | apply ES.seq | apply ES.skip | apply ES.region | apply EL.nil | apply ES.block | apply ES.nil | apply ES.exit | apply ES.ret | apply PX.hit | (apply PX.miss; exact rfl) | apply PX.then_x | apply PX.then_r | apply PX.block_n | apply PX.block_r | refine PX.then_n (e := .normal) ?_ | refine PX.then_d ?_ | apply ES.label | apply ES.scope | apply PX.sc_n | apply PX.sc_r | apply PX.sc_x)
          refine EL.move rfl rfl rfl ?_
          refine EL.move rfl rfl rfl ?_
          refine EL.convI ((UInt8.ofNat k).toNat : Int) rfl rfl rfl rfl rfl rfl (by rw [hk8]; exact wrap_u8 _ hk') ?_
          (refine EL.buildSlice1 rfl rfl rfl rfl rfl rfl rfl rfl rfl rfl ?_; intro b27)
          (refine EL.append1 rfl rfl rfl rfl rfl rfl rfl rfl rfl (by repeat (first | exact Mem.here _ _ | apply Mem.there)) (by repeat (first | exact Pick.here _ _ | apply Pick.there)) (by intro u hu; simp [Value.cells] at hu; subst hu; rfl) (by rfl) (by unfold maxLen; omega) (by first | omega | (show 1 * _ ≤ _; omega) | (show 8 * _ ≤ _; omega) | (show 16 * _ ≤ _; omega) | (show 24 * _ ≤ _; omega) | (show _ * 1 ≤ _; omega) | (show _ * 8 ≤ _; omega) | (show _ * 16 ≤ _; omega) | (show _ * 24 ≤ _; omega)) ?_; intro a28 c28)
          refine EL.assign rfl rfl rfl ?_
          repeat (first | apply ES.seq | apply ES.skip | apply ES.region | apply EL.nil | apply ES.block | apply ES.nil | apply ES.exit | apply ES.ret | apply PX.hit | (apply PX.miss; exact rfl) | apply PX.then_x | apply PX.then_r | apply PX.block_n | apply PX.block_r | refine PX.then_n (e := .normal) ?_ | refine PX.then_d ?_ | apply ES.label | apply ES.scope | apply PX.sc_n | apply PX.sc_r | apply PX.sc_x)
          refine EL.move rfl rfl rfl ?_
          refine EL.move rfl rfl rfl ?_
          refine EL.lenS rfl rfl rfl rfl rfl ?_
          refine EL.addN rfl rfl rfl rfl rfl (by omega) ?_
          refine EL.assign rfl rfl rfl ?_
          repeat (first | apply ES.seq | apply ES.skip | apply ES.region | apply EL.nil | apply ES.block | apply ES.nil | apply ES.exit | apply ES.ret | apply PX.hit | (apply PX.miss; exact rfl) | apply PX.then_x | apply PX.then_r | apply PX.block_n | apply PX.block_r | refine PX.then_n (e := .normal) ?_ | refine PX.then_d ?_ | apply ES.label | apply ES.scope | apply PX.sc_n | apply PX.sc_r | apply PX.sc_x)
          refine EL.assign rfl rfl rfl ?_
          repeat (first | apply ES.seq | apply ES.skip | apply ES.region | apply EL.nil | apply ES.block | apply ES.nil | apply ES.exit | apply ES.ret | apply PX.hit | (apply PX.miss; exact rfl) | apply PX.then_x | apply PX.then_r | apply PX.block_n | apply PX.block_r | refine PX.then_n (e := .normal) ?_ | refine PX.then_d ?_ | apply ES.label | apply ES.scope | apply PX.sc_n | apply PX.sc_r | apply PX.sc_x)
          refine PX.cutX ⟨(true, p + e.length, out ++ [UInt8.ofNat k], some ⟨a28, 0, none⟩, c28), ⟨fun _ => ⟨k, hnx, by rw [he], hle, rfl⟩, fun h => by cases h⟩⟩ ⟨rfl, getA rfl (by simp), rfl, rfl, trivial⟩ ?_
          have e1 : (out ++ [UInt8.ofNat k]).length = out.length + 1 := by simp
          have e2 : (out ++ [UInt8.ofNat k]).map Uv = out.map Uv ++ [Uv (UInt8.ofNat k)] := by simp
          dsimp only
          rw [e1, e2]
          exact (by repeat (first | exact Ent.nil _ | exact Ent.refl _ | (apply Ent.cons; case p => repeat (first | exact Pick.here _ _ | apply Pick.there)) | apply Ent.drop))
        · rw [hd] at hpre
          have hpe : preE (s.drop p) k = false := by unfold preE; rw [← he]; exact decide_eq_false hpre
          repeat (first | apply ES.seq | apply ES.skip | apply ES.region | apply EL.nil | apply ES.block | apply ES.nil | apply ES.exit | apply ES.ret | apply PX.hit | (apply PX.miss; exact rfl) | apply PX.then_x | apply PX.then_r | apply PX.block_n | apply PX.block_r | refine PX.then_n (e := .normal) ?_ | refine PX.then_d ?_ | apply ES.label | apply ES.scope | apply PX.sc_n | apply PX.sc_r | apply PX.sc_x)
          refine EL.add1 rfl rfl rfl rfl (by omega) ?_
          refine EL.move rfl rfl rfl ?_
          repeat (first | apply ES.seq | apply ES.skip | apply ES.region | apply EL.nil | apply ES.block | apply ES.nil | apply ES.exit | apply ES.ret | apply PX.hit | (apply PX.miss; exact rfl) | apply PX.then_x | apply PX.then_r | apply PX.block_n | apply PX.block_r | refine PX.then_n (e := .normal) ?_ | refine PX.then_d ?_ | apply ES.label | apply ES.scope | apply PX.sc_n | apply PX.sc_r | apply PX.sc_x)
          exact PX.loop (k + 1) ⟨by omega, fun b hb => by rcases Nat.lt_or_ge b k with h | h; exact hno b h; rw [show b = k by omega]; exact hpe⟩ (by omega) ⟨rfl, rfl, rfl, rfl, rfl, trivial⟩ (by repeat (first | exact Ent.nil _ | exact Ent.refl _ | (apply Ent.cons; case p => repeat (first | exact Pick.here _ _ | apply Pick.there)) | apply Ent.drop))
      · obtain rfl : k = 256 := by omega
        repeat (first | apply ES.seq | apply ES.skip | apply ES.region | apply EL.nil | apply ES.block | apply ES.nil | apply ES.exit | apply ES.ret | apply PX.hit | (apply PX.miss; exact rfl) | apply PX.then_x | apply PX.then_r | apply PX.block_n | apply PX.block_r | refine PX.then_n (e := .normal) ?_ | refine PX.then_d ?_ | apply ES.label | apply ES.scope | apply PX.sc_n | apply PX.sc_r | apply PX.sc_x)
        exact PX.cutX ⟨(false, p, out, ad, cap), ⟨fun h => (by cases h), fun _ => nextE_none _ hno⟩⟩ ⟨rfl, rfl, rfl, rfl, trivial⟩ (by repeat (first | exact Ent.nil _ | exact Ent.refl _ | (apply Ent.cons; case p => repeat (first | exact Pick.here _ _ | apply Pick.there)) | apply Ent.drop))
    obtain ⟨⟨hit, p', out', ad', cap'⟩, hx1, hx2⟩ := x
    dsimp only at hx1 hx2 ⊢
    have hne : s.drop p ≠ [] := fun h => by have := congrArg List.length h; rw [List.length_drop] at this; simp at this; omega
    have hst := unescM_step _ hne
    cases hit
    · rw [hx2 rfl] at hst
      have hr : unR s = ([], false) := by unfold unR; rw [hun, hst]; rfl
      repeat (first | apply ES.seq | apply ES.skip | apply ES.region | apply EL.nil | apply ES.block | apply ES.nil | apply ES.exit | apply ES.ret | apply PX.hit | (apply PX.miss; exact rfl) | apply PX.then_x | apply PX.then_r | apply PX.block_n | apply PX.block_r | refine PX.then_n (e := .normal) ?_ | refine PX.then_d ?_ | apply ES.label | apply ES.scope | apply PX.sc_n | apply PX.sc_r | apply PX.sc_x)
      refine EL.move rfl rfl rfl ?_
      refine EL.not rfl rfl rfl ?_
      repeat (first | apply ES.seq | apply ES.skip | apply ES.region | apply EL.nil | apply ES.block | apply ES.nil | apply ES.exit | apply ES.ret | apply PX.hit | (apply PX.miss; exact rfl) | apply PX.then_x | apply PX.then_r | apply PX.block_n | apply PX.block_r | refine PX.then_n (e := .normal) ?_ | refine PX.then_d ?_ | apply ES.label | apply ES.scope | apply PX.sc_n | apply PX.sc_r | apply PX.sc_x)
      refine ES.condT rfl ?_
      repeat (first | apply ES.seq | apply ES.skip | apply ES.region | apply EL.nil | apply ES.block | apply ES.nil | apply ES.exit | apply ES.ret | apply PX.hit | (apply PX.miss; exact rfl) | apply PX.then_x | apply PX.then_r | apply PX.block_n | apply PX.block_r | refine PX.then_n (e := .normal) ?_ | refine PX.then_d ?_ | apply ES.label | apply ES.scope | apply PX.sc_n | apply PX.sc_r | apply PX.sc_x)
      refine EL.assign rfl rfl rfl ?_
      refine EL.assign rfl rfl rfl ?_
      repeat (first | apply ES.seq | apply ES.skip | apply ES.region | apply EL.nil | apply ES.block | apply ES.nil | apply ES.exit | apply ES.ret | apply PX.hit | (apply PX.miss; exact rfl) | apply PX.then_x | apply PX.then_r | apply PX.block_n | apply PX.block_r | refine PX.then_n (e := .normal) ?_ | refine PX.then_d ?_ | apply ES.label | apply ES.scope | apply PX.sc_n | apply PX.sc_r | apply PX.sc_x)
      exact PX.ret rfl Try.results25 (.cons (.tmp rfl) (.cons (.tmp rfl) .nil)) (fun w hs => ⟨(), by rw [hr]; rfl, hs.ent (.nil _)⟩)
    · obtain ⟨b, hb1, hb2, hb3, hb4⟩ := hx1 rfl
      rw [hb1] at hst
      have hbe := escM_len (UInt8.ofNat b)
      repeat (first | apply ES.seq | apply ES.skip | apply ES.region | apply EL.nil | apply ES.block | apply ES.nil | apply ES.exit | apply ES.ret | apply PX.hit | (apply PX.miss; exact rfl) | apply PX.then_x | apply PX.then_r | apply PX.block_n | apply PX.block_r | refine PX.then_n (e := .normal) ?_ | refine PX.then_d ?_ | apply ES.label | apply ES.scope | apply PX.sc_n | apply PX.sc_r | apply PX.sc_x)
      refine EL.move rfl rfl rfl ?_
      refine EL.not rfl rfl rfl ?_
      repeat (first | apply ES.seq | apply ES.skip | apply ES.region | apply EL.nil | apply ES.block | apply ES.nil | apply ES.exit | apply ES.ret | apply PX.hit | (apply PX.miss; exact rfl) | apply PX.then_x | apply PX.then_r | apply PX.block_n | apply PX.block_r | refine PX.then_n (e := .normal) ?_ | refine PX.then_d ?_ | apply ES.label | apply ES.scope | apply PX.sc_n | apply PX.sc_r | apply PX.sc_x)
      refine ES.condF rfl ?_
      repeat (first | apply ES.seq | apply ES.skip | apply ES.region | apply EL.nil | apply ES.block | apply ES.nil | apply ES.exit | apply ES.ret | apply PX.hit | (apply PX.miss; exact rfl) | apply PX.then_x | apply PX.then_r | apply PX.block_n | apply PX.block_r | refine PX.then_n (e := .normal) ?_ | refine PX.then_d ?_ | apply ES.label | apply ES.scope | apply PX.sc_n | apply PX.sc_r | apply PX.sc_x)
      refine PX.loop (p', out', ad', cap') ⟨hb3, by simp only; rw [hb4, List.length_append, List.length_singleton]; omega, ?_⟩ (by simp only; omega) ⟨rfl, rfl, rfl, trivial⟩ (by repeat (first | exact Ent.nil _ | exact Ent.refl _ | (apply Ent.cons; case p => repeat (first | exact Pick.here _ _ | apply Pick.there)) | apply Ent.drop))
      dsimp only
      rw [hun, hst, hb2, hb4]
      show Option.map (fun x => out ++ x) (Option.map (fun x => UInt8.ofNat b :: x) (unescM ((s.drop p).drop (escM (UInt8.ofNat b)).length))) = _
      rw [List.drop_drop, Option.map_map]
      congr 1
      funext z
      simp
  · obtain rfl : p = s.length := by omega
    rw [List.drop_length, unescM_nil] at hun
    have hr : unR s = (out, true) := by unfold unR; rw [hun]; simp
    repeat (first | apply ES.seq | apply ES.skip | apply ES.region | apply EL.nil | apply ES.block | apply ES.nil | apply ES.exit | apply ES.ret | apply PX.hit | (apply PX.miss; exact rfl) | apply PX.then_x | apply PX.then_r | apply PX.block_n | apply PX.block_r | refine PX.then_n (e := .normal) ?_ | refine PX.then_d ?_ | apply ES.label | apply ES.scope | apply PX.sc_n | apply PX.sc_r | apply PX.sc_x)
    refine EL.move rfl rfl rfl ?_
    refine EL.bytesS rfl rfl rfl rfl rfl rfl rfl rfl rfl (by repeat (first | exact Mem.here _ _ | apply Mem.there)) ?_
    refine EL.assign rfl rfl rfl ?_
    refine EL.assign rfl rfl rfl ?_
    repeat (first | apply ES.seq | apply ES.skip | apply ES.region | apply EL.nil | apply ES.block | apply ES.nil | apply ES.exit | apply ES.ret | apply PX.hit | (apply PX.miss; exact rfl) | apply PX.then_x | apply PX.then_r | apply PX.block_n | apply PX.block_r | refine PX.then_n (e := .normal) ?_ | refine PX.then_d ?_ | apply ES.label | apply ES.scope | apply PX.sc_n | apply PX.sc_r | apply PX.sc_x)
    exact PX.ret rfl Try.results25 (.cons (.tmp rfl) (.cons (.tmp rfl) .nil)) (fun w hs => ⟨(), by rw [hr]; rfl, hs.ent (.nil _)⟩)
end Go.Proofs.Ytjjifcfcomhdcaa
