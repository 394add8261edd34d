/- Layer 16 (listing): the document's reading, and the law ListingReads. -/
import Derived.Test.YtjjifcfcomhdcaaLi
namespace Go.Proofs.Ytjjifcfcomhdcaa
open Go.ChangeShapes Go.WideShapes Go.ChangeAt
open Go Go.RowKit Sl
set_option maxRecDepth 100000
set_option maxHeartbeats 8000000
set_option linter.unusedVariables false
set_option linter.unusedSimpArgs false
attribute [local irreducible] ES EL PX wps

def letB (b : UInt8) (c : Nat) : Bool := decide (((((escM (UInt8.ofNat c)).getD 1 0).toNat : Nat) : Int) = (b.toNat : Int))
def letR (b : UInt8) : Int := match (List.range' 7 7).find? (letB b) with
  | some c => (c : Int)
  | none => if b = 92 then 92 else -1
theorem letR_some (b : UInt8) (c : Nat) (h7 : 7 ≤ c) (hc : c < 14) (hno : ∀ k, 7 ≤ k → k < c → letB b k = false) (hy : letB b c = true) : letR b = c := by
  have : (List.range' 7 7).find? (letB b) = some c := by
    rw [List.find?_eq_some_iff_getElem]
    refine ⟨hy, c - 7, by simp; omega, by simp; omega, fun j hj => ?_⟩
    rw [List.getElem_range', hno _ (by omega) (by omega)]; rfl
  unfold letR; rw [this]
theorem letR_none (b : UInt8) (hno : ∀ k, 7 ≤ k → k < 14 → letB b k = false) : letR b = if b = 92 then 92 else -1 := by
  have : (List.range' 7 7).find? (letB b) = none := by
    rw [List.find?_eq_none]
    intro k hk
    rw [List.mem_range'_1] at hk
    rw [hno k (by omega) (by omega)]; simp
  unfold letR; rw [this]
theorem rletter_c (b : UInt8) (w : World) : Pure Try.prog 34 #[Uv b] (fun _ : Unit => Iv (letR b)) (fun _ => []) w := by
  have hb := b.toNat_lt
  refine calls_of_ES TB Try.func34 rfl _ Try.ntmps34 rfl (Sat.start w) ?_
  repeat (first | apply ES.seq | apply ES.skip | apply ES.region | apply EL.nil | apply ES.block | apply ES.nil | apply ES.exit | apply ES.ret | apply PX.hit | (apply PX.miss; exact rfl) | apply PX.then_x | apply PX.then_r | apply PX.block_n | apply PX.block_r | refine PX.then_n (e := .normal) ?_)
  refine EL.assign rfl rfl rfl ?_
  repeat (first | apply ES.seq | apply ES.skip | apply ES.region | apply EL.nil | apply ES.block | apply ES.nil | apply ES.exit | apply ES.ret | apply PX.hit | (apply PX.miss; exact rfl) | apply PX.then_x | apply PX.then_r | apply PX.block_n | apply PX.block_r | refine PX.then_n (e := .normal) ?_)
  refine EL.assign rfl rfl rfl ?_
  repeat (first | apply ES.seq | apply ES.skip | apply ES.region | apply EL.nil | apply ES.block | apply ES.nil | apply ES.exit | apply ES.ret | apply PX.hit | (apply PX.miss; exact rfl) | apply PX.then_x | apply PX.then_r | apply PX.block_n | apply PX.block_r | refine PX.then_n (e := .normal) ?_)
  refine ES.loop (σ := Nat) (fun c => 7 ≤ c ∧ c ≤ 14 ∧ ∀ k, 7 ≤ k → k < c → letB b k = false) (fun c => [(0, Uv b), (3, Iv c)]) (fun _ => []) (fun c => 14 - c) 7 ⟨Nat.le_refl _, by omega, fun k h1 h2 => by omega⟩ ⟨rfl, rfl, trivial⟩ (by repeat (first | exact Ent.nil _ | exact Ent.refl _ | (apply Ent.cons; case p => repeat (first | exact Pick.here _ _ | apply Pick.there)) | apply Ent.drop)) ?_
  rintro c ⟨h7, h14, hno⟩
  repeat (first | apply ES.seq | apply ES.skip | apply ES.region | apply EL.nil | apply ES.block | apply ES.nil | apply ES.exit | apply ES.ret | apply PX.hit | (apply PX.miss; exact rfl) | apply PX.then_x | apply PX.then_r | apply PX.block_n | apply PX.block_r | refine PX.then_n (e := .normal) ?_)
  refine EL.move rfl rfl rfl ?_
  refine EL.leq rfl rfl rfl rfl ?_
  repeat (first | apply ES.seq | apply ES.skip | apply ES.region | apply EL.nil | apply ES.block | apply ES.nil | apply ES.exit | apply ES.ret | apply PX.hit | (apply PX.miss; exact rfl) | apply PX.then_x | apply PX.then_r | apply PX.block_n | apply PX.block_r | refine PX.then_n (e := .normal) ?_)
  refine ES.condD rfl (fun hle => ?_) (fun hgt => ?_)
  · have hc : c < 14 := by omega
    have hk8 : (UInt8.ofNat c).toNat = c := by simp; omega
    have hel : 2 ≤ (escM (UInt8.ofNat c)).length := by
      have h := (by decide +kernel : ∀ k : Fin 7, 2 ≤ (escM (UInt8.ofNat (k.val + 7))).length) ⟨c - 7, by omega⟩
      simp only at h
      rwa [show c - 7 + 7 = c by omega] at h
    repeat (first | apply ES.seq | apply ES.skip | apply ES.region | apply EL.nil | apply ES.block | apply ES.nil | apply ES.exit | apply ES.ret | apply PX.hit | (apply PX.miss; exact rfl) | apply PX.then_x | apply PX.then_r | apply PX.block_n | apply PX.block_r | refine PX.then_n (e := .normal) ?_)
    refine EL.move rfl rfl rfl ?_
    refine EL.convI ((UInt8.ofNat c).toNat : Int) rfl rfl rfl rfl rfl rfl (by rw [hk8]; exact wrap_u8 _ (by omega)) ?_
    refine EL.callP rfl rfl rfl ent13 rfl (resc_c (UInt8.ofNat c)) ?_
    refine EL.indexSN (i := 1) rfl rfl rfl rfl rfl rfl (by omega) ?_
    refine EL.move rfl rfl rfl ?_
    refine EL.eqlI rfl rfl rfl rfl ?_
    repeat (first | apply ES.seq | apply ES.skip | apply ES.region | apply EL.nil | apply ES.block | apply ES.nil | apply ES.exit | apply ES.ret | apply PX.hit | (apply PX.miss; exact rfl) | apply PX.then_x | apply PX.then_r | apply PX.block_n | apply PX.block_r | refine PX.then_n (e := .normal) ?_)
    refine ES.condD rfl (fun hy => ?_) (fun hn => ?_)
    · have hr := letR_some b c h7 hc hno (decide_eq_true hy)
      repeat (first | apply ES.seq | apply ES.skip | apply ES.region | apply EL.nil | apply ES.block | apply ES.nil | apply ES.exit | apply ES.ret | apply PX.hit | (apply PX.miss; exact rfl) | apply PX.then_x | apply PX.then_r | apply PX.block_n | apply PX.block_r | refine PX.then_n (e := .normal) ?_)
      refine EL.move rfl rfl rfl ?_
      refine EL.assign rfl rfl rfl ?_
      repeat (first | apply ES.seq | apply ES.skip | apply ES.region | apply EL.nil | apply ES.block | apply ES.nil | apply ES.exit | apply ES.ret | apply PX.hit | (apply PX.miss; exact rfl) | apply PX.then_x | apply PX.then_r | apply PX.block_n | apply PX.block_r | refine PX.then_n (e := .normal) ?_)
      exact PX.ret rfl Try.results34 (.cons (.tmp rfl) .nil) (fun w hs => ⟨(), by rw [hr]; rfl, hs.ent (.nil _)⟩)
    · repeat (first | apply ES.seq | apply ES.skip | apply ES.region | apply EL.nil | apply ES.block | apply ES.nil | apply ES.exit | apply ES.ret | apply PX.hit | (apply PX.miss; exact rfl) | apply PX.then_x | apply PX.then_r | apply PX.block_n | apply PX.block_r | refine PX.then_n (e := .normal) ?_)
      refine EL.move rfl rfl rfl ?_
      refine EL.add1 rfl rfl rfl rfl (by omega) ?_
      refine EL.assign rfl rfl rfl ?_
      repeat (first | apply ES.seq | apply ES.skip | apply ES.region | apply EL.nil | apply ES.block | apply ES.nil | apply ES.exit | apply ES.ret | apply PX.hit | (apply PX.miss; exact rfl) | apply PX.then_x | apply PX.then_r | apply PX.block_n | apply PX.block_r | refine PX.then_n (e := .normal) ?_)
      exact PX.loop (c + 1) ⟨by omega, by omega, fun k h1 h2 => by
        rcases Nat.lt_or_ge k c with h | h
        · exact hno k h1 h
        · rw [show k = c by omega]; exact decide_eq_false hn⟩ (by omega) ⟨rfl, rfl, trivial⟩ (by repeat (first | exact Ent.nil _ | exact Ent.refl _ | (apply Ent.cons; case p => repeat (first | exact Pick.here _ _ | apply Pick.there)) | apply Ent.drop))
  obtain rfl : c = 14 := by omega
  have hr := letR_none b hno
  repeat (first | apply ES.seq | apply ES.skip | apply ES.region | apply EL.nil | apply ES.block | apply ES.nil | apply ES.exit | apply ES.ret | apply PX.hit | (apply PX.miss; exact rfl) | apply PX.then_x | apply PX.then_r | apply PX.block_n | apply PX.block_r | refine PX.then_n (e := .normal) ?_)
  refine EL.move rfl rfl rfl ?_
  refine EL.eqlI rfl rfl rfl rfl ?_
  repeat (first | apply ES.seq | apply ES.skip | apply ES.region | apply EL.nil | apply ES.block | apply ES.nil | apply ES.exit | apply ES.ret | apply PX.hit | (apply PX.miss; exact rfl) | apply PX.then_x | apply PX.then_r | apply PX.block_n | apply PX.block_r | refine PX.then_n (e := .normal) ?_)
  refine ES.condD rfl (fun he => ?_) (fun hne => ?_)
  · have h92 : b = 92 := UInt8.toNat_inj.1 (by rw [show (92 : UInt8).toNat = 92 from rfl]; omega)
    rw [if_pos h92] at hr
    repeat (first | apply ES.seq | apply ES.skip | apply ES.region | apply EL.nil | apply ES.block | apply ES.nil | apply ES.exit | apply ES.ret | apply PX.hit | (apply PX.miss; exact rfl) | apply PX.then_x | apply PX.then_r | apply PX.block_n | apply PX.block_r | refine PX.then_n (e := .normal) ?_)
    refine EL.assign rfl rfl rfl ?_
    repeat (first | apply ES.seq | apply ES.skip | apply ES.region | apply EL.nil | apply ES.block | apply ES.nil | apply ES.exit | apply ES.ret | apply PX.hit | (apply PX.miss; exact rfl) | apply PX.then_x | apply PX.then_r | apply PX.block_n | apply PX.block_r | refine PX.then_n (e := .normal) ?_)
    exact PX.ret rfl Try.results34 (.cons (.tmp rfl) .nil) (fun w hs => ⟨(), by rw [hr]; rfl, hs.ent (.nil _)⟩)
  · have h92 : b ≠ 92 := fun e => hne (by rw [e]; rfl)
    rw [if_neg h92] at hr
    repeat (first | apply ES.seq | apply ES.skip | apply ES.region | apply EL.nil | apply ES.block | apply ES.nil | apply ES.exit | apply ES.ret | apply PX.hit | (apply PX.miss; exact rfl) | apply PX.then_x | apply PX.then_r | apply PX.block_n | apply PX.block_r | refine PX.then_n (e := .normal) ?_)
    refine EL.assign rfl rfl rfl ?_
    repeat (first | apply ES.seq | apply ES.skip | apply ES.region | apply EL.nil | apply ES.block | apply ES.nil | apply ES.exit | apply ES.ret | apply PX.hit | (apply PX.miss; exact rfl) | apply PX.then_x | apply PX.then_r | apply PX.block_n | apply PX.block_r | refine PX.then_n (e := .normal) ?_)
    exact PX.ret rfl Try.results34 (.cons (.tmp rfl) .nil) (fun w hs => ⟨(), by rw [hr]; rfl, hs.ent (.nil _)⟩)
def dig (c : UInt8) : Prop := 48 ≤ c.toNat ∧ c.toNat ≤ 55
instance (c : UInt8) : Decidable (dig c) := inferInstanceAs (Decidable (_ ∧ _))
def octP (s : List UInt8) : Nat → Nat
  | 0 => 0
  | i + 1 => 8 * octP s i + ((s.getD i 0).toNat - 48)
def octR (s : List UInt8) : Int := if dig (s.getD 0 0) ∧ dig (s.getD 1 0) ∧ dig (s.getD 2 0) then (octP s 3 : Int) else -1
theorem octR_bad (s : List UInt8) (i : Nat) (hi : i < 3) (h : ¬ dig (s.getD i 0)) : octR s = -1 := by
  unfold octR
  rw [if_neg]
  rintro ⟨h0, h1, h2⟩
  match i, hi with
  | 0, _ => exact h h0
  | 1, _ => exact h h1
  | 2, _ => exact h h2
theorem octP_le (s : List UInt8) : ∀ i, (∀ k, k < i → dig (s.getD k 0)) → octP s i < 8 ^ i
  | 0, _ => by simp [octP]
  | i + 1, h => by
    have ih := octP_le s i (fun k hk => h k (by omega))
    have hd := (h i (by omega)).2
    rw [octP, Nat.pow_succ]
    omega
theorem octal_c (s : List UInt8) (hs : s.length = 3) (w : World) : Pure Try.prog 35 #[Sv s] (fun _ : Unit => Iv (octR s)) (fun _ => []) w := by
  refine calls_of_ES TB Try.func35 rfl _ Try.ntmps35 rfl (Sat.start w) ?_
  repeat (first | apply ES.seq | apply ES.skip | apply ES.region | apply EL.nil | apply ES.block | apply ES.nil | apply ES.exit | apply ES.ret | apply PX.hit | (apply PX.miss; exact rfl) | apply PX.then_x | apply PX.then_r | apply PX.block_n | apply PX.block_r | refine PX.then_n (e := .normal) ?_)
  refine EL.assign rfl rfl rfl ?_
  repeat (first | apply ES.seq | apply ES.skip | apply ES.region | apply EL.nil | apply ES.block | apply ES.nil | apply ES.exit | apply ES.ret | apply PX.hit | (apply PX.miss; exact rfl) | apply PX.then_x | apply PX.then_r | apply PX.block_n | apply PX.block_r | refine PX.then_n (e := .normal) ?_)
  refine EL.assign rfl rfl rfl ?_
  repeat (first | apply ES.seq | apply ES.skip | apply ES.region | apply EL.nil | apply ES.block | apply ES.nil | apply ES.exit | apply ES.ret | apply PX.hit | (apply PX.miss; exact rfl) | apply PX.then_x | apply PX.then_r | apply PX.block_n | apply PX.block_r | refine PX.then_n (e := .normal) ?_)
  refine EL.assign rfl rfl rfl ?_
  repeat (first | apply ES.seq | apply ES.skip | apply ES.region | apply EL.nil | apply ES.block | apply ES.nil | apply ES.exit | apply ES.ret | apply PX.hit | (apply PX.miss; exact rfl) | apply PX.then_x | apply PX.then_r | apply PX.block_n | apply PX.block_r | refine PX.then_n (e := .normal) ?_)
  refine ES.loop (σ := Nat) (fun i => i ≤ 3 ∧ ∀ k, k < i → dig (s.getD k 0)) (fun i => [(0, Sv s), (3, Iv (octP s i : Nat)), (4, Iv i)]) (fun _ => []) (fun i => 3 - i) 0 ⟨by omega, fun k h => by omega⟩ ⟨rfl, rfl, rfl, trivial⟩ (by repeat (first | exact Ent.nil _ | exact Ent.refl _ | (apply Ent.cons; case p => repeat (first | exact Pick.here _ _ | apply Pick.there)) | apply Ent.drop)) ?_
  rintro i ⟨hi, hd⟩
  have hp := octP_le s i hd
  have hp3 : 8 ^ i ≤ 8 ^ 3 := Nat.pow_le_pow_right (by omega) hi
  repeat (first | apply ES.seq | apply ES.skip | apply ES.region | apply EL.nil | apply ES.block | apply ES.nil | apply ES.exit | apply ES.ret | apply PX.hit | (apply PX.miss; exact rfl) | apply PX.then_x | apply PX.then_r | apply PX.block_n | apply PX.block_r | refine PX.then_n (e := .normal) ?_)
  refine EL.move rfl rfl rfl ?_
  refine EL.lss rfl rfl rfl rfl ?_
  repeat (first | apply ES.seq | apply ES.skip | apply ES.region | apply EL.nil | apply ES.block | apply ES.nil | apply ES.exit | apply ES.ret | apply PX.hit | (apply PX.miss; exact rfl) | apply PX.then_x | apply PX.then_r | apply PX.block_n | apply PX.block_r | refine PX.then_n (e := .normal) ?_)
  refine ES.condD rfl (fun hlt => ?_) (fun hge => ?_)
  · have hlt' : i < 3 := by omega
    have hb := (s.getD i 0).toNat_lt
    repeat (first | apply ES.seq | apply ES.skip | apply ES.region | apply EL.nil | apply ES.block | apply ES.nil | apply ES.exit | apply ES.ret | apply PX.hit | (apply PX.miss; exact rfl) | apply PX.then_x | apply PX.then_r | apply PX.block_n | apply PX.block_r | refine PX.then_n (e := .normal) ?_)
    refine EL.cut [(18, .bool (decide (¬ dig (s.getD i 0)))), (0, Sv s), (3, Iv (octP s i : Nat)), (4, Iv i)] [] ?_ ?_
    · repeat (first | apply ES.seq | apply ES.skip | apply ES.region | apply EL.nil | apply ES.block | apply ES.nil | apply ES.exit | apply ES.ret | apply PX.hit | (apply PX.miss; exact rfl) | apply PX.then_x | apply PX.then_r | apply PX.block_n | apply PX.block_r | refine PX.then_n (e := .normal) ?_)
      refine EL.move rfl rfl rfl ?_
      refine EL.move rfl rfl rfl ?_
      refine EL.indexSN rfl rfl rfl rfl rfl rfl (by omega) ?_
      refine EL.lss rfl rfl rfl rfl ?_
      refine EL.move rfl rfl rfl ?_
      first | refine EL.splitD (d := 13) rfl (fun hp13 => ?_) (fun hp13 => ?_) | refine EL.splitN (d := 13) rfl (fun hp13 => ?_) (fun hp13 => ?_) | refine EL.splitB (d := 13) rfl (fun hp13 => ?_) (fun hp13 => ?_)
      · refine EL.pass rfl rfl rfl ?_
        refine EL.pass rfl rfl rfl ?_
        refine EL.pass rfl rfl rfl ?_
        refine EL.pass rfl rfl rfl ?_
        refine EL.pickT rfl rfl rfl rfl ?_
        exact EL.endK ⟨getB rfl (by first | exact decide_eq_decide.2 (by unfold dig; omega) | exact (decide_eq_true (by unfold dig; omega)).symm), rfl, rfl, rfl, trivial⟩ (by repeat (first | exact Ent.nil _ | exact Ent.refl _ | (apply Ent.cons; case p => repeat (first | exact Pick.here _ _ | apply Pick.there)) | apply Ent.drop))
      · refine EL.move rfl rfl rfl ?_
        refine EL.move rfl rfl rfl ?_
        refine EL.indexSN rfl rfl rfl rfl rfl rfl (by omega) ?_
        refine EL.gtr rfl rfl rfl rfl ?_
        refine EL.pickF rfl rfl rfl rfl ?_
        exact EL.endK ⟨getB rfl (by first | exact decide_eq_decide.2 (by unfold dig; omega) | exact (decide_eq_true (by unfold dig; omega)).symm), rfl, rfl, rfl, trivial⟩ (by repeat (first | exact Ent.nil _ | exact Ent.refl _ | (apply Ent.cons; case p => repeat (first | exact Pick.here _ _ | apply Pick.there)) | apply Ent.drop))
    refine ES.condD rfl (fun hbad => ?_) (fun hok => ?_)
    · have hr := octR_bad s i hlt' hbad
      repeat (first | apply ES.seq | apply ES.skip | apply ES.region | apply EL.nil | apply ES.block | apply ES.nil | apply ES.exit | apply ES.ret | apply PX.hit | (apply PX.miss; exact rfl) | apply PX.then_x | apply PX.then_r | apply PX.block_n | apply PX.block_r | refine PX.then_n (e := .normal) ?_)
      refine EL.assign rfl rfl rfl ?_
      repeat (first | apply ES.seq | apply ES.skip | apply ES.region | apply EL.nil | apply ES.block | apply ES.nil | apply ES.exit | apply ES.ret | apply PX.hit | (apply PX.miss; exact rfl) | apply PX.then_x | apply PX.then_r | apply PX.block_n | apply PX.block_r | refine PX.then_n (e := .normal) ?_)
      exact PX.ret rfl Try.results35 (.cons (.tmp rfl) .nil) (fun w hs => ⟨(), by rw [hr]; rfl, hs.ent (.nil _)⟩)
    · have hg : dig (s.getD i 0) := Classical.not_not.1 hok
      have h48 := hg.1
      repeat (first | apply ES.seq | apply ES.skip | apply ES.region | apply EL.nil | apply ES.block | apply ES.nil | apply ES.exit | apply ES.ret | apply PX.hit | (apply PX.miss; exact rfl) | apply PX.then_x | apply PX.then_r | apply PX.block_n | apply PX.block_r | refine PX.then_n (e := .normal) ?_)
      refine EL.move rfl rfl rfl ?_
      refine EL.mulN (m := 8) rfl rfl rfl rfl rfl (by omega) ?_
      refine EL.move rfl rfl rfl ?_
      refine EL.move rfl rfl rfl ?_
      refine EL.indexSN rfl rfl rfl rfl rfl rfl (by omega) ?_
      refine EL.ofRV (RV.subK (n := 48) rfl rfl (by omega) (by simp only [kmax]; omega)) rfl rfl rfl (by intro c h; cases h) ?_
      refine EL.convN rfl rfl rfl rfl rfl rfl (by simp only [kmax]; omega) ?_
      refine EL.addN rfl rfl rfl rfl rfl (by omega) ?_
      refine EL.assign rfl rfl rfl ?_
      repeat (first | apply ES.seq | apply ES.skip | apply ES.region | apply EL.nil | apply ES.block | apply ES.nil | apply ES.exit | apply ES.ret | apply PX.hit | (apply PX.miss; exact rfl) | apply PX.then_x | apply PX.then_r | apply PX.block_n | apply PX.block_r | refine PX.then_n (e := .normal) ?_)
      refine EL.move rfl rfl rfl ?_
      refine EL.add1 rfl rfl rfl rfl (by omega) ?_
      refine EL.assign rfl rfl rfl ?_
      repeat (first | apply ES.seq | apply ES.skip | apply ES.region | apply EL.nil | apply ES.block | apply ES.nil | apply ES.exit | apply ES.ret | apply PX.hit | (apply PX.miss; exact rfl) | apply PX.then_x | apply PX.then_r | apply PX.block_n | apply PX.block_r | refine PX.then_n (e := .normal) ?_)
      exact PX.loop (i + 1) ⟨by omega, fun k hk => by
        rcases Nat.lt_or_ge k i with h | h
        · exact hd k h
        · rw [show k = i by omega]; exact hg⟩ (by omega) ⟨rfl, rfl, rfl, trivial⟩ (by repeat (first | exact Ent.nil _ | exact Ent.refl _ | (apply Ent.cons; case p => repeat (first | exact Pick.here _ _ | apply Pick.there)) | apply Ent.drop))
  obtain rfl : i = 3 := by omega
  have hr : octR s = (octP s 3 : Int) := by unfold octR; rw [if_pos ⟨hd 0 (by omega), hd 1 (by omega), hd 2 (by omega)⟩]
  repeat (first | apply ES.seq | apply ES.skip | apply ES.region | apply EL.nil | apply ES.block | apply ES.nil | apply ES.exit | apply ES.ret | apply PX.hit | (apply PX.miss; exact rfl) | apply PX.then_x | apply PX.then_r | apply PX.block_n | apply PX.block_r | refine PX.then_n (e := .normal) ?_)
  refine EL.move rfl rfl rfl ?_
  refine EL.assign rfl rfl rfl ?_
  repeat (first | apply ES.seq | apply ES.skip | apply ES.region | apply EL.nil | apply ES.block | apply ES.nil | apply ES.exit | apply ES.ret | apply PX.hit | (apply PX.miss; exact rfl) | apply PX.then_x | apply PX.then_r | apply PX.block_n | apply PX.block_r | refine PX.then_n (e := .normal) ?_)
  exact PX.ret rfl Try.results35 (.cons (.tmp rfl) .nil) (fun w hs => ⟨(), by rw [hr]; rfl, hs.ent (.nil _)⟩)
theorem octR_range (s : List UInt8) : -1 ≤ octR s ∧ octR s < 512 := by
  unfold octR
  split
  · rename_i h
    have := octP_le s 3 (fun k hk => by
      match k, hk with
      | 0, _ => exact h.1
      | 1, _ => exact h.2.1
      | 2, _ => exact h.2.2)
    omega
  · omega
theorem letR_range (b : UInt8) : letR b = -1 ∨ (7 ≤ letR b ∧ letR b ≤ 92) := by
  unfold letR
  split
  · rename_i c h
    have := List.mem_range'_1.1 (List.mem_of_find?_eq_some h)
    omega
  · split <;> omega
/-- One step of the document's reading: the byte's number, and how many are read. -/
def pstep : List UInt8 → Option (Nat × Nat)
  | [] => none
  | c :: s => if c ≠ 92 then some (c.toNat, 1) else match s with
    | [] => none
    | d :: s' => if 0 ≤ letR d then some ((letR d).toNat, 2) else if 3 < (c :: d :: s').length then (if octR ((d :: s').take 3) < 0 ∨ 255 < octR ((d :: s').take 3) then none else some ((octR ((d :: s').take 3)).toNat, 4)) else none
theorem pstep_pos (s : List UInt8) (b n : Nat) (h : pstep s = some (b, n)) : 1 ≤ n ∧ n ≤ s.length ∧ b < 256 := by
  cases s with
  | nil => cases h
  | cons c s =>
    simp only [pstep] at h
    split at h
    · simp only [Option.some.injEq, Prod.mk.injEq] at h
      have := c.toNat_lt
      simp only [List.length_cons]; omega
    · split at h
      · cases h
      · rename_i d s'
        split at h
        · have := letR_range d
          simp only [Option.some.injEq, Prod.mk.injEq] at h
          simp only [List.length_cons]; omega
        · split at h
          · rename_i h3
            split at h
            · cases h
            · rename_i ho
              simp only [Option.some.injEq, Prod.mk.injEq] at h
              omega
          · cases h
def pgo : Nat → List UInt8 → Option (List UInt8)
  | _, [] => some []
  | 0, _ :: _ => none
  | f + 1, c :: s => match pstep (c :: s) with
    | none => none
    | some (b, n) => (pgo f ((c :: s).drop n)).map (UInt8.ofNat b :: ·)
theorem pgo_fuel : ∀ (f g : Nat) (s : List UInt8), s.length ≤ f → s.length ≤ g → pgo f s = pgo g s
  | f, g, [], _, _ => by cases f <;> cases g <;> rfl
  | 0, _, c :: s, h, _ => by simp at h
  | _, 0, c :: s, _, h => by simp at h
  | f + 1, g + 1, c :: s, hf, hg => by
    simp only [pgo]
    cases hx : pstep (c :: s) with
    | none => rfl
    | some x =>
      obtain ⟨b, n⟩ := x
      have he := (pstep_pos _ b n hx).1
      have hl : ((c :: s).drop n).length ≤ s.length := by rw [List.length_drop, List.length_cons]; omega
      simp only [List.length_cons] at hf hg
      exact congrArg (Option.map _) (pgo_fuel f g _ (by omega) (by omega))
def plainM (s : List UInt8) : Option (List UInt8) := pgo s.length s
theorem plainM_step (s : List UInt8) (h : s ≠ []) : plainM s = match pstep s with
    | none => none
    | some (b, n) => (plainM (s.drop n)).map (UInt8.ofNat b :: ·) := by
  obtain ⟨c, r, rfl⟩ : ∃ c r, s = c :: r := by
    cases s with
    | nil => exact absurd rfl h
    | cons c r => exact ⟨c, r, rfl⟩
  unfold plainM
  rw [List.length_cons, pgo]
  cases hx : pstep (c :: r) with
  | none => rfl
  | some x =>
    obtain ⟨b, n⟩ := x
    have he := (pstep_pos _ b n hx).1
    have hl : ((c :: r).drop n).length ≤ r.length := by rw [List.length_drop, List.length_cons]; omega
    exact congrArg (Option.map _) (pgo_fuel r.length _ _ hl (Nat.le_refl _))
/-- What a byte's escape reads as. -/
def escOk (n : Nat) : Bool := match (escN n).map UInt8.ofNat with
  | [c] => decide (c ≠ 92 ∧ c.toNat = n)
  | [c, d] => decide (c = 92 ∧ letR d = (n : Int))
  | [c, d, e, f] => decide (c = 92 ∧ letR d < 0 ∧ octR [d, e, f] = (n : Int))
  | _ => false
theorem esc_ok : ∀ n : Fin 256, escOk n.val = true := by decide +kernel
theorem pstep_esc (b : UInt8) (r : List UInt8) : pstep (escM b ++ r) = some (b.toNat, (escM b).length) := by
  have h := esc_ok ⟨b.toNat, b.toNat_lt⟩
  have hb := b.toNat_lt
  unfold escOk at h
  simp only at h
  unfold escM
  split at h
  · rename_i c hc
    rw [hc]
    have h2 := of_decide_eq_true h
    show pstep (c :: r) = _
    simp only [pstep]
    rw [if_pos h2.1, h2.2]; rfl
  · rename_i c d hc
    rw [hc]
    obtain ⟨rfl, h2⟩ := of_decide_eq_true h
    show pstep (92 :: d :: r) = _
    simp only [pstep]
    rw [if_neg (by simp), if_pos (by omega), h2]; rfl
  · rename_i c d e f hc
    rw [hc]
    obtain ⟨rfl, h1, h2⟩ := of_decide_eq_true h
    show pstep (92 :: d :: e :: f :: r) = _
    simp only [pstep]
    rw [if_neg (by simp), if_neg (by omega), if_pos (by simp only [List.length_cons]; omega)]
    have h3 : (d :: e :: f :: r).take 3 = [d, e, f] := rfl
    rw [h3, h2, if_neg (by omega)]; rfl
  · cases h
theorem plain_all : ∀ t : List UInt8, plainM (escAll t) = some t
  | [] => rfl
  | b :: t => by
    have hb8 : UInt8.ofNat b.toNat = b := by simp
    have he := (escM_len b).1
    have h : escAll (b :: t) = escM b ++ escAll t := by simp [escAll]
    have hne : escM b ++ escAll t ≠ [] := fun h => by have := congrArg List.length h; rw [List.length_append, List.length_nil] at this; omega
    rw [h, plainM_step _ hne, pstep_esc]
    simp only [hb8, List.drop_left]
    rw [plain_all t]; rfl
end Go.Proofs.Ytjjifcfcomhdcaa
