/- Layer 16 (listing): the document's reading in Go. -/
import Derived.Test.YtjjifcfcomhdcaaLk
import Derived.Test.YtjjifcfcomhdcaaSlv
namespace Go.Proofs.Ytjjifcfcomhdcaa
open Go.ChangeShapes Go.WideShapes Go.ChangeAt
open Go Go.RowKit Sl
set_option maxRecDepth 100000
set_option maxHeartbeats 8000000
set_option linter.unusedVariables false
set_option linter.unusedSimpArgs false
attribute [local irreducible] ES EL PX wps

theorem pstep_at (s : List UInt8) (p : Nat) (h : p < s.length) : pstep (s.drop p) = if s.getD p 0 ≠ 92 then some ((s.getD p 0).toNat, 1) else if p + 1 = s.length then none else if 0 ≤ letR (s.getD (p + 1) 0) then some ((letR (s.getD (p + 1) 0)).toNat, 2) else if p + 3 < s.length then (if octR ((s.drop (p + 1)).take 3) < 0 ∨ 255 < octR ((s.drop (p + 1)).take 3) then none else some ((octR ((s.drop (p + 1)).take 3)).toNat, 4)) else none := by
  have h0 : s.drop p = s.getD p 0 :: s.drop (p + 1) := by
    rw [List.drop_eq_getElem_cons h, List.getD_eq_getElem?_getD, List.getElem?_eq_getElem h]; rfl
  rw [h0]
  simp only [pstep]
  split
  · rfl
  rcases Nat.lt_or_ge (p + 1) s.length with h1 | h1
  · have h2 : s.drop (p + 1) = s.getD (p + 1) 0 :: s.drop (p + 2) := by
      rw [List.drop_eq_getElem_cons h1, List.getD_eq_getElem?_getD, List.getElem?_eq_getElem h1]; rfl
    rw [if_neg (by omega : ¬ p + 1 = s.length), h2]
    have h3 : (s.getD p 0 :: s.getD (p + 1) 0 :: s.drop (p + 2)).length = s.length - p := by simp only [List.length_cons, List.length_drop]; omega
    simp only [h3]
    have h4 : (3 < s.length - p) = (p + 3 < s.length) := by apply propext; omega
    simp only [h4]
  · rw [if_pos (by omega : p + 1 = s.length), List.drop_eq_nil_of_le h1]
theorem plainM_len : ∀ (n : Nat) (s t : List UInt8), s.length ≤ n → plainM s = some t → t.length ≤ s.length := by
  intro n
  induction n with
  | zero =>
    intro s t hn h
    obtain rfl : s = [] := List.eq_nil_of_length_eq_zero (by omega)
    cases h; simp
  | succ n ih =>
    intro s t hn h
    by_cases hs : s = []
    · subst hs; cases h; simp
    · rw [plainM_step s hs] at h
      cases hx : pstep s with
      | none => rw [hx] at h; cases h
      | some x =>
        obtain ⟨b, k⟩ := x
        rw [hx] at h
        obtain ⟨t', h1, h2⟩ := Option.map_eq_some_iff.1 h
        subst h2
        have hk := pstep_pos s b k hx
        have := ih _ t' (by rw [List.length_drop]; omega) h1
        rw [List.length_drop] at this
        simp only [List.length_cons]; omega
def plainR (s : List UInt8) : List UInt8 × Bool := match plainM s with
  | some t => (t, true)
  | none => ([], false)
theorem plain_c (s : List UInt8) (hs : s.length ≤ 1073741824) (w : World) : Pure Try.prog 27 #[Sv s] (fun _ : Unit => .tuple #[Sv (plainR s).1, .bool (plainR s).2]) (fun _ => []) w := by
  refine calls_of_ES TB Try.func27 rfl _ Try.ntmps27 rfl (Sat.start w) ?_
  repeat (first | apply ES.seq | apply ES.skip | apply ES.region | apply EL.nil | apply ES.block | apply ES.nil | apply ES.exit | apply ES.ret | apply PX.hit | (apply PX.miss; exact rfl) | apply PX.then_x | apply PX.then_r | apply PX.block_n | apply PX.block_r | refine PX.then_n (e := .normal) ?_)
  refine EL.assign rfl rfl rfl ?_
  refine EL.assign rfl rfl rfl ?_
  repeat (first | apply ES.seq | apply ES.skip | apply ES.region | apply EL.nil | apply ES.block | apply ES.nil | apply ES.exit | apply ES.ret | apply PX.hit | (apply PX.miss; exact rfl) | apply PX.then_x | apply PX.then_r | apply PX.block_n | apply PX.block_r | refine PX.then_n (e := .normal) ?_)
  refine EL.assign rfl rfl rfl ?_
  repeat (first | apply ES.seq | apply ES.skip | apply ES.region | apply EL.nil | apply ES.block | apply ES.nil | apply ES.exit | apply ES.ret | apply PX.hit | (apply PX.miss; exact rfl) | apply PX.then_x | apply PX.then_r | apply PX.block_n | apply PX.block_r | refine PX.then_n (e := .normal) ?_)
  refine EL.nilRow 5 1 ?_
  repeat (first | apply ES.seq | apply ES.skip | apply ES.region | apply EL.nil | apply ES.block | apply ES.nil | apply ES.exit | apply ES.ret | apply PX.hit | (apply PX.miss; exact rfl) | apply PX.then_x | apply PX.then_r | apply PX.block_n | apply PX.block_r | refine PX.then_n (e := .normal) ?_)
  refine EL.assign rfl rfl rfl ?_
  repeat (first | apply ES.seq | apply ES.skip | apply ES.region | apply EL.nil | apply ES.block | apply ES.nil | apply ES.exit | apply ES.ret | apply PX.hit | (apply PX.miss; exact rfl) | apply PX.then_x | apply PX.then_r | apply PX.block_n | apply PX.block_r | refine PX.then_n (e := .normal) ?_)
  refine ES.loop (σ := Nat × List UInt8 × Option Addr × Nat) (fun (p, out, ad, cap) => p ≤ s.length ∧ out.length ≤ p ∧ plainM s = (plainM (s.drop p)).map (out ++ ·)) (fun (p, out, ad, cap) => [(0, Sv s), (4, .slice ad out.length cap), (5, Iv p)]) (fun (p, out, ad, cap) => [HA.row (.slice ad out.length cap) 5 1 out.length (out.map Uv)]) (fun (p, _) => s.length - p) (0, [], none, 0) ⟨Nat.zero_le _, Nat.le_refl _, by simp⟩ ⟨rfl, rfl, rfl, trivial⟩ (by repeat (first | exact Ent.nil _ | exact Ent.refl _ | (apply Ent.cons; case p => repeat (first | exact Pick.here _ _ | apply Pick.there)) | apply Ent.drop)) ?_
  rintro ⟨p, out, ad, cap⟩ ⟨hp, hout, hun⟩
  dsimp only at hp hout hun ⊢
  repeat (first | apply ES.seq | apply ES.skip | apply ES.region | apply EL.nil | apply ES.block | apply ES.nil | apply ES.exit | apply ES.ret | apply PX.hit | (apply PX.miss; exact rfl) | apply PX.then_x | apply PX.then_r | apply PX.block_n | apply PX.block_r | refine PX.then_n (e := .normal) ?_)
  refine EL.move rfl rfl rfl ?_
  refine EL.move rfl rfl rfl ?_
  refine EL.lenS rfl rfl rfl rfl rfl ?_
  refine EL.lss rfl rfl rfl rfl ?_
  repeat (first | apply ES.seq | apply ES.skip | apply ES.region | apply EL.nil | apply ES.block | apply ES.nil | apply ES.exit | apply ES.ret | apply PX.hit | (apply PX.miss; exact rfl) | apply PX.then_x | apply PX.then_r | apply PX.block_n | apply PX.block_r | refine PX.then_n (e := .normal) ?_)
  refine ES.condD rfl (fun hlt => ?_) (fun hge => ?_)
  · have hlt' : p < s.length := by omega
    have hps := pstep_at s p hlt'
    have hc256 := (s.getD p 0).toNat_lt
    have hlr := letR_range (s.getD (p + 1) 0)
    repeat (first | apply ES.seq | apply ES.skip | apply ES.region | apply EL.nil | apply ES.block | apply ES.nil | apply ES.exit | apply ES.ret | apply PX.hit | (apply PX.miss; exact rfl) | apply PX.then_x | apply PX.then_r | apply PX.block_n | apply PX.block_r | refine PX.then_n (e := .normal) ?_)
    refine EL.move rfl rfl rfl ?_
    refine EL.move rfl rfl rfl ?_
    refine EL.indexSN rfl rfl rfl rfl rfl rfl (by omega) ?_
    refine EL.convN rfl rfl rfl rfl rfl rfl (le_big8 _ _) ?_
    refine EL.assign rfl rfl rfl ?_
    repeat (first | apply ES.seq | apply ES.skip | apply ES.region | apply EL.nil | apply ES.block | apply ES.nil | apply ES.exit | apply ES.ret | apply PX.hit | (apply PX.miss; exact rfl) | apply PX.then_x | apply PX.then_r | apply PX.block_n | apply PX.block_r | refine PX.then_n (e := .normal) ?_)
    refine EL.move rfl rfl rfl ?_
    refine EL.move rfl rfl rfl ?_
    refine EL.indexSN rfl rfl rfl rfl rfl rfl (by omega) ?_
    refine EL.eqlI rfl rfl rfl rfl ?_
    repeat (first | apply ES.seq | apply ES.skip | apply ES.region | apply EL.nil | apply ES.block | apply ES.nil | apply ES.exit | apply ES.ret | apply PX.hit | (apply PX.miss; exact rfl) | apply PX.then_x | apply PX.then_r | apply PX.block_n | apply PX.block_r | refine PX.then_n (e := .normal) ?_)
    refine ES.cutQ (X := { x : Int × Nat // (-1 ≤ x.1 ∧ x.1 < 512) ∧ x.2 < s.length ∧ p ≤ x.2 ∧ pstep (s.drop p) = (if x.1 < 0 ∨ 255 < x.1 then none else some (x.1.toNat, x.2 + 1 - p)) }) (fun x => [(0, Sv s), (4, .slice ad out.length cap), (5, Iv x.1.2), (6, Iv x.1.1)]) (fun _ => [HA.row (.slice ad out.length cap) 5 1 out.length (out.map Uv)]) ?_ (fun x => ?_)
    · refine ES.condD rfl (fun h92 => ?_) (fun h92 => ?_)
      · have hc : ¬ s.getD p 0 ≠ 92 := fun h => h (UInt8.toNat_inj.1 (by rw [show (92 : UInt8).toNat = 92 from rfl]; omega))
        rw [if_neg hc] at hps
        repeat (first | apply ES.seq | apply ES.skip | apply ES.region | apply EL.nil | apply ES.block | apply ES.nil | apply ES.exit | apply ES.ret | apply PX.hit | (apply PX.miss; exact rfl) | apply PX.then_x | apply PX.then_r | apply PX.block_n | apply PX.block_r | refine PX.then_n (e := .normal) ?_)
        refine EL.move rfl rfl rfl ?_
        refine EL.add1 rfl rfl rfl rfl (by omega) ?_
        refine EL.move rfl rfl rfl ?_
        refine EL.lenS rfl rfl rfl rfl rfl ?_
        refine EL.eqlI rfl rfl rfl rfl ?_
        repeat (first | apply ES.seq | apply ES.skip | apply ES.region | apply EL.nil | apply ES.block | apply ES.nil | apply ES.exit | apply ES.ret | apply PX.hit | (apply PX.miss; exact rfl) | apply PX.then_x | apply PX.then_r | apply PX.block_n | apply PX.block_r | refine PX.then_n (e := .normal) ?_)
        refine ES.condD rfl (fun hend => ?_) (fun hend => ?_)
        · rw [if_pos (by omega)] at hps
          have hne : s.drop p ≠ [] := fun h => by have := congrArg List.length h; rw [List.length_drop] at this; simp at this; omega
          have hr : plainR s = ([], false) := by unfold plainR; rw [hun, plainM_step _ hne, hps]; rfl
          repeat (first | apply ES.seq | apply ES.skip | apply ES.region | apply EL.nil | apply ES.block | apply ES.nil | apply ES.exit | apply ES.ret | apply PX.hit | (apply PX.miss; exact rfl) | apply PX.then_x | apply PX.then_r | apply PX.block_n | apply PX.block_r | refine PX.then_n (e := .normal) ?_)
          refine EL.assign rfl rfl rfl ?_
          refine EL.assign rfl rfl rfl ?_
          repeat (first | apply ES.seq | apply ES.skip | apply ES.region | apply EL.nil | apply ES.block | apply ES.nil | apply ES.exit | apply ES.ret | apply PX.hit | (apply PX.miss; exact rfl) | apply PX.then_x | apply PX.then_r | apply PX.block_n | apply PX.block_r | refine PX.then_n (e := .normal) ?_)
          apply PX.cutQr
          repeat (first | apply ES.seq | apply ES.skip | apply ES.region | apply EL.nil | apply ES.block | apply ES.nil | apply ES.exit | apply ES.ret | apply PX.hit | (apply PX.miss; exact rfl) | apply PX.then_x | apply PX.then_r | apply PX.block_n | apply PX.block_r | refine PX.then_n (e := .normal) ?_)
          exact PX.ret rfl Try.results27 (.cons (.tmp rfl) (.cons (.tmp rfl) .nil)) (fun w hs => ⟨(), by rw [hr]; rfl, hs.ent (.nil _)⟩)
        · rw [if_neg (by omega)] at hps
          repeat (first | apply ES.seq | apply ES.skip | apply ES.region | apply EL.nil | apply ES.block | apply ES.nil | apply ES.exit | apply ES.ret | apply PX.hit | (apply PX.miss; exact rfl) | apply PX.then_x | apply PX.then_r | apply PX.block_n | apply PX.block_r | refine PX.then_n (e := .normal) ?_)
          refine EL.move rfl rfl rfl ?_
          refine EL.move rfl rfl rfl ?_
          refine EL.add1 rfl rfl rfl rfl (by omega) ?_
          refine EL.indexSN rfl rfl rfl rfl rfl rfl (by omega) ?_
          refine EL.callP rfl rfl rfl ent34 rfl (rletter_c (s.getD (p + 1) 0)) ?_
          refine EL.assign rfl rfl rfl ?_
          repeat (first | apply ES.seq | apply ES.skip | apply ES.region | apply EL.nil | apply ES.block | apply ES.nil | apply ES.exit | apply ES.ret | apply PX.hit | (apply PX.miss; exact rfl) | apply PX.then_x | apply PX.then_r | apply PX.block_n | apply PX.block_r | refine PX.then_n (e := .normal) ?_)
          refine EL.move rfl rfl rfl ?_
          refine EL.geq rfl rfl rfl rfl ?_
          repeat (first | apply ES.seq | apply ES.skip | apply ES.region | apply EL.nil | apply ES.block | apply ES.nil | apply ES.exit | apply ES.ret | apply PX.hit | (apply PX.miss; exact rfl) | apply PX.then_x | apply PX.then_r | apply PX.block_n | apply PX.block_r | refine PX.then_n (e := .normal) ?_)
          refine ES.condD rfl (fun hlet => ?_) (fun hlet => ?_)
          · rw [if_pos hlet] at hps
            repeat (first | apply ES.seq | apply ES.skip | apply ES.region | apply EL.nil | apply ES.block | apply ES.nil | apply ES.exit | apply ES.ret | apply PX.hit | (apply PX.miss; exact rfl) | apply PX.then_x | apply PX.then_r | apply PX.block_n | apply PX.block_r | refine PX.then_n (e := .normal) ?_)
            refine EL.move rfl rfl rfl ?_
            refine EL.add1 rfl rfl rfl rfl (by omega) ?_
            refine EL.assign rfl rfl rfl ?_
            repeat (first | apply ES.seq | apply ES.skip | apply ES.region | apply EL.nil | apply ES.block | apply ES.nil | apply ES.exit | apply ES.ret | apply PX.hit | (apply PX.miss; exact rfl) | apply PX.then_x | apply PX.then_r | apply PX.block_n | apply PX.block_r | refine PX.then_n (e := .normal) ?_)
            exact PX.cutQ ⟨(letR (s.getD (p + 1) 0), p + 1), by simp only; omega, by simp only; omega, by simp only; omega, by rw [hps, if_neg (by simp only; omega)]; simp only [Option.some.injEq, Prod.mk.injEq, true_and]; omega⟩ ⟨rfl, rfl, rfl, rfl, trivial⟩ (by repeat (first | exact Ent.nil _ | exact Ent.refl _ | (apply Ent.cons; case p => repeat (first | exact Pick.here _ _ | apply Pick.there)) | apply Ent.drop))
          · rw [if_neg hlet] at hps
            repeat (first | apply ES.seq | apply ES.skip | apply ES.region | apply EL.nil | apply ES.block | apply ES.nil | apply ES.exit | apply ES.ret | apply PX.hit | (apply PX.miss; exact rfl) | apply PX.then_x | apply PX.then_r | apply PX.block_n | apply PX.block_r | refine PX.then_n (e := .normal) ?_)
            refine EL.move rfl rfl rfl ?_
            refine EL.addN (n := 3) rfl rfl rfl rfl rfl (by omega) ?_
            refine EL.move rfl rfl rfl ?_
            refine EL.lenS rfl rfl rfl rfl rfl ?_
            refine EL.lss rfl rfl rfl rfl ?_
            repeat (first | apply ES.seq | apply ES.skip | apply ES.region | apply EL.nil | apply ES.block | apply ES.nil | apply ES.exit | apply ES.ret | apply PX.hit | (apply PX.miss; exact rfl) | apply PX.then_x | apply PX.then_r | apply PX.block_n | apply PX.block_r | refine PX.then_n (e := .normal) ?_)
            refine ES.condD rfl (fun h3 => ?_) (fun h3 => ?_)
            · rw [if_pos (by omega)] at hps
              have hoc := octal_c ((s.drop (p + 1)).take (p + 4 - (p + 1))) (by rw [List.length_take, List.length_drop]; omega)
              have h34 : p + 4 - (p + 1) = 3 := by omega
              rw [h34] at hoc
              have hor := octR_range ((s.drop (p + 1)).take 3)
              repeat (first | apply ES.seq | apply ES.skip | apply ES.region | apply EL.nil | apply ES.block | apply ES.nil | apply ES.exit | apply ES.ret | apply PX.hit | (apply PX.miss; exact rfl) | apply PX.then_x | apply PX.then_r | apply PX.block_n | apply PX.block_r | refine PX.then_n (e := .normal) ?_)
              refine EL.move rfl rfl rfl ?_
              refine EL.move rfl rfl rfl ?_
              refine EL.add1 rfl rfl rfl rfl (by omega) ?_
              refine EL.move rfl rfl rfl ?_
              refine EL.addN (n := 4) rfl rfl rfl rfl rfl (by omega) ?_
              refine EL.sliceS rfl rfl rfl rfl rfl ⟨_, rfl⟩ ⟨_, rfl⟩ (by omega) (by omega) ?_
              (refine EL.rew (d := 45) rfl (by rw [h34]) ?_; refine EL.callP rfl rfl rfl ent35 rfl hoc ?_)
              refine EL.assign rfl rfl rfl ?_
              repeat (first | apply ES.seq | apply ES.skip | apply ES.region | apply EL.nil | apply ES.block | apply ES.nil | apply ES.exit | apply ES.ret | apply PX.hit | (apply PX.miss; exact rfl) | apply PX.then_x | apply PX.then_r | apply PX.block_n | apply PX.block_r | refine PX.then_n (e := .normal) ?_)
              refine EL.move rfl rfl rfl ?_
              refine EL.addN (n := 3) rfl rfl rfl rfl rfl (by omega) ?_
              refine EL.assign rfl rfl rfl ?_
              repeat (first | apply ES.seq | apply ES.skip | apply ES.region | apply EL.nil | apply ES.block | apply ES.nil | apply ES.exit | apply ES.ret | apply PX.hit | (apply PX.miss; exact rfl) | apply PX.then_x | apply PX.then_r | apply PX.block_n | apply PX.block_r | refine PX.then_n (e := .normal) ?_)
              exact PX.cutQ ⟨(octR ((s.drop (p + 1)).take 3), p + 3), by simp only; omega, by simp only; omega, by simp only; omega, by rw [hps]; simp only [show p + 3 + 1 - p = 4 by omega]⟩ ⟨rfl, rfl, rfl, rfl, trivial⟩ (by repeat (first | exact Ent.nil _ | exact Ent.refl _ | (apply Ent.cons; case p => repeat (first | exact Pick.here _ _ | apply Pick.there)) | apply Ent.drop))
            · rw [if_neg (by omega)] at hps
              repeat (first | apply ES.seq | apply ES.skip | apply ES.region | apply EL.nil | apply ES.block | apply ES.nil | apply ES.exit | apply ES.ret | apply PX.hit | (apply PX.miss; exact rfl) | apply PX.then_x | apply PX.then_r | apply PX.block_n | apply PX.block_r | refine PX.then_n (e := .normal) ?_)
              exact PX.cutQ ⟨(letR (s.getD (p + 1) 0), p), by simp only; omega, by simp only; omega, by simp only; omega, by rw [hps, if_pos (by simp only; omega)]⟩ ⟨rfl, rfl, rfl, rfl, trivial⟩ (by repeat (first | exact Ent.nil _ | exact Ent.refl _ | (apply Ent.cons; case p => repeat (first | exact Pick.here _ _ | apply Pick.there)) | apply Ent.drop))
      · have hc : s.getD p 0 ≠ 92 := fun h => h92 (by rw [h]; rfl)
        rw [if_pos hc] at hps
        repeat (first | apply ES.seq | apply ES.skip | apply ES.region | apply EL.nil | apply ES.block | apply ES.nil | apply ES.exit | apply ES.ret | apply PX.hit | (apply PX.miss; exact rfl) | apply PX.then_x | apply PX.then_r | apply PX.block_n | apply PX.block_r | refine PX.then_n (e := .normal) ?_)
        exact PX.cutQ ⟨(((s.getD p 0).toNat : Nat), p), by simp only; omega, by simp only; omega, by simp only; omega, by rw [hps, if_neg (by simp only; omega)]; simp only [Option.some.injEq, Prod.mk.injEq, Int.toNat_natCast, true_and]; omega⟩ ⟨rfl, rfl, rfl, rfl, trivial⟩ (by repeat (first | exact Ent.nil _ | exact Ent.refl _ | (apply Ent.cons; case p => repeat (first | exact Pick.here _ _ | apply Pick.there)) | apply Ent.drop))
    obtain ⟨⟨b, p'⟩, hx1, hx2, hx3, hx4⟩ := x
    dsimp only at hx1 hx2 hx3 hx4 ⊢
    have hne : s.drop p ≠ [] := fun h => by have := congrArg List.length h; rw [List.length_drop] at this; simp at this; omega
    repeat (first | apply ES.seq | apply ES.skip | apply ES.region | apply EL.nil | apply ES.block | apply ES.nil | apply ES.exit | apply ES.ret | apply PX.hit | (apply PX.miss; exact rfl) | apply PX.then_x | apply PX.then_r | apply PX.block_n | apply PX.block_r | refine PX.then_n (e := .normal) ?_)
    refine EL.cut [(54, .bool (decide (b < 0 ∨ 255 < b))), (0, Sv s), (4, .slice ad out.length cap), (5, Iv p'), (6, Iv b)] [HA.row (.slice ad out.length cap) 5 1 out.length (out.map Uv)] ?_ ?_
    · repeat (first | apply ES.seq | apply ES.skip | apply ES.region | apply EL.nil | apply ES.block | apply ES.nil | apply ES.exit | apply ES.ret | apply PX.hit | (apply PX.miss; exact rfl) | apply PX.then_x | apply PX.then_r | apply PX.block_n | apply PX.block_r | refine PX.then_n (e := .normal) ?_)
      refine EL.move rfl rfl rfl ?_
      refine EL.lss rfl rfl rfl rfl ?_
      refine EL.move rfl rfl rfl ?_
      first | refine EL.splitD (d := 51) rfl (fun hp51 => ?_) (fun hp51 => ?_) | refine EL.splitN (d := 51) rfl (fun hp51 => ?_) (fun hp51 => ?_) | refine EL.splitB (d := 51) rfl (fun hp51 => ?_) (fun hp51 => ?_)
      · refine EL.pass rfl rfl rfl ?_
        refine EL.pass rfl rfl rfl ?_
        refine EL.pickT rfl rfl rfl rfl ?_
        exact EL.endK ⟨getB rfl (by first | exact decide_eq_decide.2 (by omega) | exact (decide_eq_true (by omega)).symm), rfl, rfl, rfl, rfl, trivial⟩ (by repeat (first | exact Ent.nil _ | exact Ent.refl _ | (apply Ent.cons; case p => repeat (first | exact Pick.here _ _ | apply Pick.there)) | apply Ent.drop))
      · refine EL.move rfl rfl rfl ?_
        refine EL.gtr rfl rfl rfl rfl ?_
        refine EL.pickF rfl rfl rfl rfl ?_
        exact EL.endK ⟨getB rfl (by first | exact decide_eq_decide.2 (by omega) | exact (decide_eq_true (by omega)).symm), rfl, rfl, rfl, rfl, trivial⟩ (by repeat (first | exact Ent.nil _ | exact Ent.refl _ | (apply Ent.cons; case p => repeat (first | exact Pick.here _ _ | apply Pick.there)) | apply Ent.drop))
    refine ES.condD rfl (fun hbad => ?_) (fun hok => ?_)
    · rw [if_pos hbad] at hx4
      have hr : plainR s = ([], false) := by unfold plainR; rw [hun, plainM_step _ hne, hx4]; rfl
      repeat (first | apply ES.seq | apply ES.skip | apply ES.region | apply EL.nil | apply ES.block | apply ES.nil | apply ES.exit | apply ES.ret | apply PX.hit | (apply PX.miss; exact rfl) | apply PX.then_x | apply PX.then_r | apply PX.block_n | apply PX.block_r | refine PX.then_n (e := .normal) ?_)
      refine EL.assign rfl rfl rfl ?_
      refine EL.assign rfl rfl rfl ?_
      repeat (first | apply ES.seq | apply ES.skip | apply ES.region | apply EL.nil | apply ES.block | apply ES.nil | apply ES.exit | apply ES.ret | apply PX.hit | (apply PX.miss; exact rfl) | apply PX.then_x | apply PX.then_r | apply PX.block_n | apply PX.block_r | refine PX.then_n (e := .normal) ?_)
      exact PX.ret rfl Try.results27 (.cons (.tmp rfl) (.cons (.tmp rfl) .nil)) (fun w hs => ⟨(), by rw [hr]; rfl, hs.ent (.nil _)⟩)
    · rw [if_neg hok] at hx4
      obtain ⟨k, rfl⟩ : ∃ k : Nat, b = (k : Int) := ⟨b.toNat, by omega⟩
      have hk' : k < 256 := by omega
      have hk8 : (UInt8.ofNat k).toNat = k := by simp; omega
      repeat (first | apply ES.seq | apply ES.skip | apply ES.region | apply EL.nil | apply ES.block | apply ES.nil | apply ES.exit | apply ES.ret | apply PX.hit | (apply PX.miss; exact rfl) | apply PX.then_x | apply PX.then_r | apply PX.block_n | apply PX.block_r | refine PX.then_n (e := .normal) ?_)
      refine EL.move rfl rfl rfl ?_
      refine EL.move rfl rfl rfl ?_
      refine EL.convI ((UInt8.ofNat k).toNat : Int) rfl rfl rfl rfl rfl rfl (by rw [hk8]; exact wrap_u8 _ hk') ?_
      (refine EL.buildSlice1 rfl rfl rfl rfl rfl rfl rfl rfl rfl rfl ?_; intro b58)
      (refine EL.append1 rfl rfl rfl rfl rfl rfl rfl rfl rfl (by repeat (first | exact Mem.here _ _ | apply Mem.there)) (by repeat (first | exact Pick.here _ _ | apply Pick.there)) (by intro u hu; simp [Value.cells] at hu; subst hu; rfl) (by rfl) (by unfold maxLen; omega) (by first | omega | (show 1 * _ ≤ _; omega) | (show 8 * _ ≤ _; omega) | (show 16 * _ ≤ _; omega) | (show 24 * _ ≤ _; omega) | (show _ * 1 ≤ _; omega) | (show _ * 8 ≤ _; omega) | (show _ * 16 ≤ _; omega) | (show _ * 24 ≤ _; omega)) ?_; intro a59 c59)
      refine EL.assign rfl rfl rfl ?_
      repeat (first | apply ES.seq | apply ES.skip | apply ES.region | apply EL.nil | apply ES.block | apply ES.nil | apply ES.exit | apply ES.ret | apply PX.hit | (apply PX.miss; exact rfl) | apply PX.then_x | apply PX.then_r | apply PX.block_n | apply PX.block_r | refine PX.then_n (e := .normal) ?_)
      refine EL.move rfl rfl rfl ?_
      refine EL.add1 rfl rfl rfl rfl (by omega) ?_
      refine EL.assign rfl rfl rfl ?_
      repeat (first | apply ES.seq | apply ES.skip | apply ES.region | apply EL.nil | apply ES.block | apply ES.nil | apply ES.exit | apply ES.ret | apply PX.hit | (apply PX.miss; exact rfl) | apply PX.then_x | apply PX.then_r | apply PX.block_n | apply PX.block_r | refine PX.then_n (e := .normal) ?_)
      refine PX.loop (p' + 1, out ++ [UInt8.ofNat k], some ⟨a59, 0, none⟩, c59) ⟨by simp only; omega, by simp only [List.length_append, List.length_singleton]; omega, ?_⟩ (by simp only; omega) ⟨rfl, getA rfl (by simp), rfl, trivial⟩ ?_
      · dsimp only
        rw [hun, plainM_step _ hne, hx4]
        have e : p + (p' + 1 - p) = p' + 1 := by omega
        simp only [Int.toNat_natCast, List.drop_drop, e, Option.map_map]
        congr 1
        funext z
        simp
      · have e1 : (out ++ [UInt8.ofNat k]).length = out.length + 1 := by simp
        have e2 : (out ++ [UInt8.ofNat k]).map Uv = out.map Uv ++ [Uv (UInt8.ofNat k)] := by simp
        dsimp only
        rw [e1, e2]
        exact (by repeat (first | exact Ent.nil _ | exact Ent.refl _ | (apply Ent.cons; case p => repeat (first | exact Pick.here _ _ | apply Pick.there)) | apply Ent.drop))
  · obtain rfl : p = s.length := by omega
    rw [List.drop_length] at hun
    have hr : plainR s = (out, true) := by unfold plainR; rw [hun]; simp [plainM, pgo]
    repeat (first | apply ES.seq | apply ES.skip | apply ES.region | apply EL.nil | apply ES.block | apply ES.nil | apply ES.exit | apply ES.ret | apply PX.hit | (apply PX.miss; exact rfl) | apply PX.then_x | apply PX.then_r | apply PX.block_n | apply PX.block_r | refine PX.then_n (e := .normal) ?_)
    refine EL.move rfl rfl rfl ?_
    refine EL.bytesS rfl rfl rfl rfl rfl rfl rfl rfl rfl (by repeat (first | exact Mem.here _ _ | apply Mem.there)) ?_
    refine EL.assign rfl rfl rfl ?_
    refine EL.assign rfl rfl rfl ?_
    repeat (first | apply ES.seq | apply ES.skip | apply ES.region | apply EL.nil | apply ES.block | apply ES.nil | apply ES.exit | apply ES.ret | apply PX.hit | (apply PX.miss; exact rfl) | apply PX.then_x | apply PX.then_r | apply PX.block_n | apply PX.block_r | refine PX.then_n (e := .normal) ?_)
    exact PX.ret rfl Try.results27 (.cons (.tmp rfl) (.cons (.tmp rfl) .nil)) (fun w hs => ⟨(), by rw [hr]; rfl, hs.ent (.nil _)⟩)
end Go.Proofs.Ytjjifcfcomhdcaa
