/- Layer 1 (lines): the law WholeLines. -/
import Derived.Test.YtcaphghkflffgaaNh
namespace Go.Proofs.Ytcaphghkflffgaa
open Go.ChangeShapes Go.WideShapes Go.ChangeAt
open Go Go.RowKit Sl
set_option maxRecDepth 100000
set_option maxHeartbeats 8000000
set_option linter.unusedVariables false
set_option linter.unusedSimpArgs false
attribute [local irreducible] ES EL PX wps

theorem cutP_cases : ∀ s : List UInt8, (∃ l r, s = l ++ 10 :: r ∧ 10 ∉ l ∧ (cutP s).1 = l ∧ (cutP s).2.1 = r) ∨ (10 ∉ s ∧ (cutP s).1 = s ∧ (cutP s).2.1 = [])
  | [] => .inr ⟨by simp, rfl, rfl⟩
  | c :: r => by
    by_cases hc : c = 10
    · subst hc
      exact .inl ⟨[], r, rfl, by simp, by rw [cutP_nl], by rw [cutP_nl]⟩
    · obtain ⟨e1, e2⟩ := cutP_cons c hc r
      rcases cutP_cases r with ⟨l, r', h1, h2, h3, h4⟩ | ⟨h1, h2, h3⟩
      · refine .inl ⟨c :: l, r', by rw [h1]; rfl, ?_, by rw [e1, h3], by rw [e2, h4]⟩
        intro h
        rcases List.mem_cons.1 h with h | h
        · exact hc h.symm
        · exact h2 h
      · refine .inr ⟨?_, by rw [e1, h2], by rw [e2, h3]⟩
        intro h
        rcases List.mem_cons.1 h with h | h
        · exact hc h.symm
        · exact h1 h
/-- Where line i begins: at p. -/
structure At1 (t : List UInt8) (i p : Nat) : Prop where
  le : p ≤ t.length
  rest : cutM (t.drop p) = (cutM t).drop i
  num : i < (cutM t).length → (t.take p).count 10 = i
theorem at1_zero (t : List UInt8) : At1 t 0 0 := ⟨Nat.zero_le _, rfl, fun _ => rfl⟩
theorem at1_line (t : List UInt8) (i p : Nat) (h : At1 t i p) (hi : i < (cutM t).length) : ∃ s, s = (cutM t).getD i [] ∧ p + s.length ≤ t.length ∧ (t.drop p).take s.length = s ∧
    ((p + s.length < t.length ∧ t.getD (p + s.length) 0 = 10 ∧ At1 t (i + 1) (p + s.length + 1)) ∨ (p + s.length = t.length ∧ i + 1 = (cutM t).length ∧ At1 t (i + 1) (p + s.length))) := by
  have hne : t.drop p ≠ [] := by
    intro e
    have h2 := h.rest
    rw [e, show cutM [] = [] from rfl] at h2
    have := congrArg List.length h2
    rw [List.length_drop, List.length_nil] at this
    omega
  have hst := cutM_step _ hne
  rw [h.rest] at hst
  have hd : (cutM t).drop i = (cutM t).getD i [] :: (cutM t).drop (i + 1) := by
    rw [List.drop_eq_getElem_cons hi, List.getD_eq_getElem?_getD, List.getElem?_eq_getElem hi]; rfl
  rw [hd] at hst
  injection hst with h1 h2
  refine ⟨_, rfl, ?_⟩
  rw [h1]
  have hdl : (t.drop p).length = t.length - p := List.length_drop
  have htp : t = t.take p ++ t.drop p := (List.take_append_drop p t).symm
  have hpl : (t.take p).length = p := by rw [List.length_take]; have := h.le; omega
  rcases cutP_cases (t.drop p) with ⟨l, r, h3, h4, h5, h6⟩ | ⟨h3, h4, h5⟩
  · rw [h5]
    rw [h6] at h2
    rw [h3, List.length_append, List.length_cons] at hdl
    have hdr : t.drop (p + l.length + 1) = r := by
      rw [show p + l.length + 1 = p + (l.length + 1) by omega, ← List.drop_drop, h3]
      have : (l ++ [10]).length = l.length + 1 := by simp
      rw [← this, show l ++ 10 :: r = (l ++ [10]) ++ r by simp, List.drop_left]
    refine ⟨by omega, by rw [h3, List.take_left], .inl ⟨by omega, ?_, ?_⟩⟩
    · have : (t.drop p)[l.length]? = some 10 := by rw [h3, List.getElem?_append_right (Nat.le_refl _), Nat.sub_self]; rfl
      rw [List.getElem?_drop] at this
      rw [List.getD_eq_getElem?_getD, this]; rfl
    · refine ⟨by omega, by rw [hdr]; exact h2.symm, fun _ => ?_⟩
      have e : t.take (p + l.length + 1) = t.take p ++ (l ++ [10]) := by
        conv => lhs; rw [htp, h3]
        rw [show t.take p ++ (l ++ 10 :: r) = (t.take p ++ (l ++ [10])) ++ r by simp]
        have : (t.take p ++ (l ++ [10])).length = p + l.length + 1 := by simp only [List.length_append, hpl, List.length_singleton]; omega
        rw [← this, List.take_left]
      rw [e, List.count_append, List.count_append, h.num hi, List.count_eq_zero.2 h4]
      rfl
  · rw [h4]
    rw [h5] at h2
    have hz : (cutM t).drop (i + 1) = [] := h2
    have hlast : i + 1 = (cutM t).length := by
      have := congrArg List.length hz
      rw [List.length_drop, List.length_nil] at this
      omega
    rw [hdl]
    have := h.le
    refine ⟨by omega, by rw [← hdl, List.take_length], .inr ⟨by omega, hlast, by omega, ?_, fun h => by omega⟩⟩
    rw [hz, List.drop_eq_nil_of_le (by omega)]
    rfl
theorem at1_end (t : List UInt8) (p : Nat) (h : At1 t (cutM t).length p) : p = t.length := by
  have h2 := h.rest
  rw [List.drop_length] at h2
  have : t.drop p = [] := by
    by_cases hn : t.drop p = []
    · exact hn
    · rw [cutM_step _ hn] at h2; cases h2
  have h3 := congrArg List.length this
  rw [List.length_drop, List.length_nil] at h3
  have := h.le
  omega
theorem ineF (a : Int) (b : Int) (h : a = b) : Value.bool (!decide (a = b)) = .bool false := by rw [decide_eq_true h]; rfl
theorem wholeLines_c (t : List UInt8) (ht : t.length ≤ 1048576) (w : World) : Pure Try.prog 9 #[Sv t] (fun _ : Unit => .bool true) (fun _ => []) w := by
  have hcl := cutM_len t
  have htt : tailM t ((cutM t).length : Nat) = cutM t := by
    unfold tailM
    split
    · rename_i h; exact (List.eq_nil_of_length_eq_zero (by omega)).symm
    · rw [Int.toNat_natCast, Nat.sub_self]; rfl
  have htc := tail_c t ((cutM t).length : Nat) (by omega)
  rw [htt] at htc
  obtain ⟨ls, hls⟩ : ∃ ls, ls = cutM t := ⟨_, rfl⟩
  have hcc := lcut_c t (by omega)
  have hend := at1_end t
  have hline := at1_line t
  rw [← hls] at hcc htc hcl hend hline
  refine calls_of_ES TB Try.func9 rfl _ Try.ntmps9 rfl (Sat.start w) ?_
  repeat (first | apply ES.seq | apply ES.skip | apply ES.region | apply EL.nil | apply ES.block | apply ES.nil | apply ES.exit | apply ES.ret | apply PX.hit | (apply PX.miss; exact rfl) | apply PX.then_x | apply PX.then_r | apply PX.block_n | apply PX.block_r | refine PX.then_n (e := .normal) ?_)
  refine EL.assign rfl rfl rfl ?_
  repeat (first | apply ES.seq | apply ES.skip | apply ES.region | apply EL.nil | apply ES.block | apply ES.nil | apply ES.exit | apply ES.ret | apply PX.hit | (apply PX.miss; exact rfl) | apply PX.then_x | apply PX.then_r | apply PX.block_n | apply PX.block_r | refine PX.then_n (e := .normal) ?_)
  refine EL.callP rfl rfl rfl ent15 rfl num_aw ?_
  refine EL.move rfl rfl rfl ?_
  refine EL.extract rfl rfl rfl rfl ?_
  refine EL.extract rfl rfl rfl rfl ?_
  refine EL.assign rfl rfl rfl ?_
  refine EL.assign rfl rfl rfl ?_
  repeat (first | apply ES.seq | apply ES.skip | apply ES.region | apply EL.nil | apply ES.block | apply ES.nil | apply ES.exit | apply ES.ret | apply PX.hit | (apply PX.miss; exact rfl) | apply PX.then_x | apply PX.then_r | apply PX.block_n | apply PX.block_r | refine PX.then_n (e := .normal) ?_)
  repeat (first | apply ES.seq | apply ES.skip | apply ES.region | apply EL.nil | apply ES.block | apply ES.nil | apply ES.exit | apply ES.ret | apply PX.hit | (apply PX.miss; exact rfl) | apply PX.then_x | apply PX.then_r | apply PX.block_n | apply PX.block_r | refine PX.then_n (e := .normal) ?_)
  refine EL.move rfl rfl rfl ?_
  refine EL.neqI rfl rfl rfl rfl ?_
  refine EL.move rfl rfl rfl ?_
  refine EL.rew (d := 17) (v' := .bool false) rfl (by first | rfl | (decide) | (simp)) ?_
  refine EL.move rfl rfl rfl ?_
  refine EL.neqI rfl rfl rfl rfl ?_
  refine EL.pickF rfl rfl rfl rfl ?_
  repeat (first | apply ES.seq | apply ES.skip | apply ES.region | apply EL.nil | apply ES.block | apply ES.nil | apply ES.exit | apply ES.ret | apply PX.hit | (apply PX.miss; exact rfl) | apply PX.then_x | apply PX.then_r | apply PX.block_n | apply PX.block_r | refine PX.then_n (e := .normal) ?_)
  refine ES.condK false rfl rfl ?_
  repeat (first | apply ES.seq | apply ES.skip | apply ES.region | apply EL.nil | apply ES.block | apply ES.nil | apply ES.exit | apply ES.ret | apply PX.hit | (apply PX.miss; exact rfl) | apply PX.then_x | apply PX.then_r | apply PX.block_n | apply PX.block_r | refine PX.then_n (e := .normal) ?_)
  refine EL.move rfl rfl rfl ?_
  (refine EL.callX rfl rfl rfl ent14 rfl hcc ?_; rintro ⟨ad, cap⟩)
  refine EL.assign rfl rfl rfl ?_
  repeat (first | apply ES.seq | apply ES.skip | apply ES.region | apply EL.nil | apply ES.block | apply ES.nil | apply ES.exit | apply ES.ret | apply PX.hit | (apply PX.miss; exact rfl) | apply PX.then_x | apply PX.then_r | apply PX.block_n | apply PX.block_r | refine PX.then_n (e := .normal) ?_)
  refine EL.assign rfl rfl rfl ?_
  repeat (first | apply EL.nil | apply ES.seq | apply ES.skip)
  repeat (first | apply ES.seq | apply ES.skip | apply ES.region | apply EL.nil | apply ES.block | apply ES.nil | apply ES.exit | apply ES.ret | apply PX.hit | (apply PX.miss; exact rfl) | apply PX.then_x | apply PX.then_r | apply PX.block_n | apply PX.block_r | refine PX.then_n (e := .normal) ?_)
  refine EL.move rfl rfl rfl ?_
  refine EL.lenL rfl rfl rfl rfl rfl ?_
  refine EL.move rfl rfl rfl ?_
  repeat (first | apply ES.seq | apply ES.skip | apply ES.region | apply EL.nil | apply ES.block | apply ES.nil | apply ES.exit | apply ES.ret | apply PX.hit | (apply PX.miss; exact rfl) | apply PX.then_x | apply PX.then_r | apply PX.block_n | apply PX.block_r | refine PX.then_n (e := .normal) ?_)
  refine ES.loop (σ := Nat × Nat) (fun (i, p) => i ≤ ls.length ∧ At1 t i p) (fun (i, p) => [(0, Sv t), (5, .slice ad ls.length cap), (6, Iv p), (23, .slice ad ls.length cap), (24, Iv ls.length), (25, Iv i)]) (fun _ => [HA.row (.slice ad ls.length cap) 9 1 ls.length (ls.map Sv)]) (fun (i, p) => ls.length - i) (0, 0) ⟨Nat.zero_le _, at1_zero t⟩ ⟨rfl, rfl, rfl, rfl, rfl, rfl, trivial⟩ (by repeat (first | exact Ent.nil _ | exact Ent.refl _ | (apply Ent.cons; case p => repeat (first | exact Pick.here _ _ | apply Pick.there)) | apply Ent.drop)) ?_
  rintro ⟨i, p⟩ ⟨hi, hA⟩
  dsimp only at hi hA ⊢
  repeat (first | apply ES.seq | apply ES.skip | apply ES.region | apply EL.nil | apply ES.block | apply ES.nil | apply ES.exit | apply ES.ret | apply PX.hit | (apply PX.miss; exact rfl) | apply PX.then_x | apply PX.then_r | apply PX.block_n | apply PX.block_r | refine PX.then_n (e := .normal) ?_)
  refine EL.lss rfl rfl rfl rfl ?_
  repeat (first | apply ES.seq | apply ES.skip | apply ES.region | apply EL.nil | apply ES.block | apply ES.nil | apply ES.exit | apply ES.ret | apply PX.hit | (apply PX.miss; exact rfl) | apply PX.then_x | apply PX.then_r | apply PX.block_n | apply PX.block_r | refine PX.then_n (e := .normal) ?_)
  refine ES.condD rfl (fun hlt => ?_) (fun hge => ?_)
  · have hlt' : i < ls.length := by omega
    have hnum := hA.num (by rw [← hls]; exact hlt')
    have hple := hA.le
    obtain ⟨s, hs, hsl, hsd, hs3⟩ := hline i p hA hlt'
    have hnc : numM t (p : Nat) = (((i + 1 : Nat) : Int), 0) := by
      unfold numM
      rw [if_neg (by omega), Int.toNat_natCast, hnum, Nat.add_comm 1 i]
    have hnumc := number_c t (p : Nat) (by omega)
    rw [hnc] at hnumc
    refine ES.rowForm (ad := ad) (cap := cap) (e := 9) (sz := 1) (n := ls.length) (cs := ls.map Sv) (by repeat (first | exact Mem.here _ _ | apply Mem.there)) (fun hfm => ?_)
    obtain ⟨g, rfl⟩ := hfm.2.2.2.2 (by omega)
    repeat (first | apply ES.seq | apply ES.skip | apply ES.region | apply EL.nil | apply ES.block | apply ES.nil | apply ES.exit | apply ES.ret | apply PX.hit | (apply PX.miss; exact rfl) | apply PX.then_x | apply PX.then_r | apply PX.block_n | apply PX.block_r | refine PX.then_n (e := .normal) ?_)
    refine EL.move rfl rfl rfl ?_
    refine EL.indexAddrL1 rfl rfl rfl rfl rfl rfl rfl rfl hlt' ?_
    (refine EL.loadRm Sv [] (l := ls) rfl rfl rfl rfl rfl (by repeat (first | exact Mem.here _ _ | apply Mem.there)) hlt' ?_; rw [← hs])
    refine EL.assign rfl rfl rfl ?_
    refine EL.assign rfl rfl rfl ?_
    repeat (first | apply ES.seq | apply ES.skip | apply ES.region | apply EL.nil | apply ES.block | apply ES.nil | apply ES.exit | apply ES.ret | apply PX.hit | (apply PX.miss; exact rfl) | apply PX.then_x | apply PX.then_r | apply PX.block_n | apply PX.block_r | refine PX.then_n (e := .normal) ?_)
    refine EL.move rfl rfl rfl ?_
    refine EL.move rfl rfl rfl ?_
    refine EL.callP rfl rfl rfl ent15 rfl hnumc ?_
    refine EL.move rfl rfl rfl ?_
    refine EL.extract rfl rfl rfl rfl ?_
    refine EL.extract rfl rfl rfl rfl ?_
    refine EL.assign rfl rfl rfl ?_
    refine EL.assign rfl rfl rfl ?_
    repeat (first | apply ES.seq | apply ES.skip | apply ES.region | apply EL.nil | apply ES.block | apply ES.nil | apply ES.exit | apply ES.ret | apply PX.hit | (apply PX.miss; exact rfl) | apply PX.then_x | apply PX.then_r | apply PX.block_n | apply PX.block_r | refine PX.then_n (e := .normal) ?_)
    repeat (first | apply ES.seq | apply ES.skip | apply ES.region | apply EL.nil | apply ES.block | apply ES.nil | apply ES.exit | apply ES.ret | apply PX.hit | (apply PX.miss; exact rfl) | apply PX.then_x | apply PX.then_r | apply PX.block_n | apply PX.block_r | refine PX.then_n (e := .normal) ?_)
    refine EL.move rfl rfl rfl ?_
    refine EL.neqI rfl rfl rfl rfl ?_
    refine EL.move rfl rfl rfl ?_
    refine EL.rew (d := 38) (v' := .bool false) rfl (by first | rfl | (decide) | (simp)) ?_
    refine EL.move rfl rfl rfl ?_
    refine EL.move rfl rfl rfl ?_
    refine EL.add1 rfl rfl rfl rfl (by omega) ?_
    refine EL.neqI rfl rfl rfl rfl ?_
    refine EL.pickF rfl rfl rfl rfl ?_
    refine EL.move rfl rfl rfl ?_
    refine EL.rew (d := 44) (v' := .bool false) rfl (ineF _ _ rfl) ?_
    refine EL.move rfl rfl rfl ?_
    refine EL.move rfl rfl rfl ?_
    refine EL.lenS rfl rfl rfl rfl rfl ?_
    refine EL.addN rfl rfl rfl rfl rfl (by omega) ?_
    refine EL.move rfl rfl rfl ?_
    refine EL.lenS rfl rfl rfl rfl rfl ?_
    refine EL.gtr rfl rfl rfl rfl ?_
    refine EL.pickF rfl rfl rfl rfl ?_
    refine EL.move rfl rfl rfl ?_
    refine EL.rew (d := 53) (v' := .bool false) rfl (congrArg Value.bool (decide_eq_false (by omega))) ?_
    refine EL.move rfl rfl rfl ?_
    refine EL.move rfl rfl rfl ?_
    refine EL.move rfl rfl rfl ?_
    refine EL.move rfl rfl rfl ?_
    refine EL.lenS rfl rfl rfl rfl rfl ?_
    refine EL.addN rfl rfl rfl rfl rfl (by omega) ?_
    refine EL.sliceS rfl rfl rfl rfl rfl ⟨_, rfl⟩ ⟨_, rfl⟩ (by omega) (by omega) ?_
    refine EL.move rfl rfl rfl ?_
    refine EL.neqS rfl rfl rfl rfl ?_
    refine EL.pickF rfl rfl rfl rfl ?_
    repeat (first | apply ES.seq | apply ES.skip | apply ES.region | apply EL.nil | apply ES.block | apply ES.nil | apply ES.exit | apply ES.ret | apply PX.hit | (apply PX.miss; exact rfl) | apply PX.then_x | apply PX.then_r | apply PX.block_n | apply PX.block_r | refine PX.then_n (e := .normal) ?_)
    refine ES.condK false rfl (by rw [show p + s.length - p = s.length by omega, hsd, decide_eq_true rfl]; rfl) ?_
    repeat (first | apply ES.seq | apply ES.skip | apply ES.region | apply EL.nil | apply ES.block | apply ES.nil | apply ES.exit | apply ES.ret | apply PX.hit | (apply PX.miss; exact rfl) | apply PX.then_x | apply PX.then_r | apply PX.block_n | apply PX.block_r | refine PX.then_n (e := .normal) ?_)
    refine EL.move rfl rfl rfl ?_
    refine EL.move rfl rfl rfl ?_
    refine EL.lenS rfl rfl rfl rfl rfl ?_
    refine EL.addN rfl rfl rfl rfl rfl (by omega) ?_
    refine EL.assign rfl rfl rfl ?_
    repeat (first | apply ES.seq | apply ES.skip | apply ES.region | apply EL.nil | apply ES.block | apply ES.nil | apply ES.exit | apply ES.ret | apply PX.hit | (apply PX.miss; exact rfl) | apply PX.then_x | apply PX.then_r | apply PX.block_n | apply PX.block_r | refine PX.then_n (e := .normal) ?_)
    rcases hs3 with ⟨h1, h2, h3⟩ | ⟨h1, h2, h3⟩
    · refine EL.cut [(78, .bool true), (0, Sv t), (5, .slice (some ⟨g, 0, none⟩) ls.length cap), (6, Iv (p + s.length : Nat)), (23, .slice (some ⟨g, 0, none⟩) ls.length cap), (24, Iv ls.length), (25, Iv i)] [HA.row (.slice (some ⟨g, 0, none⟩) ls.length cap) 9 1 ls.length (ls.map Sv)] ?_ ?_
      · repeat (first | apply ES.seq | apply ES.skip | apply ES.region | apply EL.nil | apply ES.block | apply ES.nil | apply ES.exit | apply ES.ret | apply PX.hit | (apply PX.miss; exact rfl) | apply PX.then_x | apply PX.then_r | apply PX.block_n | apply PX.block_r | refine PX.then_n (e := .normal) ?_)
        refine EL.move rfl rfl rfl ?_
        refine EL.move rfl rfl rfl ?_
        refine EL.lenL rfl rfl rfl rfl rfl ?_
        refine EL.sub1 rfl rfl rfl rfl (by omega) (by omega) ?_
        refine EL.lss rfl rfl rfl rfl ?_
        refine EL.move rfl rfl rfl ?_
        first | refine EL.splitD (d := 73) rfl (fun hp73 => ?_) (fun hp73 => ?_) | refine EL.splitN (d := 73) rfl (fun hp73 => ?_) (fun hp73 => ?_) | refine EL.splitB (d := 73) rfl (fun hp73 => ?_) (fun hp73 => ?_)
        · refine EL.pass rfl rfl rfl ?_
          refine EL.pass rfl rfl rfl ?_
          refine EL.pass rfl rfl rfl ?_
          refine EL.pass rfl rfl rfl ?_
          refine EL.pickT rfl rfl rfl rfl ?_
          focus (exact EL.endK ⟨getB rfl (by first | rfl | exact decide_eq_true (by omega)), rfl, rfl, rfl, rfl, rfl, rfl, trivial⟩ (by repeat (first | exact Ent.nil _ | exact Ent.refl _ | (apply Ent.cons; case p => repeat (first | exact Pick.here _ _ | apply Pick.there)) | apply Ent.drop)))
        · refine EL.move rfl rfl rfl ?_
          refine EL.move rfl rfl rfl ?_
          refine EL.lenS rfl rfl rfl rfl rfl ?_
          refine EL.lss rfl rfl rfl rfl ?_
          refine EL.pickF rfl rfl rfl rfl ?_
          focus (exact EL.endK ⟨getB rfl (by first | rfl | exact decide_eq_true (by omega)), rfl, rfl, rfl, rfl, rfl, rfl, trivial⟩ (by repeat (first | exact Ent.nil _ | exact Ent.refl _ | (apply Ent.cons; case p => repeat (first | exact Pick.here _ _ | apply Pick.there)) | apply Ent.drop)))
      refine ES.condT rfl ?_
      repeat (first | apply ES.seq | apply ES.skip | apply ES.region | apply EL.nil | apply ES.block | apply ES.nil | apply ES.exit | apply ES.ret | apply PX.hit | (apply PX.miss; exact rfl) | apply PX.then_x | apply PX.then_r | apply PX.block_n | apply PX.block_r | refine PX.then_n (e := .normal) ?_)
      refine EL.move rfl rfl rfl ?_
      refine EL.move rfl rfl rfl ?_
      refine EL.lenS rfl rfl rfl rfl rfl ?_
      refine EL.geq rfl rfl rfl rfl ?_
      refine EL.move rfl rfl rfl ?_
      refine EL.rew (d := 83) (v' := .bool false) rfl (congrArg Value.bool (decide_eq_false (by omega))) ?_
      refine EL.move rfl rfl rfl ?_
      refine EL.move rfl rfl rfl ?_
      refine EL.indexSN rfl rfl rfl rfl rfl rfl (by omega) ?_
      refine EL.neqI rfl rfl rfl rfl ?_
      refine EL.pickF rfl rfl rfl rfl ?_
      repeat (first | apply ES.seq | apply ES.skip | apply ES.region | apply EL.nil | apply ES.block | apply ES.nil | apply ES.exit | apply ES.ret | apply PX.hit | (apply PX.miss; exact rfl) | apply PX.then_x | apply PX.then_r | apply PX.block_n | apply PX.block_r | refine PX.then_n (e := .normal) ?_)
      refine ES.condK false rfl (by rw [h2]; exact congrArg not (decide_eq_true rfl)) ?_
      repeat (first | apply ES.seq | apply ES.skip | apply ES.region | apply EL.nil | apply ES.block | apply ES.nil | apply ES.exit | apply ES.ret | apply PX.hit | (apply PX.miss; exact rfl) | apply PX.then_x | apply PX.then_r | apply PX.block_n | apply PX.block_r | refine PX.then_n (e := .normal) ?_)
      refine EL.move rfl rfl rfl ?_
      refine EL.add1 rfl rfl rfl rfl (by omega) ?_
      refine EL.assign rfl rfl rfl ?_
      repeat (first | apply ES.seq | apply ES.skip | apply ES.region | apply EL.nil | apply ES.block | apply ES.nil | apply ES.exit | apply ES.ret | apply PX.hit | (apply PX.miss; exact rfl) | apply PX.then_x | apply PX.then_r | apply PX.block_n | apply PX.block_r | refine PX.then_n (e := .normal) ?_)
      refine EL.add1 rfl rfl rfl rfl (by omega) ?_
      refine EL.move rfl rfl rfl ?_
      repeat (first | apply ES.seq | apply ES.skip | apply ES.region | apply EL.nil | apply ES.block | apply ES.nil | apply ES.exit | apply ES.ret | apply PX.hit | (apply PX.miss; exact rfl) | apply PX.then_x | apply PX.then_r | apply PX.block_n | apply PX.block_r | refine PX.then_n (e := .normal) ?_)
      exact PX.loop (i + 1, p + s.length + 1) ⟨by simp only; omega, h3⟩ (by simp only; omega) ⟨rfl, rfl, rfl, rfl, rfl, rfl, trivial⟩ (by repeat (first | exact Ent.nil _ | exact Ent.refl _ | (apply Ent.cons; case p => repeat (first | exact Pick.here _ _ | apply Pick.there)) | apply Ent.drop))
    · repeat (first | apply ES.seq | apply ES.skip | apply ES.region | apply EL.nil | apply ES.block | apply ES.nil | apply ES.exit | apply ES.ret | apply PX.hit | (apply PX.miss; exact rfl) | apply PX.then_x | apply PX.then_r | apply PX.block_n | apply PX.block_r | refine PX.then_n (e := .normal) ?_)
      refine EL.move rfl rfl rfl ?_
      refine EL.move rfl rfl rfl ?_
      refine EL.lenL rfl rfl rfl rfl rfl ?_
      refine EL.sub1 rfl rfl rfl rfl (by omega) (by omega) ?_
      refine EL.lss rfl rfl rfl rfl ?_
      refine EL.move rfl rfl rfl ?_
      refine EL.rew (d := 73) (v' := .bool false) rfl (congrArg Value.bool (decide_eq_false (by omega))) ?_
      refine EL.move rfl rfl rfl ?_
      refine EL.move rfl rfl rfl ?_
      refine EL.lenS rfl rfl rfl rfl rfl ?_
      refine EL.lss rfl rfl rfl rfl ?_
      refine EL.pickF rfl rfl rfl rfl ?_
      repeat (first | apply ES.seq | apply ES.skip | apply ES.region | apply EL.nil | apply ES.block | apply ES.nil | apply ES.exit | apply ES.ret | apply PX.hit | (apply PX.miss; exact rfl) | apply PX.then_x | apply PX.then_r | apply PX.block_n | apply PX.block_r | refine PX.then_n (e := .normal) ?_)
      refine ES.condK false rfl (decide_eq_false (by omega)) ?_
      repeat (first | apply ES.seq | apply ES.skip | apply ES.region | apply EL.nil | apply ES.block | apply ES.nil | apply ES.exit | apply ES.ret | apply PX.hit | (apply PX.miss; exact rfl) | apply PX.then_x | apply PX.then_r | apply PX.block_n | apply PX.block_r | refine PX.then_n (e := .normal) ?_)
      refine EL.add1 rfl rfl rfl rfl (by omega) ?_
      refine EL.move rfl rfl rfl ?_
      repeat (first | apply ES.seq | apply ES.skip | apply ES.region | apply EL.nil | apply ES.block | apply ES.nil | apply ES.exit | apply ES.ret | apply PX.hit | (apply PX.miss; exact rfl) | apply PX.then_x | apply PX.then_r | apply PX.block_n | apply PX.block_r | refine PX.then_n (e := .normal) ?_)
      exact PX.loop (i + 1, p + s.length) ⟨by simp only; omega, h3⟩ (by simp only; omega) ⟨rfl, rfl, rfl, rfl, rfl, rfl, trivial⟩ (by repeat (first | exact Ent.nil _ | exact Ent.refl _ | (apply Ent.cons; case p => repeat (first | exact Pick.here _ _ | apply Pick.there)) | apply Ent.drop))
  obtain rfl : i = ls.length := by omega
  have hpe := hend p hA
  repeat (first | apply ES.seq | apply ES.skip | apply ES.region | apply EL.nil | apply ES.block | apply ES.nil | apply ES.exit | apply ES.ret | apply PX.hit | (apply PX.miss; exact rfl) | apply PX.then_x | apply PX.then_r | apply PX.block_n | apply PX.block_r | refine PX.then_n (e := .normal) ?_)
  refine EL.move rfl rfl rfl ?_
  refine EL.move rfl rfl rfl ?_
  refine EL.lenS rfl rfl rfl rfl rfl ?_
  refine EL.eqlI rfl rfl rfl rfl ?_
  refine EL.move rfl rfl rfl ?_
  refine EL.rew (d := 96) (v' := .bool true) rfl (congrArg Value.bool (decide_eq_true (by omega))) ?_
  refine EL.move rfl rfl rfl ?_
  refine EL.move rfl rfl rfl ?_
  refine EL.lenL rfl rfl rfl rfl rfl ?_
  (refine EL.callX rfl rfl rfl ent19 rfl htc ?_; rintro ⟨ad2, cap2⟩)
  refine EL.move rfl rfl rfl ?_
  refine EL.callPw rfl rfl rfl ent12 rfl (fun w hs => same_eq ad2 cap2 ls ad cap (by omega) w (Rd.row hs (by repeat (first | exact Mem.here _ _ | apply Mem.there)) (by decide)) (Rd.row hs (by repeat (first | exact Mem.here _ _ | apply Mem.there)) (by decide))) ?_
  refine EL.pickT rfl rfl rfl rfl ?_
  refine EL.assign rfl rfl rfl ?_
  repeat (first | apply ES.seq | apply ES.skip | apply ES.region | apply EL.nil | apply ES.block | apply ES.nil | apply ES.exit | apply ES.ret | apply PX.hit | (apply PX.miss; exact rfl) | apply PX.then_x | apply PX.then_r | apply PX.block_n | apply PX.block_r | refine PX.then_n (e := .normal) ?_)
  exact PX.ret rfl Try.results9 (.cons (.tmp rfl) .nil) (fun w hs => ⟨(), rfl, hs.ent (.nil _)⟩)
theorem wholeLines_lifted (os : Os) (started : os.Started) (H : Type) (enc : TypeId × Value → H) (F : Stop.Interp) :
    ReturnsInHanded {} Try.checked os 9 .any ((Rows.OpenSpec.upto Rows.wholeLinesSpec).pre6 enc Try.prog Try.f9 Rows.wholeLinesUptoRow.domain false) (((Rows.OpenSpec.upto Rows.wholeLinesSpec).at F).post enc Try.prog Try.f9 false true false false) := by
  refine returnsInHanded_of_cond (C := Try.checked) (s := (Rows.OpenSpec.upto Rows.wholeLinesSpec)) (k := Rows.uptoSmall) rfl own started (by kernel_rfl) Try.func9
    (OpenSpec.witness (enc := enc) (C := Try.checked) (s := (Rows.OpenSpec.upto Rows.wholeLinesSpec)) (k := Rows.uptoSmall) rfl false ⟨#[], #[.string ⟨#[]⟩], []⟩ 8 (by kernel_rfl) (by kernel_rfl) (by kernel_rfl)
      (x := ([.lit (.string [])], [], [])) (by kernel_rfl) rfl (by kernel_rfl)) ?_
  intro W base args ds gs before hval0 hW _ hk _
  have hval : ∀ (j : Nat) t v, Try.f9.params[j]? = some t → args[j]? = some v → Value.okWide Try.prog W .any base t v := hval0
  have hW1 : DataW.Whole enc Try.prog Try.f9.params.toList Rows.wholeLinesSpec.vars false W args.toList ds gs before := hW
  have hW' := hW1
  obtain ⟨p, q, hA0, hV, rfl, hfz, hnd⟩ := hW1
  have hA : DataW.TrodAll enc Try.prog W 0 (fun _ => true) true Try.f9.params.toList args.toList ds p := hA0
  rw [Try.params9] at hA hval
  obtain ⟨v0, vs0, d0, ds0, p0, q0, hargs0, rfl, rfl, h0, r0⟩ := trodAll_cons hA
  obtain ⟨rfl, rfl, rfl⟩ := trodAll_nil r0
  obtain rfl : args = #[v0] := by cases args; simp_all
  obtain ⟨rfl, rfl⟩ := trodVars_none hV
  obtain ⟨l0, rfl, rfl⟩ := open_sv Try.underlying9 (hval 0 9 v0 rfl rfl) h0
  have hb := of_decide_eq_true hk
  simp only [List.append_nil, Rows.uptoBulkAll, Rows.uptoBulk] at hb
  have hl0 : l0.length ≤ 1048576 := by omega
  refine (wholeLines_c l0 (by omega) W).mono fun e W' ⟨_, he, hs⟩ => ⟨_, he, ?_⟩
  exact law_true (s := Rows.wholeLinesSpec) laidOut rfl Try.underlying4 (by kernel_rfl) rfl false rfl rfl rfl hW' hs.below
theorem wholeLines_holds : Rows.WholeLinesUptoSaid :=
  OpenClaim.holds_of_cond 9 Try.f9 rfl rfl rfl rfl rfl rfl rfl ⟨rfl, rfl, rfl, rfl, rfl⟩ rfl rfl rfl rfl rfl (by kernel_rfl) Try.func9 (by kernel_rfl)
    (of_decide_eq_true (by kernel_rfl)) (by unfold Func.isWrapper; first | (rw [if_pos (by decide +kernel)]; kernel_rfl) | (rw [if_neg (by decide +kernel)]; exact ⟨rfl, rfl⟩))
    (fun os started H enc _ F => wholeLines_lifted os started H enc F)
end Go.Proofs.Ytcaphghkflffgaa
