/- Layer 1 (lines): the law LinesSplit. -/
import Derived.Test.YtcaphghkflffgaaNg
namespace Go.Proofs.Ytcaphghkflffgaa
open Go.ChangeShapes Go.WideShapes Go.ChangeAt
open Go Go.RowKit Sl
set_option maxRecDepth 100000
set_option maxHeartbeats 8000000
set_option linter.unusedVariables false
set_option linter.unusedSimpArgs false
attribute [local irreducible] ES EL PX wps

theorem cutGo_split : ∀ (a cur b : List UInt8), cutGo cur (a ++ 10 :: b) = cutGo cur (a ++ [10]) ++ cutGo [] b
  | [], cur, b => by simp [cutGo]
  | c :: a, cur, b => by
    rw [List.cons_append, List.cons_append, cutGo, cutGo]
    by_cases hc : c = 10
    · rw [if_pos hc, if_pos hc, cutGo_split a [] b, List.cons_append]
    · rw [if_neg hc, if_neg hc, cutGo_split a _ b]
theorem cut_split (a b : List UInt8) : cutM (a ++ [10] ++ b) = cutM (a ++ [10]) ++ cutM b := by
  have := cutGo_split a [] b
  simpa [cutM] using this
theorem num_at (a b : List UInt8) : numM (a ++ [10] ++ b) (a.length : Nat) = (((1 + a.count 10 : Nat) : Int), 0) := by
  unfold numM
  rw [if_neg (by simp only [List.length_append, List.length_singleton]; omega)]
  have e : (a ++ [10] ++ b).take ((a.length : Nat) : Int).toNat = a := by simp
  rw [e]
theorem num_behind (a b : List UInt8) : numM (a ++ [10] ++ b) (a.length + 1 : Nat) = (((1 + a.count 10 + 1 : Nat) : Int), 0) := by
  unfold numM
  rw [if_neg (by simp only [List.length_append, List.length_singleton]; omega)]
  have e : (a ++ [10] ++ b).take ((a.length + 1 : Nat) : Int).toNat = a ++ [10] := by
    rw [Int.toNat_natCast]
    have : (a ++ [10]).length = a.length + 1 := by simp
    rw [← this, List.take_left]
  rw [e]
  simp [List.count_append]
  omega
theorem tail_drop (t : List UInt8) (n : Int) : (tailM t n).length ≤ (cutM t).length ∧ (cutM t).drop ((cutM t).length - (tailM t n).length) = tailM t n ∧ ((tailM t n).length : Int) = (if ((cutM t).length : Int) < (if n < 0 then 0 else n) then ((cutM t).length : Int) else (if n < 0 then 0 else n)) := by
  unfold tailM
  by_cases h : n ≤ 0
  · rw [if_pos h]
    refine ⟨Nat.zero_le _, by simp, ?_⟩
    simp only [List.length_nil]
    split <;> split <;> omega
  · rw [if_neg h, List.length_drop]
    refine ⟨by omega, ?_, ?_⟩
    · congr 1; omega
    · split <;> split <;> omega
theorem lawSplit_c (a b : List UInt8) (n : Int) (ha : a.length ≤ 1048576) (hb : b.length ≤ 1048576) (hn1 : -9223372036854775808 ≤ n) (hn2 : n ≤ 9223372036854775807) (w : World) : Pure Try.prog 7 #[Sv a, Sv b, Iv n] (fun _ : Unit => .bool true) (fun _ => []) w := by
  have hl : (a ++ [10] ++ b).length = a.length + 1 + b.length := by simp only [List.length_append, List.length_singleton]
  have hsp := cut_split a b
  have hna := num_at a b
  have hnb := num_behind a b
  obtain ⟨t, ht⟩ : ∃ t, t = a ++ [10] ++ b := ⟨_, rfl⟩
  rw [← ht] at hl hsp hna hnb
  obtain ⟨ht1, ht2, ht3⟩ := tail_drop t n
  have c1 := cutM_len (a ++ [10])
  have c2 := cutM_len b
  have c3 := cutM_len t
  rw [List.length_append, List.length_singleton] at c1
  have hsl : (cutM t).length = (cutM (a ++ [10])).length + (cutM b).length := by rw [hsp, List.length_append]
  have hsm : (cutM t).map Sv = (cutM (a ++ [10])).map Sv ++ (cutM b).map Sv := by rw [hsp, List.map_append]
  have hca : a.count 10 ≤ a.length := List.count_le_length
  have hn1c := number_c t (a.length : Nat) (by omega)
  have hn2c := number_c t (a.length + 1 : Nat) (by omega)
  rw [hna] at hn1c
  rw [hnb] at hn2c
  refine calls_of_ES TB Try.func7 rfl _ Try.ntmps7 rfl (Sat.start w) ?_
  repeat (first | apply ES.seq | apply ES.skip | apply ES.region | apply EL.nil | apply ES.block | apply ES.nil | apply ES.exit | apply ES.ret | apply PX.hit | (apply PX.miss; exact rfl) | apply PX.then_x | apply PX.then_r | apply PX.block_n | apply PX.block_r | refine PX.then_n (e := .normal) ?_)
  refine EL.assign rfl rfl rfl ?_
  repeat (first | apply ES.seq | apply ES.skip | apply ES.region | apply EL.nil | apply ES.block | apply ES.nil | apply ES.exit | apply ES.ret | apply PX.hit | (apply PX.miss; exact rfl) | apply PX.then_x | apply PX.then_r | apply PX.block_n | apply PX.block_r | refine PX.then_n (e := .normal) ?_)
  refine EL.callP rfl rfl rfl ent11 rfl awake_c ?_
  refine EL.not rfl rfl rfl ?_
  repeat (first | apply ES.seq | apply ES.skip | apply ES.region | apply EL.nil | apply ES.block | apply ES.nil | apply ES.exit | apply ES.ret | apply PX.hit | (apply PX.miss; exact rfl) | apply PX.then_x | apply PX.then_r | apply PX.block_n | apply PX.block_r | refine PX.then_n (e := .normal) ?_)
  refine ES.condK false rfl rfl ?_
  repeat (first | apply ES.seq | apply ES.skip | apply ES.region | apply EL.nil | apply ES.block | apply ES.nil | apply ES.exit | apply ES.ret | apply PX.hit | (apply PX.miss; exact rfl) | apply PX.then_x | apply PX.then_r | apply PX.block_n | apply PX.block_r | refine PX.then_n (e := .normal) ?_)
  refine EL.move rfl rfl rfl ?_
  refine EL.cat rfl rfl rfl rfl (by first | omega | (simp only [List.length_cons, List.length_nil]; omega)) ?_
  refine EL.move rfl rfl rfl ?_
  refine EL.cat rfl rfl rfl rfl (by rw [List.length_append, List.length_singleton]; omega) ?_
  refine EL.assign rfl rfl rfl ?_
  repeat (first | apply ES.seq | apply ES.skip | apply ES.region | apply EL.nil | apply ES.block | apply ES.nil | apply ES.exit | apply ES.ret | apply PX.hit | (apply PX.miss; exact rfl) | apply PX.then_x | apply PX.then_r | apply PX.block_n | apply PX.block_r | refine PX.then_n (e := .normal) ?_)
  refine EL.nilRow 9 1 ?_
  repeat (first | apply ES.seq | apply ES.skip | apply ES.region | apply EL.nil | apply ES.block | apply ES.nil | apply ES.exit | apply ES.ret | apply PX.hit | (apply PX.miss; exact rfl) | apply PX.then_x | apply PX.then_r | apply PX.block_n | apply PX.block_r | refine PX.then_n (e := .normal) ?_)
  refine EL.assign rfl rfl rfl ?_
  repeat (first | apply ES.seq | apply ES.skip | apply ES.region | apply EL.nil | apply ES.block | apply ES.nil | apply ES.exit | apply ES.ret | apply PX.hit | (apply PX.miss; exact rfl) | apply PX.then_x | apply PX.then_r | apply PX.block_n | apply PX.block_r | refine PX.then_n (e := .normal) ?_)
  refine EL.move rfl rfl rfl ?_
  refine EL.move rfl rfl rfl ?_
  refine EL.cat rfl rfl rfl rfl (by simp only [List.length_cons, List.length_nil]; omega) ?_
  (refine EL.callX rfl rfl rfl ent14 rfl (lcut_c (a ++ [10]) (by rw [List.length_append, List.length_singleton]; omega)) ?_; rintro ⟨ad1, cap1⟩)
  (refine EL.appendW (news := (cutM (a ++ [10])).map Sv) (cs := []) (n := 0) rfl rfl rfl rfl rfl rfl rfl rfl rfl (by repeat (first | exact Pick.here _ _ | apply Pick.there)) (fun w hs => Rd.row hs (by repeat (first | exact Mem.here _ _ | apply Mem.there)) (by decide)) (by simp; exact (Nat.mul_one _).symm) (by intro u hu; obtain ⟨_, _, rfl⟩ := List.mem_map.1 hu; rfl) (by unfold maxLen; omega) (by first | omega | (show 1 * _ ≤ _; omega) | (show 8 * _ ≤ _; omega) | (show 16 * _ ≤ _; omega) | (show 24 * _ ≤ _; omega) | (show _ * 1 ≤ _; omega) | (show _ * 8 ≤ _; omega) | (show _ * 16 ≤ _; omega) | (show _ * 24 ≤ _; omega)) ?_; intro ad2 cap2)
  refine EL.assign rfl rfl rfl ?_
  repeat (first | apply ES.seq | apply ES.skip | apply ES.region | apply EL.nil | apply ES.block | apply ES.nil | apply ES.exit | apply ES.ret | apply PX.hit | (apply PX.miss; exact rfl) | apply PX.then_x | apply PX.then_r | apply PX.block_n | apply PX.block_r | refine PX.then_n (e := .normal) ?_)
  refine EL.move rfl rfl rfl ?_
  refine EL.move rfl rfl rfl ?_
  (refine EL.callX rfl rfl rfl ent14 rfl (lcut_c b (by omega)) ?_; rintro ⟨ad3, cap3⟩)
  (refine EL.appendW (news := (cutM b).map Sv) (cs := [] ++ (cutM (a ++ [10])).map Sv) (n := 0 + (cutM (a ++ [10])).length) rfl rfl rfl rfl rfl rfl rfl rfl rfl (by repeat (first | exact Pick.here _ _ | apply Pick.there)) (fun w hs => Rd.row hs (by repeat (first | exact Mem.here _ _ | apply Mem.there)) (by decide)) (by simp; exact (Nat.mul_one _).symm) (by intro u hu; obtain ⟨_, _, rfl⟩ := List.mem_map.1 hu; rfl) (by unfold maxLen; omega) (by first | omega | (show 1 * _ ≤ _; omega) | (show 8 * _ ≤ _; omega) | (show 16 * _ ≤ _; omega) | (show 24 * _ ≤ _; omega) | (show _ * 1 ≤ _; omega) | (show _ * 8 ≤ _; omega) | (show _ * 16 ≤ _; omega) | (show _ * 24 ≤ _; omega)) ?_; intro ad4 cap4)
  refine EL.assign rfl rfl rfl ?_
  repeat (first | apply EL.nil | apply ES.seq | apply ES.skip)
  refine ES.sub (E' := [(0, Sv a), (1, Sv b), (2, Iv n), (7, Sv t), (8, .slice ad4 (cutM t).length cap4)]) (H' := [HA.row (.slice ad4 (cutM t).length cap4) 9 1 (cutM t).length ((cutM t).map Sv)]) ⟨rfl, rfl, rfl, getA rfl (by rw [ht]), getA rfl (by rw [hsl, Nat.zero_add]), trivial⟩ (by rw [hsl, hsm]; simp only [Nat.zero_add, List.nil_append]; exact (by repeat (first | exact Ent.nil _ | exact Ent.refl _ | (apply Ent.cons; case p => repeat (first | exact Pick.here _ _ | apply Pick.there)) | apply Ent.drop))) ?_
  refine ES.rowForm (ad := ad4) (cap := cap4) (e := 9) (sz := 1) (n := (cutM t).length) (cs := (cutM t).map Sv) (by repeat (first | exact Mem.here _ _ | apply Mem.there)) (fun hfm => ?_)
  repeat (first | apply ES.seq | apply ES.skip | apply ES.region | apply EL.nil | apply ES.block | apply ES.nil | apply ES.exit | apply ES.ret | apply PX.hit | (apply PX.miss; exact rfl) | apply PX.then_x | apply PX.then_r | apply PX.block_n | apply PX.block_r | refine PX.then_n (e := .normal) ?_)
  refine EL.move rfl rfl rfl ?_
  (refine EL.callX rfl rfl rfl ent14 rfl (lcut_c t (by omega)) ?_; rintro ⟨ad5, cap5⟩)
  refine EL.move rfl rfl rfl ?_
  refine EL.callPw rfl rfl rfl ent12 rfl (fun w hs => same_eq ad5 cap5 (cutM t) ad4 cap4 (by omega) w (Rd.row hs (by repeat (first | exact Mem.here _ _ | apply Mem.there)) (by decide)) (Rd.row hs (by repeat (first | exact Mem.here _ _ | apply Mem.there)) (by decide))) ?_
  refine EL.not rfl rfl rfl ?_
  repeat (first | apply ES.seq | apply ES.skip | apply ES.region | apply EL.nil | apply ES.block | apply ES.nil | apply ES.exit | apply ES.ret | apply PX.hit | (apply PX.miss; exact rfl) | apply PX.then_x | apply PX.then_r | apply PX.block_n | apply PX.block_r | refine PX.then_n (e := .normal) ?_)
  refine ES.condK false rfl rfl ?_
  repeat (first | apply ES.seq | apply ES.skip | apply ES.region | apply EL.nil | apply ES.block | apply ES.nil | apply ES.exit | apply ES.ret | apply PX.hit | (apply PX.miss; exact rfl) | apply PX.then_x | apply PX.then_r | apply PX.block_n | apply PX.block_r | refine PX.then_n (e := .normal) ?_)
  refine EL.move rfl rfl rfl ?_
  refine EL.move rfl rfl rfl ?_
  refine EL.lenS rfl rfl rfl rfl rfl ?_
  refine EL.callP rfl rfl rfl ent15 rfl hn1c ?_
  refine EL.move rfl rfl rfl ?_
  refine EL.extract rfl rfl rfl rfl ?_
  refine EL.extract rfl rfl rfl rfl ?_
  refine EL.assign rfl rfl rfl ?_
  refine EL.assign rfl rfl rfl ?_
  repeat (first | apply ES.seq | apply ES.skip | apply ES.region | apply EL.nil | apply ES.block | apply ES.nil | apply ES.exit | apply ES.ret | apply PX.hit | (apply PX.miss; exact rfl) | apply PX.then_x | apply PX.then_r | apply PX.block_n | apply PX.block_r | refine PX.then_n (e := .normal) ?_)
  refine EL.move rfl rfl rfl ?_
  refine EL.move rfl rfl rfl ?_
  refine EL.lenS rfl rfl rfl rfl rfl ?_
  refine EL.add1 rfl rfl rfl rfl (by omega) ?_
  refine EL.callP rfl rfl rfl ent15 rfl hn2c ?_
  refine EL.move rfl rfl rfl ?_
  refine EL.extract rfl rfl rfl rfl ?_
  refine EL.extract rfl rfl rfl rfl ?_
  refine EL.assign rfl rfl rfl ?_
  refine EL.assign rfl rfl rfl ?_
  repeat (first | apply ES.seq | apply ES.skip | apply ES.region | apply EL.nil | apply ES.block | apply ES.nil | apply ES.exit | apply ES.ret | apply PX.hit | (apply PX.miss; exact rfl) | apply PX.then_x | apply PX.then_r | apply PX.block_n | apply PX.block_r | refine PX.then_n (e := .normal) ?_)
  refine EL.move rfl rfl rfl ?_
  refine EL.move rfl rfl rfl ?_
  (refine EL.callX rfl rfl rfl ent19 rfl (tail_c t n (by omega)) ?_; rintro ⟨ad6, cap6⟩)
  refine EL.assign rfl rfl rfl ?_
  repeat (first | apply ES.seq | apply ES.skip | apply ES.region | apply EL.nil | apply ES.block | apply ES.nil | apply ES.exit | apply ES.ret | apply PX.hit | (apply PX.miss; exact rfl) | apply PX.then_x | apply PX.then_r | apply PX.block_n | apply PX.block_r | refine PX.then_n (e := .normal) ?_)
  repeat (first | apply ES.seq | apply ES.skip | apply ES.region | apply EL.nil | apply ES.block | apply ES.nil | apply ES.exit | apply ES.ret | apply PX.hit | (apply PX.miss; exact rfl) | apply PX.then_x | apply PX.then_r | apply PX.block_n | apply PX.block_r | refine PX.then_n (e := .normal) ?_)
  refine EL.move rfl rfl rfl ?_
  refine EL.maxI rfl rfl rfl rfl (if n < 0 then 0 else n) rfl ?_
  refine EL.move rfl rfl rfl ?_
  refine EL.lenL rfl rfl rfl rfl rfl ?_
  refine EL.minI rfl rfl rfl rfl (((tailM t n).length : Nat) : Int) (by rw [ht3]) ?_
  refine EL.assign rfl rfl rfl ?_
  repeat (first | apply ES.seq | apply ES.skip | apply ES.region | apply EL.nil | apply ES.block | apply ES.nil | apply ES.exit | apply ES.ret | apply PX.hit | (apply PX.miss; exact rfl) | apply PX.then_x | apply PX.then_r | apply PX.block_n | apply PX.block_r | refine PX.then_n (e := .normal) ?_)
  have htl2 : (tailM t n).map Sv = ((cutM t).map Sv).drop ((cutM t).length - (tailM t n).length) := by rw [← List.map_drop, ht2]
  have hdl : (cutM t).length - ((cutM t).length - (tailM t n).length) = (tailM t n).length := by omega
  repeat (first | apply ES.seq | apply ES.skip | apply ES.region | apply EL.nil | apply ES.block | apply ES.nil | apply ES.exit | apply ES.ret | apply PX.hit | (apply PX.miss; exact rfl) | apply PX.then_x | apply PX.then_r | apply PX.block_n | apply PX.block_r | refine PX.then_n (e := .normal) ?_)
  refine EL.move rfl rfl rfl ?_
  refine EL.eqlI rfl rfl rfl rfl ?_
  refine EL.move rfl rfl rfl ?_
  refine EL.rew (d := 60) (v' := .bool true) rfl (congrArg Value.bool (decide_eq_true rfl)) ?_
  refine EL.move rfl rfl rfl ?_
  refine EL.eqlI rfl rfl rfl rfl ?_
  refine EL.pickT rfl rfl rfl rfl ?_
  refine EL.move rfl rfl rfl ?_
  refine EL.rew (d := 64) (v' := .bool true) rfl (congrArg Value.bool (decide_eq_true rfl)) ?_
  refine EL.move rfl rfl rfl ?_
  refine EL.move rfl rfl rfl ?_
  refine EL.add1 (m := 1 + a.count 10) rfl rfl rfl rfl (by omega) ?_
  refine EL.eqlI rfl rfl rfl rfl ?_
  refine EL.pickT rfl rfl rfl rfl ?_
  refine EL.move rfl rfl rfl ?_
  refine EL.rew (d := 70) (v' := .bool true) rfl (ieT _) ?_
  refine EL.move rfl rfl rfl ?_
  refine EL.lenL rfl rfl rfl rfl rfl ?_
  refine EL.move rfl rfl rfl ?_
  refine EL.eqlI rfl rfl rfl rfl ?_
  refine EL.pickT rfl rfl rfl rfl ?_
  refine EL.move rfl rfl rfl ?_
  refine EL.rew (d := 76) (v' := .bool true) rfl (ieT _) ?_
  refine EL.move rfl rfl rfl ?_
  refine EL.move rfl rfl rfl ?_
  refine EL.move rfl rfl rfl ?_
  refine EL.lenL rfl rfl rfl rfl rfl ?_
  refine EL.move rfl rfl rfl ?_
  refine EL.subN rfl rfl rfl rfl rfl (by omega) (by omega) ?_
  (refine EL.sliceLo rfl rfl rfl rfl rfl rfl rfl rfl (by omega) hfm.2.1 (fun ad7 h7 => ?_); refine EL.rew (d := 83) rfl (by rw [hdl]) ?_)
  refine EL.callPw rfl rfl rfl ent12 rfl (fun w hs => same_eq ad6 cap6 (tailM t n) ad7 _ (by omega) w (Rd.row hs (by repeat (first | exact Mem.here _ _ | apply Mem.there)) (by decide)) (by rw [htl2]; exact Rd.sliceLo (Rd.row (ad := ad4) (cap := cap4) (n := (cutM t).length) hs (by repeat (first | exact Mem.here _ _ | apply Mem.there)) (by decide)) (by simp) h7)) ?_
  refine EL.pickT rfl rfl rfl rfl ?_
  refine EL.assign rfl rfl rfl ?_
  repeat (first | apply ES.seq | apply ES.skip | apply ES.region | apply EL.nil | apply ES.block | apply ES.nil | apply ES.exit | apply ES.ret | apply PX.hit | (apply PX.miss; exact rfl) | apply PX.then_x | apply PX.then_r | apply PX.block_n | apply PX.block_r | refine PX.then_n (e := .normal) ?_)
  exact PX.ret rfl Try.results7 (.cons (.tmp rfl) .nil) (fun w hs => ⟨(), rfl, hs.ent (.nil _)⟩)
theorem linesSplit_lifted (os : Os) (started : os.Started) (H : Type) (enc : TypeId × Value → H) (F : Stop.Interp) :
    ReturnsInHanded {} Try.checked os 7 .any ((Rows.OpenSpec.upto Rows.linesSplitSpec).pre6 enc Try.prog Try.f7 Rows.linesSplitUptoRow.domain false) (((Rows.OpenSpec.upto Rows.linesSplitSpec).at F).post enc Try.prog Try.f7 false true false false) := by
  refine returnsInHanded_of_cond (C := Try.checked) (s := (Rows.OpenSpec.upto Rows.linesSplitSpec)) (k := Rows.uptoSmall) rfl own started (by kernel_rfl) Try.func7
    (OpenSpec.witness (enc := enc) (C := Try.checked) (s := (Rows.OpenSpec.upto Rows.linesSplitSpec)) (k := Rows.uptoSmall) rfl false ⟨#[], #[.string ⟨#[]⟩, .string ⟨#[]⟩, .int .i64 0], []⟩ 8 (by kernel_rfl) (by kernel_rfl) (by kernel_rfl)
      (x := ([.lit (.string []), .lit (.string []), .lit (.int .i64 0)], [], [])) (by kernel_rfl) rfl (by kernel_rfl)) ?_
  intro W base args ds gs before hval0 hW _ hk _
  have hval : ∀ (j : Nat) t v, Try.f7.params[j]? = some t → args[j]? = some v → Value.okWide Try.prog W .any base t v := hval0
  have hW1 : DataW.Whole enc Try.prog Try.f7.params.toList Rows.linesSplitSpec.vars false W args.toList ds gs before := hW
  have hW' := hW1
  obtain ⟨p, q, hA0, hV, rfl, hfz, hnd⟩ := hW1
  have hA : DataW.TrodAll enc Try.prog W 0 (fun _ => true) true Try.f7.params.toList args.toList ds p := hA0
  rw [Try.params7] at hA hval
  obtain ⟨v0, vs0, d0, ds0, p0, q0, hargs0, rfl, rfl, h0, r0⟩ := trodAll_cons hA
  obtain ⟨v1, vs1, d1, ds1, p1, q1, hargs1, rfl, rfl, h1, r1⟩ := trodAll_cons r0
  obtain ⟨v2, vs2, d2, ds2, p2, q2, hargs2, rfl, rfl, h2, r2⟩ := trodAll_cons r1
  obtain ⟨rfl, rfl, rfl⟩ := trodAll_nil r2
  subst hargs1 hargs2
  obtain rfl : args = #[v0, v1, v2] := by cases args; simp_all
  obtain ⟨rfl, rfl⟩ := trodVars_none hV
  obtain ⟨l0, rfl, rfl⟩ := open_sv Try.underlying9 (hval 0 9 v0 rfl rfl) h0
  obtain ⟨l1, rfl, rfl⟩ := open_sv Try.underlying9 (hval 1 9 v1 rfl rfl) h1
  obtain ⟨n2, rfl, rfl, hnl2, hnh2⟩ := open_iv Try.underlying3 (hval 2 3 v2 rfl rfl) h2
  have hb := of_decide_eq_true hk
  simp only [List.append_nil, Rows.uptoBulkAll, Rows.uptoBulk] at hb
  have hl0 : l0.length ≤ 1048576 := by omega
  have hl1 : l1.length ≤ 1048576 := by omega
  refine (lawSplit_c l0 l1 n2 (by omega) (by omega) hnl2 hnh2 W).mono fun e W' ⟨_, he, hs⟩ => ⟨_, he, ?_⟩
  exact law_true (s := Rows.linesSplitSpec) laidOut rfl Try.underlying4 (by kernel_rfl) rfl false rfl rfl rfl hW' hs.below
theorem linesSplit_holds : Rows.LinesSplitUptoSaid :=
  OpenClaim.holds_of_cond 7 Try.f7 rfl rfl rfl rfl rfl rfl rfl ⟨rfl, rfl, rfl, rfl, rfl⟩ rfl rfl rfl rfl rfl (by kernel_rfl) Try.func7 (by kernel_rfl)
    (of_decide_eq_true (by kernel_rfl)) (by unfold Func.isWrapper; first | (rw [if_pos (by decide +kernel)]; kernel_rfl) | (rw [if_neg (by decide +kernel)]; exact ⟨rfl, rfl⟩))
    (fun os started H enc _ F => linesSplit_lifted os started H enc F)
end Go.Proofs.Ytcaphghkflffgaa
