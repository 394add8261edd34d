/- Layer 1 (lines): the laws LinesCuts, LinesTells, LinesStops. -/
import Derived.Test.YtcaphghkflffgaaNe
import Derived.Test.YtcaphghkflffgaaSlaw2
namespace Go.Proofs.Ytcaphghkflffgaa
open Go.ChangeShapes Go.WideShapes Go.ChangeAt
open Go Go.RowKit Sl
set_option maxRecDepth 100000
set_option maxHeartbeats 8000000
set_option linter.unusedVariables false
set_option linter.unusedSimpArgs false
attribute [local irreducible] ES EL PX wps

theorem all_m1 (t : List UInt8) (ht : t.length ≤ 1073741824) (w : World) : Pure Try.prog 10 #[Sv t, Iv (-1)] (fun x : Option Addr × Nat => .tuple #[.slice x.1 (cutM t).length x.2, .bool true]) (fun x => [HA.row (.slice x.1 (cutM t).length x.2) 9 1 (cutM t).length ((cutM t).map Sv)]) w := allLaw_c t (-1) ht w
theorem seT (a : List UInt8) : Value.bool (decide (a = a)) = .bool true := congrArg Value.bool (decide_eq_true rfl)
theorem ieT (a : Int) : Value.bool (decide (a = a)) = .bool true := congrArg Value.bool (decide_eq_true rfl)
theorem lawCuts_c (t : List UInt8) (ht : t.length ≤ 1073741824) (w : World) : Pure Try.prog 3 #[Sv t] (fun _ : Unit => .bool true) (fun _ => []) w := by
  have hcl := cutM_len t
  refine calls_of_ES TB Try.func3 rfl _ Try.ntmps3 rfl (Sat.start w) ?_
  repeat (first | apply ES.seq | apply ES.skip | apply ES.region | apply EL.nil | apply ES.block | apply ES.nil | apply ES.exit | apply ES.ret | apply PX.hit | (apply PX.miss; exact rfl) | apply PX.then_x | apply PX.then_r | apply PX.block_n | apply PX.block_r | refine PX.then_n (e := .normal) ?_)
  refine EL.assign rfl rfl rfl ?_
  repeat (first | apply ES.seq | apply ES.skip | apply ES.region | apply EL.nil | apply ES.block | apply ES.nil | apply ES.exit | apply ES.ret | apply PX.hit | (apply PX.miss; exact rfl) | apply PX.then_x | apply PX.then_r | apply PX.block_n | apply PX.block_r | refine PX.then_n (e := .normal) ?_)
  refine EL.move rfl rfl rfl ?_
  (refine EL.callX rfl rfl rfl ent10 rfl (all_m1 t ht) ?_; rintro ⟨ad, cap⟩)
  refine EL.move rfl rfl rfl ?_
  refine EL.extract rfl rfl rfl rfl ?_
  refine EL.extract rfl rfl rfl rfl ?_
  refine EL.assign rfl rfl rfl ?_
  refine EL.assign rfl rfl rfl ?_
  repeat (first | apply ES.seq | apply ES.skip | apply ES.region | apply EL.nil | apply ES.block | apply ES.nil | apply ES.exit | apply ES.ret | apply PX.hit | (apply PX.miss; exact rfl) | apply PX.then_x | apply PX.then_r | apply PX.block_n | apply PX.block_r | refine PX.then_n (e := .normal) ?_)
  repeat (first | apply ES.seq | apply ES.skip | apply ES.region | apply EL.nil | apply ES.block | apply ES.nil | apply ES.exit | apply ES.ret | apply PX.hit | (apply PX.miss; exact rfl) | apply PX.then_x | apply PX.then_r | apply PX.block_n | apply PX.block_r | refine PX.then_n (e := .normal) ?_)
  refine EL.callP rfl rfl rfl ent11 rfl awake_c ?_
  refine EL.move rfl rfl rfl ?_
  refine EL.rew (d := 11) (v' := .bool true) rfl (by first | rfl | (decide) | (simp)) ?_
  refine EL.move rfl rfl rfl ?_
  refine EL.pickT rfl rfl rfl rfl ?_
  refine EL.move rfl rfl rfl ?_
  refine EL.rew (d := 14) (v' := .bool true) rfl (by first | rfl | (decide) | (simp)) ?_
  refine EL.move rfl rfl rfl ?_
  refine EL.move rfl rfl rfl ?_
  (refine EL.callX rfl rfl rfl ent13 rfl (rcut_c t ht) ?_; rintro ⟨ad2, cap2⟩)
  refine EL.callPw rfl rfl rfl ent12 rfl (fun w hs => same_eq _ _ (cutM t) _ _ (by omega) w (Rd.row hs (by repeat (first | exact Mem.here _ _ | apply Mem.there)) (by decide)) (Rd.row hs (by repeat (first | exact Mem.here _ _ | apply Mem.there)) (by decide))) ?_
  refine EL.pickT rfl rfl rfl rfl ?_
  refine EL.move rfl rfl rfl ?_
  refine EL.rew (d := 20) (v' := .bool true) rfl (by first | rfl | (decide) | (simp)) ?_
  refine EL.move rfl rfl rfl ?_
  (refine EL.callX rfl rfl rfl ent14 rfl (lcut_c t ht) ?_; rintro ⟨ad3, cap3⟩)
  refine EL.move rfl rfl rfl ?_
  (refine EL.callX rfl rfl rfl ent13 rfl (rcut_c t ht) ?_; rintro ⟨ad2, cap2⟩)
  refine EL.callPw rfl rfl rfl ent12 rfl (fun w hs => same_eq ad3 cap3 (cutM t) ad2 cap2 (by omega) w (Rd.row hs (by repeat (first | exact Mem.here _ _ | apply Mem.there)) (by decide)) (Rd.row hs (by repeat (first | exact Mem.here _ _ | apply Mem.there)) (by decide))) ?_
  refine EL.pickT rfl rfl rfl rfl ?_
  refine EL.assign rfl rfl rfl ?_
  repeat (first | apply ES.seq | apply ES.skip | apply ES.region | apply EL.nil | apply ES.block | apply ES.nil | apply ES.exit | apply ES.ret | apply PX.hit | (apply PX.miss; exact rfl) | apply PX.then_x | apply PX.then_r | apply PX.block_n | apply PX.block_r | refine PX.then_n (e := .normal) ?_)
  exact PX.ret rfl Try.results3 (.cons (.tmp rfl) .nil) (fun w hs => ⟨(), rfl, hs.ent (.nil _)⟩)
theorem linesCuts_lifted (os : Os) (started : os.Started) (H : Type) (enc : TypeId × Value → H) (F : Stop.Interp) :
    ReturnsInHanded {} Try.checked os 3 .any ((Rows.OpenSpec.upto Rows.linesCutsSpec).pre6 enc Try.prog Try.f3 Rows.linesCutsUptoRow.domain false) (((Rows.OpenSpec.upto Rows.linesCutsSpec).at F).post enc Try.prog Try.f3 false true false false) := by
  refine returnsInHanded_of_cond (C := Try.checked) (s := (Rows.OpenSpec.upto Rows.linesCutsSpec)) (k := Rows.uptoSmall) rfl own started (by kernel_rfl) Try.func3
    (OpenSpec.witness (enc := enc) (C := Try.checked) (s := (Rows.OpenSpec.upto Rows.linesCutsSpec)) (k := Rows.uptoSmall) rfl false ⟨#[], #[.string ⟨#[]⟩], []⟩ 8 (by kernel_rfl) (by kernel_rfl) (by kernel_rfl)
      (x := ([.lit (.string [])], [], [])) (by kernel_rfl) rfl (by kernel_rfl)) ?_
  intro W base args ds gs before hval0 hW _ hk _
  have hval : ∀ (j : Nat) t v, Try.f3.params[j]? = some t → args[j]? = some v → Value.okWide Try.prog W .any base t v := hval0
  have hW1 : DataW.Whole enc Try.prog Try.f3.params.toList Rows.linesCutsSpec.vars false W args.toList ds gs before := hW
  have hW' := hW1
  obtain ⟨p, q, hA0, hV, rfl, hfz, hnd⟩ := hW1
  have hA : DataW.TrodAll enc Try.prog W 0 (fun _ => true) true Try.f3.params.toList args.toList ds p := hA0
  rw [Try.params3] at hA hval
  obtain ⟨v0, vs0, d0, ds0, p0, q0, hargs0, rfl, rfl, h0, r0⟩ := trodAll_cons hA
  obtain ⟨rfl, rfl, rfl⟩ := trodAll_nil r0
  obtain rfl : args = #[v0] := by cases args; simp_all
  obtain ⟨rfl, rfl⟩ := trodVars_none hV
  obtain ⟨l0, rfl, rfl⟩ := open_sv Try.underlying9 (hval 0 9 v0 rfl rfl) h0
  have hb := of_decide_eq_true hk
  simp only [List.append_nil, Rows.uptoBulkAll, Rows.uptoBulk] at hb
  have hl0 : l0.length ≤ 1048576 := by omega
  refine (lawCuts_c l0 (by omega) W).mono fun e W' ⟨_, he, hs⟩ => ⟨_, he, ?_⟩
  exact law_true (s := Rows.linesCutsSpec) laidOut rfl Try.underlying4 (by kernel_rfl) rfl false rfl rfl rfl hW' hs.below
theorem linesCuts_holds : Rows.LinesCutsUptoSaid :=
  OpenClaim.holds_of_cond 3 Try.f3 rfl rfl rfl rfl rfl rfl rfl ⟨rfl, rfl, rfl, rfl, rfl⟩ rfl rfl rfl rfl rfl (by kernel_rfl) Try.func3 (by kernel_rfl)
    (of_decide_eq_true (by kernel_rfl)) (by unfold Func.isWrapper; first | (rw [if_pos (by decide +kernel)]; kernel_rfl) | (rw [if_neg (by decide +kernel)]; exact ⟨rfl, rfl⟩))
    (fun os started H enc _ F => linesCuts_lifted os started H enc F)
theorem lawTells_c (ad : Option Addr) (cap : Nat) (ls : LL) (t : List UInt8) (p n : Int) (hb : ls.length + (ls.map List.length).sum ≤ 1073741824) (ht : t.length ≤ 1073741824) (hn1 : -9223372036854775808 ≤ n) (hn2 : n ≤ 9223372036854775807) (w : World) (hrd : Rd w w.heap.size ad (ls.map Sv)) :
    Pure Try.prog 4 #[.slice ad ls.length cap, Sv t, Iv p, Iv n] (fun _ : Unit => .bool true) (fun _ => []) w := by
  have hcl := cutM_len t
  have htl : (tailM t n).length ≤ (cutM t).length := by unfold tailM; split; simp; rw [List.length_drop]; omega
  refine calls_of_ES TB Try.func4 rfl _ Try.ntmps4 rfl (Sat.start w) ?_
  repeat (first | apply ES.seq | apply ES.skip | apply ES.region | apply EL.nil | apply ES.block | apply ES.nil | apply ES.exit | apply ES.ret | apply PX.hit | (apply PX.miss; exact rfl) | apply PX.then_x | apply PX.then_r | apply PX.block_n | apply PX.block_r | refine PX.then_n (e := .normal) ?_)
  refine EL.assign rfl rfl rfl ?_
  repeat (first | apply ES.seq | apply ES.skip | apply ES.region | apply EL.nil | apply ES.block | apply ES.nil | apply ES.exit | apply ES.ret | apply PX.hit | (apply PX.miss; exact rfl) | apply PX.then_x | apply PX.then_r | apply PX.block_n | apply PX.block_r | refine PX.then_n (e := .normal) ?_)
  refine EL.move rfl rfl rfl ?_
  refine EL.move rfl rfl rfl ?_
  refine EL.callP rfl rfl rfl ent15 rfl (number_c t p ht) ?_
  refine EL.move rfl rfl rfl ?_
  refine EL.extract rfl rfl rfl rfl ?_
  refine EL.extract rfl rfl rfl rfl ?_
  refine EL.assign rfl rfl rfl ?_
  refine EL.assign rfl rfl rfl ?_
  repeat (first | apply ES.seq | apply ES.skip | apply ES.region | apply EL.nil | apply ES.block | apply ES.nil | apply ES.exit | apply ES.ret | apply PX.hit | (apply PX.miss; exact rfl) | apply PX.then_x | apply PX.then_r | apply PX.block_n | apply PX.block_r | refine PX.then_n (e := .normal) ?_)
  refine EL.move rfl rfl rfl ?_
  refine EL.move rfl rfl rfl ?_
  refine EL.callP rfl rfl rfl ent16 rfl (rnumber_c t p ht) ?_
  refine EL.move rfl rfl rfl ?_
  refine EL.extract rfl rfl rfl rfl ?_
  refine EL.extract rfl rfl rfl rfl ?_
  refine EL.assign rfl rfl rfl ?_
  refine EL.assign rfl rfl rfl ?_
  repeat (first | apply ES.seq | apply ES.skip | apply ES.region | apply EL.nil | apply ES.block | apply ES.nil | apply ES.exit | apply ES.ret | apply PX.hit | (apply PX.miss; exact rfl) | apply PX.then_x | apply PX.then_r | apply PX.block_n | apply PX.block_r | refine PX.then_n (e := .normal) ?_)
  repeat (first | apply ES.seq | apply ES.skip | apply ES.region | apply EL.nil | apply ES.block | apply ES.nil | apply ES.exit | apply ES.ret | apply PX.hit | (apply PX.miss; exact rfl) | apply PX.then_x | apply PX.then_r | apply PX.block_n | apply PX.block_r | refine PX.then_n (e := .normal) ?_)
  refine EL.callP rfl rfl rfl ent11 rfl awake_c ?_
  refine EL.move rfl rfl rfl ?_
  refine EL.rew (d := 26) (v' := .bool true) rfl (by first | rfl | (decide) | (simp)) ?_
  refine EL.move rfl rfl rfl ?_
  refine EL.callPw rfl rfl rfl ent17 rfl (fun w' hs => join_c ad cap ls hb w' (hrd.sat hs)) ?_
  refine EL.move rfl rfl rfl ?_
  refine EL.callPw rfl rfl rfl ent18 rfl (fun w' hs => rjoin_c ad cap ls hb w' (hrd.sat hs)) ?_
  refine EL.eqlS rfl rfl rfl rfl ?_
  refine EL.pickT rfl rfl rfl rfl ?_
  refine EL.move rfl rfl rfl ?_
  refine EL.rew (d := 33) (v' := .bool true) rfl (seT _) ?_
  refine EL.move rfl rfl rfl ?_
  refine EL.move rfl rfl rfl ?_
  refine EL.eqlI rfl rfl rfl rfl ?_
  refine EL.pickT rfl rfl rfl rfl ?_
  refine EL.move rfl rfl rfl ?_
  refine EL.rew (d := 38) (v' := .bool true) rfl (ieT _) ?_
  refine EL.move rfl rfl rfl ?_
  refine EL.move rfl rfl rfl ?_
  refine EL.eqlI rfl rfl rfl rfl ?_
  refine EL.pickT rfl rfl rfl rfl ?_
  refine EL.move rfl rfl rfl ?_
  refine EL.rew (d := 43) (v' := .bool true) rfl (ieT _) ?_
  refine EL.move rfl rfl rfl ?_
  refine EL.move rfl rfl rfl ?_
  (refine EL.callX rfl rfl rfl ent19 rfl (tail_c t n ht) ?_; rintro ⟨ad2, cap2⟩)
  refine EL.move rfl rfl rfl ?_
  refine EL.move rfl rfl rfl ?_
  (refine EL.callX rfl rfl rfl ent20 rfl (rtail_c t n hn1 hn2 ht) ?_; rintro ⟨ad3, cap3⟩)
  refine EL.callPw rfl rfl rfl ent12 rfl (fun w hs => same_eq ad2 cap2 (tailM t n) ad3 cap3 (by omega) w (Rd.row hs (by repeat (first | exact Mem.here _ _ | apply Mem.there)) (by decide)) (Rd.row hs (by repeat (first | exact Mem.here _ _ | apply Mem.there)) (by decide))) ?_
  refine EL.pickT rfl rfl rfl rfl ?_
  refine EL.assign rfl rfl rfl ?_
  repeat (first | apply ES.seq | apply ES.skip | apply ES.region | apply EL.nil | apply ES.block | apply ES.nil | apply ES.exit | apply ES.ret | apply PX.hit | (apply PX.miss; exact rfl) | apply PX.then_x | apply PX.then_r | apply PX.block_n | apply PX.block_r | refine PX.then_n (e := .normal) ?_)
  exact PX.ret rfl Try.results4 (.cons (.tmp rfl) .nil) (fun w hs => ⟨(), rfl, hs.ent (.nil _)⟩)
theorem linesTells_lifted (os : Os) (started : os.Started) (H : Type) (enc : TypeId × Value → H) (F : Stop.Interp) :
    ReturnsInHanded {} Try.checked os 4 .any ((Rows.OpenSpec.upto Rows.linesTellsSpec).pre6 enc Try.prog Try.f4 Rows.linesTellsUptoRow.domain false) (((Rows.OpenSpec.upto Rows.linesTellsSpec).at F).post enc Try.prog Try.f4 false true false false) := by
  refine returnsInHanded_of_cond (C := Try.checked) (s := (Rows.OpenSpec.upto Rows.linesTellsSpec)) (k := Rows.uptoSmall) rfl own started (by kernel_rfl) Try.func4
    (OpenSpec.witness (enc := enc) (C := Try.checked) (s := (Rows.OpenSpec.upto Rows.linesTellsSpec)) (k := Rows.uptoSmall) rfl false ⟨#[], #[.slice none 0 0, .string ⟨#[]⟩, .int .i64 0, .int .i64 0], []⟩ 8 (by kernel_rfl) (by kernel_rfl) (by kernel_rfl)
      (x := ([.nil, .lit (.string []), .lit (.int .i64 0), .lit (.int .i64 0)], [], [])) (by kernel_rfl) rfl (by kernel_rfl)) ?_
  intro W base args ds gs before hval0 hW _ hk _
  have hval : ∀ (j : Nat) t v, Try.f4.params[j]? = some t → args[j]? = some v → Value.okWide Try.prog W .any base t v := hval0
  have hW1 : DataW.Whole enc Try.prog Try.f4.params.toList Rows.linesTellsSpec.vars false W args.toList ds gs before := hW
  have hW' := hW1
  obtain ⟨p, q, hA0, hV, rfl, hfz, hnd⟩ := hW1
  have hA : DataW.TrodAll enc Try.prog W 0 (fun _ => true) true Try.f4.params.toList args.toList ds p := hA0
  rw [Try.params4] at hA hval
  obtain ⟨v0, vs0, d0, ds0, p0, q0, hargs0, rfl, rfl, h0, r0⟩ := trodAll_cons hA
  obtain ⟨v1, vs1, d1, ds1, p1, q1, hargs1, rfl, rfl, h1, r1⟩ := trodAll_cons r0
  obtain ⟨v2, vs2, d2, ds2, p2, q2, hargs2, rfl, rfl, h2, r2⟩ := trodAll_cons r1
  obtain ⟨v3, vs3, d3, ds3, p3, q3, hargs3, rfl, rfl, h3, r3⟩ := trodAll_cons r2
  obtain ⟨rfl, rfl, rfl⟩ := trodAll_nil r3
  subst hargs1 hargs2 hargs3
  obtain rfl : args = #[v0, v1, v2, v3] := by cases args; simp_all
  obtain ⟨rfl, rfl⟩ := trodVars_none hV
  obtain ⟨ad0, cap0, xs0, rest0, rfl, hrd0, hd0⟩ := open_svs Try.underlying22 Try.underlying9 (by kernel_rfl) (hval 0 22 v0 rfl rfl) h0
  obtain ⟨l1, rfl, rfl⟩ := open_sv Try.underlying9 (hval 1 9 v1 rfl rfl) h1
  obtain ⟨n2, rfl, rfl, hnl2, hnh2⟩ := open_iv Try.underlying3 (hval 2 3 v2 rfl rfl) h2
  obtain ⟨n3, rfl, rfl, hnl3, hnh3⟩ := open_iv Try.underlying3 (hval 3 3 v3 rfl rfl) h3
  have hb := of_decide_eq_true hk
  simp only [List.append_nil, Rows.uptoBulkAll, Rows.uptoBulk] at hb
  have hl1 : l1.length ≤ 1048576 := by omega
  have ho0 := svs_bulk xs0 rest0 d0 hd0 (by omega)
  refine (lawTells_c ad0 cap0 xs0 l1 n2 n3 (by omega) (by omega) hnl3 hnh3 W hrd0).mono fun e W' ⟨_, he, hs⟩ => ⟨_, he, ?_⟩
  exact law_true (s := Rows.linesTellsSpec) laidOut rfl Try.underlying4 (by kernel_rfl) rfl false rfl rfl rfl hW' hs.below
theorem linesTells_holds : Rows.LinesTellsUptoSaid :=
  OpenClaim.holds_of_cond 4 Try.f4 rfl rfl rfl rfl rfl rfl rfl ⟨rfl, rfl, rfl, rfl, rfl⟩ rfl rfl rfl rfl rfl (by kernel_rfl) Try.func4 (by kernel_rfl)
    (of_decide_eq_true (by kernel_rfl)) (by unfold Func.isWrapper; first | (rw [if_pos (by decide +kernel)]; kernel_rfl) | (rw [if_neg (by decide +kernel)]; exact ⟨rfl, rfl⟩))
    (fun os started H enc _ F => linesTells_lifted os started H enc F)
end Go.Proofs.Ytcaphghkflffgaa
