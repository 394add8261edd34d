/- The law BackmatchTurned returns true at every input; no condition. -/
import Derived.Test.YtblpgpgbnlhjlaaZo7
namespace Go.Proofs.Ytblpgpgbnlhjlaa
open Go.ChangeShapes Go.WideShapes Go.ChangeAt
open Go Go.RowKit Sl
set_option maxRecDepth 100000
set_option maxHeartbeats 8000000
set_option linter.unusedVariables false
set_option linter.unusedSimpArgs false
attribute [local irreducible] ES EL PX wps
theorem byte_same (b c : UInt8) : ((b.toNat : Nat) : Int) = ((c.toNat : Nat) : Int) ↔ b = c := ⟨fun h => UInt8.toNat_inj.1 (by omega), fun h => by rw [h]⟩
theorem turned_c (l0 : List UInt8) (w : World) (hG : GR w w.heap.size) : Pure Try.prog 8 #[Sv l0] (fun _ : Unit => .bool true) (fun _ => []) w := by
  refine calls_of_ES TB Try.func8 rfl _ Try.ntmps8 rfl (Sat.start w) ?_
  refine .go ?_; repeat constructor
  refine EL.assign rfl rfl rfl ?_
  refine .go ?_; repeat constructor
  refine EL.callPw rfl rfl rfl ent20 rfl (fun w hs => awake10_c w (GR.sat hG hs)) ?_
  refine EL.not rfl rfl rfl ?_
  refine .go ?_; repeat constructor
  refine ES.condF rfl ?_
  obtain ⟨h, hh⟩ : ∃ h, h = l0.take (min l0.length 7) := ⟨_, rfl⟩
  have hhl : h.length ≤ 7 := by rw [hh, List.length_take]; omega
  refine .go ?_; repeat constructor
  refine EL.move rfl rfl rfl ?_
  refine EL.move rfl rfl rfl ?_
  refine EL.lenS rfl rfl rfl rfl rfl ?_
  refine EL.ofRV (RV.minNat (n := 7) rfl rfl) rfl rfl rfl (by intro c h; cases h) ?_
  (refine EL.sliceS (m := 0) (n := min l0.length 7) rfl rfl rfl rfl rfl rfl ⟨_, rfl⟩ (Nat.zero_le _) (by omega) ?_; refine EL.rew (d := 13) (v' := Sv h) rfl (congrArg Sv ((cut0 _ _).trans hh.symm)) ?_)
  refine EL.assign rfl rfl rfl ?_
  refine .go ?_; repeat constructor
  have hc := fun w hG => backMatch_c 500 tuText h 0 _ (tu_back hhl) (by decide) w hG
  by_cases ht : tuOk h
  · rw [if_pos ht] at hc
    obtain ⟨h5, h04, h13⟩ := ht
    refine .go ?_; repeat constructor
    refine EL.move rfl rfl rfl ?_
    (refine EL.callXw rfl rfl rfl ent21 rfl (fun w hs => hc w (GR.sat hG hs)) ?_; intro x1)
    refine EL.move rfl rfl rfl ?_
    refine EL.extract rfl rfl rfl rfl ?_
    refine EL.extract rfl rfl rfl rfl ?_
    refine EL.extract rfl rfl rfl rfl ?_
    refine EL.assign rfl rfl rfl ?_
    refine EL.assign rfl rfl rfl ?_
    refine EL.assign rfl rfl rfl ?_
    refine .go ?_; repeat constructor
    have e1 := byte_same (h.getD 0 0) (h.getD 4 0)
    have e2 := byte_same (h.getD 1 0) (h.getD 3 0)
    refine ES.draw (X := Unit) (fun _ => [(3, .slice x1.1 3 x1.2), (4, .bool true), (5, Iv 0), (6, .bool true)]) (fun _ => PRow x1.1 x1.2 [(0, 5), (0, 1), (1, 2)] :: []) (PRow x1.1 x1.2 [(0, 5), (0, 1), (1, 2)] :: []) mixed (.i (by repeat constructor)) ?_ (fun _ => ?_)
    · refine ED.take 0 rfl (by decide +kernel) CutX.no_panic (by decide +kernel) rfl rfl rfl (RV.move rfl) ?_
      refine ED.take 1 rfl (by decide +kernel) CutX.no_panic (by decide +kernel) rfl rfl rfl (RV.lenS rfl rfl rfl) ?_
      refine ED.take 2 rfl (by decide +kernel) CutX.no_panic (by decide +kernel) rfl rfl rfl (RV.eqlI rfl rfl) ?_
      refine ED.take 3 rfl (by decide +kernel) CutX.no_panic (by decide +kernel) rfl rfl rfl (RV.move rfl) ?_
      refine ED.rew (d := 23) (v' := .bool true) rfl ((by rw [decide_eq_true (by omega)])) ?_
      refine ED.take 4 rfl (by decide +kernel) CutX.no_panic (by decide +kernel) rfl rfl rfl (RV.move rfl) ?_
      refine ED.take 5 rfl (by decide +kernel) CutX.no_panic (by decide +kernel) rfl rfl rfl (RV.indexSN (i := 0) rfl rfl rfl rfl (by omega)) ?_
      refine ED.take 6 rfl (by decide +kernel) CutX.no_panic (by decide +kernel) rfl rfl rfl (RV.move rfl) ?_
      refine ED.take 7 rfl (by decide +kernel) CutX.no_panic (by decide +kernel) rfl rfl rfl (RV.indexSN (i := 4) rfl rfl rfl rfl (by omega)) ?_
      refine ED.take 8 rfl (by decide +kernel) CutX.no_panic (by decide +kernel) rfl rfl rfl (RV.eqlI rfl rfl) ?_
      refine ED.take 9 rfl (by decide +kernel) CutX.no_panic (by decide +kernel) rfl rfl rfl (RV.pickT rfl rfl) ?_
      refine ED.take 10 rfl (by decide +kernel) CutX.no_panic (by decide +kernel) rfl rfl rfl (RV.move rfl) ?_
      refine ED.rew (d := 30) (v' := .bool true) rfl ((by rw [decide_eq_true (e1.2 h04)])) ?_
      refine ED.take 11 rfl (by decide +kernel) CutX.no_panic (by decide +kernel) rfl rfl rfl (RV.move rfl) ?_
      refine ED.take 12 rfl (by decide +kernel) CutX.no_panic (by decide +kernel) rfl rfl rfl (RV.indexSN (i := 1) rfl rfl rfl rfl (by omega)) ?_
      refine ED.take 13 rfl (by decide +kernel) CutX.no_panic (by decide +kernel) rfl rfl rfl (RV.move rfl) ?_
      refine ED.take 14 rfl (by decide +kernel) CutX.no_panic (by decide +kernel) rfl rfl rfl (RV.indexSN (i := 3) rfl rfl rfl rfl (by omega)) ?_
      refine ED.take 15 rfl (by decide +kernel) CutX.no_panic (by decide +kernel) rfl rfl rfl (RV.eqlI rfl rfl) ?_
      refine ED.take 16 rfl (by decide +kernel) CutX.no_panic (by decide +kernel) rfl rfl rfl (RV.pickT rfl rfl) ?_
      refine ED.take 17 rfl (by decide +kernel) CutX.no_panic (by decide +kernel) rfl rfl rfl (RV.assign rfl) ?_
      refine ED.done (by decide +kernel) ?_
      exact PX.cutX () ⟨rfl, rfl, rfl, getA rfl (congrArg Value.bool (decide_eq_true (e2.2 h13))), trivial⟩ (.i (by repeat constructor))
    refine .go ?_; repeat constructor
    refine EL.move rfl rfl rfl ?_
    refine EL.neqI rfl rfl rfl rfl ?_
    refine EL.move rfl rfl rfl ?_
    refine EL.rew (d := 39) (v' := .bool false) rfl (by first | rfl | (decide) | (simp)) ?_
    refine EL.move rfl rfl rfl ?_
    refine EL.move rfl rfl rfl ?_
    refine EL.neqB rfl rfl rfl rfl rfl rfl ?_
    refine EL.pickF rfl rfl rfl rfl ?_
    refine .go ?_; repeat constructor
    refine ES.condF rfl ?_
    refine .go ?_; repeat constructor
    refine EL.move rfl rfl rfl ?_
    refine EL.not rfl rfl rfl ?_
    refine EL.move rfl rfl rfl ?_
    refine EL.rew (d := 46) (v' := .bool false) rfl (by first | rfl | (decide) | (simp)) ?_
    refine EL.move rfl rfl rfl ?_
    (apply EL.build2; exact rfl; exact rfl; exact rfl; exact rfl; exact rfl; exact rfl; exact rfl; exact rfl; exact rfl; exact rfl)
    (apply EL.build2; exact rfl; exact rfl; exact rfl; exact rfl; exact rfl; exact rfl; exact rfl; exact rfl; exact rfl; exact rfl)
    (apply EL.build2; exact rfl; exact rfl; exact rfl; exact rfl; exact rfl; exact rfl; exact rfl; exact rfl; exact rfl; exact rfl)
    (refine EL.buildSliceC (spsC [(0, 5), (0, 1), (1, 2)]).toArray rfl rfl rfl rfl rfl rfl (by kernel_rfl) rfl rfl rfl rfl ?_; intro b51)
    refine EL.callPw rfl rfl rfl ent19 rfl (fun w hs => same08_r [(0, 5), (0, 1), (1, 2)] _ _ _ _ (by decide) w (Rd.row hs (by repeat constructor) (by decide)) (Rd.row hs (by repeat constructor) (by decide))) ?_
    refine EL.pickF rfl rfl rfl rfl ?_
    refine EL.assign rfl rfl rfl ?_
    refine .go ?_; repeat constructor
    exact PX.ret rfl Try.results8 (.cons (.tmp rfl) .nil) (fun w hs => ⟨(), rfl, hs.ent (.nil _)⟩)
  · rw [if_neg ht] at hc
    refine .go ?_; repeat constructor
    refine EL.move rfl rfl rfl ?_
    (refine EL.callXw rfl rfl rfl ent21 rfl (fun w hs => hc w (GR.sat hG hs)) ?_; intro x1)
    refine EL.move rfl rfl rfl ?_
    refine EL.extract rfl rfl rfl rfl ?_
    refine EL.extract rfl rfl rfl rfl ?_
    refine EL.extract rfl rfl rfl rfl ?_
    refine EL.assign rfl rfl rfl ?_
    refine EL.assign rfl rfl rfl ?_
    refine EL.assign rfl rfl rfl ?_
    refine .go ?_; repeat constructor
    have e1 := byte_same (h.getD 0 0) (h.getD 4 0)
    have e2 := byte_same (h.getD 1 0) (h.getD 3 0)
    refine ES.draw (X := Unit) (fun _ => [(3, .slice x1.1 0 x1.2), (4, .bool false), (5, Iv 0), (6, .bool false)]) (fun _ => []) [] mixed (.i (by repeat constructor)) ?_ (fun _ => ?_)
    · refine ED.take 0 rfl (by decide +kernel) CutX.no_panic (by decide +kernel) rfl rfl rfl (RV.move rfl) ?_
      refine ED.take 1 rfl (by decide +kernel) CutX.no_panic (by decide +kernel) rfl rfl rfl (RV.lenS rfl rfl rfl) ?_
      refine ED.take 2 rfl (by decide +kernel) CutX.no_panic (by decide +kernel) rfl rfl rfl (RV.eqlI rfl rfl) ?_
      refine ED.take 3 rfl (by decide +kernel) CutX.no_panic (by decide +kernel) rfl rfl rfl (RV.move rfl) ?_
      first | refine ED.part (d := 23) rfl (fun hp23 => ?_) (fun hp23 => ?_) | refine ED.partN (d := 23) rfl (fun hp23 => ?_) (fun hp23 => ?_) | refine ED.partB (d := 23) rfl (fun hp23 => ?_) (fun hp23 => ?_)
      · refine ED.take 4 rfl (by decide +kernel) CutX.no_panic (by decide +kernel) rfl rfl rfl (RV.move rfl) ?_
        refine ED.take 5 rfl (by decide +kernel) CutX.no_panic (by decide +kernel) rfl rfl rfl (RV.indexSN (i := 0) rfl rfl rfl rfl (by omega)) ?_
        refine ED.take 6 rfl (by decide +kernel) CutX.no_panic (by decide +kernel) rfl rfl rfl (RV.move rfl) ?_
        refine ED.take 7 rfl (by decide +kernel) CutX.no_panic (by decide +kernel) rfl rfl rfl (RV.indexSN (i := 4) rfl rfl rfl rfl (by omega)) ?_
        refine ED.take 8 rfl (by decide +kernel) CutX.no_panic (by decide +kernel) rfl rfl rfl (RV.eqlI rfl rfl) ?_
        refine ED.take 9 rfl (by decide +kernel) CutX.no_panic (by decide +kernel) rfl rfl rfl (RV.pickT rfl rfl) ?_
        refine ED.take 10 rfl (by decide +kernel) CutX.no_panic (by decide +kernel) rfl rfl rfl (RV.move rfl) ?_
        first | refine ED.part (d := 30) rfl (fun hp30 => ?_) (fun hp30 => ?_) | refine ED.partN (d := 30) rfl (fun hp30 => ?_) (fun hp30 => ?_) | refine ED.partB (d := 30) rfl (fun hp30 => ?_) (fun hp30 => ?_)
        · refine ED.take 11 rfl (by decide +kernel) CutX.no_panic (by decide +kernel) rfl rfl rfl (RV.move rfl) ?_
          refine ED.take 12 rfl (by decide +kernel) CutX.no_panic (by decide +kernel) rfl rfl rfl (RV.indexSN (i := 1) rfl rfl rfl rfl (by omega)) ?_
          refine ED.take 13 rfl (by decide +kernel) CutX.no_panic (by decide +kernel) rfl rfl rfl (RV.move rfl) ?_
          refine ED.take 14 rfl (by decide +kernel) CutX.no_panic (by decide +kernel) rfl rfl rfl (RV.indexSN (i := 3) rfl rfl rfl rfl (by omega)) ?_
          refine ED.take 15 rfl (by decide +kernel) CutX.no_panic (by decide +kernel) rfl rfl rfl (RV.eqlI rfl rfl) ?_
          refine ED.take 16 rfl (by decide +kernel) CutX.no_panic (by decide +kernel) rfl rfl rfl (RV.pickT rfl rfl) ?_
          refine ED.take 17 rfl (by decide +kernel) CutX.no_panic (by decide +kernel) rfl rfl rfl (RV.assign rfl) ?_
          refine ED.done (by decide +kernel) ?_
          exact PX.cutX () ⟨rfl, rfl, rfl, getA rfl (congrArg Value.bool (by first | rfl | (refine decide_eq_false (fun hb => ht ⟨by omega, e1.1 ?_, e2.1 hb⟩); assumption) | (rw [Bool.eq_false_iff]; intro hb; exact ht ⟨by omega, e1.1 (of_decide_eq_true hb), by simp_all⟩))), trivial⟩ (.i (by repeat constructor))
        · refine ED.pass 11 rfl (by decide +kernel) CutX.no_panic (by decide +kernel) rfl rfl rfl ?_
          refine ED.pass 12 rfl (by decide +kernel) CutX.no_panic (by decide +kernel) rfl rfl rfl ?_
          refine ED.pass 13 rfl (by decide +kernel) CutX.no_panic (by decide +kernel) rfl rfl rfl ?_
          refine ED.pass 14 rfl (by decide +kernel) CutX.no_panic (by decide +kernel) rfl rfl rfl ?_
          refine ED.pass 15 rfl (by decide +kernel) CutX.no_panic (by decide +kernel) rfl rfl rfl ?_
          refine ED.take 16 rfl (by decide +kernel) CutX.no_panic (by decide +kernel) rfl rfl rfl (RV.pickF rfl rfl) ?_
          refine ED.take 17 rfl (by decide +kernel) CutX.no_panic (by decide +kernel) rfl rfl rfl (RV.assign rfl) ?_
          refine ED.done (by decide +kernel) ?_
          exact PX.cutX () ⟨rfl, rfl, rfl, getA rfl (congrArg Value.bool (by first | rfl | (refine decide_eq_false (fun hb => ht ⟨by omega, e1.1 ?_, e2.1 hb⟩); assumption) | (rw [Bool.eq_false_iff]; intro hb; exact ht ⟨by omega, e1.1 (of_decide_eq_true hb), by simp_all⟩))), trivial⟩ (.i (by repeat constructor))
      · refine ED.pass 4 rfl (by decide +kernel) CutX.no_panic (by decide +kernel) rfl rfl rfl ?_
        refine ED.pass 5 rfl (by decide +kernel) CutX.no_panic (by decide +kernel) rfl rfl rfl ?_
        refine ED.pass 6 rfl (by decide +kernel) CutX.no_panic (by decide +kernel) rfl rfl rfl ?_
        refine ED.pass 7 rfl (by decide +kernel) CutX.no_panic (by decide +kernel) rfl rfl rfl ?_
        refine ED.pass 8 rfl (by decide +kernel) CutX.no_panic (by decide +kernel) rfl rfl rfl ?_
        refine ED.take 9 rfl (by decide +kernel) CutX.no_panic (by decide +kernel) rfl rfl rfl (RV.pickF rfl rfl) ?_
        refine ED.take 10 rfl (by decide +kernel) CutX.no_panic (by decide +kernel) rfl rfl rfl (RV.move rfl) ?_
        refine ED.pass 11 rfl (by decide +kernel) CutX.no_panic (by decide +kernel) rfl rfl rfl ?_
        refine ED.pass 12 rfl (by decide +kernel) CutX.no_panic (by decide +kernel) rfl rfl rfl ?_
        refine ED.pass 13 rfl (by decide +kernel) CutX.no_panic (by decide +kernel) rfl rfl rfl ?_
        refine ED.pass 14 rfl (by decide +kernel) CutX.no_panic (by decide +kernel) rfl rfl rfl ?_
        refine ED.pass 15 rfl (by decide +kernel) CutX.no_panic (by decide +kernel) rfl rfl rfl ?_
        refine ED.take 16 rfl (by decide +kernel) CutX.no_panic (by decide +kernel) rfl rfl rfl (RV.pickF rfl rfl) ?_
        refine ED.take 17 rfl (by decide +kernel) CutX.no_panic (by decide +kernel) rfl rfl rfl (RV.assign rfl) ?_
        refine ED.done (by decide +kernel) ?_
        exact PX.cutX () ⟨rfl, rfl, rfl, getA rfl (congrArg Value.bool (by first | rfl | (refine decide_eq_false (fun hb => ht ⟨by omega, e1.1 ?_, e2.1 hb⟩); assumption) | (rw [Bool.eq_false_iff]; intro hb; exact ht ⟨by omega, e1.1 (of_decide_eq_true hb), by simp_all⟩))), trivial⟩ (.i (by repeat constructor))
    refine .go ?_; repeat constructor
    refine EL.move rfl rfl rfl ?_
    refine EL.neqI rfl rfl rfl rfl ?_
    refine EL.move rfl rfl rfl ?_
    refine EL.rew (d := 39) (v' := .bool false) rfl (by first | rfl | (decide) | (simp)) ?_
    refine EL.move rfl rfl rfl ?_
    refine EL.move rfl rfl rfl ?_
    refine EL.neqB rfl rfl rfl rfl rfl rfl ?_
    refine EL.pickF rfl rfl rfl rfl ?_
    refine .go ?_; repeat constructor
    refine ES.condF rfl ?_
    refine .go ?_; repeat constructor
    refine EL.move rfl rfl rfl ?_
    refine EL.not rfl rfl rfl ?_
    refine EL.move rfl rfl rfl ?_
    refine EL.rew (d := 46) (v' := .bool true) rfl (by first | rfl | (decide) | (simp)) ?_
    refine EL.pass rfl rfl rfl ?_
    refine EL.pass rfl rfl rfl ?_
    refine EL.pass rfl rfl rfl ?_
    refine EL.pass rfl rfl rfl ?_
    refine EL.pass rfl rfl rfl ?_
    refine EL.pass rfl rfl rfl ?_
    refine EL.pickT rfl rfl rfl rfl ?_
    refine EL.assign rfl rfl rfl ?_
    refine .go ?_; repeat constructor
    exact PX.ret rfl Try.results8 (.cons (.tmp rfl) .nil) (fun w hs => ⟨(), rfl, hs.ent (.nil _)⟩)
theorem backmatchTurned_lifted (os : Os) (started : os.Started) (H : Type) (enc : TypeId × Value → H) :
    ReturnsInHanded {} Try.checked os 8 .any (Rows.backmatchTurnedSpec.pre6 enc Try.prog Try.f8 Rows.backmatchTurnedRow.domain false) (Rows.backmatchTurnedSpec.post enc Try.prog Try.f8 false true false false) := by
  refine returnsInHanded_of_change_shaped (C := Try.checked) own started (by kernel_rfl) Try.func8
    (ChangeSpec.witness6 (enc := enc) (C := Try.checked) false ⟨#[], #[.string ⟨#[]⟩], []⟩ 8 (by kernel_rfl) (by kernel_rfl) (by kernel_rfl) (by kernel_rfl)) ?_
  intro W base args ds gs before hval0 hW _ hsz hsh _
  have hk : (DataW.weightsEach Try.prog (Try.f8.params.toList ++ []) (ds ++ gs)).all (· ≤ reachBytes) = true := hsz
  have hval : ∀ (j : Nat) t v, Try.f8.params[j]? = some t → args[j]? = some v → Value.okWide Try.prog W .any base t v := hval0
  have hW1 : DataW.Whole enc Try.prog Try.f8.params.toList Rows.backmatchTurnedSpec.vars false W args.toList ds gs before := hW
  have hW' := hW1
  obtain ⟨p, q, hA0, hV, rfl, hfz, hnd⟩ := hW1
  have hA : DataW.TrodAll enc Try.prog W 0 (fun _ => true) true Try.f8.params.toList args.toList ds p := hA0
  rw [Try.params8] at hA hval hk
  obtain ⟨v0, vs0, d0, ds0, p0, q0, hargs0, rfl, rfl, h0, r0⟩ := trodAll_cons hA
  obtain ⟨rfl, rfl, rfl⟩ := trodAll_nil r0
  obtain rfl : args = #[v0] := by cases args; simp_all
  obtain ⟨rfl, rfl⟩ := trodVars_none hV
  obtain ⟨l0, rfl, rfl⟩ := open_sv Try.underlying9 (hval 0 9 v0 rfl rfl) h0
  simp only [List.append_nil, DataW.weightsEach, w_str, w_int, reachBytes, List.nil_append, List.append_nil, List.all_append, List.all_cons, List.all_nil, Bool.and_true, Bool.and_eq_true, decide_eq_true_eq] at hk
  have hl0 : l0.length ≤ 140737488351232 := by first | omega | exact of_decide_eq_true hk | exact of_decide_eq_true hk.1 | exact of_decide_eq_true hk.2 | exact of_decide_eq_true hk.2.1 | exact of_decide_eq_true hk.2.2 | exact of_decide_eq_true hk.2.2.1 | exact of_decide_eq_true hk.2.2.2
  refine (turned_c l0 W (GR.of hsh)).mono fun e W' ⟨_, he, hs⟩ => ⟨_, he, ?_⟩
  exact law_true (s := Rows.backmatchTurnedSpec) laidOut rfl Try.underlying4 (by kernel_rfl) rfl false rfl rfl rfl hW' hs.below
theorem backmatchTurned_holds : Rows.BackmatchTurnedSaid :=
  OpenClaim.holds_of_wide 8 Try.f8 rfl rfl rfl rfl rfl rfl rfl ⟨rfl, rfl, rfl, rfl, rfl⟩ rfl rfl rfl rfl rfl (by kernel_rfl) Try.func8 (by kernel_rfl)
    (of_decide_eq_true (by kernel_rfl)) (by unfold Func.isWrapper; first | (rw [if_pos (by decide +kernel)]; kernel_rfl) | (rw [if_neg (by decide +kernel)]; exact ⟨rfl, rfl⟩))
    (fun os started H enc _ => backmatchTurned_lifted os started H enc)
end Go.Proofs.Ytblpgpgbnlhjlaa
