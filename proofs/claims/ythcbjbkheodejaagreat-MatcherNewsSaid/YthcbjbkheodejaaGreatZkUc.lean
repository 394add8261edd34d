/- The law MatcherNews returns true at every input; no condition. -/
import Derived.Test.YthcbjbkheodejaaGreatZk7
namespace Go.Proofs.YthcbjbkheodejaaGreat
open Go.ChangeShapes Go.WideShapes Go.ChangeAt
open Go Go.RowKit Sl
set_option maxRecDepth 100000
set_option maxHeartbeats 8000000
set_option linter.unusedVariables false
set_option linter.unusedSimpArgs false
attribute [local irreducible] ES EL PX wps
theorem text_c (g : Nat) (t : List UInt8) (me : Me) (st : Int) (w0 : World) (B : Nat) : MutAt Tryz.prog 12 #[Pv g 0] [MB g t me st] (fun _ : Unit => Sv t) (fun _ => [MB g t me st]) w0 B := by
  intro R w h
  replace h : Sat w0 B (MB g t me st :: R) w := h
  refine calls_of_ES TB Tryz.func12 rfl _ Tryz.ntmps12 rfl h ?_; refine .go ?_; (repeat constructor); refine .as_ ?_; refine .go ?_; (repeat constructor); refine .mv ?_; refine EL.eqlPn rfl rfl rfl rfl rfl rfl ?_; refine .go ?_; (repeat constructor); refine ES.condF rfl ?_; refine .go ?_; (repeat constructor); refine .mv ?_; refine .nc ?_; refine .fa ?_; refine .lb ?_; refine .as_ ?_; refine .go ?_; repeat constructor
  exact PX.ret rfl Tryz.results12 (.cons (.tmp rfl) .nil) (fun w hs => ⟨(), rfl, hs.ent (.i (by repeat constructor))⟩)
theorem steps_c (g : Nat) (t : List UInt8) (me : Me) (st : Int) (w0 : World) (B : Nat) : MutAt Tryz.prog 14 #[Pv g 0] [MB g t me st] (fun _ : Unit => Iv st) (fun _ => [MB g t me st]) w0 B := by
  intro R w h
  replace h : Sat w0 B (MB g t me st :: R) w := h
  refine calls_of_ES TB Tryz.func14 rfl _ Tryz.ntmps14 rfl h ?_; refine .go ?_; (repeat constructor); refine .as_ ?_; refine .go ?_; (repeat constructor); refine .mv ?_; refine EL.eqlPn rfl rfl rfl rfl rfl rfl ?_; refine .go ?_; (repeat constructor); refine ES.condF rfl ?_; refine .go ?_; (repeat constructor); refine .mv ?_; refine .nc ?_; refine .fa ?_; refine .lb ?_; refine .as_ ?_; refine .go ?_; repeat constructor
  exact PX.ret rfl Tryz.results14 (.cons (.tmp rfl) .nil) (fun w hs => ⟨(), rfl, hs.ent (.i (by repeat constructor))⟩)
theorem matcherNews_c (t : List UInt8) (ht : t.length ≤ 4611686018427387904) (w : World) (hG : GR w w.heap.size) : Pure Tryz.prog 4 #[Sv t] (fun _ : Unit => .bool true) (fun _ => []) w := by
  by_cases he : (parseM t).e = 0
  · have n1 := fun w hG => newOk_c t he ht w hG
    have n2 := fun w => dnewOk_c t he ht w
    have hgrp : (meOf t).grp = w64 (grpN (parseM t).tree : Nat) := meas_grp _
    have ctx := fun g w0 B => text_c g t (meOf t) 0 w0 B
    have cgr := fun g w0 B => groups_c g t (meOf t) 0 w0 B
    have cst := fun g w0 B => steps_c g t (meOf t) 0 w0 B
    unfold M11 at n2
    rw [hgrp] at cgr
    generalize meOf t = me at n1 ctx cgr cst
    generalize w64 (grpN (parseM t).tree : Nat) = gn at n2 cgr
    generalize (parseM t).tree = tree at n2
    refine calls_of_ES TB Tryz.func4 rfl _ Tryz.ntmps4 rfl (Sat.start w) ?_; refine .go ?_; (repeat constructor); refine .as_ ?_; refine .go ?_; (repeat constructor); refine .mv ?_; (refine EL.callXw rfl rfl rfl ent9 rfl (fun w hs => n1 w (GR.sat hG hs)) ?_; intro ga); refine .mv ?_; refine .ex ?_; refine .ex ?_; (refine .al ?_; intro g4); refine .as_ ?_; refine .sa ?_; refine .go ?_; (repeat constructor); refine .mv ?_
    (refine EL.callX rfl rfl rfl ent10 rfl n2 ?_; rintro ⟨gb, px⟩)
    refine .mv ?_; refine .ex ?_; refine .ex ?_; refine .ex ?_; refine .as_ ?_; refine .as_ ?_; refine .as_ ?_; refine .go ?_; (repeat constructor); refine .go ?_; (repeat constructor); refine EL.callPw rfl rfl rfl ent11 rfl (fun w hs => awake11_c w (GR.sat hG hs)) ?_; refine .nt ?_; refine .mv ?_
    refine EL.rew (d := 21) (v' := .bool false) rfl (by first | rfl | (decide) | (simp)) ?_
    refine .lg ?_; refine .mv ?_; refine .mv ?_
    (apply EL.build2; exact rfl; exact rfl; exact rfl; exact rfl; exact rfl; exact rfl; exact rfl; exact rfl; exact rfl; exact rfl)
    refine EL.neqAgg rfl rfl rfl rfl eqg33 (run_equal_st2 TB rfl rfl sth33 rfl rfl rfl rfl rfl rfl rfl rfl _ _ _ _) ?_; refine .pf ?_; refine .mv ?_; refine EL.rew (d := 28) (v' := .bool false) rfl ((by simp)) ?_; refine .mv ?_; refine EL.eqlPn rfl rfl rfl rfl rfl rfl ?_; refine .mv ?_; refine EL.eqlPn rfl rfl rfl rfl rfl rfl ?_; refine EL.neqB rfl rfl rfl rfl rfl rfl ?_; refine .pf ?_; refine .go ?_; (repeat constructor); refine ES.condF rfl ?_; refine .g0 ?_; repeat constructor
    refine ES.draw (X := Unit) (fun _ => [(2, .bool true)]) (fun _ => []) (HA.blk gb (.cells (Sv t :: (RCl tree px ++ [.bool (hasK 6 tree), Iv gn])).toArray 48) :: MB ga t me 0 :: []) mixed (.i (by repeat constructor)) ?_ (fun _ => ?_)
    · refine .tk 0 rfl (RV.move rfl) ?_; refine .ld 1 ?_; refine EL.eqlPn rfl rfl rfl rfl rfl rfl ?_; refine .nx ?_; refine .tk 2 rfl (RV.move rfl) ?_
      refine ED.rew (d := 37) (v' := .bool false) rfl (by first | rfl | (decide) | (simp)) ?_
      refine .tk 3 rfl (RV.move rfl) ?_; refine .tk 5 rfl (RV.move rfl) ?_; refine .ld 4 ?_; (refine EL.callMw rfl rfl rfl ent12 rfl (ctx ga w w.heap.size) (by repeat constructor) ?_; intro u); refine .nx ?_; refine .tk 6 rfl (RV.eqlS rfl rfl) ?_; refine .tk 7 rfl (RV.move rfl) ?_
      refine ED.rew (d := 42) (v' := .bool true) rfl (by first | rfl | (decide) | (simp)) ?_
      refine .tk 8 rfl (RV.move rfl) ?_; refine .tk 10 rfl (RV.move rfl) ?_; refine .tk 11 rfl (RV.nilCheck rfl) ?_; refine .tk 12 rfl (RV.fieldAddr rfl rfl rfl rfl rfl rfl) ?_; refine .tk 13 rfl (RV.loadB rfl rfl rfl (by repeat constructor) rfl) ?_; refine .ld 9 ?_; (refine EL.callMw rfl rfl rfl ent13 rfl (cgr ga w w.heap.size) (by repeat constructor) ?_; intro u); refine .nx ?_; refine .tk 14 rfl (RV.eqlI rfl rfl) ?_; refine .tk 15 rfl (RV.pickT rfl rfl) ?_; refine .tk 16 rfl (RV.move rfl) ?_; refine ED.rew (d := 51) (v' := .bool true) rfl ((by simp)) ?_; refine .tk 17 rfl (RV.move rfl) ?_; refine .ld 18 ?_; (refine EL.callMw rfl rfl rfl ent14 rfl (cst ga w w.heap.size) (by repeat constructor) ?_; intro u); refine .nx ?_; refine .tk 19 rfl (RV.eqlI rfl rfl) ?_; refine .tk 20 rfl (RV.pickT rfl rfl) ?_; refine .tk 21 rfl (RV.pickF rfl rfl) ?_; refine .tk 22 rfl (RV.assign rfl) ?_; refine .dn ?_
      exact .cx () ⟨getA rfl (congrArg Value.bool (by simp)), trivial⟩
    refine .go ?_; repeat constructor
    exact PX.ret rfl Tryz.results4 (.cons (.tmp rfl) .nil) (fun w hs => ⟨(), rfl, hs.ent (.nil _)⟩)
  · have n1 := fun w hG => newBad_c t he ht w hG
    have n2 := fun w => dnewBad_c t he ht w
    generalize parseM t = p at n1 n2
    obtain ⟨tree, pe, pat⟩ := p
    dsimp only at n1 n2
    refine calls_of_ES TB Tryz.func4 rfl _ Tryz.ntmps4 rfl (Sat.start w) ?_; refine .go ?_; (repeat constructor); refine .as_ ?_; refine .go ?_; (repeat constructor); refine .mv ?_; (refine EL.callXw rfl rfl rfl ent9 rfl (fun w hs => n1 w (GR.sat hG hs)) ?_; intro _); refine .mv ?_; refine .ex ?_; refine .ex ?_; (refine .al ?_; intro g4); refine .as_ ?_; refine .sa ?_; refine .go ?_; (repeat constructor); refine .mv ?_; (refine EL.callX rfl rfl rfl ent10 rfl n2 ?_; intro _); refine .mv ?_; refine .ex ?_; refine .ex ?_; refine .ex ?_; refine .as_ ?_; refine .as_ ?_; refine .as_ ?_; refine .go ?_; (repeat constructor); refine .go ?_; (repeat constructor); refine EL.callPw rfl rfl rfl ent11 rfl (fun w hs => awake11_c w (GR.sat hG hs)) ?_; refine .nt ?_; refine .mv ?_
    refine EL.rew (d := 21) (v' := .bool false) rfl (by first | rfl | (decide) | (simp)) ?_
    refine .lg ?_; refine .mv ?_; refine .mv ?_
    (apply EL.build2; exact rfl; exact rfl; exact rfl; exact rfl; exact rfl; exact rfl; exact rfl; exact rfl; exact rfl; exact rfl)
    refine EL.neqAgg rfl rfl rfl rfl eqg33 (run_equal_st2 TB rfl rfl sth33 rfl rfl rfl rfl rfl rfl rfl rfl _ _ _ _) ?_; refine .pf ?_; refine .mv ?_; refine EL.rew (d := 28) (v' := .bool false) rfl ((by simp)) ?_; refine .mv ?_; refine EL.eqlPn rfl rfl rfl rfl rfl rfl ?_; refine .mv ?_; refine EL.eqlPn rfl rfl rfl rfl rfl rfl ?_; refine EL.neqB rfl rfl rfl rfl rfl rfl ?_; refine .pf ?_; refine .go ?_; (repeat constructor); refine ES.condF rfl ?_; refine .g0 ?_; repeat constructor
    refine ES.draw (X := Unit) (fun _ => [(2, .bool true)]) (fun _ => []) [] mixed (.i (by repeat constructor)) ?_ (fun _ => ?_)
    · refine .tk 0 rfl (RV.move rfl) ?_; refine .ld 1 ?_; refine EL.eqlPn rfl rfl rfl rfl rfl rfl ?_; refine .nx ?_; refine .tk 2 rfl (RV.move rfl) ?_
      refine ED.rew (d := 37) (v' := .bool true) rfl (by first | rfl | (decide) | (simp)) ?_
      refine .pa 3 rfl ?_; refine .pa 4 rfl ?_; refine .pa 5 rfl ?_; refine .pa 6 rfl ?_; refine .pa 7 rfl ?_; refine .pa 8 rfl ?_; refine .pa 9 rfl ?_; refine .pa 10 rfl ?_; refine .pa 11 rfl ?_; refine .pa 12 rfl ?_; refine .pa 13 rfl ?_; refine .pa 14 rfl ?_; refine .pa 15 rfl ?_; refine .pa 16 rfl ?_; refine .pa 17 rfl ?_; refine .pa 18 rfl ?_; refine .pa 19 rfl ?_; refine .pa 20 rfl ?_; refine .tk 21 rfl (RV.pickT rfl rfl) ?_; refine .tk 22 rfl (RV.assign rfl) ?_; refine .dn ?_
      exact .cy ()
    refine .go ?_; repeat constructor
    exact PX.ret rfl Tryz.results4 (.cons (.tmp rfl) .nil) (fun w hs => ⟨(), rfl, hs.ent (.nil _)⟩)
theorem matcherNews_lifted (os : Os) (started : os.Started) (H : Type) (enc : TypeId × Value → H) :
    ReturnsInHanded {} Tryz.checked os 4 .any (Rows.matcherNewsSpec.pre6 enc Tryz.prog Tryz.f4 Rows.matcherNewsRow.domain false) (Rows.matcherNewsSpec.post enc Tryz.prog Tryz.f4 false true false false) := by
  refine returnsInHanded_of_change_shaped (C := Tryz.checked) own started (by kernel_rfl) Tryz.func4
    (ChangeSpec.witness6 (enc := enc) (C := Tryz.checked) false ⟨#[], #[.string ⟨#[]⟩], []⟩ 8 (by kernel_rfl) (by kernel_rfl) (by kernel_rfl) (by kernel_rfl)) ?_
  intro W base args ds gs before hval0 hW _ hsz hsh _
  have hk : (DataW.weightsEach Tryz.prog (Tryz.f4.params.toList ++ []) (ds ++ gs)).all (· ≤ reachBytes) = true := hsz
  have hval : ∀ (j : Nat) t v, Tryz.f4.params[j]? = some t → args[j]? = some v → Value.okWide Tryz.prog W .any base t v := hval0
  have hW1 : DataW.Whole enc Tryz.prog Tryz.f4.params.toList Rows.matcherNewsSpec.vars false W args.toList ds gs before := hW
  have hW' := hW1
  obtain ⟨p, q, hA0, hV, rfl, hfz, hnd⟩ := hW1
  have hA : DataW.TrodAll enc Tryz.prog W 0 (fun _ => true) true Tryz.f4.params.toList args.toList ds p := hA0
  rw [Tryz.params4] at hA hval hk
  obtain ⟨v0, vs0, d0, ds0, p0, q0, hargs0, rfl, rfl, h0, r0⟩ := trodAll_cons hA
  obtain ⟨rfl, rfl, rfl⟩ := trodAll_nil r0
  obtain rfl : args = #[v0] := by cases args; simp_all
  obtain ⟨rfl, rfl⟩ := trodVars_none hV
  obtain ⟨l0, rfl, rfl⟩ := open_sv Tryz.underlying9 (hval 0 9 v0 rfl rfl) h0
  simp only [List.append_nil, DataW.weightsEach, w_str, w_int, reachBytes, List.nil_append, List.append_nil, List.all_append, List.all_cons, List.all_nil, Bool.and_true, Bool.and_eq_true, decide_eq_true_eq] at hk
  have hl0 : l0.length ≤ 140737488351232 := by first | omega | exact of_decide_eq_true hk | exact of_decide_eq_true hk.1 | exact of_decide_eq_true hk.2 | exact of_decide_eq_true hk.2.1 | exact of_decide_eq_true hk.2.2 | exact of_decide_eq_true hk.2.2.1 | exact of_decide_eq_true hk.2.2.2
  refine (matcherNews_c l0 (Nat.le_trans hl0 (by decide)) W (GR.of hsh)).mono fun e W' ⟨_, he, hs⟩ => ⟨_, he, ?_⟩
  exact law_true (s := Rows.matcherNewsSpec) laidOut rfl Tryz.underlying4 (by kernel_rfl) rfl false rfl rfl rfl hW' hs.below
theorem matcherNews_holds : Rows.MatcherNewsSaid :=
  OpenClaim.holds_of_wide 4 Tryz.f4 rfl rfl rfl rfl rfl rfl rfl ⟨rfl, rfl, rfl, rfl, rfl⟩ rfl rfl rfl rfl rfl (by kernel_rfl) Tryz.func4 (by kernel_rfl)
    (of_decide_eq_true (by kernel_rfl)) (by unfold Func.isWrapper; first | (rw [if_pos (by decide +kernel)]; kernel_rfl) | (rw [if_neg (by decide +kernel)]; exact ⟨rfl, rfl⟩))
    (fun os started H enc _ => matcherNews_lifted os started H enc)
end Go.Proofs.YthcbjbkheodejaaGreat
