/- Layer 9 (ways): the law WaysProducts returns true at every input. -/
import Derived.Test.YtblpgpgbnlhjlaaVh
import Derived.Test.YtblpgpgbnlhjlaaVj
namespace Go.Proofs.Ytblpgpgbnlhjlaa
open Go.ChangeShapes Go.WideShapes Go.ChangeAt
open Go Go.RowKit Sl
set_option maxRecDepth 100000
set_option maxHeartbeats 8000000
set_option linter.unusedVariables false
set_option linter.unusedSimpArgs false
attribute [local irreducible] ES EL PX wps

theorem waysProducts_c (b s0 : List UInt8) (n : UInt8) (hb : b.length ≤ 140737488351232) (w : World) (hG : GR w w.heap.size) : Pure Try.prog 4 #[Sv b, Sv s0, Uv n] (fun _ : Unit => .bool true) (fun _ => []) w := by
  have hn := n.toNat_lt
  obtain ⟨s, hs⟩ : ∃ s, s = s0.take (min s0.length 30) := ⟨_, rfl⟩
  have hsl : s.length ≤ 30 := by rw [hs, List.length_take]; omega
  obtain ⟨i, hi⟩ : ∃ i, i = n.toNat % (s.length + 1) := ⟨_, rfl⟩
  have hil : i ≤ s.length := by
    have := Nat.mod_lt n.toNat (show 0 < s.length + 1 by omega)
    omega
  have hd := ways_dot b s (by omega) i hil
  have h1 := fun w hG => waysCount_c ([92, 40, 46, 92, 41, 92, 40] ++ b ++ [92, 41]) s (by simp; omega) (by omega) (i : Nat) w hG
  have h2 := fun w hG => waysCount_c ([92, 40] ++ b ++ [92, 41]) s (by simp; omega) (by omega) ((min (i + 1) s.length : Nat) : Int) w hG
  have e1 : [92, 40, 46, 92, 41, 92, 40] ++ b ++ [92, 41] = dotT ++ (92 :: 40 :: (b ++ [92, 41])) := by simp
  have e2 : [92, 40] ++ b ++ [92, 41] = 92 :: 40 :: (b ++ [92, 41]) := by simp
  rw [← e1, ← e2] at hd
  generalize waysM ([92, 40, 46, 92, 41, 92, 40] ++ b ++ [92, 41]) s (i : Nat) = x at hd h1
  generalize waysM ([92, 40] ++ b ++ [92, 41]) s ((min (i + 1) s.length : Nat) : Int) = y at hd h2
  obtain ⟨xn, xe⟩ := x
  obtain ⟨yn, ye⟩ := y
  dsimp only at hd h1 h2
  refine calls_of_ES TB Try.func4 rfl _ Try.ntmps4 rfl (Sat.start w) ?_
  refine .go ?_; repeat constructor
  refine EL.assign rfl rfl rfl ?_
  refine .go ?_; repeat constructor
  refine EL.callPw rfl rfl rfl ent15 rfl (fun w hs => ways_awake w (GR.sat hG hs)) ?_
  refine EL.not rfl rfl rfl ?_
  refine .go ?_; repeat constructor
  refine ES.condF rfl ?_
  refine .go ?_; repeat constructor
  refine EL.move rfl rfl rfl ?_
  refine EL.move rfl rfl rfl ?_
  refine EL.lenS rfl rfl rfl rfl rfl ?_
  refine EL.minI rfl rfl rfl rfl ((min s0.length 30 : Nat) : Int) (by split <;> omega) ?_
  (refine EL.sliceS (m := 0) (n := min s0.length 30) rfl rfl rfl rfl rfl rfl ⟨_, rfl⟩ (by omega) (by omega) ?_; rw [show (s0.drop 0).take (min s0.length 30 - 0) = s from by rw [hs]; rfl])
  refine EL.assign rfl rfl rfl ?_
  refine .go ?_; repeat constructor
  refine EL.move rfl rfl rfl ?_
  refine EL.convN rfl rfl rfl rfl rfl rfl (le_big8 _ _) ?_
  refine EL.move rfl rfl rfl ?_
  refine EL.lenS rfl rfl rfl rfl rfl ?_
  refine EL.add1 rfl rfl rfl rfl (by omega) ?_
  refine EL.remN rfl rfl rfl rfl (by omega) ?_
  (refine EL.assign rfl rfl rfl ?_; rw [← hi])
  refine .go ?_; repeat constructor
  refine .go ?_; repeat constructor
  refine EL.move rfl rfl rfl ?_
  refine EL.cat rfl rfl rfl rfl (by first | omega | (simp only [List.length_append, List.length_cons, List.length_nil]; omega)) ?_
  refine EL.cat rfl rfl rfl rfl (by first | omega | (simp only [List.length_append, List.length_cons, List.length_nil]; omega)) ?_
  refine EL.move rfl rfl rfl ?_
  refine EL.move rfl rfl rfl ?_
  refine EL.callPw rfl rfl rfl ent16 rfl (fun w hs => h1 w (GR.sat hG hs)) ?_
  refine EL.move rfl rfl rfl ?_
  refine EL.extract rfl rfl rfl rfl ?_
  refine EL.extract rfl rfl rfl rfl ?_
  refine EL.assign rfl rfl rfl ?_
  refine EL.assign rfl rfl rfl ?_
  refine .go ?_; repeat constructor
  refine EL.move rfl rfl rfl ?_
  refine EL.cat rfl rfl rfl rfl (by first | omega | (simp only [List.length_append, List.length_cons, List.length_nil]; omega)) ?_
  refine EL.cat rfl rfl rfl rfl (by first | omega | (simp only [List.length_append, List.length_cons, List.length_nil]; omega)) ?_
  refine EL.move rfl rfl rfl ?_
  refine EL.move rfl rfl rfl ?_
  refine EL.add1 rfl rfl rfl rfl (by omega) ?_
  refine EL.move rfl rfl rfl ?_
  refine EL.lenS rfl rfl rfl rfl rfl ?_
  refine EL.minI rfl rfl rfl rfl ((min (i + 1) s.length : Nat) : Int) (by split <;> omega) ?_
  refine EL.callPw rfl rfl rfl ent16 rfl (fun w hs => h2 w (GR.sat hG hs)) ?_
  refine EL.move rfl rfl rfl ?_
  refine EL.extract rfl rfl rfl rfl ?_
  refine EL.extract rfl rfl rfl rfl ?_
  refine EL.assign rfl rfl rfl ?_
  refine EL.assign rfl rfl rfl ?_
  refine .go ?_; repeat constructor
  refine EL.cutX (X := Unit) (fun _ => [(1, Sv s), (7, Iv (i : Nat)), (8, Iv (xn : Nat)), (10, Iv (yn : Nat)), (52, .bool (decide (xe ≠ 0 ∨ ye ≠ 0)))]) (fun _ => []) ?_ (fun _ => ?_)
  · refine .go ?_; repeat constructor
    refine EL.move rfl rfl rfl ?_
    refine EL.neqI rfl rfl rfl rfl ?_
    refine EL.move rfl rfl rfl ?_
    first | refine EL.splitD (d := 49) rfl (fun hp49 => ?_) (fun hp49 => ?_) | refine EL.splitN (d := 49) rfl (fun hp49 => ?_) (fun hp49 => ?_) | refine EL.splitB (d := 49) rfl (fun hp49 => ?_) (fun hp49 => ?_)
    · refine EL.pass rfl rfl rfl ?_
      refine EL.pass rfl rfl rfl ?_
      refine EL.pickT rfl rfl rfl rfl ?_
      exact EL.endX () ⟨rfl, rfl, rfl, rfl, getA rfl (congrArg Value.bool (by simp_all)), trivial⟩ (.i (by repeat constructor))
    · refine EL.move rfl rfl rfl ?_
      refine EL.neqI rfl rfl rfl rfl ?_
      refine EL.pickF rfl rfl rfl rfl ?_
      exact EL.endX () ⟨rfl, rfl, rfl, rfl, getA rfl (congrArg Value.bool (by simp_all)), trivial⟩ (.i (by repeat constructor))
  refine ES.condD rfl (fun he => ?_) (fun he => ?_)
  · refine .go ?_; repeat constructor
    refine EL.assign rfl rfl rfl ?_
    refine .go ?_; repeat constructor
    exact PX.ret rfl Try.results4 (.cons (.tmp rfl) .nil) (fun w hs => ⟨(), rfl, hs.ent (.i (by repeat constructor))⟩)
  have hx0 : xe = 0 := by omega
  have hy0 : ye = 0 := by omega
  have hd2 := hd hx0 hy0
  refine .go ?_; repeat constructor
  refine EL.move rfl rfl rfl ?_
  refine EL.move rfl rfl rfl ?_
  refine EL.lenS rfl rfl rfl rfl rfl ?_
  refine EL.eqlI rfl rfl rfl rfl ?_
  refine .go ?_; repeat constructor
  refine ES.condD rfl (fun hl => ?_) (fun hl => ?_)
  · rw [if_pos (by omega)] at hd2
    subst hd2
    refine .go ?_; repeat constructor
    refine EL.move rfl rfl rfl ?_
    refine EL.eqlI rfl rfl rfl rfl ?_
    refine EL.assign rfl rfl rfl ?_
    refine .go ?_; repeat constructor
    exact PX.ret rfl Try.results4 (.cons (.tmp rfl) .nil) (fun w hs => ⟨(), rfl, hs.ent (.i (by repeat constructor))⟩)
  · rw [if_neg (by omega)] at hd2
    subst hd2
    refine .go ?_; repeat constructor
    refine EL.move rfl rfl rfl ?_
    refine EL.move rfl rfl rfl ?_
    refine EL.eqlI rfl rfl rfl rfl ?_
    refine EL.assign rfl rfl rfl ?_
    refine .go ?_; repeat constructor
    exact PX.ret rfl Try.results4 (.cons (.tmp rfl) .nil) (fun w hs => ⟨(), by simp [outV], hs.ent (.i (by repeat constructor))⟩)
theorem waysProducts_lifted (os : Os) (started : os.Started) (H : Type) (enc : TypeId × Value → H) :
    ReturnsInHanded {} Try.checked os 4 .any (Rows.waysProductsSpec.pre6 enc Try.prog Try.f4 Rows.waysProductsRow.domain false) (Rows.waysProductsSpec.post enc Try.prog Try.f4 false true false false) := by
  refine returnsInHanded_of_change_shaped (C := Try.checked) own started (by kernel_rfl) Try.func4
    (ChangeSpec.witness6 (enc := enc) (C := Try.checked) false ⟨#[], #[.string ⟨#[]⟩, .string ⟨#[]⟩, .int .u8 0], []⟩ 8 (by kernel_rfl) (by kernel_rfl) (by kernel_rfl) (by kernel_rfl)) ?_
  intro W base args ds gs before hval0 hW _ hsz hsh _
  have hk : (DataW.weightsEach Try.prog (Try.f4.params.toList ++ []) (ds ++ gs)).all (· ≤ reachBytes) = true := hsz
  have hval : ∀ (j : Nat) t v, Try.f4.params[j]? = some t → args[j]? = some v → Value.okWide Try.prog W .any base t v := hval0
  have hW1 : DataW.Whole enc Try.prog Try.f4.params.toList Rows.waysProductsSpec.vars false W args.toList ds gs before := hW
  have hW' := hW1
  obtain ⟨p, q, hA0, hV, rfl, hfz, hnd⟩ := hW1
  have hA : DataW.TrodAll enc Try.prog W 0 (fun _ => true) true Try.f4.params.toList args.toList ds p := hA0
  rw [Try.params4] at hA hval hk
  obtain ⟨v0, vs0, d0, ds0, p0, q0, hargs0, rfl, rfl, h0, r0⟩ := trodAll_cons hA
  obtain ⟨v1, vs1, d1, ds1, p1, q1, hargs1, rfl, rfl, h1, r1⟩ := trodAll_cons r0
  obtain ⟨v2, vs2, d2, ds2, p2, q2, hargs2, rfl, rfl, h2, r2⟩ := trodAll_cons r1
  obtain ⟨rfl, rfl, rfl⟩ := trodAll_nil r2
  subst hargs1 hargs2
  obtain rfl : args = #[v0, v1, v2] := by cases args; simp_all
  obtain ⟨rfl, rfl⟩ := trodVars_none hV
  obtain ⟨l0, rfl, rfl⟩ := open_sv Try.underlying9 (hval 0 9 v0 rfl rfl) h0
  obtain ⟨l1, rfl, rfl⟩ := open_sv Try.underlying9 (hval 1 9 v1 rfl rfl) h1
  obtain ⟨b2, rfl, rfl⟩ := open_uv Try.underlying5 (hval 2 5 v2 rfl rfl) h2
  simp only [List.append_nil, DataW.weightsEach, w_str, w_int, reachBytes, List.nil_append, List.append_nil, List.all_append, List.all_cons, List.all_nil, Bool.and_true, Bool.and_eq_true, decide_eq_true_eq] at hk
  have hl0 : l0.length ≤ 140737488351232 := by first | omega | exact of_decide_eq_true hk | exact of_decide_eq_true hk.1 | exact of_decide_eq_true hk.2 | exact of_decide_eq_true hk.2.1 | exact of_decide_eq_true hk.2.2 | exact of_decide_eq_true hk.2.2.1 | exact of_decide_eq_true hk.2.2.2
  have hl1 : l1.length ≤ 140737488351232 := by first | omega | exact of_decide_eq_true hk | exact of_decide_eq_true hk.1 | exact of_decide_eq_true hk.2 | exact of_decide_eq_true hk.2.1 | exact of_decide_eq_true hk.2.2 | exact of_decide_eq_true hk.2.2.1 | exact of_decide_eq_true hk.2.2.2
  refine (waysProducts_c l0 l1 b2 hl0 W (GR.of hsh)).mono fun e W' ⟨_, he, hs⟩ => ⟨_, he, ?_⟩
  exact law_true (s := Rows.waysProductsSpec) laidOut rfl Try.underlying4 (by kernel_rfl) rfl false rfl rfl rfl hW' hs.below
theorem waysProducts_holds : Rows.WaysProductsSaid :=
  OpenClaim.holds_of_wide 4 Try.f4 rfl rfl rfl rfl rfl rfl rfl ⟨rfl, rfl, rfl, rfl, rfl⟩ rfl rfl rfl rfl rfl (by kernel_rfl) Try.func4 (by kernel_rfl)
    (of_decide_eq_true (by kernel_rfl)) (by unfold Func.isWrapper; first | (rw [if_pos (by decide +kernel)]; kernel_rfl) | (rw [if_neg (by decide +kernel)]; exact ⟨rfl, rfl⟩))
    (fun os started H enc _ => waysProducts_lifted os started H enc)
end Go.Proofs.Ytblpgpgbnlhjlaa
