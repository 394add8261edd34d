/- The law BackmatchEquals returns true at every input; no condition. -/
import Derived.Test.YtblpgpgbnlhjlaaZn7
namespace Go.Proofs.Ytblpgpgbnlhjlaa
open Go.ChangeShapes Go.WideShapes Go.ChangeAt
open Go Go.RowKit Sl
set_option maxRecDepth 100000
set_option maxHeartbeats 8000000
set_option linter.unusedVariables false
set_option linter.unusedSimpArgs false
attribute [local irreducible] ES EL PX wps
theorem mem_of_get {l : List UInt8} {P : UInt8 → Prop} (h : ∀ k, k < l.length → P (l.getD k 0)) : ∀ b ∈ l, P b := fun b hb => by
  obtain ⟨k, hk, rfl⟩ := List.getElem_of_mem hb
  have := h k hk
  rwa [List.getD_eq_getElem?_getD, List.getElem?_eq_getElem hk] at this
theorem byte_is (b c : UInt8) : ((b.toNat : Nat) : Int) = ((c.toNat : Nat) : Int) ↔ b = c := ⟨fun h => UInt8.toNat_inj.1 (by omega), fun h => by rw [h]⟩
theorem equals_c (l0 l1 : List UInt8) (w : World) (hG : GR w w.heap.size) : Pure Try.prog 7 #[Sv l0, Sv l1] (fun _ : Unit => .bool true) (fun _ => []) w := by
  refine calls_of_ES TB Try.func7 rfl _ Try.ntmps7 rfl (Sat.start w) ?_
  refine .go ?_; repeat constructor
  refine EL.assign rfl rfl rfl ?_
  refine .go ?_; repeat constructor
  refine EL.callPw rfl rfl rfl ent20 rfl (fun w hs => awake10_c w (GR.sat hG hs)) ?_
  refine EL.not rfl rfl rfl ?_
  refine .go ?_; repeat constructor
  refine ES.condF rfl ?_
  obtain ⟨wd, hh⟩ : ∃ h, h = l0.take (min l0.length 20) := ⟨_, rfl⟩
  obtain ⟨fr, ho⟩ : ∃ o, o = l1.take (min l1.length 20) := ⟨_, rfl⟩
  have hhl : wd.length ≤ 20 := by rw [hh, List.length_take]; omega
  have hol : fr.length ≤ 20 := by rw [ho, List.length_take]; omega
  refine .g0 ?_; repeat constructor
  refine ES.draw (X := Unit) (fun _ => [(0, Sv wd), (1, Sv fr)]) (fun _ => []) [] mixed (.i (by repeat constructor)) ?_ (fun _ => ?_)
  · refine ED.take 0 rfl (by decide +kernel) CutX.no_panic (by decide +kernel) rfl rfl rfl (RV.move rfl) ?_
    refine ED.take 1 rfl (by decide +kernel) CutX.no_panic (by decide +kernel) rfl rfl rfl (RV.move rfl) ?_
    refine ED.take 2 rfl (by decide +kernel) CutX.no_panic (by decide +kernel) rfl rfl rfl (RV.lenS rfl rfl rfl) ?_
    refine ED.take 3 rfl (by decide +kernel) CutX.no_panic (by decide +kernel) rfl rfl rfl (RV.minNat (n := 20) rfl rfl) ?_
    refine ED.take 4 rfl (by decide +kernel) CutX.no_panic (by decide +kernel) rfl rfl rfl (RV.sliceS (m := 0) (n := min l0.length 20) rfl rfl rfl rfl ⟨_, rfl⟩ (Nat.zero_le _) (by omega)) ?_
    refine ED.take 5 rfl (by decide +kernel) CutX.no_panic (by decide +kernel) rfl rfl rfl (RV.move rfl) ?_
    refine ED.take 6 rfl (by decide +kernel) CutX.no_panic (by decide +kernel) rfl rfl rfl (RV.move rfl) ?_
    refine ED.take 7 rfl (by decide +kernel) CutX.no_panic (by decide +kernel) rfl rfl rfl (RV.lenS rfl rfl rfl) ?_
    refine ED.take 8 rfl (by decide +kernel) CutX.no_panic (by decide +kernel) rfl rfl rfl (RV.minNat (n := 20) rfl rfl) ?_
    refine ED.take 9 rfl (by decide +kernel) CutX.no_panic (by decide +kernel) rfl rfl rfl (RV.sliceS (m := 0) (n := min l1.length 20) rfl rfl rfl rfl ⟨_, rfl⟩ (Nat.zero_le _) (by omega)) ?_
    refine ED.take 10 rfl (by decide +kernel) CutX.no_panic (by decide +kernel) rfl rfl rfl (RV.assign rfl) ?_
    refine ED.take 11 rfl (by decide +kernel) CutX.no_panic (by decide +kernel) rfl rfl rfl (RV.assign rfl) ?_
    refine ED.done (by decide +kernel) ?_
    exact PX.cutX () ⟨getA rfl (congrArg Sv ((cut0 _ _).trans hh.symm)), getA rfl (congrArg Sv ((cut0 _ _).trans ho.symm)), trivial⟩ (.i (by repeat constructor))
  refine .go ?_; repeat constructor
  refine EL.assign rfl rfl rfl ?_
  refine .go ?_; repeat constructor
  refine ES.loop (σ := Nat) (fun i => i ≤ wd.length ∧ ∀ k, k < i → wd.getD k 0 ≠ 60 ∧ wd.getD k 0 ≠ 61 ∧ wd.getD k 0 ≠ 62) (fun i => [(0, Sv wd), (1, Sv fr), (5, Iv (i : Nat))]) (fun _ => []) (fun i => wd.length - i) 0 ⟨Nat.zero_le _, fun k h => by omega⟩ ⟨rfl, rfl, rfl, trivial⟩ (.i (by repeat constructor)) ?_
  rintro i ⟨hi, hno⟩
  refine .go ?_; repeat constructor
  refine EL.move rfl rfl rfl ?_
  refine EL.move rfl rfl rfl ?_
  refine EL.lenS rfl rfl rfl rfl rfl ?_
  refine EL.lss rfl rfl rfl rfl ?_
  refine .go ?_; repeat constructor
  refine ES.condD rfl (fun hlt => ?_) (fun hge => ?_)
  · refine .go ?_; repeat constructor
    have e60 := byte_is (wd.getD i 0) 60
    have e61 := byte_is (wd.getD i 0) 61
    have e62 := byte_is (wd.getD i 0) 62
    refine EL.cutX (X := Unit) (fun _ => [(0, Sv wd), (1, Sv fr), (5, Iv (i : Nat)), (45, .bool (decide (wd.getD i 0 = 60 ∨ wd.getD i 0 = 61 ∨ wd.getD i 0 = 62)))]) (fun _ => []) ?_ (fun _ => ?_)
    · refine .go ?_; repeat constructor
      refine EL.move rfl rfl rfl ?_
      refine EL.move rfl rfl rfl ?_
      refine EL.indexSN rfl rfl rfl rfl rfl rfl (by omega) ?_
      refine EL.eqlI rfl rfl rfl rfl ?_
      refine EL.move rfl rfl rfl ?_
      first | refine EL.splitD (d := 34) rfl (fun hp34 => ?_) (fun hp34 => ?_) | refine EL.splitN (d := 34) rfl (fun hp34 => ?_) (fun hp34 => ?_) | refine EL.splitB (d := 34) rfl (fun hp34 => ?_) (fun hp34 => ?_)
      · refine EL.pass rfl rfl rfl ?_
        refine EL.pass rfl rfl rfl ?_
        refine EL.pass rfl rfl rfl ?_
        refine EL.pass rfl rfl rfl ?_
        refine EL.pickT rfl rfl rfl rfl ?_
        refine EL.move rfl rfl rfl ?_
        refine EL.pass rfl rfl rfl ?_
        refine EL.pass rfl rfl rfl ?_
        refine EL.pass rfl rfl rfl ?_
        refine EL.pass rfl rfl rfl ?_
        refine EL.pickT rfl rfl rfl rfl ?_
        exact EL.endX () ⟨rfl, rfl, rfl, getA rfl (congrArg Value.bool (by rw [Bool.eq_iff_iff]; simp only [decide_eq_true_eq, true_iff, ← e60, ← e61, ← e62]; first | (exact .inl (by assumption)) | (exact .inr (.inl (by assumption))) | (constructor <;> intro h <;> simp_all))), trivial⟩ (.i (by repeat constructor))
      · refine EL.move rfl rfl rfl ?_
        refine EL.move rfl rfl rfl ?_
        refine EL.indexSN rfl rfl rfl rfl rfl rfl (by omega) ?_
        refine EL.eqlI rfl rfl rfl rfl ?_
        refine EL.pickF rfl rfl rfl rfl ?_
        refine EL.move rfl rfl rfl ?_
        first | refine EL.splitD (d := 40) rfl (fun hp40 => ?_) (fun hp40 => ?_) | refine EL.splitN (d := 40) rfl (fun hp40 => ?_) (fun hp40 => ?_) | refine EL.splitB (d := 40) rfl (fun hp40 => ?_) (fun hp40 => ?_)
        · refine EL.pass rfl rfl rfl ?_
          refine EL.pass rfl rfl rfl ?_
          refine EL.pass rfl rfl rfl ?_
          refine EL.pass rfl rfl rfl ?_
          refine EL.pickT rfl rfl rfl rfl ?_
          exact EL.endX () ⟨rfl, rfl, rfl, getA rfl (congrArg Value.bool (by rw [Bool.eq_iff_iff]; simp only [decide_eq_true_eq, true_iff, ← e60, ← e61, ← e62]; first | (exact .inl (by assumption)) | (exact .inr (.inl (by assumption))) | (constructor <;> intro h <;> simp_all))), trivial⟩ (.i (by repeat constructor))
        · refine EL.move rfl rfl rfl ?_
          refine EL.move rfl rfl rfl ?_
          refine EL.indexSN rfl rfl rfl rfl rfl rfl (by omega) ?_
          refine EL.eqlI rfl rfl rfl rfl ?_
          refine EL.pickF rfl rfl rfl rfl ?_
          exact EL.endX () ⟨rfl, rfl, rfl, getA rfl (congrArg Value.bool (by rw [Bool.eq_iff_iff]; simp only [decide_eq_true_eq, true_iff, ← e60, ← e61, ← e62]; first | (exact .inl (by assumption)) | (exact .inr (.inl (by assumption))) | (constructor <;> intro h <;> simp_all))), trivial⟩ (.i (by repeat constructor))
    refine ES.condD rfl (fun hbad => ?_) (fun hgood => ?_)
    · refine .go ?_; repeat constructor
      refine EL.assign rfl rfl rfl ?_
      refine .go ?_; repeat constructor
      exact PX.ret rfl Try.results7 (.cons (.tmp rfl) .nil) (fun w hs => ⟨(), rfl, hs.ent (.nil _)⟩)
    · refine .go ?_; repeat constructor
      refine .go ?_; repeat constructor
      refine EL.move rfl rfl rfl ?_
      refine EL.add1 rfl rfl rfl rfl (by omega) ?_
      refine EL.assign rfl rfl rfl ?_
      refine .go ?_; repeat constructor
      exact PX.loop (i + 1) ⟨by omega, fun k hk => by
        by_cases h : k = i
        · subst h; exact ⟨fun h => hgood (.inl h), fun h => hgood (.inr (.inl h)), fun h => hgood (.inr (.inr h))⟩
        · exact hno k (by omega)⟩ (by omega) ⟨rfl, rfl, rfl, trivial⟩ (.i (by repeat constructor))
  have hw : ∀ b ∈ wd, b ≠ 60 ∧ b ≠ 61 ∧ b ≠ 62 := mem_of_get (P := fun b => b ≠ 60 ∧ b ≠ 61 ∧ b ≠ 62) (fun k hk => hno k (by omega))
  refine .go ?_; repeat constructor
  refine .go ?_; repeat constructor
  refine EL.assign rfl rfl rfl ?_
  refine .go ?_; repeat constructor
  refine ES.loop (σ := Nat) (fun i => i ≤ fr.length ∧ ∀ k, k < i → fr.getD k 0 ≠ 60) (fun i => [(0, Sv wd), (1, Sv fr), (6, Iv (i : Nat))]) (fun _ => []) (fun i => fr.length - i) 0 ⟨Nat.zero_le _, fun k h => by omega⟩ ⟨rfl, rfl, rfl, trivial⟩ (.i (by repeat constructor)) ?_
  rintro i ⟨hi, hno⟩
  refine .go ?_; repeat constructor
  refine EL.move rfl rfl rfl ?_
  refine EL.move rfl rfl rfl ?_
  refine EL.lenS rfl rfl rfl rfl rfl ?_
  refine EL.lss rfl rfl rfl rfl ?_
  refine .go ?_; repeat constructor
  refine ES.condD rfl (fun hlt => ?_) (fun hge => ?_)
  · have e60 := byte_is (fr.getD i 0) 60
    refine .go ?_; repeat constructor
    refine EL.move rfl rfl rfl ?_
    refine EL.move rfl rfl rfl ?_
    refine EL.indexSN rfl rfl rfl rfl rfl rfl (by omega) ?_
    refine EL.eqlI rfl rfl rfl rfl ?_
    refine .go ?_; repeat constructor
    refine ES.condD rfl (fun hbad => ?_) (fun hgood => ?_)
    · refine .go ?_; repeat constructor
      refine EL.assign rfl rfl rfl ?_
      refine .go ?_; repeat constructor
      exact PX.ret rfl Try.results7 (.cons (.tmp rfl) .nil) (fun w hs => ⟨(), rfl, hs.ent (.nil _)⟩)
    · refine .go ?_; repeat constructor
      refine .go ?_; repeat constructor
      refine EL.move rfl rfl rfl ?_
      refine EL.add1 rfl rfl rfl rfl (by omega) ?_
      refine EL.assign rfl rfl rfl ?_
      refine .go ?_; repeat constructor
      exact PX.loop (i + 1) ⟨by omega, fun k hk => by
        by_cases h : k = i
        · subst h; exact fun h => hgood (e60.2 h)
        · exact hno k (by omega)⟩ (by omega) ⟨rfl, rfl, rfl, trivial⟩ (.i (by repeat constructor))
  have hf : ∀ b ∈ fr, b ≠ 60 := mem_of_get (P := fun b => b ≠ 60) (fun k hk => hno k (by omega))
  have t1 : ((((((fr ++ [60]) ++ wd) ++ [61]) ++ wd) ++ [62])) = eqS fr wd wd := by simp [eqS]
  have t2 : ((((((fr ++ [60]) ++ wd) ++ [61]) ++ wd) ++ [120, 62])) = eqS fr wd (wd ++ [120]) := by simp [eqS]
  have hc1 := fun w hG => backMatch_c 3000 eqText (eqS fr wd wd) 0 _ (eq_same hf hw hol hhl) (by decide) w hG
  have hc2 := fun w hG => backMatch_c 3000 eqText (eqS fr wd (wd ++ [120])) 0 _ (eq_diff hf hw hol hhl) (by decide) w hG
  have hsl := eqS_len fr wd wd
  refine .go ?_; repeat constructor
  refine .go ?_; repeat constructor
  refine EL.move rfl rfl rfl ?_
  refine EL.cat rfl rfl rfl rfl (by first | omega | (simp only [List.length_append, List.length_cons, List.length_nil]; omega)) ?_
  refine EL.move rfl rfl rfl ?_
  refine EL.cat rfl rfl rfl rfl (by first | omega | (simp only [List.length_append, List.length_cons, List.length_nil]; omega)) ?_
  refine EL.cat rfl rfl rfl rfl (by first | omega | (simp only [List.length_append, List.length_cons, List.length_nil]; omega)) ?_
  refine EL.move rfl rfl rfl ?_
  refine EL.cat rfl rfl rfl rfl (by first | omega | (simp only [List.length_append, List.length_cons, List.length_nil]; omega)) ?_
  refine EL.cat rfl rfl rfl rfl (by first | omega | (simp only [List.length_append, List.length_cons, List.length_nil]; omega)) ?_
  (refine EL.rew (d := 63) (v' := Sv (eqS fr wd wd)) rfl (congrArg Sv t1) ?_; refine EL.assign rfl rfl rfl ?_)
  refine .go ?_; repeat constructor
  refine .go ?_; repeat constructor
  refine EL.move rfl rfl rfl ?_
  (refine EL.callXw rfl rfl rfl ent21 rfl (fun w hs => hc1 w (GR.sat hG hs)) ?_; intro x1)
  refine EL.move rfl rfl rfl ?_
  refine EL.extract rfl rfl rfl rfl ?_
  refine EL.extract rfl rfl rfl rfl ?_
  refine EL.extract rfl rfl rfl rfl ?_
  refine EL.assign rfl rfl rfl ?_
  refine EL.assign rfl rfl rfl ?_
  refine EL.assign rfl rfl rfl ?_
  refine .go ?_; repeat constructor
  refine EL.move rfl rfl rfl ?_
  refine EL.lenS rfl rfl rfl rfl rfl ?_
  refine EL.assign rfl rfl rfl ?_
  refine .go ?_; repeat constructor
  have hspn : [(((fr.length : Nat) : Int), (((eqS fr wd wd).length : Nat) : Int)), (((fr.length + 1 : Nat) : Int), ((fr.length + 1 + wd.length : Nat) : Int))] = [(((fr.length : Nat) : Int), (((eqS fr wd wd).length : Nat) : Int)), (((fr.length + 1 : Nat) : Int), ((fr.length + 1 + wd.length : Nat) : Int))] := rfl
  refine .go ?_; repeat constructor
  refine EL.move rfl rfl rfl ?_
  refine EL.neqI rfl rfl rfl rfl ?_
  refine EL.move rfl rfl rfl ?_
  refine EL.rew (d := 74) (v' := .bool false) rfl (by first | rfl | (decide) | (simp)) ?_
  refine EL.move rfl rfl rfl ?_
  refine EL.not rfl rfl rfl ?_
  refine EL.pickF rfl rfl rfl rfl ?_
  refine EL.move rfl rfl rfl ?_
  refine EL.rew (d := 78) (v' := .bool false) rfl (by first | rfl | (decide) | (simp)) ?_
  refine EL.move rfl rfl rfl ?_
  refine EL.move rfl rfl rfl ?_
  refine EL.move rfl rfl rfl ?_
  refine EL.lenS rfl rfl rfl rfl rfl ?_
  (apply EL.build2; exact rfl; exact rfl; exact rfl; exact rfl; exact rfl; exact rfl; exact rfl; exact rfl; exact rfl; exact rfl)
  refine EL.move rfl rfl rfl ?_
  refine EL.add1 rfl rfl rfl rfl (by omega) ?_
  refine EL.move rfl rfl rfl ?_
  refine EL.add1 rfl rfl rfl rfl (by omega) ?_
  refine EL.move rfl rfl rfl ?_
  refine EL.lenS rfl rfl rfl rfl rfl ?_
  refine EL.addN rfl rfl rfl rfl rfl (by omega) ?_
  (apply EL.build2; exact rfl; exact rfl; exact rfl; exact rfl; exact rfl; exact rfl; exact rfl; exact rfl; exact rfl; exact rfl)
  (refine EL.buildSliceC (spsC [(((fr.length : Nat) : Int), (((eqS fr wd wd).length : Nat) : Int)), (((fr.length + 1 : Nat) : Int), ((fr.length + 1 + wd.length : Nat) : Int))]).toArray rfl rfl rfl rfl rfl rfl (by kernel_rfl) rfl rfl rfl rfl ?_; intro b92)
  refine EL.callPw rfl rfl rfl ent19 rfl (fun w hs => same08_r [(((fr.length : Nat) : Int), (((eqS fr wd wd).length : Nat) : Int)), (((fr.length + 1 : Nat) : Int), ((fr.length + 1 + wd.length : Nat) : Int))] _ _ _ _ (by simp) w (Rd.row hs (by repeat constructor) (by decide)) (Rd.row hs (by repeat constructor) (by decide))) ?_
  refine EL.not rfl rfl rfl ?_
  refine EL.pickF rfl rfl rfl rfl ?_
  refine .go ?_; repeat constructor
  refine ES.condF rfl ?_
  refine .go ?_; repeat constructor
  refine EL.move rfl rfl rfl ?_
  refine EL.cat rfl rfl rfl rfl (by first | omega | (simp only [List.length_append, List.length_cons, List.length_nil]; omega)) ?_
  refine EL.move rfl rfl rfl ?_
  refine EL.cat rfl rfl rfl rfl (by first | omega | (simp only [List.length_append, List.length_cons, List.length_nil]; omega)) ?_
  refine EL.cat rfl rfl rfl rfl (by first | omega | (simp only [List.length_append, List.length_cons, List.length_nil]; omega)) ?_
  refine EL.move rfl rfl rfl ?_
  refine EL.cat rfl rfl rfl rfl (by first | omega | (simp only [List.length_append, List.length_cons, List.length_nil]; omega)) ?_
  refine EL.cat rfl rfl rfl rfl (by first | omega | (simp only [List.length_append, List.length_cons, List.length_nil]; omega)) ?_
  (refine EL.rew (d := 104) (v' := Sv (eqS fr wd (wd ++ [120]))) rfl (congrArg Sv t2) ?_; refine EL.callXw rfl rfl rfl ent21 rfl (fun w hs => hc2 w (GR.sat hG hs)) ?_; intro x2)
  refine EL.move rfl rfl rfl ?_
  refine EL.extract rfl rfl rfl rfl ?_
  refine EL.extract rfl rfl rfl rfl ?_
  refine EL.extract rfl rfl rfl rfl ?_
  refine EL.assign rfl rfl rfl ?_
  refine EL.assign rfl rfl rfl ?_
  refine .go ?_; repeat constructor
  refine .go ?_; repeat constructor
  refine EL.move rfl rfl rfl ?_
  refine EL.eqlI rfl rfl rfl rfl ?_
  refine EL.move rfl rfl rfl ?_
  refine EL.rew (d := 111) (v' := .bool true) rfl (by first | rfl | (decide) | (simp)) ?_
  refine EL.move rfl rfl rfl ?_
  refine EL.not rfl rfl rfl ?_
  refine EL.pickT rfl rfl rfl rfl ?_
  refine EL.assign rfl rfl rfl ?_
  refine .go ?_; repeat constructor
  exact PX.ret rfl Try.results7 (.cons (.tmp rfl) .nil) (fun w hs => ⟨(), rfl, hs.ent (.nil _)⟩)
theorem backmatchEquals_lifted (os : Os) (started : os.Started) (H : Type) (enc : TypeId × Value → H) :
    ReturnsInHanded {} Try.checked os 7 .any (Rows.backmatchEqualsSpec.pre6 enc Try.prog Try.f7 Rows.backmatchEqualsRow.domain false) (Rows.backmatchEqualsSpec.post enc Try.prog Try.f7 false true false false) := by
  refine returnsInHanded_of_change_shaped (C := Try.checked) own started (by kernel_rfl) Try.func7
    (ChangeSpec.witness6 (enc := enc) (C := Try.checked) false ⟨#[], #[.string ⟨#[]⟩, .string ⟨#[]⟩], []⟩ 8 (by kernel_rfl) (by kernel_rfl) (by kernel_rfl) (by kernel_rfl)) ?_
  intro W base args ds gs before hval0 hW _ hsz hsh _
  have hk : (DataW.weightsEach Try.prog (Try.f7.params.toList ++ []) (ds ++ gs)).all (· ≤ reachBytes) = true := hsz
  have hval : ∀ (j : Nat) t v, Try.f7.params[j]? = some t → args[j]? = some v → Value.okWide Try.prog W .any base t v := hval0
  have hW1 : DataW.Whole enc Try.prog Try.f7.params.toList Rows.backmatchEqualsSpec.vars false W args.toList ds gs before := hW
  have hW' := hW1
  obtain ⟨p, q, hA0, hV, rfl, hfz, hnd⟩ := hW1
  have hA : DataW.TrodAll enc Try.prog W 0 (fun _ => true) true Try.f7.params.toList args.toList ds p := hA0
  rw [Try.params7] at hA hval hk
  obtain ⟨v0, vs0, d0, ds0, p0, q0, hargs0, rfl, rfl, h0, r0⟩ := trodAll_cons hA
  obtain ⟨v1, vs1, d1, ds1, p1, q1, hargs1, rfl, rfl, h1, r1⟩ := trodAll_cons r0
  obtain ⟨rfl, rfl, rfl⟩ := trodAll_nil r1
  subst hargs1
  obtain rfl : args = #[v0, v1] := by cases args; simp_all
  obtain ⟨rfl, rfl⟩ := trodVars_none hV
  obtain ⟨l0, rfl, rfl⟩ := open_sv Try.underlying9 (hval 0 9 v0 rfl rfl) h0
  obtain ⟨l1, rfl, rfl⟩ := open_sv Try.underlying9 (hval 1 9 v1 rfl rfl) h1
  simp only [List.append_nil, DataW.weightsEach, w_str, w_int, reachBytes, List.nil_append, List.append_nil, List.all_append, List.all_cons, List.all_nil, Bool.and_true, Bool.and_eq_true, decide_eq_true_eq] at hk
  have hl0 : l0.length ≤ 140737488351232 := by first | omega | exact of_decide_eq_true hk | exact of_decide_eq_true hk.1 | exact of_decide_eq_true hk.2 | exact of_decide_eq_true hk.2.1 | exact of_decide_eq_true hk.2.2 | exact of_decide_eq_true hk.2.2.1 | exact of_decide_eq_true hk.2.2.2
  have hl1 : l1.length ≤ 140737488351232 := by first | omega | exact of_decide_eq_true hk | exact of_decide_eq_true hk.1 | exact of_decide_eq_true hk.2 | exact of_decide_eq_true hk.2.1 | exact of_decide_eq_true hk.2.2 | exact of_decide_eq_true hk.2.2.1 | exact of_decide_eq_true hk.2.2.2
  refine (equals_c l0 l1 W (GR.of hsh)).mono fun e W' ⟨_, he, hs⟩ => ⟨_, he, ?_⟩
  exact law_true (s := Rows.backmatchEqualsSpec) laidOut rfl Try.underlying4 (by kernel_rfl) rfl false rfl rfl rfl hW' hs.below
theorem backmatchEquals_holds : Rows.BackmatchEqualsSaid :=
  OpenClaim.holds_of_wide 7 Try.f7 rfl rfl rfl rfl rfl rfl rfl ⟨rfl, rfl, rfl, rfl, rfl⟩ rfl rfl rfl rfl rfl (by kernel_rfl) Try.func7 (by kernel_rfl)
    (of_decide_eq_true (by kernel_rfl)) (by unfold Func.isWrapper; first | (rw [if_pos (by decide +kernel)]; kernel_rfl) | (rw [if_neg (by decide +kernel)]; exact ⟨rfl, rfl⟩))
    (fun os started H enc _ => backmatchEquals_lifted os started H enc)
end Go.Proofs.Ytblpgpgbnlhjlaa
