/- Layer 9 (ways): the law WaysRuns returns true at every input. -/
import Derived.Test.YtblpgpgbnlhjlaaVf
import Derived.Test.YtblpgpgbnlhjlaaVg
import Derived.Test.YtblpgpgbnlhjlaaSlaw
namespace Go.Proofs.Ytblpgpgbnlhjlaa
open Go.ChangeShapes Go.WideShapes Go.ChangeAt
open Go Go.RowKit Sl
set_option maxRecDepth 100000
set_option maxHeartbeats 8000000
set_option linter.unusedVariables false
set_option linter.unusedSimpArgs false
attribute [local irreducible] ES EL PX wps

theorem ways_1 : waysM [92, 40, 97, 42, 92, 41, 42] [97, 97, 97] 0 = (8, 0) := by decide +kernel
theorem ways_2 : waysM [92, 40, 97, 42, 92, 41, 92, 49] [97, 97] 0 = (6, 0) := by decide +kernel
theorem ways_awake (w : World) (hG : GR w w.heap.size) : Pure Try.prog 15 #[] (fun _ : Unit => .bool true) (fun _ => []) w := by
  have h1 := fun w hG => waysCount_c [92, 40, 97, 42, 92, 41, 42] [97, 97, 97] (by decide) (by decide) 0 w hG
  have h2 := fun w hG => waysCount_c [92, 40, 97, 42, 92, 41, 92, 49] [97, 97] (by decide) (by decide) 0 w hG
  rw [ways_1] at h1
  rw [ways_2] at h2
  refine calls_of_ES TB Try.func15 rfl _ Try.ntmps15 rfl (Sat.start w) ?_
  refine .go ?_; repeat constructor
  refine EL.assign rfl rfl rfl ?_
  refine .go ?_; repeat constructor
  refine EL.callPw rfl rfl rfl ent16 rfl (fun w hs => h1 w (GR.sat hG hs)) ?_
  refine EL.move rfl rfl rfl ?_
  refine EL.extract rfl rfl rfl rfl ?_
  refine EL.extract rfl rfl rfl rfl ?_
  refine EL.assign rfl rfl rfl ?_
  refine EL.assign rfl rfl rfl ?_
  refine .go ?_; repeat constructor
  refine EL.callPw rfl rfl rfl ent16 rfl (fun w hs => h2 w (GR.sat hG hs)) ?_
  refine EL.move rfl rfl rfl ?_
  refine EL.extract rfl rfl rfl rfl ?_
  refine EL.extract rfl rfl rfl rfl ?_
  refine EL.assign rfl rfl rfl ?_
  refine EL.assign rfl rfl rfl ?_
  refine .go ?_; repeat constructor
  refine EL.cutX (X := Unit) (fun _ => [(0, .bool true)]) (fun _ => []) ?_ (fun _ => ?_)
  · refine .go ?_; repeat constructor
    refine EL.move rfl rfl rfl ?_
    refine EL.eqlI rfl rfl rfl rfl ?_
    refine EL.move rfl rfl rfl ?_
    first | refine EL.splitD (d := 15) rfl (fun hp15 => ?_) (fun hp15 => ?_) | refine EL.splitN (d := 15) rfl (fun hp15 => ?_) (fun hp15 => ?_) | refine EL.splitB (d := 15) rfl (fun hp15 => ?_) (fun hp15 => ?_)
    · refine EL.move rfl rfl rfl ?_
      refine EL.eqlI rfl rfl rfl rfl ?_
      refine EL.pickT rfl rfl rfl rfl ?_
      refine EL.move rfl rfl rfl ?_
      first | refine EL.splitD (d := 19) rfl (fun hp19 => ?_) (fun hp19 => ?_) | refine EL.splitN (d := 19) rfl (fun hp19 => ?_) (fun hp19 => ?_) | refine EL.splitB (d := 19) rfl (fun hp19 => ?_) (fun hp19 => ?_)
      · refine EL.move rfl rfl rfl ?_
        refine EL.eqlI rfl rfl rfl rfl ?_
        refine EL.pickT rfl rfl rfl rfl ?_
        refine EL.move rfl rfl rfl ?_
        first | refine EL.splitD (d := 23) rfl (fun hp23 => ?_) (fun hp23 => ?_) | refine EL.splitN (d := 23) rfl (fun hp23 => ?_) (fun hp23 => ?_) | refine EL.splitB (d := 23) rfl (fun hp23 => ?_) (fun hp23 => ?_)
        · refine EL.move rfl rfl rfl ?_
          refine EL.eqlI rfl rfl rfl rfl ?_
          refine EL.pickT rfl rfl rfl rfl ?_
          refine EL.assign rfl rfl rfl ?_
          exact EL.endX () ⟨getA rfl (congrArg Value.bool (by simp_all)), trivial⟩ (.i (by repeat constructor))
        · refine EL.pass rfl rfl rfl ?_
          refine EL.pass rfl rfl rfl ?_
          refine EL.pickF rfl rfl rfl rfl ?_
          refine EL.assign rfl rfl rfl ?_
          exact EL.endX () ⟨getA rfl (congrArg Value.bool (by simp_all)), trivial⟩ (.i (by repeat constructor))
      · refine EL.pass rfl rfl rfl ?_
        refine EL.pass rfl rfl rfl ?_
        refine EL.pickF rfl rfl rfl rfl ?_
        refine EL.move rfl rfl rfl ?_
        refine EL.pass rfl rfl rfl ?_
        refine EL.pass rfl rfl rfl ?_
        refine EL.pickF rfl rfl rfl rfl ?_
        refine EL.assign rfl rfl rfl ?_
        exact EL.endX () ⟨getA rfl (congrArg Value.bool (by simp_all)), trivial⟩ (.i (by repeat constructor))
    · refine EL.pass rfl rfl rfl ?_
      refine EL.pass rfl rfl rfl ?_
      refine EL.pickF rfl rfl rfl rfl ?_
      refine EL.move rfl rfl rfl ?_
      refine EL.pass rfl rfl rfl ?_
      refine EL.pass rfl rfl rfl ?_
      refine EL.pickF rfl rfl rfl rfl ?_
      refine EL.move rfl rfl rfl ?_
      refine EL.pass rfl rfl rfl ?_
      refine EL.pass rfl rfl rfl ?_
      refine EL.pickF rfl rfl rfl rfl ?_
      refine EL.assign rfl rfl rfl ?_
      exact EL.endX () ⟨getA rfl (congrArg Value.bool (by simp_all)), trivial⟩ (.i (by repeat constructor))
  refine .go ?_; repeat constructor
  exact PX.ret rfl Try.results15 (.cons (.tmp rfl) .nil) (fun w hs => ⟨(), rfl, hs.ent (.i (by repeat constructor))⟩)
theorem waysM0 {t s : List UInt8} {tree : RE} (hp : parseM t = ⟨tree, 0, 0⟩) (hs : s.length ≤ 1024) : waysM t s 0 = (countM s tree 0, 0) := by
  unfold waysM
  rw [hp, if_neg (by simp), if_neg (by omega), if_neg (by omega)]
  rfl
theorem runs_ways {k : Nat} (hk : k < 40) : waysM [92, 40, 97, 42, 92, 41, 42] (runA k) 0 = (capW (2 ^ k), 0) ∧ waysM [92, 40, 97, 92, 41, 42] (runA k) 0 = (capW (k + 1), 0) ∧ waysM [97, 42, 97, 42, 97, 42] (runA k) 0 = (capW (three k), 0) := by
  have p1 : parseM [92, 40, 97, 42, 92, 41, 42] = ⟨tComp, 0, 0⟩ := rfl
  have p2 : parseM [92, 40, 97, 92, 41, 42] = ⟨tOnes, 0, 0⟩ := rfl
  have p3 : parseM [97, 42, 97, 42, 97, 42] = ⟨tThree, 0, 0⟩ := rfl
  have hl : (runA k).length ≤ 1024 := by rw [List.length_replicate]; omega
  rw [waysM0 p1 hl, waysM0 p2 hl, waysM0 p3 hl, count_comp, count_ones, count_three]
  exact ⟨rfl, rfl, rfl⟩
theorem waysRuns_c (b : UInt8) (w : World) (hG : GR w w.heap.size) : Pure Try.prog 3 #[Uv b] (fun _ : Unit => .bool true) (fun _ => []) w := by
  have hb := b.toNat_lt
  obtain ⟨k, hk⟩ : ∃ k, k = b.toNat % 40 := ⟨_, rfl⟩
  have hk40 : k < 40 := by omega
  obtain ⟨r1, r2, r3⟩ := runs_ways hk40
  have hl : (runA k).length ≤ 4611686018427387904 := by rw [List.length_replicate]; omega
  have h1 := fun w hG => waysCount_c [92, 40, 97, 42, 92, 41, 42] (runA k) (by decide) hl 0 w hG
  have h2 := fun w hG => waysCount_c [92, 40, 97, 92, 41, 42] (runA k) (by decide) hl 0 w hG
  have h3 := fun w hG => waysCount_c [97, 42, 97, 42, 97, 42] (runA k) (by decide) hl 0 w hG
  rw [r1] at h1
  rw [r2] at h2
  rw [r3] at h3
  have hp : 2 ^ k ≤ 2 ^ 39 := Nat.pow_le_pow_right (by omega) (by omega)
  have hthree : three k = (k + 1) * (k + 2) * (k + 3) / 6 := three_eq k hk40
  have hm1 : (k + 1) * (k + 2) ≤ 40 * 41 := Nat.mul_le_mul (by omega) (by omega)
  have hm2 : (k + 1) * (k + 2) * (k + 3) ≤ 40 * 41 * 42 := Nat.mul_le_mul hm1 (by omega)
  refine calls_of_ES TB Try.func3 rfl _ Try.ntmps3 rfl (Sat.start w) ?_
  refine .go ?_; repeat constructor
  refine EL.assign rfl rfl rfl ?_
  refine .go ?_; repeat constructor
  refine EL.callPw rfl rfl rfl ent15 rfl (fun w hs => ways_awake w (GR.sat hG hs)) ?_
  refine EL.not rfl rfl rfl ?_
  refine .go ?_; repeat constructor
  refine ES.condF rfl ?_
  refine .go ?_; repeat constructor
  refine EL.move rfl rfl rfl ?_
  refine EL.remN (n := 40) rfl rfl rfl rfl (by omega) ?_
  (refine EL.convN rfl rfl rfl rfl rfl rfl (by simp only [kmax]; omega) ?_; rw [← hk])
  refine EL.assign rfl rfl rfl ?_
  refine .go ?_; repeat constructor
  refine EL.assign rfl rfl rfl ?_
  refine .go ?_; repeat constructor
  refine EL.move rfl rfl rfl ?_
  refine EL.move rfl rfl rfl ?_
  refine .go ?_; repeat constructor
  refine ES.loop (σ := Nat) (fun i => i ≤ k) (fun i => [(3, Iv (k : Nat)), (4, Sv (runA i)), (16, Iv (k : Nat)), (17, Iv (i : Nat))]) (fun _ => []) (fun i => k - i) 0 (Nat.zero_le _) ⟨rfl, rfl, rfl, rfl, trivial⟩ (.i (by repeat constructor)) ?_
  intro i hi
  refine .go ?_; repeat constructor
  refine EL.lss rfl rfl rfl rfl ?_
  refine .go ?_; repeat constructor
  refine ES.condD rfl (fun hlt => ?_) (fun hge => ?_)
  · have e : runA i ++ [97] = runA (i + 1) := (List.replicate_succ' ..).symm
    have hli : (runA i).length = i := List.length_replicate
    refine .go ?_; repeat constructor
    refine EL.move rfl rfl rfl ?_
    refine EL.cat rfl rfl rfl rfl (by first | omega | (simp only [List.length_append, List.length_cons, List.length_nil]; omega)) ?_
    refine EL.assign rfl rfl rfl ?_
    refine .go ?_; repeat constructor
    refine EL.add1 rfl rfl rfl rfl (by omega) ?_
    refine EL.move rfl rfl rfl ?_
    refine .go ?_; repeat constructor
    exact PX.loop (i + 1) (by omega) (by omega) ⟨rfl, getA rfl (congrArg Sv e), rfl, rfl, trivial⟩ (.i (by repeat constructor))
  obtain rfl : i = k := by omega
  have hA : ((capW (2 ^ i) : Nat) : Int) = min ((1 * 2 ^ i : Nat) : Int) 4097 := by unfold capW; omega
  have hB : ((capW (i + 1) : Nat) : Int) = ((i + 1 : Nat) : Int) := by unfold capW; omega
  have hC : ((capW (three i) : Nat) : Int) = min (((i + 1) * (i + 2) * (i + 3) / 6 : Nat) : Int) 4097 := by rw [hthree]; unfold capW; omega
  refine .go ?_; repeat constructor
  refine EL.move rfl rfl rfl ?_
  refine EL.callPw rfl rfl rfl ent16 rfl (fun w hs => h1 w (GR.sat hG hs)) ?_
  refine EL.move rfl rfl rfl ?_
  refine EL.extract rfl rfl rfl rfl ?_
  refine EL.extract rfl rfl rfl rfl ?_
  refine EL.assign rfl rfl rfl ?_
  refine EL.assign rfl rfl rfl ?_
  refine .go ?_; repeat constructor
  refine EL.move rfl rfl rfl ?_
  refine EL.callPw rfl rfl rfl ent16 rfl (fun w hs => h2 w (GR.sat hG hs)) ?_
  refine EL.move rfl rfl rfl ?_
  refine EL.extract rfl rfl rfl rfl ?_
  refine EL.extract rfl rfl rfl rfl ?_
  refine EL.assign rfl rfl rfl ?_
  refine EL.assign rfl rfl rfl ?_
  refine .go ?_; repeat constructor
  refine EL.move rfl rfl rfl ?_
  refine EL.callPw rfl rfl rfl ent16 rfl (fun w hs => h3 w (GR.sat hG hs)) ?_
  refine EL.move rfl rfl rfl ?_
  refine EL.extract rfl rfl rfl rfl ?_
  refine EL.extract rfl rfl rfl rfl ?_
  refine EL.assign rfl rfl rfl ?_
  refine EL.assign rfl rfl rfl ?_
  refine .go ?_; repeat constructor
  refine EL.cutX (X := Unit) (fun _ => [(2, .bool true)]) (fun _ => []) ?_ (fun _ => ?_)
  · refine .go ?_; repeat constructor
    refine EL.move rfl rfl rfl ?_
    refine EL.eqlI rfl rfl rfl rfl ?_
    refine EL.move rfl rfl rfl ?_
    first | refine EL.splitD (d := 39) rfl (fun hp39 => ?_) (fun hp39 => ?_) | refine EL.splitN (d := 39) rfl (fun hp39 => ?_) (fun hp39 => ?_) | refine EL.splitB (d := 39) rfl (fun hp39 => ?_) (fun hp39 => ?_)
    · refine EL.move rfl rfl rfl ?_
      refine EL.eqlI rfl rfl rfl rfl ?_
      refine EL.pickT rfl rfl rfl rfl ?_
      refine EL.move rfl rfl rfl ?_
      first | refine EL.splitD (d := 43) rfl (fun hp43 => ?_) (fun hp43 => ?_) | refine EL.splitN (d := 43) rfl (fun hp43 => ?_) (fun hp43 => ?_) | refine EL.splitB (d := 43) rfl (fun hp43 => ?_) (fun hp43 => ?_)
      · refine EL.move rfl rfl rfl ?_
        refine EL.eqlI rfl rfl rfl rfl ?_
        refine EL.pickT rfl rfl rfl rfl ?_
        refine EL.move rfl rfl rfl ?_
        first | refine EL.splitD (d := 47) rfl (fun hp47 => ?_) (fun hp47 => ?_) | refine EL.splitN (d := 47) rfl (fun hp47 => ?_) (fun hp47 => ?_) | refine EL.splitB (d := 47) rfl (fun hp47 => ?_) (fun hp47 => ?_)
        · refine EL.move rfl rfl rfl ?_
          refine EL.move rfl rfl rfl ?_
          refine EL.ofRV (RV.shlI (n := 1) rfl rfl (by omega) (by omega)) rfl rfl rfl (by intro c h; cases h) ?_
          refine EL.ofRV (RV.minI rfl rfl) rfl rfl rfl (by intro c h; cases h) ?_
          refine EL.eqlI rfl rfl rfl rfl ?_
          refine EL.pickT rfl rfl rfl rfl ?_
          refine EL.move rfl rfl rfl ?_
          first | refine EL.splitD (d := 54) rfl (fun hp54 => ?_) (fun hp54 => ?_) | refine EL.splitN (d := 54) rfl (fun hp54 => ?_) (fun hp54 => ?_) | refine EL.splitB (d := 54) rfl (fun hp54 => ?_) (fun hp54 => ?_)
          · refine EL.move rfl rfl rfl ?_
            refine EL.move rfl rfl rfl ?_
            refine EL.add1 rfl rfl rfl rfl (by omega) ?_
            refine EL.eqlI rfl rfl rfl rfl ?_
            refine EL.pickT rfl rfl rfl rfl ?_
            refine EL.move rfl rfl rfl ?_
            first | refine EL.splitD (d := 60) rfl (fun hp60 => ?_) (fun hp60 => ?_) | refine EL.splitN (d := 60) rfl (fun hp60 => ?_) (fun hp60 => ?_) | refine EL.splitB (d := 60) rfl (fun hp60 => ?_) (fun hp60 => ?_)
            · refine EL.move rfl rfl rfl ?_
              refine EL.move rfl rfl rfl ?_
              refine EL.add1 rfl rfl rfl rfl (by omega) ?_
              refine EL.move rfl rfl rfl ?_
              refine EL.addN (n := 2) rfl rfl rfl rfl rfl (by omega) ?_
              refine EL.mulN rfl rfl rfl rfl rfl (by omega) ?_
              refine EL.move rfl rfl rfl ?_
              refine EL.addN (n := 3) rfl rfl rfl rfl rfl (by omega) ?_
              refine EL.mulN rfl rfl rfl rfl rfl (by omega) ?_
              refine EL.ofRV (RV.quoU (n := 6) rfl rfl (by omega) (by simp only [kmax]; omega)) rfl rfl rfl (by intro c h; cases h) ?_
              refine EL.ofRV (RV.minI rfl rfl) rfl rfl rfl (by intro c h; cases h) ?_
              refine EL.eqlI rfl rfl rfl rfl ?_
              refine EL.pickT rfl rfl rfl rfl ?_
              refine EL.assign rfl rfl rfl ?_
              exact EL.endX () ⟨getA rfl (congrArg Value.bool (by first | exact decide_eq_true hC | exact absurd hA (by assumption) | exact absurd hB (by assumption) | exact absurd rfl (by assumption))), trivial⟩ (.i (by repeat constructor))
            · refine EL.pass rfl rfl rfl ?_
              refine EL.pass rfl rfl rfl ?_
              refine EL.pass rfl rfl rfl ?_
              refine EL.pass rfl rfl rfl ?_
              refine EL.pass rfl rfl rfl ?_
              refine EL.pass rfl rfl rfl ?_
              refine EL.pass rfl rfl rfl ?_
              refine EL.pass rfl rfl rfl ?_
              refine EL.pass rfl rfl rfl ?_
              refine EL.pass rfl rfl rfl ?_
              refine EL.pass rfl rfl rfl ?_
              refine EL.pass rfl rfl rfl ?_
              refine EL.pickF rfl rfl rfl rfl ?_
              refine EL.assign rfl rfl rfl ?_
              exact EL.endX () ⟨getA rfl (congrArg Value.bool (by first | exact decide_eq_true hC | exact absurd hA (by assumption) | exact absurd hB (by assumption) | exact absurd rfl (by assumption))), trivial⟩ (.i (by repeat constructor))
          · refine EL.pass rfl rfl rfl ?_
            refine EL.pass rfl rfl rfl ?_
            refine EL.pass rfl rfl rfl ?_
            refine EL.pass rfl rfl rfl ?_
            refine EL.pickF rfl rfl rfl rfl ?_
            refine EL.move rfl rfl rfl ?_
            refine EL.pass rfl rfl rfl ?_
            refine EL.pass rfl rfl rfl ?_
            refine EL.pass rfl rfl rfl ?_
            refine EL.pass rfl rfl rfl ?_
            refine EL.pass rfl rfl rfl ?_
            refine EL.pass rfl rfl rfl ?_
            refine EL.pass rfl rfl rfl ?_
            refine EL.pass rfl rfl rfl ?_
            refine EL.pass rfl rfl rfl ?_
            refine EL.pass rfl rfl rfl ?_
            refine EL.pass rfl rfl rfl ?_
            refine EL.pass rfl rfl rfl ?_
            refine EL.pickF rfl rfl rfl rfl ?_
            refine EL.assign rfl rfl rfl ?_
            exact EL.endX () ⟨getA rfl (congrArg Value.bool (by first | exact decide_eq_true hC | exact absurd hA (by assumption) | exact absurd hB (by assumption) | exact absurd rfl (by assumption))), trivial⟩ (.i (by repeat constructor))
        · refine EL.pass rfl rfl rfl ?_
          refine EL.pass rfl rfl rfl ?_
          refine EL.pass rfl rfl rfl ?_
          refine EL.pass rfl rfl rfl ?_
          refine EL.pass rfl rfl rfl ?_
          refine EL.pickF rfl rfl rfl rfl ?_
          refine EL.move rfl rfl rfl ?_
          refine EL.pass rfl rfl rfl ?_
          refine EL.pass rfl rfl rfl ?_
          refine EL.pass rfl rfl rfl ?_
          refine EL.pass rfl rfl rfl ?_
          refine EL.pickF rfl rfl rfl rfl ?_
          refine EL.move rfl rfl rfl ?_
          refine EL.pass rfl rfl rfl ?_
          refine EL.pass rfl rfl rfl ?_
          refine EL.pass rfl rfl rfl ?_
          refine EL.pass rfl rfl rfl ?_
          refine EL.pass rfl rfl rfl ?_
          refine EL.pass rfl rfl rfl ?_
          refine EL.pass rfl rfl rfl ?_
          refine EL.pass rfl rfl rfl ?_
          refine EL.pass rfl rfl rfl ?_
          refine EL.pass rfl rfl rfl ?_
          refine EL.pass rfl rfl rfl ?_
          refine EL.pass rfl rfl rfl ?_
          refine EL.pickF rfl rfl rfl rfl ?_
          refine EL.assign rfl rfl rfl ?_
          exact EL.endX () ⟨getA rfl (congrArg Value.bool (by first | exact decide_eq_true hC | exact absurd hA (by assumption) | exact absurd hB (by assumption) | exact absurd rfl (by assumption))), trivial⟩ (.i (by repeat constructor))
      · refine EL.pass rfl rfl rfl ?_
        refine EL.pass rfl rfl rfl ?_
        refine EL.pickF rfl rfl rfl rfl ?_
        refine EL.move rfl rfl rfl ?_
        refine EL.pass rfl rfl rfl ?_
        refine EL.pass rfl rfl rfl ?_
        refine EL.pass rfl rfl rfl ?_
        refine EL.pass rfl rfl rfl ?_
        refine EL.pass rfl rfl rfl ?_
        refine EL.pickF rfl rfl rfl rfl ?_
        refine EL.move rfl rfl rfl ?_
        refine EL.pass rfl rfl rfl ?_
        refine EL.pass rfl rfl rfl ?_
        refine EL.pass rfl rfl rfl ?_
        refine EL.pass rfl rfl rfl ?_
        refine EL.pickF rfl rfl rfl rfl ?_
        refine EL.move rfl rfl rfl ?_
        refine EL.pass rfl rfl rfl ?_
        refine EL.pass rfl rfl rfl ?_
        refine EL.pass rfl rfl rfl ?_
        refine EL.pass rfl rfl rfl ?_
        refine EL.pass rfl rfl rfl ?_
        refine EL.pass rfl rfl rfl ?_
        refine EL.pass rfl rfl rfl ?_
        refine EL.pass rfl rfl rfl ?_
        refine EL.pass rfl rfl rfl ?_
        refine EL.pass rfl rfl rfl ?_
        refine EL.pass rfl rfl rfl ?_
        refine EL.pass rfl rfl rfl ?_
        refine EL.pickF rfl rfl rfl rfl ?_
        refine EL.assign rfl rfl rfl ?_
        exact EL.endX () ⟨getA rfl (congrArg Value.bool (by first | exact decide_eq_true hC | exact absurd hA (by assumption) | exact absurd hB (by assumption) | exact absurd rfl (by assumption))), trivial⟩ (.i (by repeat constructor))
    · refine EL.pass rfl rfl rfl ?_
      refine EL.pass rfl rfl rfl ?_
      refine EL.pickF rfl rfl rfl rfl ?_
      refine EL.move rfl rfl rfl ?_
      refine EL.pass rfl rfl rfl ?_
      refine EL.pass rfl rfl rfl ?_
      refine EL.pickF rfl rfl rfl rfl ?_
      refine EL.move rfl rfl rfl ?_
      refine EL.pass rfl rfl rfl ?_
      refine EL.pass rfl rfl rfl ?_
      refine EL.pass rfl rfl rfl ?_
      refine EL.pass rfl rfl rfl ?_
      refine EL.pass rfl rfl rfl ?_
      refine EL.pickF rfl rfl rfl rfl ?_
      refine EL.move rfl rfl rfl ?_
      refine EL.pass rfl rfl rfl ?_
      refine EL.pass rfl rfl rfl ?_
      refine EL.pass rfl rfl rfl ?_
      refine EL.pass rfl rfl rfl ?_
      refine EL.pickF rfl rfl rfl rfl ?_
      refine EL.move rfl rfl rfl ?_
      refine EL.pass rfl rfl rfl ?_
      refine EL.pass rfl rfl rfl ?_
      refine EL.pass rfl rfl rfl ?_
      refine EL.pass rfl rfl rfl ?_
      refine EL.pass rfl rfl rfl ?_
      refine EL.pass rfl rfl rfl ?_
      refine EL.pass rfl rfl rfl ?_
      refine EL.pass rfl rfl rfl ?_
      refine EL.pass rfl rfl rfl ?_
      refine EL.pass rfl rfl rfl ?_
      refine EL.pass rfl rfl rfl ?_
      refine EL.pass rfl rfl rfl ?_
      refine EL.pickF rfl rfl rfl rfl ?_
      refine EL.assign rfl rfl rfl ?_
      exact EL.endX () ⟨getA rfl (congrArg Value.bool (by first | exact decide_eq_true hC | exact absurd hA (by assumption) | exact absurd hB (by assumption) | exact absurd rfl (by assumption))), trivial⟩ (.i (by repeat constructor))
  refine .go ?_; repeat constructor
  exact PX.ret rfl Try.results3 (.cons (.tmp rfl) .nil) (fun w hs => ⟨(), rfl, hs.ent (.i (by repeat constructor))⟩)
theorem waysRuns_lifted (os : Os) (started : os.Started) (H : Type) (enc : TypeId × Value → H) :
    ReturnsInHanded {} Try.checked os 3 .any (Rows.waysRunsSpec.pre6 enc Try.prog Try.f3 Rows.waysRunsRow.domain false) (Rows.waysRunsSpec.post enc Try.prog Try.f3 false true false false) := by
  refine returnsInHanded_of_change_shaped (C := Try.checked) own started (by kernel_rfl) Try.func3
    (ChangeSpec.witness6 (enc := enc) (C := Try.checked) false ⟨#[], #[.int .u8 0], []⟩ 8 (by kernel_rfl) (by kernel_rfl) (by kernel_rfl) (by kernel_rfl)) ?_
  intro W base args ds gs before hval0 hW _ hsz hsh _
  have hk : (DataW.weightsEach Try.prog (Try.f3.params.toList ++ []) (ds ++ gs)).all (· ≤ reachBytes) = true := hsz
  have hval : ∀ (j : Nat) t v, Try.f3.params[j]? = some t → args[j]? = some v → Value.okWide Try.prog W .any base t v := hval0
  have hW1 : DataW.Whole enc Try.prog Try.f3.params.toList Rows.waysRunsSpec.vars false W args.toList ds gs before := hW
  have hW' := hW1
  obtain ⟨p, q, hA0, hV, rfl, hfz, hnd⟩ := hW1
  have hA : DataW.TrodAll enc Try.prog W 0 (fun _ => true) true Try.f3.params.toList args.toList ds p := hA0
  rw [Try.params3] at hA hval hk
  obtain ⟨v0, vs0, d0, ds0, p0, q0, hargs0, rfl, rfl, h0, r0⟩ := trodAll_cons hA
  obtain ⟨rfl, rfl, rfl⟩ := trodAll_nil r0
  obtain rfl : args = #[v0] := by cases args; simp_all
  obtain ⟨rfl, rfl⟩ := trodVars_none hV
  obtain ⟨b0, rfl, rfl⟩ := open_uv Try.underlying5 (hval 0 5 v0 rfl rfl) h0
  refine (waysRuns_c b0 W (GR.of hsh)).mono fun e W' ⟨_, he, hs⟩ => ⟨_, he, ?_⟩
  exact law_true (s := Rows.waysRunsSpec) laidOut rfl Try.underlying4 (by kernel_rfl) rfl false rfl rfl rfl hW' hs.below
theorem waysRuns_holds : Rows.WaysRunsSaid :=
  OpenClaim.holds_of_wide 3 Try.f3 rfl rfl rfl rfl rfl rfl rfl ⟨rfl, rfl, rfl, rfl, rfl⟩ rfl rfl rfl rfl rfl (by kernel_rfl) Try.func3 (by kernel_rfl)
    (of_decide_eq_true (by kernel_rfl)) (by unfold Func.isWrapper; first | (rw [if_pos (by decide +kernel)]; kernel_rfl) | (rw [if_neg (by decide +kernel)]; exact ⟨rfl, rfl⟩))
    (fun os started H enc _ => waysRuns_lifted os started H enc)
end Go.Proofs.Ytblpgpgbnlhjlaa
