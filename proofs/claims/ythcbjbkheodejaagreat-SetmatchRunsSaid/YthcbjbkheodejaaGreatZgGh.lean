/- Layer 8: the law SetmatchRuns returns true at every input. -/
import Derived.Test.YthcbjbkheodejaaGreatZg6
namespace Go.Proofs.YthcbjbkheodejaaGreat
open Go.ChangeShapes Go.WideShapes Go.ChangeAt
open Go Go.RowKit Sl
set_option maxRecDepth 100000
set_option maxHeartbeats 8000000
set_option linter.unusedVariables false
set_option linter.unusedSimpArgs false
attribute [local irreducible] ES EL PX wps
theorem tw_pok : ∀ l g, posR (tw l g) = 1 ∧ (tw l g).pok
  | 0, g => by
    have h : posR (tw 0 g) = 1 := rfl
    refine ⟨h, ?_⟩
    rw [tw, RE.pok]
    exact ⟨by decide, trivial⟩
  | l + 1, g => by
    obtain ⟨h1, h2⟩ := tw_pok l (g + 1)
    have ht : timesM 0 (-1) = 1 := by decide
    have hg : posR (grpT l g) = 1 := by
      rw [grpT, posR, posR, posL, posL, h1]
    have h : posR (tw (l + 1) g) = 1 := by
      rw [tw_succ, posR, hg, ht]
    refine ⟨h, ?_⟩
    rw [tw_succ, RE.pok, hg, ht]
    refine ⟨by omega, ?_⟩
    rw [grpT, RE.pok, RE.pok, pokL, pokL, posL, posL, h1]
    exact ⟨by simp, by omega, h2, trivial⟩
theorem pat_pok (d : Nat) : posR (pat d) = 2 ∧ (pat d).pok := by
  obtain ⟨h1, h2⟩ := tw_pok d 1
  have hb : posR (.byte sB) = 1 := by rw [posR]
  have h : posR (pat d) = 2 := by rw [pat, posR, posL, posL, posL, h1, hb]
  refine ⟨h, ?_⟩
  rw [pat, RE.pok, pokL, pokL, pokL, posL, posL, posL, h1, hb]
  exact ⟨by simp, by omega, h2, trivial, trivial⟩
theorem ddocOf_c (t : List UInt8) (r : RE) (hp : parseM t = ⟨r, 0, 0⟩) (hpok : r.pok) (ht : t.length ≤ 4611686018427387904) (w : World) : Pure Tryz.prog 25 #[Sv t] (fun x : Int × Int => .tuple #[.agg (ofC r x).toArray, Iv 0, Iv 0]) (fun _ => []) w := by
  have hpc := ddoc_p t ht
  have hf := parse_fine t
  generalize parseM t = p at hp hpc hf
  subst hp
  dsimp only at hpc hf
  refine calls_of_ES TB Tryz.func25 rfl _ Tryz.ntmps25 rfl (Sat.start w) ?_; refine .go ?_; (repeat constructor); (refine .al ?_; intro g2); refine .as_ ?_; refine .as_ ?_; refine .go ?_; (repeat constructor); refine .mv ?_; (refine EL.callX rfl rfl rfl ent28 rfl hpc ?_; intro px); refine .mv ?_; refine .ex ?_; refine .ex ?_; refine .ex ?_; (refine .al ?_; intro g5); refine .sa ?_; refine .as_ ?_; refine .as_ ?_; refine .go ?_; (repeat constructor); refine .go ?_; (repeat constructor); refine .mv ?_; refine .ni ?_; refine .go ?_; (repeat constructor); refine ES.condF rfl ?_; refine .go ?_; (repeat constructor); refine .lg ?_; (refine EL.callXw rfl rfl rfl ent45 rfl (fun w' hs => dof_c r hf hpok px.ad px.cap w' (kids_of hs (by repeat constructor))) ?_; intro x); refine .sa ?_; refine .as_ ?_; refine .as_ ?_; refine .go ?_; repeat constructor
  exact PX.ret rfl Tryz.results25 (.cons (.blkA rfl rfl rfl (by repeat constructor) rfl) (.cons (.tmp rfl) (.cons (.tmp rfl) .nil))) (fun w hs => ⟨x, rfl, hs.ent (.nil _)⟩)
def mostC (t s : List UInt8) : Nat := 36 * (t.length + 1) * ((s.length + 1) * (s.length + 1))
theorem most08_c (t s : List UInt8) (r : RE) (hp : parseM t = ⟨r, 0, 0⟩) (hpok : r.pok) (h2 : posR r = 2) (ht : t.length ≤ 1000) (hs : s.length ≤ 1000) (w : World) : Pure Tryz.prog 8 #[Sv t, Sv s] (fun _ : Unit => Iv (mostC t s : Nat)) (fun _ => []) w := by
  have b1 : 36 * (t.length + 1) * (s.length + 1) ≤ 36 * 1001 * 1001 := Nat.mul_le_mul (by omega) (by omega)
  have b2 : 36 * (t.length + 1) * (s.length + 1) * (s.length + 1) ≤ 36 * 1001 * 1001 * 1001 := Nat.mul_le_mul b1 (by omega)
  have e1 : 36 * ((t.length : Int) + 1) * ((s.length : Int) + 1) = ((36 * (t.length + 1) * (s.length + 1) : Nat) : Int) := by simp
  have e2 : ((36 * (t.length + 1) * (s.length + 1) : Nat) : Int) * ((s.length : Int) + 1) = ((36 * (t.length + 1) * (s.length + 1) * (s.length + 1) : Nat) : Int) := by simp
  have e3 : mostC t s = 36 * (t.length + 1) * (s.length + 1) * (s.length + 1) := by unfold mostC; rw [Nat.mul_assoc (36 * (t.length + 1))]
  rw [e3]
  refine calls_of_ES TB Tryz.func8 rfl _ Tryz.ntmps8 rfl (Sat.start w) ?_; refine .go ?_; (repeat constructor); refine .as_ ?_; refine .go ?_; (repeat constructor); refine .mv ?_; (refine EL.callXw rfl rfl rfl ent25 rfl (fun w' _ => ddocOf_c t r hp hpok (by omega) w') ?_; intro x); refine .mv ?_; refine .ex ?_; refine .ex ?_; refine .ex ?_; (refine .al ?_; intro g5); refine .sa ?_; refine .as_ ?_; refine .as_ ?_; refine .go ?_; (repeat constructor); refine .go ?_; (repeat constructor); refine .fa ?_; refine .lb ?_
  refine EL.add 3 rfl rfl rfl rfl (by show IntKind.i64.wrap (((posR r : Nat) : Int) + 1) = 3; rw [h2]; decide) ?_
  refine .mv ?_; refine .lS ?_; refine EL.add ((s.length : Int) + 1) rfl rfl rfl rfl (wrap_i64 _ (by omega) (by omega)) ?_; refine .as_ ?_; refine .as_ ?_; refine .go ?_; (repeat constructor); refine .go ?_; (repeat constructor); refine .mv ?_; refine EL.mul 12 rfl rfl rfl rfl (by decide) ?_; refine .mv ?_; refine EL.mul 36 rfl rfl rfl rfl (by decide) ?_; refine .mv ?_; refine .lS ?_; refine EL.add ((t.length : Int) + 1) rfl rfl rfl rfl (wrap_i64 _ (by omega) (by omega)) ?_; refine EL.mul (36 * ((t.length : Int) + 1)) rfl rfl rfl rfl (wrap_i64 _ (by omega) (by omega)) ?_; refine .mv ?_
  refine EL.mul ((36 * (t.length + 1) * (s.length + 1) : Nat) : Int) rfl rfl rfl rfl (by rw [e1]; exact wrap_i64 _ (by omega) (by omega)) ?_
  refine .mv ?_
  refine EL.mul ((36 * (t.length + 1) * (s.length + 1) * (s.length + 1) : Nat) : Int) rfl rfl rfl rfl (by rw [e2]; exact wrap_i64 _ (by omega) (by omega)) ?_
  refine .as_ ?_; refine .go ?_; repeat constructor
  exact PX.ret rfl Tryz.results8 (.cons (.tmp rfl) .nil) (fun w hs => ⟨(), rfl, hs.ent (.nil _)⟩)
theorem runs_c (n dp : UInt8) (w : World) (hG : GR w w.heap.size) : Pure Tryz.prog 3 #[Uv n, Uv dp] (fun _ : Unit => .bool true) (fun _ => []) w := by
  have hn := n.toNat_lt
  have hdp := dp.toNat_lt
  obtain ⟨m, hm⟩ : ∃ m, m = n.toNat % 120 := ⟨_, rfl⟩
  obtain ⟨d, hd⟩ : ∃ d, d = dp.toNat % 9 := ⟨_, rfl⟩
  have hm9 : m ≤ 119 := by omega
  have hd9 : d < 9 := by omega
  obtain ⟨r1, x1, x2, x3, x4, x5⟩ := runs_no d m hd9 hm9
  obtain ⟨F, r2, y1, y2, y3, y4, y5, y6, y7⟩ := runs_yes d m hd9 hm9
  have hld := textD_len d
  obtain ⟨sp2, hsp⟩ : ∃ sp2, sp2 = r2.spans := ⟨_, rfl⟩
  obtain ⟨rest, hrest⟩ : ∃ rest, sp2 = (0, ((m + 1 : Nat) : Int)) :: rest := by
    rw [← hsp] at y5
    cases sp2 with
    | nil => simp at y5
    | cons p l => simp only [List.getElem?_cons_zero, Option.some.injEq] at y5; exact ⟨l, by rw [y5]⟩
  have hrl : rest.length = d := by
    rw [← hsp, hrest, List.length_cons] at y4
    omega
  have c1 := fun w hG => setMatch_c 0 (textD d ++ [98]) (List.replicate m 97) 0 r1 x1 (by simp; omega) w hG
  have c2 := fun w hG => setMatch_c F (textD d ++ [98]) (List.replicate m 97 ++ [98]) 0 r2 y1 (by simp; omega) w hG
  rw [x2, x3, x4] at c1
  rw [y2, y3, ← hsp, hrest] at c2
  obtain ⟨p1, p2⟩ := pat_pok d
  have q1 := fun w => most08_c (textD d ++ [98]) (List.replicate m 97) (pat d) (parse_d d hd9) p2 p1 (by simp; omega) (by simp; omega) w
  have q2 := fun w => most08_c (textD d ++ [98]) (List.replicate m 97 ++ [98]) (pat d) (parse_d d hd9) p2 p1 (by simp; omega) (by simp; omega) w
  have l1 : (textD d ++ [98]).length + 1 = 5 * d + 4 := by rw [List.length_append, hld]; simp
  have m1 : mostC (textD d ++ [98]) (List.replicate m 97) = 36 * (5 * d + 4) * ((m + 1) * (m + 1)) := by unfold mostC; rw [l1, List.length_replicate]
  have m2 : mostC (textD d ++ [98]) (List.replicate m 97 ++ [98]) = 36 * (5 * d + 4) * ((m + 2) * (m + 2)) := by unfold mostC; rw [l1, List.length_append, List.length_replicate]; rfl
  rw [← m1] at x5
  rw [← m2] at y7
  generalize mostC (textD d ++ [98]) (List.replicate m 97) = M1 at q1 x5
  generalize mostC (textD d ++ [98]) (List.replicate m 97 ++ [98]) = M2 at q2 y7
  generalize r1.steps = s1 at c1 x5
  generalize r2.steps = s2 at c2 y6 y7
  refine calls_of_ES TB Tryz.func3 rfl _ Tryz.ntmps3 rfl (Sat.start w) ?_; refine .go ?_; (repeat constructor); refine .as_ ?_; refine .go ?_; (repeat constructor); refine EL.callPw rfl rfl rfl ent6 rfl (fun w hs => awake08_c w (GR.sat hG hs)) ?_; refine .nt ?_; refine .go ?_; (repeat constructor); refine ES.condF rfl ?_; refine .go ?_; (repeat constructor); refine .as_ ?_; refine .as_ ?_; refine .go ?_; (repeat constructor); refine .mv ?_; refine EL.remN (n := 120) rfl rfl rfl rfl (by omega) ?_; refine .mv ?_; refine .go ?_; (repeat constructor); refine ES.loop (σ := Nat) (fun i => i ≤ m) (fun i => [(1, Uv dp), (5, Sv (List.replicate i 97)), (6, Sv [97, 42]), (18, .int .u8 (m : Nat)), (19, .int .u8 (i : Nat))]) (fun _ => []) (fun i => m - i) 0 (Nat.zero_le _) ⟨rfl, rfl, rfl, getA rfl (congrArg (fun k : Nat => Value.int .u8 ((k : Nat) : Int)) hm.symm), rfl, trivial⟩ (.i (by repeat constructor)) ?_
  intro i hi
  refine .go ?_; (repeat constructor); refine .ls ?_; refine .go ?_; repeat constructor
  refine ES.condD rfl (fun hlt => ?_) (fun hge => ?_)
  · have e : List.replicate i (97 : UInt8) ++ [97] = List.replicate (i + 1) 97 := (List.replicate_succ' ..).symm
    have hli : (List.replicate i (97 : UInt8)).length = i := List.length_replicate
    refine .go ?_; (repeat constructor); refine .mv ?_
    refine EL.cat rfl rfl rfl rfl (by first | omega | (simp only [List.length_append, List.length_cons, List.length_nil]; omega)) ?_
    refine .as_ ?_; refine .go ?_; repeat constructor
    refine EL.ofRV (RV.addK (n := 1) rfl rfl (by simp only [kmax]; omega)) rfl rfl rfl (by intro c h; cases h) ?_
    refine .mv ?_; refine .go ?_; repeat constructor
    exact .lx (i + 1) (by omega) (by omega) ⟨rfl, getA rfl (congrArg Sv e), rfl, rfl, rfl, trivial⟩
  obtain rfl : i = m := by omega
  refine .go ?_; (repeat constructor); refine .mv ?_; refine EL.remN (n := 9) rfl rfl rfl rfl (by omega) ?_; refine .mv ?_; refine .go ?_; (repeat constructor); refine ES.loop (σ := Nat) (fun k => k ≤ d) (fun k => [(1, Uv dp), (5, Sv (List.replicate i 97)), (6, Sv (textD k)), (25, .int .u8 (d : Nat)), (26, .int .u8 (k : Nat))]) (fun _ => []) (fun k => d - k) 0 (Nat.zero_le _) ⟨rfl, rfl, rfl, getA rfl (congrArg (fun k : Nat => Value.int .u8 ((k : Nat) : Int)) hd.symm), rfl, trivial⟩ (.i (by repeat constructor)) ?_
  intro k hk
  refine .go ?_; (repeat constructor); refine .ls ?_; refine .go ?_; repeat constructor
  refine ES.condD rfl (fun hlt => ?_) (fun hge => ?_)
  · have hlk := textD_len k
    have e : [92, 40] ++ textD k ++ [92, 41, 42] = textD (k + 1) := rfl
    refine .go ?_; (repeat constructor); refine .mv ?_
    refine EL.cat rfl rfl rfl rfl (by simp; omega) ?_
    refine EL.cat rfl rfl rfl rfl (by simp; omega) ?_
    refine .as_ ?_; refine .go ?_; repeat constructor
    refine EL.ofRV (RV.addK (n := 1) rfl rfl (by simp only [kmax]; omega)) rfl rfl rfl (by intro c h; cases h) ?_
    refine .mv ?_; refine .go ?_; repeat constructor
    exact .lx (k + 1) (by omega) (by omega) ⟨rfl, rfl, getA rfl (congrArg Sv e), rfl, rfl, trivial⟩
  obtain rfl : k = d := by omega
  have hli : (List.replicate i (97 : UInt8)).length = i := List.length_replicate
  refine .go ?_; (repeat constructor); refine .mv ?_
  refine EL.cat rfl rfl rfl rfl (by simp; omega) ?_
  refine .as_ ?_; refine .go ?_; (repeat constructor); refine .go ?_; (repeat constructor); refine .mv ?_; refine .mv ?_
  (refine EL.callXw rfl rfl rfl ent7 rfl (fun w hs => c1 w (GR.sat hG hs)) ?_; rintro ⟨xa, xc⟩)
  refine .mv ?_; refine .ex ?_; refine .ex ?_; refine .ex ?_; refine .ex ?_; refine .as_ ?_; refine .as_ ?_; refine .as_ ?_; refine .as_ ?_; refine .go ?_; (repeat constructor); refine .go ?_; (repeat constructor); refine .mv ?_; refine .mv ?_
  refine EL.cat rfl rfl rfl rfl (by first | omega | (simp only [List.length_append, List.length_cons, List.length_nil]; omega)) ?_
  (refine EL.callXw rfl rfl rfl ent7 rfl (fun w hs => c2 w (GR.sat hG hs)) ?_; rintro ⟨ya, yc⟩)
  refine .mv ?_; refine .ex ?_; refine .ex ?_; refine .ex ?_; refine .ex ?_; refine .as_ ?_; refine .as_ ?_; refine .as_ ?_; refine .as_ ?_; refine .go ?_; (repeat constructor); refine .go ?_; (repeat constructor); refine .mv ?_; refine .ni ?_; refine .mv ?_
  refine EL.rew (d := 53) (v' := .bool false) rfl (by first | rfl | (decide) | (simp)) ?_
  refine .mv ?_; refine .ni ?_; refine .pf ?_; refine .mv ?_
  refine EL.rew (d := 57) (v' := .bool false) rfl (by first | rfl | (decide) | (simp)) ?_
  refine .mv ?_; refine .pf ?_; refine .mv ?_
  refine EL.rew (d := 60) (v' := .bool false) rfl (by first | rfl | (decide) | (simp)) ?_
  refine .mv ?_; refine .nt ?_; refine .pf ?_; refine .mv ?_
  refine EL.rew (d := 64) (v' := .bool false) rfl (by first | rfl | (decide) | (simp)) ?_
  refine .mv ?_; refine .lL ?_; refine .ni ?_; refine .pf ?_; refine .mv ?_
  refine EL.rew (d := 69) (v' := .bool false) rfl (by first | rfl | (decide) | (simp)) ?_
  refine .mv ?_; refine .lL ?_; refine .mv ?_; refine EL.remN (n := 9) rfl rfl rfl rfl (by omega) ?_
  refine EL.convN rfl rfl rfl rfl rfl rfl (by simp only [kmax]; omega) ?_
  refine .a1 ?_; refine .ni ?_; refine .pf ?_; refine .go ?_; repeat constructor
  refine ES.condN rfl (fun h => absurd (by simp only [List.length_cons, hrl]; omega) h) (fun _ => ?_)
  refine ES.rowForm (ad := ya) (len := rest.length + 1) (cap := yc) (n := rest.length + 1) (sz := 2) (cs := spsC ((0, ((i + 1 : Nat) : Int)) :: rest)) (by repeat constructor) (fun hfm => ?_)
  obtain ⟨gr, rfl⟩ := hfm.2.2.2.2 (by omega)
  refine .go ?_; (repeat constructor); refine .mv ?_; refine .mv ?_; refine .mv ?_; refine EL.callPw rfl rfl rfl ent8 rfl (fun w _ => q1 w) ?_; refine .lq ?_; refine .mv ?_; refine EL.rew (d := 83) (v' := .bool true) rfl (congrArg Value.bool (decide_eq_true (by omega))) ?_; refine .mv ?_; refine .mv ?_; refine .mv ?_
  refine EL.cat rfl rfl rfl rfl (by first | omega | (simp only [List.length_append, List.length_cons, List.length_nil]; omega)) ?_
  refine EL.callPw rfl rfl rfl ent8 rfl (fun w _ => q2 w) ?_; refine .lq ?_; refine .pt ?_; refine .mv ?_; refine EL.rew (d := 91) (v' := .bool true) rfl (congrArg Value.bool (decide_eq_true (by omega))) ?_; refine .mv ?_; refine .mv ?_; refine .lS ?_; refine .gt_ ?_; refine .pt ?_; refine .mv ?_; refine EL.rew (d := 97) (v' := .bool true) rfl (congrArg Value.bool (decide_eq_true (by omega))) ?_; refine .mv ?_; refine EL.indexAddrL (i := 0) rfl rfl rfl rfl rfl rfl rfl (by omega) ?_
  refine EL.ofRV (RV.loadRA (spC (0, ((i + 1 : Nat) : Int))) rfl rfl rfl rfl (by repeat constructor) rfl) rfl rfl rfl (by intro c h; cases h) ?_
  refine .mv ?_; refine .lS ?_; refine .a1 ?_; refine EL.buildS #[Iv 0, Iv (((List.replicate i (97 : UInt8)).length + 1 : Nat) : Int)] rfl rfl rfl rfl rfl rfl (by kernel_rfl) ?_; refine EL.eqlAgg rfl rfl rfl rfl eqg29 (run_equal_st2 TB rfl rfl sth29 rfl rfl rfl rfl rfl rfl rfl rfl _ _ _ _) ?_; refine .pt ?_; refine .as_ ?_; refine .go ?_; repeat constructor
  exact PX.ret rfl Tryz.results3 (.cons (.tmp (getA rfl (congrArg Value.bool (by simp)))) .nil) (fun w hs => ⟨(), rfl, hs.ent (.nil _)⟩)
theorem setmatchRuns_lifted (os : Os) (started : os.Started) (H : Type) (enc : TypeId × Value → H) :
    ReturnsInHanded {} Tryz.checked os 3 .any (Rows.setmatchRunsSpec.pre6 enc Tryz.prog Tryz.f3 Rows.setmatchRunsRow.domain false) (Rows.setmatchRunsSpec.post enc Tryz.prog Tryz.f3 false true false false) := by
  refine returnsInHanded_of_change_shaped (C := Tryz.checked) own started (by kernel_rfl) Tryz.func3
    (ChangeSpec.witness6 (enc := enc) (C := Tryz.checked) false ⟨#[], #[.int .u8 0, .int .u8 0], []⟩ 8 (by kernel_rfl) (by kernel_rfl) (by kernel_rfl) (by kernel_rfl)) ?_
  intro W base args ds gs before hval0 hW _ hsz hsh _
  have hk : (DataW.weightsEach Tryz.prog (Tryz.f3.params.toList ++ []) (ds ++ gs)).all (· ≤ reachBytes) = true := hsz
  have hval : ∀ (j : Nat) t v, Tryz.f3.params[j]? = some t → args[j]? = some v → Value.okWide Tryz.prog W .any base t v := hval0
  have hW1 : DataW.Whole enc Tryz.prog Tryz.f3.params.toList Rows.setmatchRunsSpec.vars false W args.toList ds gs before := hW
  have hW' := hW1
  obtain ⟨p, q, hA0, hV, rfl, hfz, hnd⟩ := hW1
  have hA : DataW.TrodAll enc Tryz.prog W 0 (fun _ => true) true Tryz.f3.params.toList args.toList ds p := hA0
  rw [Tryz.params3] at hA hval hk
  obtain ⟨v0, vs0, d0, ds0, p0, q0, hargs0, rfl, rfl, h0, r0⟩ := trodAll_cons hA
  obtain ⟨v1, vs1, d1, ds1, p1, q1, hargs1, rfl, rfl, h1, r1⟩ := trodAll_cons r0
  obtain ⟨rfl, rfl, rfl⟩ := trodAll_nil r1
  subst hargs1
  obtain rfl : args = #[v0, v1] := by cases args; simp_all
  obtain ⟨rfl, rfl⟩ := trodVars_none hV
  obtain ⟨b0, rfl, rfl⟩ := open_uv Tryz.underlying5 (hval 0 5 v0 rfl rfl) h0
  obtain ⟨b1, rfl, rfl⟩ := open_uv Tryz.underlying5 (hval 1 5 v1 rfl rfl) h1
  refine (runs_c b0 b1 W (GR.of hsh)).mono fun e W' ⟨_, he, hs⟩ => ⟨_, he, ?_⟩
  exact law_true (s := Rows.setmatchRunsSpec) laidOut rfl Tryz.underlying4 (by kernel_rfl) rfl false rfl rfl rfl hW' hs.below
theorem setmatchRuns_holds : Rows.SetmatchRunsSaid :=
  OpenClaim.holds_of_wide 3 Tryz.f3 rfl rfl rfl rfl rfl rfl rfl ⟨rfl, rfl, rfl, rfl, rfl⟩ rfl rfl rfl rfl rfl (by kernel_rfl) Tryz.func3 (by kernel_rfl)
    (of_decide_eq_true (by kernel_rfl)) (by unfold Func.isWrapper; first | (rw [if_pos (by decide +kernel)]; kernel_rfl) | (rw [if_neg (by decide +kernel)]; exact ⟨rfl, rfl⟩))
    (fun os started H enc _ => setmatchRuns_lifted os started H enc)
end Go.Proofs.YthcbjbkheodejaaGreat
