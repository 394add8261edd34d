/- Layer 12 (occur): the law OccurNone returns true at every input. -/
import Derived.Test.YtblpgpgbnlhjlaaKc
import Derived.Test.YtblpgpgbnlhjlaaSlaw
namespace Go.Proofs.Ytblpgpgbnlhjlaa
open Go.ChangeShapes Go.WideShapes Go.ChangeAt
open Go Go.RowKit Sl
set_option maxRecDepth 100000
set_option maxHeartbeats 8000000
set_option linter.unusedVariables false
set_option linter.unusedSimpArgs false
attribute [local irreducible] ES EL PX wps

theorem rd_packM {w0 w : World} {B : Nat} {rs : List LsT} {H : List HA} (hs : Sat w0 B H w) (hm : HA.pack (rs.map lsR) ∈ H) : ∀ y ∈ rs, Rd w w.heap.size y.1 (spsC y.2.2) := by
  intro y hy hne
  have hA : (lsR y).holds w := hs.all _ hm (lsR y) (List.mem_map.2 ⟨y, hy, rfl⟩)
  have hf := row_form hA
  have hpos : 0 < y.2.2.length := by
    rcases Nat.eq_zero_or_pos y.2.2.length with h0 | h0
    · have h1 := hf.2.2.2.1
      rw [h0, Nat.zero_mul] at h1
      exact absurd (List.eq_nil_of_length_eq_zero h1) hne
    · exact h0
  obtain ⟨g, hg⟩ := hf.2.2.2.2 hpos
  have hlt := (hs.lo g (List.mem_flatMap.2 ⟨_, hm, List.mem_flatMap.2 ⟨lsR y, List.mem_map.2 ⟨y, hy, rfl⟩, by simp [lsR, HA.row, hg, Value.ownBlock]⟩⟩)).2
  exact ⟨g, 0, hg, hlt, fun j v hj => by
    rw [Nat.zero_add]
    obtain ⟨ya, yc, ys⟩ := y
    dsimp only at hg
    subst hg
    exact row_cell hA j v hj⟩
theorem awake12_c (w : World) (hG : GR w w.heap.size) : Pure Try.prog 27 #[] (fun _ : Unit => .bool true) (fun _ => []) w := by
  have hc := fun w hG => occList_c [97, 42] [98, 97, 97, 99] (by decide +kernel) (by decide) (by decide +kernel) (by decide) mrA (fun p hp => ⟨60, mrA_some p hp⟩) mrA_ok mrA_e mrA_l.2 9 (by decide +kernel) w hG
  have hm := mrA_l.1
  rw [show ([98, 97, 97, 99] : List UInt8).length = 4 from rfl] at hc
  rw [hm] at hc
  refine calls_of_ES TB Try.func27 rfl _ Try.ntmps27 rfl (Sat.start w) ?_
  refine .gr ?_; repeat constructor
  refine EL.assign rfl rfl rfl ?_
  refine .gr ?_; repeat constructor
  (refine EL.callXw rfl rfl rfl ent28 rfl (fun w hs => hc w (GR.sat hG hs)) ?_; rintro ⟨⟨⟨ad, cap⟩, rs⟩, hrs⟩)
  refine EL.move rfl rfl rfl ?_
  refine EL.extract rfl rfl rfl rfl ?_
  refine EL.extract rfl rfl rfl rfl ?_
  refine EL.assign rfl rfl rfl ?_
  refine EL.assign rfl rfl rfl ?_
  refine .gr ?_; repeat constructor
  dsimp only at hrs ⊢
  refine .gr ?_; repeat constructor
  (apply EL.build2; exact rfl; exact rfl; exact rfl; exact rfl; exact rfl; exact rfl; exact rfl; exact rfl; exact rfl; exact rfl)
  (refine EL.buildSliceC (spsC [(0, 0)]).toArray rfl rfl rfl rfl rfl rfl (by kernel_rfl) rfl rfl rfl rfl ?_; intro b9)
  (apply EL.build2; exact rfl; exact rfl; exact rfl; exact rfl; exact rfl; exact rfl; exact rfl; exact rfl; exact rfl; exact rfl)
  (refine EL.buildSliceC (spsC [(1, 3)]).toArray rfl rfl rfl rfl rfl rfl (by kernel_rfl) rfl rfl rfl rfl ?_; intro b11)
  (apply EL.build2; exact rfl; exact rfl; exact rfl; exact rfl; exact rfl; exact rfl; exact rfl; exact rfl; exact rfl; exact rfl)
  (refine EL.buildSliceC (spsC [(4, 4)]).toArray rfl rfl rfl rfl rfl rfl (by kernel_rfl) rfl rfl rfl rfl ?_; intro b13)
  (refine EL.buildSliceS [.slice (some ⟨b9, 0, none⟩) 1 1, .slice (some ⟨b11, 0, none⟩) 1 1, .slice (some ⟨b13, 0, none⟩) 1 1] rfl rfl rfl rfl rfl rfl rfl rfl rfl rfl (by intro u hu; simp at hu; rcases hu with rfl | rfl | rfl <;> rfl) ?_; intro b14)
  refine EL.assign rfl rfl rfl ?_
  refine .gr ?_; repeat constructor
  have hlen : rs.length = 3 := by simpa using congrArg List.length hrs
  have hin : ∀ y ∈ rs, y.2.2.length ≤ 4611686018427387904 := fun y hy => by
    have h : y.2.2 ∈ ([[(0, 0)], [(1, 3)], [(4, 4)]] : List (List Spn)) := by rw [← hrs]; exact List.mem_map_of_mem hy
    simp only [List.mem_cons, List.not_mem_nil, or_false] at h
    rcases h with h | h | h <;> rw [h] <;> decide
  refine .gr ?_; repeat constructor
  refine EL.move rfl rfl rfl ?_
  refine EL.eqlI rfl rfl rfl rfl ?_
  refine EL.move rfl rfl rfl ?_
  refine EL.rew (d := 17) (v' := .bool true) rfl (by first | rfl | (decide) | (simp)) ?_
  refine EL.move rfl rfl rfl ?_
  refine EL.move rfl rfl rfl ?_
  refine EL.callPw rfl rfl rfl ent47 rfl (fun w hs => same12_c rs [(some ⟨b9, 0, none⟩, 1, [(0, 0)]), (some ⟨b11, 0, none⟩, 1, [(1, 3)]), (some ⟨b13, 0, none⟩, 1, [(4, 4)])] ad (some ⟨b14, 0, none⟩) cap 3 hrs (by omega) hin w (Rd.row hs (by repeat constructor) (by decide)) (Rd.row (n := 3) (cap := 3) (sz := 1) hs (by repeat constructor) (by decide)) (rd_packM hs (Mem.mem (by repeat constructor))) (by intro y hy; simp only [List.mem_cons, List.not_mem_nil, or_false] at hy; rcases hy with rfl | rfl | rfl <;> exact Rd.row (sz := 2) hs (by repeat constructor) (by decide))) ?_
  refine EL.pickT rfl rfl rfl rfl ?_
  refine EL.assign rfl rfl rfl ?_
  refine .gr ?_; repeat constructor
  exact PX.ret rfl Try.results27 (.cons (.tmp rfl) .nil) (fun w hs => ⟨(), rfl, hs.ent (.nil _)⟩)
def mrN (p : Nat) : MR := ⟨[], false, 0, 25⟩
theorem occN (n : Nat) : occL mrN n = [([], 25)] := by
  unfold occL
  rw [occGo, if_neg (by omega), if_pos (by decide)]
  rfl
theorem all12_c (s : List UInt8) (hsl : s.length ≤ 1152921504606846976) (w : World) : Pure Try.prog 29 #[.pointer none, Sv s, Iv (-1)] (fun _ : Unit => .tuple #[.slice none 0 0, Iv 25, .bool true]) (fun _ => []) w := by
  refine calls_of_ESM TB Try.func29 rfl _ Try.ntmps29 rfl (Sat.start w) ?_
  refine .gr ?_; repeat constructor
  (refine EL.box rfl rfl rfl ?_; intro g5)
  (refine EL.alloc rfl rfl rfl ?_; intro g6)
  (refine EL.alloc rfl rfl rfl ?_; intro g7)
  (refine EL.alloc rfl rfl rfl ?_; intro g8)
  refine .gr ?_; repeat constructor
  (refine EL.alloc rfl rfl rfl ?_; intro g9)
  refine .gr ?_; repeat constructor
  (refine EL.alloc rfl rfl rfl ?_; intro g10)
  (apply EL.storeB; exact rfl; exact rfl; exact rfl; exact rfl; exact rfl; exact rfl; (case p => repeat constructor); exact (by first | decide | exact Nat.le_of_ble_eq_true rfl | simp))
  refine .gr ?_; repeat constructor
  refine EL.move rfl rfl rfl ?_
  refine EL.move rfl rfl rfl ?_
  (refine EL.callX rfl rfl rfl ent48 rfl (occAll_c none s) ?_; rintro ⟨gs, gm⟩)
  refine EL.assign rfl rfl rfl ?_
  refine .gr ?_; repeat constructor
  refine .gr ?_; repeat constructor
  refine EL.move rfl rfl rfl ?_
  refine EL.eqlFn rfl rfl rfl Try.underlying115 rfl ?_
  refine EL.move rfl rfl rfl ?_
  refine EL.rew (d := 19) (v' := .bool false) rfl (by first | rfl | (decide) | (simp)) ?_
  (apply EL.loadB; exact rfl; exact rfl; exact rfl; exact rfl; exact rfl; (case hm => repeat constructor); exact rfl)
  refine EL.eqlI rfl rfl rfl rfl ?_
  refine EL.pickF rfl rfl rfl rfl ?_
  refine .gr ?_; repeat constructor
  refine ES.condD rfl (fun h => absurd h (by decide)) (fun _ => ?_)
  have hmt : ∀ p : Nat, p ≤ s.length → MutAt Try.prog 22 #[.pointer none, Sv s, Iv (p : Nat)] [HA.mats []] (mrV (mrN p)) (fun x => [PRow x.1 x.2 (mrN p).spans, HA.mats []]) w w.heap.size := fun p hp R w1 h => by
    refine (matchNil_c s (p : Nat) w1).mono fun e w' ⟨_, he, hs'⟩ => ⟨((none : Option Addr), 0), he, ?_⟩
    exact (((h.join hs').nilRow 33 2)).ent (.i (by repeat constructor))
  have hit := occ1_iter gs gm s hsl none (HA.mats []) mrN ⟨fun p _ h => by cases h⟩ w w.heap.size hmt (fun _ _ => rfl)
  rw [occN] at hit
  refine .gr ?_; repeat constructor
  refine EL.move rfl rfl rfl ?_
  refine .gr ?_; repeat constructor
  refine ES.imp (H' := HA.mats [] :: HA.blk gs (.cells #[Sv s] 9) :: HA.blk gm (.cells #[.pointer none] 39) :: HA.blk g9 (.cells #[.slice none 0 0] 45) :: HA.blk g10 (.cells #[Iv 0] 23) :: HA.blk g5 (.cells #[Iv (-1)] 3) :: HA.blk g6 (.cells #[.slice none 0 0] 45) :: HA.blk g7 (.cells #[Iv 0] 23) :: HA.blk g8 (.cells #[.bool false] 4) :: []) (fun w hs => Sat.mats0 (hs.ent (.i (by repeat constructor)))) ?_
  refine ES.rangeFuncX (σ := { x : Nat × Int // x = (0, 0) ∨ x = (1, 25) }) (τ := Unit) (fun i z => z.1.1 = i) (fun z => [HA.blk g9 (.cells #[.slice none 0 0] 45), HA.blk g10 (.cells #[Iv z.1.2] 23), HA.blk g5 (.cells #[Iv (-1)] 3)]) (fun _ _ _ => False) (fun _ => []) ⟨(0, 0), .inl rfl⟩ rfl
    rfl rfl ent70 hit (by repeat constructor) (by repeat constructor) (by rintro i x G ⟨l, e, ad, cap, _, rfl, rfl⟩; rfl) rfl ?_ (fun D z hz => ?_) (fun D c i z h => h.elim)
  · rintro l i ⟨z, hz⟩ x G R1 hi ⟨sp, e, ad', cap', hx, rfl, rfl⟩
    dsimp only at hi ⊢
    have hi0 : i = 0 := by
      have := (List.getElem?_eq_some_iff.1 hx).1
      simp at this; omega
    subst hi0
    simp only [List.getElem?_cons_zero, Option.some.injEq, Prod.mk.injEq] at hx
    obtain ⟨rfl, rfl⟩ := hx
    rcases hz with rfl | rfl
    rotate_left
    · exact absurd hi (by decide)
    dsimp only
    refine .gr ?_; repeat constructor
    refine EL.assign rfl rfl rfl ?_
    refine .gr ?_; repeat constructor
    refine EL.assign rfl rfl rfl ?_
    refine .gr ?_; repeat constructor
    refine PX.assigned [(12, .slice ad' 0 cap'), (13, Iv 25), (9, Pv g9 0), (10, Pv g10 0), (5, Pv g5 0)] [HA.blk g9 (.cells #[.slice none 0 0] 45), HA.blk g10 (.cells #[Iv 0] 23), HA.blk g5 (.cells #[Iv (-1)] 3)] ⟨rfl, rfl, rfl, rfl, rfl, trivial⟩ (.i (by repeat constructor)) (fun R2 => ?_)
    refine .gr ?_; repeat constructor
    (apply EL.loadB; exact rfl; exact rfl; exact rfl; exact rfl; exact rfl; (case hm => repeat constructor); exact rfl)
    refine EL.neqI rfl rfl rfl rfl ?_
    refine EL.move rfl rfl rfl ?_
    refine EL.rew (d := 31) (v' := .bool false) rfl (by first | rfl | (decide) | (simp)) ?_
    refine EL.move rfl rfl rfl ?_
    refine EL.neqI rfl rfl rfl rfl ?_
    refine EL.move rfl rfl rfl ?_
    refine EL.rew (d := 34) (v' := .bool true) rfl (by first | rfl | (decide) | (simp)) ?_
    refine EL.move rfl rfl rfl ?_
    refine EL.lenL rfl rfl rfl rfl rfl ?_
    refine EL.gtr rfl rfl rfl rfl ?_
    refine EL.pickT rfl rfl rfl rfl ?_
    refine EL.pickF rfl rfl rfl rfl ?_
    refine .gr ?_; repeat constructor
    refine ES.condD rfl (fun h => absurd h (by decide)) (fun _ => ?_)
    refine .gr ?_; repeat constructor
    refine EL.move rfl rfl rfl ?_
    (apply EL.storeB; exact rfl; exact rfl; exact rfl; exact rfl; exact rfl; exact rfl; (case p => repeat constructor); exact (by first | decide | exact Nat.le_of_ble_eq_true rfl | simp))
    refine .gr ?_; repeat constructor
    refine .gr ?_; repeat constructor
    (apply EL.loadB; exact rfl; exact rfl; exact rfl; exact rfl; exact rfl; (case hm => repeat constructor); exact rfl)
    refine EL.eqlI rfl rfl rfl rfl ?_
    refine .gr ?_; repeat constructor
    refine ES.condD rfl (fun h => absurd h (by decide)) (fun _ => ?_)
    refine .gr ?_; repeat constructor
    refine .gr ?_; repeat constructor
    (apply EL.loadB; exact rfl; exact rfl; exact rfl; exact rfl; exact rfl; (case hm => repeat constructor); exact rfl)
    refine EL.lenL rfl rfl rfl rfl rfl ?_
    (apply EL.loadB; exact rfl; exact rfl; exact rfl; exact rfl; exact rfl; (case hm => repeat constructor); exact rfl)
    refine EL.eqlI rfl rfl rfl rfl ?_
    refine EL.move rfl rfl rfl ?_
    refine EL.rew (d := 52) (v' := .bool false) rfl (by first | rfl | (decide) | (simp)) ?_
    (apply EL.loadB; exact rfl; exact rfl; exact rfl; exact rfl; exact rfl; (case hm => repeat constructor); exact rfl)
    refine EL.lenL rfl rfl rfl rfl rfl ?_
    refine EL.gtr rfl rfl rfl rfl ?_
    refine EL.pickF rfl rfl rfl rfl ?_
    refine .gr ?_; repeat constructor
    refine ES.condD rfl (fun h => absurd h (by decide)) (fun _ => ?_)
    refine .gr ?_; repeat constructor
    exact PX.round ⟨(1, 25), .inr rfl⟩ rfl (.i (by repeat constructor))
  · obtain ⟨z, hz1⟩ := z
    have hz : z.1 = 1 := hz
    rcases hz1 with rfl | rfl
    · exact absurd hz (by decide)
    dsimp only
    refine .gs ?_; repeat constructor
    refine ES.draw (X := Unit) (fun _ => [(6, Pv g6 0), (7, Pv g7 0), (8, Pv g8 0)]) (fun _ => markB D :: HA.blk g6 (.cells #[.slice none 0 0] 45) :: HA.blk g7 (.cells #[Iv 25] 23) :: HA.blk g8 (.cells #[.bool true] 4) :: [])
      (HA.blk g9 (.cells #[.slice none 0 0] 45) :: HA.blk g10 (.cells #[Iv 25] 23) :: []) mixed (.i (by repeat constructor)) ?_ (fun _ => ?_)
    · refine ED.take 0 rfl (by decide +kernel) CutX.no_panic (by decide +kernel) rfl rfl rfl (RV.loadB rfl rfl rfl (by repeat constructor) rfl) ?_
      refine ED.take 1 rfl (by decide +kernel) CutX.no_panic (by decide +kernel) rfl rfl rfl (RV.loadB rfl rfl rfl (by repeat constructor) rfl) ?_
      refine ED.loud 2 rfl (by decide +kernel) ?_
      (apply EL.storeB; exact rfl; exact rfl; exact rfl; exact rfl; exact rfl; exact rfl; (case p => repeat constructor); exact (by first | decide | exact Nat.le_of_ble_eq_true rfl | simp))
      refine ED.next (.i (by repeat constructor)) ?_
      refine ED.loud 3 rfl (by decide +kernel) ?_
      (apply EL.storeB; exact rfl; exact rfl; exact rfl; exact rfl; exact rfl; exact rfl; (case p => repeat constructor); exact (by first | decide | exact Nat.le_of_ble_eq_true rfl | simp))
      refine ED.next (.i (by repeat constructor)) ?_
      refine ED.last 4 rfl (by decide +kernel) (by decide +kernel) (by decide +kernel) ?_
      (apply EL.storeB; exact rfl; exact rfl; exact rfl; exact rfl; exact rfl; exact rfl; (case p => repeat constructor); exact (by first | decide | exact Nat.le_of_ble_eq_true rfl | simp))
      refine EL.endQ ?_
      exact PX.cutX () ⟨rfl, rfl, rfl, trivial⟩ (.i (by repeat constructor))
    refine .gr ?_; repeat constructor
    exact PX.retM [D] rfl (by repeat constructor) Try.results29 (.cons (.blk1 rfl rfl rfl (by repeat constructor) rfl) (.cons (.blk1 rfl rfl rfl (by repeat constructor) rfl) (.cons (.blk1 rfl rfl rfl (by repeat constructor) rfl) .nil))) (fun w hs => ⟨(), rfl, hs.ent (.nil _)⟩)
theorem occurNone_c (s : List UInt8) (hsl : s.length ≤ 1152921504606846976) (w : World) (hG : GR w w.heap.size) : Pure Try.prog 11 #[Sv s] (fun _ : Unit => .bool true) (fun _ => []) w := by
  refine calls_of_ES TB Try.func11 rfl _ Try.ntmps11 rfl (Sat.start w) ?_
  refine .gr ?_; repeat constructor
  refine EL.assign rfl rfl rfl ?_
  refine .gr ?_; repeat constructor
  refine EL.move rfl rfl rfl ?_
  refine EL.callP rfl rfl rfl ent29 rfl (all12_c s hsl) ?_
  refine EL.move rfl rfl rfl ?_
  refine EL.extract rfl rfl rfl rfl ?_
  refine EL.extract rfl rfl rfl rfl ?_
  refine EL.extract rfl rfl rfl rfl ?_
  refine EL.assign rfl rfl rfl ?_
  refine EL.assign rfl rfl rfl ?_
  refine EL.assign rfl rfl rfl ?_
  refine .gr ?_; repeat constructor
  refine .gr ?_; repeat constructor
  refine EL.callPw rfl rfl rfl ent27 rfl (fun w hs => awake12_c w (GR.sat hG hs)) ?_
  refine EL.move rfl rfl rfl ?_
  refine EL.rew (d := 13) (v' := .bool true) rfl (by first | rfl | (decide) | (simp)) ?_
  refine EL.move rfl rfl rfl ?_
  refine EL.pickT rfl rfl rfl rfl ?_
  refine EL.move rfl rfl rfl ?_
  refine EL.rew (d := 16) (v' := .bool true) rfl (by first | rfl | (decide) | (simp)) ?_
  refine EL.move rfl rfl rfl ?_
  refine EL.lenL rfl rfl rfl rfl rfl ?_
  refine EL.eqlI rfl rfl rfl rfl ?_
  refine EL.pickT rfl rfl rfl rfl ?_
  refine EL.move rfl rfl rfl ?_
  refine EL.rew (d := 21) (v' := .bool true) rfl (by first | rfl | (decide) | (simp)) ?_
  refine EL.move rfl rfl rfl ?_
  refine EL.eqlI rfl rfl rfl rfl ?_
  refine EL.pickT rfl rfl rfl rfl ?_
  refine EL.assign rfl rfl rfl ?_
  refine .gr ?_; repeat constructor
  exact PX.ret rfl Try.results11 (.cons (.tmp rfl) .nil) (fun w hs => ⟨(), rfl, hs.ent (.i (by repeat constructor))⟩)
theorem occurNone_lifted (os : Os) (started : os.Started) (H : Type) (enc : TypeId × Value → H) :
    ReturnsInHanded {} Try.checked os 11 .any (Rows.occurNoneSpec.pre6 enc Try.prog Try.f11 Rows.occurNoneRow.domain false) (Rows.occurNoneSpec.post enc Try.prog Try.f11 false true false false) := by
  refine returnsInHanded_of_change_shaped (C := Try.checked) own started (by kernel_rfl) Try.func11
    (ChangeSpec.witness6 (enc := enc) (C := Try.checked) false ⟨#[], #[.string ⟨#[]⟩], []⟩ 8 (by kernel_rfl) (by kernel_rfl) (by kernel_rfl) (by kernel_rfl)) ?_
  intro W base args ds gs before hval0 hW _ hsz hsh _
  have hk : (DataW.weightsEach Try.prog (Try.f11.params.toList ++ []) (ds ++ gs)).all (· ≤ reachBytes) = true := hsz
  have hval : ∀ (j : Nat) t v, Try.f11.params[j]? = some t → args[j]? = some v → Value.okWide Try.prog W .any base t v := hval0
  have hW1 : DataW.Whole enc Try.prog Try.f11.params.toList Rows.occurNoneSpec.vars false W args.toList ds gs before := hW
  have hW' := hW1
  obtain ⟨p, q, hA0, hV, rfl, hfz, hnd⟩ := hW1
  have hA : DataW.TrodAll enc Try.prog W 0 (fun _ => true) true Try.f11.params.toList args.toList ds p := hA0
  rw [Try.params11] at hA hval hk
  obtain ⟨v0, vs0, d0, ds0, p0, q0, hargs0, rfl, rfl, h0, r0⟩ := trodAll_cons hA
  obtain ⟨rfl, rfl, rfl⟩ := trodAll_nil r0
  obtain rfl : args = #[v0] := by cases args; simp_all
  obtain ⟨rfl, rfl⟩ := trodVars_none hV
  obtain ⟨l0, rfl, rfl⟩ := open_sv Try.underlying9 (hval 0 9 v0 rfl rfl) h0
  simp only [List.append_nil, DataW.weightsEach, w_str, w_int, reachBytes, List.nil_append, List.append_nil, List.all_append, List.all_cons, List.all_nil, Bool.and_true, Bool.and_eq_true, decide_eq_true_eq] at hk
  have hl0 : l0.length ≤ 140737488351232 := by first | omega | exact of_decide_eq_true hk | exact of_decide_eq_true hk.1 | exact of_decide_eq_true hk.2 | exact of_decide_eq_true hk.2.1 | exact of_decide_eq_true hk.2.2 | exact of_decide_eq_true hk.2.2.1 | exact of_decide_eq_true hk.2.2.2
  refine (occurNone_c l0 (Nat.le_trans hl0 (by decide)) W (GR.of hsh)).mono fun e W' ⟨_, he, hs⟩ => ⟨_, he, ?_⟩
  exact law_true (s := Rows.occurNoneSpec) laidOut rfl Try.underlying4 (by kernel_rfl) rfl false rfl rfl rfl hW' hs.below
theorem occurNone_holds : Rows.OccurNoneSaid :=
  OpenClaim.holds_of_wide 11 Try.f11 rfl rfl rfl rfl rfl rfl rfl ⟨rfl, rfl, rfl, rfl, rfl⟩ rfl rfl rfl rfl rfl (by kernel_rfl) Try.func11 (by kernel_rfl)
    (of_decide_eq_true (by kernel_rfl)) (by unfold Func.isWrapper; first | (rw [if_pos (by decide +kernel)]; kernel_rfl) | (rw [if_neg (by decide +kernel)]; exact ⟨rfl, rfl⟩))
    (fun os started H enc _ => occurNone_lifted os started H enc)
end Go.Proofs.Ytblpgpgbnlhjlaa
