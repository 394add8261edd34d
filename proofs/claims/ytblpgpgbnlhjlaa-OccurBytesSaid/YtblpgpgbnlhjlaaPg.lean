/- Layer 4 (bre): the parser repeats the last part, closes a group. -/
import Derived.Test.YtblpgpgbnlhjlaaPf
namespace Go.Proofs.Ytblpgpgbnlhjlaa
open Go Go.RowKit Sl
set_option maxRecDepth 100000
set_option maxHeartbeats 8000000
set_option linter.unusedVariables false
set_option linter.unusedSimpArgs false
attribute [local irreducible] ES EL PX wps

theorem Sat.repTree {w0 w : World} {B e b lo : Nat} {hi : Int} {R : List HA} {fp : List Nat} {init : List RE} {last : RE} {kcs c9 : List Value} (hc9 : c9 = kcs.drop (init.length * 9)) (h : Sat w0 B (HA.row (.slice (some ⟨b, 0, none⟩) 1 1) e 9 1 c9 :: HA.forest fp (init ++ [last]) kcs :: R) w) :
    Sat w0 B (HA.forest (b :: fp) (init ++ [.rep lo hi last]) (kcs.take (init.length * 9) ++ reCells (.rep lo hi last) (.slice (some ⟨b, 0, none⟩) 1 1)) :: R) w :=
  Sat.rule (Hs := [HA.row (.slice (some ⟨b, 0, none⟩) 1 1) e 9 1 c9, HA.forest fp (init ++ [last]) kcs]) h (by simp only [fps, List.flatMap_cons, List.flatMap_nil, HA.forest, HA.row, List.append_nil]; exact List.Perm.refl _) (fun hh => by
    have h1 : w.ownsRow 0 e 9 (.slice (some ⟨b, 0, none⟩) 1 1) 1 c9 := hh (HA.row (.slice (some ⟨b, 0, none⟩) 1 1) e 9 1 c9) (by simp)
    have h2 : Forest (· ∈ fp) w (init ++ [last]) kcs := hh (HA.forest fp (init ++ [last]) kcs) (by simp)
    have h3 : Forest (· ∈ b :: fp) w (init ++ [last]) kcs := h2.mono (fun g hg => List.mem_cons_of_mem _ hg)
    have h4 := h3.take init.length
    have h5 := h3.drop init.length
    rw [List.take_left] at h4
    rw [List.drop_left, ← hc9] at h5
    exact h4.append (Forest.one (.rep lo hi last) (some ⟨b, 0, none⟩) 1 c9 (Nat.le_refl 1) h5 (fun _ => ⟨b, 0, rfl, List.mem_cons_self, row_reads h1⟩)))
theorem set_last (zs0 : List Nat) (z z2 n : Nat) (h : zs0.length = n) : ((zs0 ++ [z]).map fun z : Nat => Iv (z : Nat)).set n (Iv (z2 : Nat)) = ((zs0 ++ [z2]).map fun z : Nat => Iv (z : Nat)) := by
  subst h
  rw [List.map_append, List.map_append, List.set_append_right _ _ (by simp)]
  simp
theorem put_last (kcs rc : List Value) (off : Nat) (h1 : kcs.length = off + rc.length) : putAt kcs off rc = kcs.take off ++ rc := by
  unfold putAt
  rw [List.drop_of_length_le (by omega), List.append_nil]
theorem rep_c (g fg k fcap gr size : Nat) (sh : List Bool) (hsh : sh.length = 10) (pre : List Value) (hpre : pre.length = k * 4) (hk : k ≤ 4096) (kad : Option Addr) (kcap : Nat) (sad : Option Addr) (scap fgr fat : Nat) (init : List RE) (last : RE) (kcs : List Value) (zs0 : List Nat) (z : Nat) (fp : List Nat) (lo : Nat) (hi : Int)
    (hz0 : zs0.length = init.length) (hn : init.length ≤ 65536) (hlo : lo ≤ 255) (hh0 : -1 ≤ hi) (hh1 : hi ≤ 255) (hz : z ≤ 256) (hzs : z ≤ size) (hsz : size ≤ 256) (hkl : kcs.length = (init.length + 1) * 9) :
    Mut Try.prog 81 #[Pv g 0, Iv (lo : Nat), Iv hi] [PB g fg (k + 1) fcap (PR gr sh size), FB fg (k + 1) fcap (pre ++ frC kad (init.length + 1) kcap sad (zs0.length + 1) scap fgr fat), KR kad (init.length + 1) kcap kcs, HA.row (.slice sad (zs0.length + 1) scap) 3 1 (zs0.length + 1) ((zs0 ++ [z]).map fun z : Nat => Iv (z : Nat)), HA.forest fp (init ++ [last]) kcs]
      (fun _ : Nat => Iv (growE (size - z + z * timesM lo hi)))
      (fun b => [PB g fg (k + 1) fcap (PR gr sh (size - z + z * timesM lo hi)), FB fg (k + 1) fcap (pre ++ frC kad (init.length + 1) kcap sad (zs0.length + 1) scap fgr fat), KR kad (init.length + 1) kcap (kcs.take (init.length * 9) ++ reCells (.rep lo hi last) (.slice (some ⟨b, 0, none⟩) 1 1)), HA.row (.slice sad (zs0.length + 1) scap) 3 1 (zs0.length + 1) ((zs0 ++ [z * timesM lo hi]).map fun z : Nat => Iv (z : Nat)), HA.forest (b :: fp) (init ++ [.rep lo hi last]) (kcs.take (init.length * 9) ++ reCells (.rep lo hi last) (.slice (some ⟨b, 0, none⟩) 1 1))]) := by
  intro w0 B R w h
  replace h : Sat w0 B (PB g fg (k + 1) fcap (PR gr sh size) :: FB fg (k + 1) fcap (pre ++ frC kad (init.length + 1) kcap sad (zs0.length + 1) scap fgr fat) :: KR kad (init.length + 1) kcap kcs :: HA.row (.slice sad (zs0.length + 1) scap) 3 1 (zs0.length + 1) ((zs0 ++ [z]).map fun z : Nat => Iv (z : Nat)) :: HA.forest fp (init ++ [last]) kcs :: R) w := h
  obtain ⟨kg, rfl⟩ := (row_form (h.all (KR kad (init.length + 1) kcap kcs) (by simp))).2.2.2.2 (by omega)
  obtain ⟨sg, rfl⟩ := (row_form (h.all (HA.row (.slice sad (zs0.length + 1) scap) 3 1 (zs0.length + 1) ((zs0 ++ [z]).map fun z : Nat => Iv (z : Nat))) (by simp))).2.2.2.2 (by omega)
  have htop := top_c g fg k fcap (PR gr sh size) (pre ++ frC (some ⟨kg, 0, none⟩) (init.length + 1) kcap (some ⟨sg, 0, none⟩) (zs0.length + 1) scap fgr fat) hk
  obtain ⟨tm, htm⟩ : ∃ tm, tm = timesM lo hi := ⟨_, rfl⟩
  have htm2 : tm ≤ 255 ∨ tm ≤ 256 := by rw [htm]; unfold timesM; split <;> omega
  have hmul : z * tm ≤ 256 * 256 := Nat.mul_le_mul hz (by omega)
  rw [← htm]
  obtain ⟨c9, hc9⟩ : ∃ c9, c9 = kcs.drop (init.length * 9) := ⟨_, rfl⟩
  have hc9l : c9.length = 9 := by rw [hc9, List.length_drop]; omega
  obtain ⟨H0, hH0⟩ : ∃ H0, H0 = HA.forest fp (init ++ [last]) kcs := ⟨_, rfl⟩
  rw [← hH0] at h
  refine calls_of_ES TB Try.func81 rfl _ Try.ntmps81 rfl h ?_
  refine .go ?_; repeat constructor
  refine EL.assign rfl rfl rfl ?_
  refine .go ?_; repeat constructor
  refine EL.move rfl rfl rfl ?_
  refine EL.callM1 rfl rfl rfl ent59 rfl htop (by repeat constructor) ?_
  refine EL.assign rfl rfl rfl ?_
  refine .go ?_; repeat constructor
  refine EL.move rfl rfl rfl ?_
  refine EL.nilCheck rfl rfl rfl ?_
  refine EL.fieldAddr rfl rfl rfl rfl rfl rfl rfl rfl ?_
  refine EL.loadR rfl rfl rfl rfl rfl (by repeat constructor) (pre_at pre _ (k * 4) 0 hpre) ?_
  refine EL.lenL rfl rfl rfl rfl rfl ?_
  refine EL.sub1 rfl rfl rfl rfl (by omega) (by omega) ?_
  refine EL.assign rfl rfl rfl ?_
  refine .go ?_; repeat constructor
  refine EL.move rfl rfl rfl ?_
  refine EL.assign rfl rfl rfl ?_
  refine .go ?_; repeat constructor
  refine .go ?_; repeat constructor
  refine EL.move rfl rfl rfl ?_
  refine EL.lss rfl rfl rfl rfl ?_
  refine .go ?_; repeat constructor
  refine ES.cutC (X := Unit) (fun _ => [(0, Pv g 0), (1, Iv (lo : Nat)), (2, Iv hi), (7, Pv fg (k * 4)), (8, Iv (init.length : Nat)), (9, Iv (tm : Nat))]) (fun _ => PB g fg (k + 1) fcap (PR gr sh size) :: FB fg (k + 1) fcap (pre ++ frC (some ⟨kg, 0, none⟩) (init.length + 1) kcap (some ⟨sg, 0, none⟩) (zs0.length + 1) scap fgr fat) :: KR (some ⟨kg, 0, none⟩) (init.length + 1) kcap kcs :: HA.row (.slice (some ⟨sg, 0, none⟩) (zs0.length + 1) scap) 3 1 (zs0.length + 1) ((zs0 ++ [z]).map fun z : Nat => Iv (z : Nat)) :: H0 :: R) ?_ (fun _ => ?_)
  · refine ES.condD rfl (fun hneg => ?_) (fun hpos => ?_)
    · refine .go ?_; repeat constructor
      refine EL.move rfl rfl rfl ?_
      refine EL.ofRV (RV.maxI rfl rfl) rfl rfl rfl (by intro c h; cases h) ?_
      refine EL.assign rfl rfl rfl ?_
      refine .go ?_; repeat constructor
      exact PX.cutX () ⟨rfl, rfl, rfl, rfl, rfl, getA rfl (congrArg Iv (by rw [htm]; unfold timesM; rw [if_pos hneg]; omega)), trivial⟩ (.i (by repeat constructor))
    · refine .go ?_; repeat constructor
      exact PX.cutX () ⟨rfl, rfl, rfl, rfl, rfl, getA rfl (congrArg Iv (by rw [htm]; unfold timesM; rw [if_neg hpos]; omega)), trivial⟩ (.i (by repeat constructor))
  refine .go ?_; repeat constructor
  refine EL.move rfl rfl rfl ?_
  refine EL.nilCheck rfl rfl rfl ?_
  refine EL.fieldAddr rfl rfl rfl rfl rfl rfl rfl rfl ?_
  refine EL.loadR rfl rfl rfl rfl rfl (by repeat constructor) (pre_at pre _ (k * 4) 1 hpre) ?_
  refine EL.move rfl rfl rfl ?_
  refine EL.indexAddrL1 rfl rfl rfl rfl rfl rfl rfl rfl (by omega) ?_
  refine EL.loadR (v := Iv (z : Nat)) rfl rfl rfl rfl rfl (by repeat constructor) (by rw [List.map_append, List.getElem?_append_right (by simp [hz0])]; simp [hz0]) ?_
  refine EL.assign rfl rfl rfl ?_
  refine .go ?_; repeat constructor
  refine ES.draw (X := Nat) (fun b => [(0, Pv g 0), (7, Pv fg (k * 4)), (8, Iv (init.length : Nat)), (9, Iv (tm : Nat)), (10, Iv (z : Nat))]) (fun b => PB g fg (k + 1) fcap (PR gr sh size) :: FB fg (k + 1) fcap (pre ++ frC (some ⟨kg, 0, none⟩) (init.length + 1) kcap (some ⟨sg, 0, none⟩) (zs0.length + 1) scap fgr fat) :: KR (some ⟨kg, 0, none⟩) (init.length + 1) kcap (kcs.take (init.length * 9) ++ reCells (.rep lo hi last) (.slice (some ⟨b, 0, none⟩) 1 1)) :: HA.row (.slice (some ⟨sg, 0, none⟩) (zs0.length + 1) scap) 3 1 (zs0.length + 1) ((zs0 ++ [z]).map fun z : Nat => Iv (z : Nat)) :: HA.row (.slice (some ⟨b, 0, none⟩) 1 1) 82 9 1 c9 :: H0 :: R)
    (FB fg (k + 1) fcap (pre ++ frC (some ⟨kg, 0, none⟩) (init.length + 1) kcap (some ⟨sg, 0, none⟩) (zs0.length + 1) scap fgr fat) :: KR (some ⟨kg, 0, none⟩) (init.length + 1) kcap kcs :: R) mixed (.i (by repeat constructor)) ?_ (fun b => ?_)
  · refine ED.take 0 rfl (by decide +kernel) CutX.no_panic (by decide +kernel) rfl rfl rfl (RV.move rfl) ?_
    refine ED.take 1 rfl (by decide +kernel) CutX.no_panic (by decide +kernel) rfl rfl rfl (RV.nilCheck rfl) ?_
    refine ED.take 2 rfl (by decide +kernel) CutX.no_panic (by decide +kernel) rfl rfl rfl (RV.fieldAddr rfl rfl rfl rfl rfl rfl) ?_
    refine ED.take 3 rfl (by decide +kernel) CutX.no_panic (by decide +kernel) rfl rfl rfl (RV.loadR rfl rfl rfl (by repeat constructor) (pre_at pre _ (k * 4) 0 hpre)) ?_
    refine ED.take 4 rfl (by decide +kernel) CutX.no_panic (by decide +kernel) rfl rfl rfl (RV.move rfl) ?_
    refine ED.take 5 rfl (by decide +kernel) CutX.no_panic (by decide +kernel) rfl rfl rfl (RV.move rfl) ?_
    refine ED.take 6 rfl (by decide +kernel) CutX.no_panic (by decide +kernel) rfl rfl rfl (RV.move rfl) ?_
    refine ED.take 7 rfl (by decide +kernel) CutX.no_panic (by decide +kernel) rfl rfl rfl (RV.move rfl) ?_
    refine ED.take 8 rfl (by decide +kernel) CutX.no_panic (by decide +kernel) rfl rfl rfl (RV.nilCheck rfl) ?_
    refine ED.take 9 rfl (by decide +kernel) CutX.no_panic (by decide +kernel) rfl rfl rfl (RV.fieldAddr rfl rfl rfl rfl rfl rfl) ?_
    refine ED.take 10 rfl (by decide +kernel) CutX.no_panic (by decide +kernel) rfl rfl rfl (RV.loadR rfl rfl rfl (by repeat constructor) (pre_at pre _ (k * 4) 0 hpre)) ?_
    refine ED.take 11 rfl (by decide +kernel) CutX.no_panic (by decide +kernel) rfl rfl rfl (RV.move rfl) ?_
    refine ED.take 12 rfl (by decide +kernel) CutX.no_panic (by decide +kernel) rfl rfl rfl (RV.indexAddrL rfl rfl rfl rfl rfl (by omega)) ?_
    refine ED.take 13 rfl (by decide +kernel) CutX.no_panic (by decide +kernel) rfl rfl rfl (RV.loadRA c9 rfl rfl rfl (by rw [hc9l]; rfl) (by repeat constructor) (by rw [hc9l, show 0 + init.length * ty82.size = init.length * 9 from Nat.zero_add _, ← hc9, List.take_of_length_le (by omega)])) ?_
    refine ED.loud 14 rfl (by decide +kernel) ?_
    (refine EL.buildSlice1 rfl rfl rfl rfl rfl rfl (by show c9.toArray.size = 9; simp [hc9l]) rfl rfl rfl ?_; intro b45)
    refine ED.next (.i (by repeat constructor)) ?_
    refine ED.take 15 rfl (by decide +kernel) CutX.no_panic (by decide +kernel) rfl rfl rfl (RV.buildS (reCells (.rep lo hi last) (.slice (some ⟨b45, 0, none⟩) 1 1)).toArray rfl rfl rfl rfl rfl) ?_
    refine ED.take 16 rfl (by decide +kernel) CutX.no_panic (by decide +kernel) rfl rfl rfl (RV.indexAddrL rfl rfl rfl rfl rfl (by omega)) ?_
    refine ED.last 17 rfl (by decide +kernel) (by decide +kernel) (by decide +kernel) ?_
    (refine EL.storeRA (vs := reCells (.rep lo hi last) (.slice (some ⟨b45, 0, none⟩) 1 1)) rfl rfl rfl rfl rfl (by repeat constructor) (by rw [hkl]; show 0 + init.length * 9 + 9 ≤ _; omega) (all1 rfl) ?_; refine EL.rowEq (v := .slice (some ⟨kg, 0, none⟩) (init.length + 1) kcap) (by repeat constructor) (put_last _ _ _ (by rw [hkl]; show (init.length + 1) * 9 = 0 + init.length * 9 + 9; omega)) ?_)
    refine EL.endQ ?_
    exact PX.cutX b45 ⟨rfl, rfl, rfl, rfl, rfl, trivial⟩ (by rw [show 0 + init.length * ty82.size = init.length * 9 from Nat.zero_add _]; exact (.i (by repeat constructor)))
  have hgr := grow_c g fg (k + 1) fcap gr size (size - z + z * tm) sh (((z * tm : Nat) : Int) - (z : Int)) hsh (by omega) (by omega)
  refine .go ?_; repeat constructor
  refine EL.move rfl rfl rfl ?_
  refine EL.nilCheck rfl rfl rfl ?_
  refine EL.fieldAddr rfl rfl rfl rfl rfl rfl rfl rfl ?_
  refine EL.loadR rfl rfl rfl rfl rfl (by repeat constructor) (pre_at pre _ (k * 4) 1 hpre) ?_
  refine EL.move rfl rfl rfl ?_
  refine EL.move rfl rfl rfl ?_
  refine EL.move rfl rfl rfl ?_
  refine EL.mulN rfl rfl rfl rfl rfl (by omega) ?_
  refine EL.indexAddrL1 rfl rfl rfl rfl rfl rfl rfl rfl (by omega) ?_
  (refine EL.storeR rfl rfl rfl rfl rfl rfl (by repeat constructor) (by simp [hz0]) ?_; refine EL.rowEq (v := .slice (some ⟨sg, 0, none⟩) (zs0.length + 1) scap) (by repeat constructor) (set_last zs0 z (z * tm) init.length hz0) ?_)
  refine .go ?_; repeat constructor
  refine EL.move rfl rfl rfl ?_
  refine EL.move rfl rfl rfl ?_
  refine EL.move rfl rfl rfl ?_
  refine EL.mulN rfl rfl rfl rfl rfl (by omega) ?_
  refine EL.move rfl rfl rfl ?_
  refine EL.sub_ (((z * tm : Nat) : Int) - (z : Int)) rfl rfl rfl rfl (wrap_i64 _ (by omega) (by omega)) ?_
  refine EL.callM1 rfl rfl rfl ent78 rfl hgr (by repeat constructor) ?_
  refine EL.assign rfl rfl rfl ?_
  refine .go ?_; repeat constructor
  refine PX.ret rfl Try.results81 (.cons (.tmp rfl) .nil) (fun w hs => ⟨b, rfl, ?_⟩)
  rw [hH0] at hs
  have h2 := Sat.repTree (lo := lo) (hi := hi) hc9 (hs.ent (H' := HA.row (.slice (some ⟨b, 0, none⟩) 1 1) 82 9 1 c9 :: HA.forest fp (init ++ [last]) kcs :: PB g fg (k + 1) fcap (PR gr sh (size - z + z * tm)) :: FB fg (k + 1) fcap (pre ++ frC (some ⟨kg, 0, none⟩) (init.length + 1) kcap (some ⟨sg, 0, none⟩) (zs0.length + 1) scap fgr fat) :: KR (some ⟨kg, 0, none⟩) (init.length + 1) kcap (kcs.take (init.length * 9) ++ reCells (.rep lo hi last) (.slice (some ⟨b, 0, none⟩) 1 1)) :: HA.row (.slice (some ⟨sg, 0, none⟩) (zs0.length + 1) scap) 3 1 (zs0.length + 1) ((zs0 ++ [z * tm]).map fun z : Nat => Iv (z : Nat)) :: R) (.i (by repeat constructor)))
  exact h2.ent (.i (by repeat constructor))
end Go.Proofs.Ytblpgpgbnlhjlaa
