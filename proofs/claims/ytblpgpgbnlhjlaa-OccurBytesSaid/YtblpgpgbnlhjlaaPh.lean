/- Layer 4 (bre): the parser closes a group. -/
import Derived.Test.YtblpgpgbnlhjlaaPg
namespace Go.Proofs.Ytblpgpgbnlhjlaa
open Go Go.RowKit Sl
set_option maxRecDepth 100000
set_option maxHeartbeats 8000000
set_option linter.unusedVariables false
set_option linter.unusedSimpArgs false
attribute [local irreducible] ES EL PX wps

theorem close_none (g fg fcap : Nat) (rest : List Value) :
    Mut Try.prog 80 #[Pv g 0] [PB g fg 1 fcap rest] (fun _ : Unit => Iv 10) (fun _ => []) := by
  intro w0 B R w h
  replace h : Sat w0 B (PB g fg 1 fcap rest :: R) w := h
  refine calls_of_ES TB Try.func80 rfl _ Try.ntmps80 rfl h ?_
  refine .go ?_; repeat constructor
  refine EL.assign rfl rfl rfl ?_
  refine .go ?_; repeat constructor
  refine EL.move rfl rfl rfl ?_
  refine EL.nilCheck rfl rfl rfl ?_
  refine EL.fieldAddr rfl rfl rfl rfl rfl rfl rfl rfl ?_
  (apply EL.loadB; exact rfl; exact rfl; exact rfl; exact rfl; exact rfl; (case hm => repeat constructor); exact rfl)
  refine EL.lenL rfl rfl rfl rfl rfl ?_
  refine EL.eqlI rfl rfl rfl rfl ?_
  refine .go ?_; repeat constructor
  refine ES.condK true rfl (decide_eq_true rfl) ?_
  refine .go ?_; repeat constructor
  refine EL.assign rfl rfl rfl ?_
  refine .go ?_; repeat constructor
  exact PX.ret rfl Try.results80 (.cons (.tmp rfl) .nil) (fun w hs => ⟨(), rfl, hs.ent (.i (by repeat constructor))⟩)
abbrev grC (tgr : Nat) (tks : List RE) (b : Nat) : List Value := reCells (.group tgr (.cat tks)) (.slice (some ⟨b, 0, none⟩) 1 1)
theorem take_sum (zs : List Nat) (i : Nat) (h : i < zs.length) : (zs.take (i + 1)).sum = (zs.take i).sum + zs.getD i 0 := by
  rw [List.take_succ_eq_append_getElem h, List.sum_append]
  simp [List.getD_eq_getElem?_getD, List.getElem?_eq_getElem h]
theorem take_sum_le (zs : List Nat) (i : Nat) : (zs.take i).sum ≤ zs.sum := by
  conv => rhs; rw [← List.take_append_drop i zs]
  rw [List.sum_append]; omega
theorem close_c (g fg k fcap gr size : Nat) (sh : List Bool) (hsh : sh.length = 10) (pre : List Value) (hpre : pre.length = k * 4) (hk : k + 2 ≤ 4096)
    (pad : Option Addr) (pcap : Nat) (psad : Option Addr) (pscap pgr pat : Nat) (pks : List RE) (pkcs : List Value) (pzs : List Nat) (pfp : List Nat) (hpn : pks.length ≤ 65535) (hpz : pzs.length ≤ 65535) (hpl : pkcs.length = pks.length * 9)
    (kad : Option Addr) (kcap : Nat) (sad : Option Addr) (scap tgr tat : Nat) (tks : List RE) (tkcs : List Value) (tzs : List Nat) (tfp : List Nat) (htg : tgr ≤ 9) (hts : tzs.sum ≤ 256) (htn : tzs.length ≤ 65535) :
    Mut Try.prog 80 #[Pv g 0] [PB g fg (k + 2) fcap (PR gr sh size), FB fg (k + 2) fcap ((pre ++ frC pad pks.length pcap psad pzs.length pscap pgr pat) ++ frC kad tks.length kcap sad tzs.length scap tgr tat), KR pad pks.length pcap pkcs, ZR psad pscap pzs, HA.forest pfp pks pkcs, KR kad tks.length kcap tkcs, ZR sad scap tzs, HA.forest tfp tks tkcs]
      (fun _ : ((Option Addr × Nat) × (Option Addr × Nat)) × Nat => Iv 0)
      (fun x => [PB g fg (k + 1) fcap (PR gr (sh.set tgr true) size), FB fg (k + 1) fcap (pre ++ frC x.1.1.1 (pks.length + 1) x.1.1.2 x.1.2.1 (pzs.length + 1) x.1.2.2 pgr pat), KR x.1.1.1 (pks.length + 1) x.1.1.2 (pkcs ++ grC tgr tks x.2), ZR x.1.2.1 x.1.2.2 (pzs ++ [tzs.sum]), HA.forest (pfp ++ ([x.2] ++ ((Value.slice kad tks.length kcap).ownBlock.toList ++ tfp))) (pks ++ [.group tgr (.cat tks)]) (pkcs ++ grC tgr tks x.2)]) := by
  intro w0 B R w h
  have hcap : k + 2 ≤ fcap := (row_form (h.all (FB fg (k + 2) fcap ((pre ++ frC pad pks.length pcap psad pzs.length pscap pgr pat) ++ frC kad tks.length kcap sad tzs.length scap tgr tat)) (by simp))).2.1
  obtain ⟨F0, hF0⟩ : ∃ F0, F0 = HA.forest pfp pks pkcs := ⟨_, rfl⟩
  obtain ⟨F1, hF1⟩ : ∃ F1, F1 = HA.forest tfp tks tkcs := ⟨_, rfl⟩
  obtain ⟨K1, hK1⟩ : ∃ K1, K1 = KR kad tks.length kcap tkcs := ⟨_, rfl⟩
  replace h : Sat w0 B (PB g fg (k + 2) fcap (PR gr sh size) :: FB fg (k + 2) fcap ((pre ++ frC pad pks.length pcap psad pzs.length pscap pgr pat) ++ frC kad tks.length kcap sad tzs.length scap tgr tat) :: KR pad pks.length pcap pkcs :: ZR psad pscap pzs :: F0 :: K1 :: ZR sad scap tzs :: F1 :: R) w := by rw [hF0, hF1, hK1]; exact h
  have hp2 : (pre ++ frC pad pks.length pcap psad pzs.length pscap pgr pat).length = (k + 1) * 4 := by rw [List.length_append, hpre]; simp [frC]; omega
  have htop := top_c g fg (k + 1) fcap (PR gr sh size) ((pre ++ frC pad pks.length pcap psad pzs.length pscap pgr pat) ++ frC kad tks.length kcap sad tzs.length scap tgr tat) (by omega)
  have htl := take_sum_le tzs
  refine calls_of_ES TB Try.func80 rfl _ Try.ntmps80 rfl h ?_
  refine .go ?_; repeat constructor
  refine EL.assign rfl rfl rfl ?_
  refine .go ?_; repeat constructor
  refine EL.move rfl rfl rfl ?_
  refine EL.nilCheck rfl rfl rfl ?_
  refine EL.fieldAddr rfl rfl rfl rfl rfl rfl rfl rfl ?_
  (apply EL.loadB; exact rfl; exact rfl; exact rfl; exact rfl; exact rfl; (case hm => repeat constructor); exact rfl)
  refine EL.lenL rfl rfl rfl rfl rfl ?_
  refine EL.eqlI rfl rfl rfl rfl ?_
  refine .go ?_; repeat constructor
  refine ES.condK false rfl (decide_eq_false (by omega)) ?_
  refine .go ?_; repeat constructor
  refine EL.move rfl rfl rfl ?_
  refine EL.callM1 rfl rfl rfl ent59 rfl htop (by repeat constructor) ?_
  refine EL.nilCheck rfl rfl rfl ?_
  refine EL.ofRV (RV.loadRA (frC kad tks.length kcap sad tzs.length scap tgr tat) rfl rfl rfl rfl (by repeat constructor) (by rw [List.drop_left' hp2]; rfl)) rfl rfl rfl (by intro c h; cases h) ?_
  (refine EL.alloc rfl rfl rfl ?_; intro g3)
  (apply EL.storeAll; exact rfl; exact rfl; exact rfl; exact rfl; exact rfl; (case p => repeat constructor); exact rfl; (case h1 => exact (by first | rfl | exact all1 rfl | (intro u hu; simp only [List.mem_cons, List.not_mem_nil, or_false] at hu; rcases hu with rfl | rfl | rfl | rfl <;> rfl) | (intro u hu; simp at hu; rcases hu with rfl | rfl | rfl | rfl <;> rfl) | (intro u hu; simp at hu; rcases hu with rfl | rfl | rfl <;> rfl) | (intro u hu; simp at hu; rcases hu with rfl | rfl <;> rfl) | (intro u hu; simp at hu; obtain ⟨_, _, rfl⟩ := hu; rfl))))
  refine .go ?_; repeat constructor
  refine ES.draw (X := Unit) (fun _ => [(0, Pv g 0), (3, Pv g3 0)]) (fun _ => HA.blk g3 (.cells (frC kad tks.length kcap sad tzs.length scap tgr tat).toArray 139) :: PB g fg (k + 1) fcap (PR gr sh size) :: FB fg (k + 2) fcap ((pre ++ frC pad pks.length pcap psad pzs.length pscap pgr pat) ++ frC kad tks.length kcap sad tzs.length scap tgr tat) :: KR pad pks.length pcap pkcs :: ZR psad pscap pzs :: F0 :: K1 :: ZR sad scap tzs :: F1 :: R) (PB g fg (k + 2) fcap (PR gr sh size) :: R) mixed (.i (by repeat constructor)) ?_ (fun _ => ?_)
  · refine ED.take 0 rfl (by decide +kernel) CutX.no_panic (by decide +kernel) rfl rfl rfl (RV.move rfl) ?_
    refine ED.take 1 rfl (by decide +kernel) CutX.no_panic (by decide +kernel) rfl rfl rfl (RV.move rfl) ?_
    refine ED.take 2 rfl (by decide +kernel) CutX.no_panic (by decide +kernel) rfl rfl rfl (RV.nilCheck rfl) ?_
    refine ED.take 3 rfl (by decide +kernel) CutX.no_panic (by decide +kernel) rfl rfl rfl (RV.fieldAddr rfl rfl rfl rfl rfl rfl) ?_
    refine ED.take 4 rfl (by decide +kernel) CutX.no_panic (by decide +kernel) rfl rfl rfl (RV.loadB rfl rfl rfl (by repeat constructor) rfl) ?_
    refine ED.take 5 rfl (by decide +kernel) CutX.no_panic (by decide +kernel) rfl rfl rfl (RV.move rfl) ?_
    refine ED.take 6 rfl (by decide +kernel) CutX.no_panic (by decide +kernel) rfl rfl rfl (RV.nilCheck rfl) ?_
    refine ED.take 7 rfl (by decide +kernel) CutX.no_panic (by decide +kernel) rfl rfl rfl (RV.fieldAddr rfl rfl rfl rfl rfl rfl) ?_
    refine ED.take 8 rfl (by decide +kernel) CutX.no_panic (by decide +kernel) rfl rfl rfl (RV.loadB rfl rfl rfl (by repeat constructor) rfl) ?_
    refine ED.take 9 rfl (by decide +kernel) CutX.no_panic (by decide +kernel) rfl rfl rfl (RV.lenL rfl rfl rfl) ?_
    refine ED.take 10 rfl (by decide +kernel) CutX.no_panic (by decide +kernel) rfl rfl rfl (RV.sub1 rfl rfl (by omega) (by omega)) ?_
    refine ED.take 11 rfl (by decide +kernel) CutX.no_panic (by decide +kernel) rfl rfl rfl (RV.sliceHi (hi := k + 1) rfl rfl rfl rfl rfl (by omega)) ?_
    refine ED.take 12 rfl (by decide +kernel) CutX.no_panic (by decide +kernel) rfl rfl rfl (RV.nilCheck rfl) ?_
    refine ED.take 13 rfl (by decide +kernel) CutX.no_panic (by decide +kernel) rfl rfl rfl (RV.fieldAddr rfl rfl rfl rfl rfl rfl) ?_
    refine ED.last 14 rfl (by decide +kernel) (by decide +kernel) (by decide +kernel) ?_
    (refine EL.storeB rfl rfl rfl rfl rfl rfl (by repeat constructor) (by simp) ?_; refine EL.blkEq (g := g) (by repeat constructor) (congrArg (fun a => Obj.cells a 143 (0, 0)) (pr_frames_set _ _ _)) ?_)
    refine EL.endQ ?_
    exact PX.cutX () ⟨rfl, rfl, trivial⟩ (.i (by repeat constructor))
  refine ES.imp (H' := HA.blk g3 (.cells (frC kad tks.length kcap sad tzs.length scap tgr tat).toArray 139) :: PB g fg (k + 1) fcap (PR gr sh size) :: FB fg (k + 1) fcap (pre ++ frC pad pks.length pcap psad pzs.length pscap pgr pat) :: KR pad pks.length pcap pkcs :: ZR psad pscap pzs :: F0 :: K1 :: ZR sad scap tzs :: F1 :: R) (fun w hs => ?_) ?_
  · have h1 := Sat.cutRow (m := k + 1) (hs.ent (H' := FB fg (k + 2) fcap ((pre ++ frC pad pks.length pcap psad pzs.length pscap pgr pat) ++ frC kad tks.length kcap sad tzs.length scap tgr tat) :: HA.blk g3 (.cells (frC kad tks.length kcap sad tzs.length scap tgr tat).toArray 139) :: PB g fg (k + 1) fcap (PR gr sh size) :: KR pad pks.length pcap pkcs :: ZR psad pscap pzs :: F0 :: K1 :: ZR sad scap tzs :: F1 :: R) (.i (by repeat constructor))) (by omega)
    rw [List.take_left' hp2] at h1
    exact h1.ent (.i (by repeat constructor))
  refine .g0 ?_; repeat constructor
  refine ES.drawG (X := Unit) (fun _ => [(0, Pv g 0), (3, Pv g3 0)]) (fun _ => HA.blk g3 (.cells (frC kad tks.length kcap sad tzs.length scap tgr tat).toArray 139) :: PB g fg (k + 1) fcap (PR gr (sh.set tgr true) size) :: FB fg (k + 1) fcap (pre ++ frC pad pks.length pcap psad pzs.length pscap pgr pat) :: KR pad pks.length pcap pkcs :: ZR psad pscap pzs :: F0 :: K1 :: ZR sad scap tzs :: F1 :: R) 6 (HA.blk g3 (.cells (frC kad tks.length kcap sad tzs.length scap tgr tat).toArray 139) :: R) mixed (by decide +kernel) (.i (by repeat constructor)) ?_ (fun _ => ?_)
  · refine EG.take 0 rfl (by decide +kernel) CutX.no_panic (by decide +kernel) rfl rfl rfl (RV.move rfl) ?_
    refine EG.take 1 rfl (by decide +kernel) CutX.no_panic (by decide +kernel) rfl rfl rfl (RV.fieldAddr rfl rfl rfl rfl rfl rfl) ?_
    refine EG.take 2 rfl (by decide +kernel) CutX.no_panic (by decide +kernel) rfl rfl rfl (RV.loadB rfl rfl rfl (by repeat constructor) rfl) ?_
    refine EG.take 3 rfl (by decide +kernel) CutX.no_panic (by decide +kernel) rfl rfl rfl (RV.nilCheck rfl) ?_
    refine EG.take 4 rfl (by decide +kernel) CutX.no_panic (by decide +kernel) rfl rfl rfl (RV.fieldAddr rfl rfl rfl rfl rfl rfl) ?_
    refine EG.take 5 rfl (by decide +kernel) CutX.no_panic (by decide +kernel) rfl rfl rfl (RV.indexAddrA rfl rfl rfl rfl rfl (by omega)) ?_
    refine EG.loud 6 rfl (by decide +kernel) ?_
    (refine EL.storeB rfl rfl rfl rfl rfl rfl (by repeat constructor) (by rw [pr_len _ _ _ _ hsh]; show 0 + 2 + tgr * 1 < 13; omega) ?_; refine EL.blkEq (g := g) (by repeat constructor) (congrArg (fun a => Obj.cells a 143 (0, 0)) (pr_shut_put _ gr size tgr _ sh true (by omega) (by show 0 + 2 + tgr * 1 = 2 + tgr; omega))) ?_)
    refine EG.nextL (by decide +kernel) rfl (by decide +kernel) ?_
    refine EG.done (by decide +kernel) ?_
    exact PX.cutX () ⟨rfl, rfl, trivial⟩ (.i (by repeat constructor))
  refine .go ?_; repeat constructor
  refine EL.assign rfl rfl rfl ?_
  refine .go ?_; repeat constructor
  refine EL.fieldAddr rfl rfl rfl rfl rfl rfl rfl rfl ?_
  (apply EL.loadB; exact rfl; exact rfl; exact rfl; exact rfl; exact rfl; (case hm => repeat constructor); exact rfl)
  refine EL.lenL rfl rfl rfl rfl rfl ?_
  refine EL.move rfl rfl rfl ?_
  refine .go ?_; repeat constructor
  refine ES.loop (σ := Nat) (fun i => i ≤ tzs.length) (fun i => [(0, Pv g 0), (3, Pv g3 0), (4, Iv ((tzs.take i).sum : Nat)), (38, .slice sad tzs.length scap), (39, Iv (tzs.length : Nat)), (40, Iv (i : Nat))])
    (fun i => HA.blk g3 (.cells (frC kad tks.length kcap sad tzs.length scap tgr tat).toArray 139) :: PB g fg (k + 1) fcap (PR gr (sh.set tgr true) size) :: FB fg (k + 1) fcap (pre ++ frC pad pks.length pcap psad pzs.length pscap pgr pat) :: KR pad pks.length pcap pkcs :: ZR psad pscap pzs :: F0 :: K1 :: ZR sad scap tzs :: F1 :: R) (fun i => tzs.length - i) 0 (Nat.zero_le _) ⟨rfl, rfl, rfl, rfl, rfl, rfl, trivial⟩ (.i (by repeat constructor)) ?_
  intro i hi
  dsimp only at hi ⊢
  refine .go ?_; repeat constructor
  refine EL.lss rfl rfl rfl rfl ?_
  refine .go ?_; repeat constructor
  refine ES.condD rfl (fun hlt => ?_) (fun hge => ?_)
  · have hlt' : i < tzs.length := by omega
    refine ES.rowForm (e := 3) (sz := 1) (n := tzs.length) (cs := tzs.map fun z : Nat => Iv (z : Nat)) (ad := sad) (len := tzs.length) (cap := scap) (by repeat constructor) (fun hf => ?_)
    obtain ⟨sg, rfl⟩ := hf.2.2.2.2 (by omega)
    have hs1 := take_sum tzs i hlt'
    have hs2 := htl (i + 1)
    refine .go ?_; repeat constructor
    refine EL.indexAddrL1 rfl rfl rfl rfl rfl rfl rfl rfl (by omega) ?_
    refine EL.loadRm (fun z : Nat => Iv (z : Nat)) 0 rfl rfl rfl rfl rfl (by repeat constructor) hlt' ?_
    refine EL.assign rfl rfl rfl ?_
    refine .go ?_; repeat constructor
    refine EL.move rfl rfl rfl ?_
    refine EL.move rfl rfl rfl ?_
    refine EL.addN rfl rfl rfl rfl rfl (by omega) ?_
    refine EL.assign rfl rfl rfl ?_
    refine .go ?_; repeat constructor
    refine .go ?_; repeat constructor
    refine EL.add1 rfl rfl rfl rfl (by omega) ?_
    refine EL.move rfl rfl rfl ?_
    refine .go ?_; repeat constructor
    exact PX.loop (i + 1) (by omega) (by omega) ⟨rfl, rfl, getA rfl (congrArg (fun n : Nat => Iv (n : Nat)) hs1.symm), rfl, rfl, rfl, trivial⟩ (.i (by repeat constructor))
  obtain rfl : i = tzs.length := by omega
  rw [List.take_length]
  have hput := fun b => put_c g fg k fcap (PR gr (sh.set tgr true) size) pre hpre (by omega) pad pks.length pcap psad pscap pgr pat pkcs (grC tgr tks b) pzs tzs.sum (by omega) (by omega) hpl rfl (all1 rfl)
  refine .go ?_; repeat constructor
  refine EL.move rfl rfl rfl ?_
  refine EL.fieldAddr rfl rfl rfl rfl rfl rfl rfl rfl ?_
  (apply EL.loadB; exact rfl; exact rfl; exact rfl; exact rfl; exact rfl; (case hm => repeat constructor); exact rfl)
  refine EL.fieldAddr rfl rfl rfl rfl rfl rfl rfl rfl ?_
  (apply EL.loadB; exact rfl; exact rfl; exact rfl; exact rfl; exact rfl; (case hm => repeat constructor); exact rfl)
  refine EL.buildS (reCells (.cat tks) (.slice kad tks.length kcap)).toArray rfl rfl rfl rfl rfl rfl rfl ?_
  (refine EL.buildSlice1 rfl rfl rfl rfl rfl rfl rfl rfl rfl rfl ?_; intro b54)
  (refine EL.buildS (grC tgr tks b54).toArray rfl rfl rfl rfl rfl rfl rfl ?_)
  refine EL.move rfl rfl rfl ?_
  (refine EL.callM rfl rfl rfl ent77 rfl (hput b54) (by repeat constructor) ?_; intro x)
  refine EL.assign rfl rfl rfl ?_
  refine .go ?_; repeat constructor
  refine PX.ret rfl Try.results80 (.cons (.tmp rfl) .nil) (fun w hs => ⟨(x, b54), rfl, ?_⟩)
  rw [hF0, hF1, hK1] at hs
  have h1 := Sat.seal (.cat tks) rfl (hs.ent (H' := KR kad tks.length kcap tkcs :: HA.forest tfp tks tkcs :: HA.row (.slice (some ⟨b54, 0, none⟩) 1 1) 82 9 1 (reCells (.cat tks) (.slice kad tks.length kcap)) :: HA.forest pfp pks pkcs :: PB g fg (k + 1) fcap (PR gr (sh.set tgr true) size) :: FB fg (k + 1) fcap (pre ++ frC x.1.1 (pks.length + 1) x.1.2 x.2.1 (pzs.length + 1) x.2.2 pgr pat) :: KR x.1.1 (pks.length + 1) x.1.2 (pkcs ++ grC tgr tks b54) :: ZR x.2.1 x.2.2 (pzs ++ [tzs.sum]) :: R) (.i (by repeat constructor)))
  have h2 := Sat.seal (.group tgr (.cat tks)) rfl (h1.ent (H' := HA.row (.slice (some ⟨b54, 0, none⟩) 1 1) 82 9 1 (reCells (.cat tks) (.slice kad tks.length kcap)) :: HA.forest ((Value.slice kad tks.length kcap).ownBlock.toList ++ tfp) [.cat tks] (reCells (.cat tks) (.slice kad tks.length kcap)) :: HA.forest pfp pks pkcs :: PB g fg (k + 1) fcap (PR gr (sh.set tgr true) size) :: FB fg (k + 1) fcap (pre ++ frC x.1.1 (pks.length + 1) x.1.2 x.2.1 (pzs.length + 1) x.2.2 pgr pat) :: KR x.1.1 (pks.length + 1) x.1.2 (pkcs ++ grC tgr tks b54) :: ZR x.2.1 x.2.2 (pzs ++ [tzs.sum]) :: R) (.i (by repeat constructor)))
  have h3 := Sat.forestApp (h2.ent (H' := HA.forest pfp pks pkcs :: HA.forest ([b54] ++ ((Value.slice kad tks.length kcap).ownBlock.toList ++ tfp)) [.group tgr (.cat tks)] (grC tgr tks b54) :: PB g fg (k + 1) fcap (PR gr (sh.set tgr true) size) :: FB fg (k + 1) fcap (pre ++ frC x.1.1 (pks.length + 1) x.1.2 x.2.1 (pzs.length + 1) x.2.2 pgr pat) :: KR x.1.1 (pks.length + 1) x.1.2 (pkcs ++ grC tgr tks b54) :: ZR x.2.1 x.2.2 (pzs ++ [tzs.sum]) :: R) (.i (by repeat constructor)))
  exact h3.ent (.i (by repeat constructor))
end Go.Proofs.Ytblpgpgbnlhjlaa
