/- Layer 7 (nfa): the walks of lay, repeat, Make. -/
import Derived.Test.YtblpgpgbnlhjlaaAe
namespace Go.Proofs.Ytblpgpgbnlhjlaa
open Go Go.RowKit Sl
set_option maxRecDepth 100000
set_option maxHeartbeats 8000000
set_option linter.unusedVariables false
set_option linter.unusedSimpArgs false
attribute [local irreducible] ES EL PX wps

abbrev LayCt (w0 : World) (B : Nat) (r : RE) (g off : Nat) : Prop := ∀ (ga en : Nat) (a : AM) (x : AX a) (p : Nat), p < a.out.length → a.Room r.cost →
  MutAt Try.prog 66 #[Pv ga 0, Pv g off, Iv (p : Nat)] [AP ga x.1 en] (fun _ : AX (layM r a p).1 => Iv ((layM r a p).2 : Nat)) (fun y => [AP ga y.1 en]) w0 B
structure LS where
  i : Nat
  b : AM
  q : Nat
  x : AX b
theorem least_le (lo : Nat) (k : RE) : leastM lo k ≤ lo := by unfold leastM; split <;> omega
theorem layRep_c (w0 : World) (B lo : Nat) (hi : Int) (k : RE) (hf : (RE.rep lo hi k).fine) (g off : Nat) (hn : NodeRd w0 B g off (.rep lo hi k)) (hk : ∀ g' off', NodeRd w0 B g' off' k → LayCt w0 B k g' off')
    (ga en : Nat) (a : AM) (x : AX a) (p : Nat) (hp : p < a.out.length) (hr : a.Room (RE.rep lo hi k).cost) :
    MutAt Try.prog 91 #[Pv ga 0, Pv g off, Iv (p : Nat)] [AP ga x.1 en] (fun _ : AX (repA lo hi k (layM k) a p).1 => Iv ((repA lo hi k (layM k) a p).2 : Nat)) (fun y => [AP ga y.1 en]) w0 B := by
  intro R w h
  replace h : Sat w0 B (AP ga x.1 en :: R) w := h
  have hl := lay_room k
  obtain ⟨hlo, hm1, h255, hle, hkf⟩ := id hf
  obtain ⟨ad, cap, hrd, hkids⟩ := hn.kids
  have hrd := hrd.rd
  obtain ⟨g', o', rfl, hkk⟩ := hkids (by simp [RE.kids])
  have hkn : NodeRd w0 B g' o' k := by have := hkk 0 k rfl; rwa [Nat.zero_mul, Nat.add_zero] at this
  have hkc := hk g' o' hkn
  have hrep : repA lo hi k (layM k) a p = (let x := timesA (layM k) (leastM lo k) a p
    if hi = (lo : Int) ∨ k.thin = true then x
    else if hi < 0 then ((layM k (x.1.step x.2 0 zeroS) x.1.out.length).1.link (layM k (x.1.step x.2 0 zeroS) x.1.out.length).2 x.1.out.length 0 zeroS, x.1.out.length)
    else (optA (layM k) x.1.out.length (hi.toNat - lo) (x.1.step x.2 0 zeroS) x.2, x.1.out.length)) := rfl
  rw [RE.cost] at hr
  obtain ⟨rest, hrest⟩ : ∃ rest, rest = (if hi = (lo : Int) ∨ k.thin = true then 0 else if hi < 0 then k.cost + 3 else (hi.toNat - lo) * (k.cost + 1) + 2) := ⟨_, rfl⟩
  rw [← hrest] at hr
  have hleast := least_le lo k
  have hlc := fun w Hs (hs : Sat w0 B Hs w) => least_c lo hi k hf g off w (NodeRd.sat hn hs)
  generalize hX : timesA (layM k) (leastM lo k) a p = X at hrep
  generalize leastM lo k = m at *
  dsimp only at hrep
  refine calls_of_ES TB Try.func91 rfl _ Try.ntmps91 rfl h ?_
  refine .go ?_; repeat constructor
  refine EL.assign rfl rfl rfl ?_
  refine .go ?_; repeat constructor
  refine EL.move rfl rfl rfl ?_
  refine EL.nilCheck rfl rfl rfl ?_
  refine EL.fieldAddr rfl rfl rfl rfl rfl rfl rfl rfl ?_
  refine EL.loadOld rfl rfl rfl rfl rfl hrd rfl ?_
  refine EL.indexAddrL (i := 0) rfl rfl rfl rfl rfl rfl rfl (by simp [RE.kids]) ?_
  refine EL.assign rfl rfl rfl ?_
  refine .go ?_; repeat constructor
  refine .go ?_; repeat constructor
  refine EL.move rfl rfl rfl ?_
  refine EL.callPw rfl rfl rfl ent82 rfl (fun w hs => hlc w _ hs) ?_
  refine EL.move rfl rfl rfl ?_
  refine .go ?_; repeat constructor
  refine ES.loop (σ := LS) (fun s => s.i ≤ m ∧ timesA (layM k) (m - s.i) s.b s.q = X ∧ s.q < s.b.out.length ∧ s.b.Room ((m - s.i) * k.cost + rest)) (fun s => [(0, Pv ga 0), (1, Pv g off), (2, Iv (s.q : Nat)), (7, Pv g' o'), (16, Iv (m : Nat)), (17, Iv (s.i : Nat))])
    (fun s => AP ga s.x.1 en :: R) (fun s => m - s.i) ⟨0, a, p, x⟩ ⟨Nat.zero_le _, hX, hp, hr⟩ ⟨rfl, rfl, rfl, rfl, rfl, rfl, trivial⟩ (.i (by repeat constructor)) ?_
  rintro ⟨i, b, q, y⟩ ⟨hi1, hgo, hq, hroom⟩
  dsimp only at hi1 hgo hq hroom ⊢
  refine .go ?_; repeat constructor
  refine EL.lss rfl rfl rfl rfl ?_
  refine .go ?_; repeat constructor
  refine ES.condD rfl (fun hlt => ?_) (fun hge => ?_)
  · obtain ⟨d, hd⟩ : ∃ d, m - i = d + 1 := ⟨m - i - 1, by omega⟩
    have hd2 : m - (i + 1) = d := by omega
    rw [hd, Nat.succ_mul] at hroom
    rw [hd, timesA] at hgo
    have hnext := hl.room b q (d * k.cost + rest) (hroom.less (by omega)) hq
    refine .go ?_; repeat constructor
    refine EL.move rfl rfl rfl ?_
    refine EL.move rfl rfl rfl ?_
    refine EL.move rfl rfl rfl ?_
    (refine EL.callMw rfl rfl rfl ent66 rfl (hkc ga en b y q hq (hroom.less (by omega))) (by repeat constructor) ?_; intro z)
    refine EL.assign rfl rfl rfl ?_
    refine .go ?_; repeat constructor
    refine EL.add1 rfl rfl rfl rfl (by omega) ?_
    refine EL.move rfl rfl rfl ?_
    refine .go ?_; repeat constructor
    exact PX.loop ⟨i + 1, (layM k b q).1, (layM k b q).2, z⟩ ⟨by simp only; omega, by rw [hd2]; exact hgo, hnext.2.1, by rw [hd2]; exact hnext.1⟩ (by simp only; omega) ⟨rfl, rfl, rfl, rfl, rfl, rfl, trivial⟩ (.i (by repeat constructor))
  obtain rfl : i = m := by omega
  rw [Nat.sub_self, timesA] at hgo
  rw [Nat.sub_self, Nat.zero_mul, Nat.zero_add] at hroom
  subst hgo
  refine .g0 ?_; repeat constructor
  refine ES.draw (X := Unit) (fun _ => [(0, Pv ga 0), (1, Pv g off), (2, Iv (q : Nat)), (7, Pv g' o'), (36, .bool (decide (hi = (lo : Int) ∨ k.thin = true)))]) (fun _ => AP ga y.1 en :: R) [] mixed (.i (by repeat constructor)) ?_ (fun _ => ?_)
  · refine ED.take 0 rfl (by decide +kernel) CutX.no_panic (by decide +kernel) rfl rfl rfl (RV.move rfl) ?_
    refine ED.take 1 rfl (by decide +kernel) CutX.no_panic (by decide +kernel) rfl rfl rfl (RV.nilCheck rfl) ?_
    refine ED.take 2 rfl (by decide +kernel) CutX.no_panic (by decide +kernel) rfl rfl rfl (RV.fieldAddr rfl rfl rfl rfl rfl rfl) ?_
    refine ED.take 3 rfl (by decide +kernel) CutX.no_panic (by decide +kernel) rfl rfl rfl (RV.loadOld rfl rfl rfl hrd rfl) ?_
    refine ED.take 4 rfl (by decide +kernel) CutX.no_panic (by decide +kernel) rfl rfl rfl (RV.move rfl) ?_
    refine ED.take 5 rfl (by decide +kernel) CutX.no_panic (by decide +kernel) rfl rfl rfl (RV.nilCheck rfl) ?_
    refine ED.take 6 rfl (by decide +kernel) CutX.no_panic (by decide +kernel) rfl rfl rfl (RV.fieldAddr rfl rfl rfl rfl rfl rfl) ?_
    refine ED.take 7 rfl (by decide +kernel) CutX.no_panic (by decide +kernel) rfl rfl rfl (RV.loadOld rfl rfl rfl hrd rfl) ?_
    refine ED.take 8 rfl (by decide +kernel) CutX.no_panic (by decide +kernel) rfl rfl rfl (RV.eqlI rfl rfl) ?_
    refine ED.take 9 rfl (by decide +kernel) CutX.no_panic (by decide +kernel) rfl rfl rfl (RV.move rfl) ?_
    first | refine ED.part (d := 33) rfl (fun hp33 => ?_) (fun hp33 => ?_) | refine ED.partN (d := 33) rfl (fun hp33 => ?_) (fun hp33 => ?_) | refine ED.partB (d := 33) rfl (fun hp33 => ?_) (fun hp33 => ?_)
    · refine ED.pass 10 rfl (by decide +kernel) CutX.no_panic (by decide +kernel) rfl rfl rfl ?_
      refine ED.pass 11 rfl (by decide +kernel) CutX.no_panic (by decide +kernel) rfl rfl rfl ?_
      refine ED.take 12 rfl (by decide +kernel) CutX.no_panic (by decide +kernel) rfl rfl rfl (RV.pickT rfl rfl) ?_
      refine ED.done (by decide +kernel) ?_
      exact PX.cutX () ⟨rfl, rfl, rfl, rfl, getA rfl (congrArg Value.bool (by first | exact (decide_eq_true (p := hi = (lo : Int) ∨ k.thin = true) (Or.inl hp33)).symm | (have h0 : ¬ hi = (lo : Int) := hp33; simp [h0]))), trivial⟩ (.i (by repeat constructor))
    · refine ED.take 10 rfl (by decide +kernel) CutX.no_panic (by decide +kernel) rfl rfl rfl (RV.move rfl) ?_
      refine ED.loud 11 rfl (by decide +kernel) ?_
      refine EL.callPw rfl rfl rfl ent83 rfl (fun w hs => thin_c k hkf g' o' w (NodeRd.sat hkn hs)) ?_
      refine ED.next (.i (by repeat constructor)) ?_
      refine ED.take 12 rfl (by decide +kernel) CutX.no_panic (by decide +kernel) rfl rfl rfl (RV.pickF rfl rfl) ?_
      refine ED.done (by decide +kernel) ?_
      exact PX.cutX () ⟨rfl, rfl, rfl, rfl, getA rfl (congrArg Value.bool (by first | exact (decide_eq_true (p := hi = (lo : Int) ∨ k.thin = true) (Or.inl hp33)).symm | (have h0 : ¬ hi = (lo : Int) := hp33; simp [h0]))), trivial⟩ (.i (by repeat constructor))
  refine ES.condD rfl (fun hc => ?_) (fun hc => ?_)
  · rw [if_pos hc] at hrep
    refine .go ?_; repeat constructor
    refine EL.move rfl rfl rfl ?_
    refine EL.assign rfl rfl rfl ?_
    refine .go ?_; repeat constructor
    exact PX.ret rfl Try.results91 (.cons (.tmp rfl) .nil) (fun w hs => ⟨y.cast (by rw [hrep]), by rw [hrep]; rfl, hs.ent (.i (by repeat constructor))⟩)
  rw [if_neg hc] at hrep hrest
  refine .go ?_; repeat constructor
  refine EL.move rfl rfl rfl ?_
  refine EL.nilCheck rfl rfl rfl ?_
  refine EL.fieldAddr rfl rfl rfl rfl rfl rfl rfl rfl ?_
  refine EL.loadOld rfl rfl rfl rfl rfl hrd rfl ?_
  refine EL.lss rfl rfl rfl rfl ?_
  refine .go ?_; repeat constructor
  refine ES.condD rfl (fun hneg => ?_) (fun hneg => ?_)
  · have hneg' : hi < 0 := hneg
    rw [if_pos hneg'] at hrep hrest
    have r1 := step_room (k := 0) (s := zeroS) (n := k.cost + 1) (hroom.less (by omega)) hq
    have hsl := step_len b q 0 zeroS
    have r2 := hl.room _ b.out.length 1 r1 (by omega)
    refine .go ?_; repeat constructor
    refine EL.move rfl rfl rfl ?_
    refine EL.move rfl rfl rfl ?_
    refine EL.buildZA rfl rfl rfl rfl rfl ?_
    (refine EL.callM rfl rfl rfl ent88 rfl (nfaStep_p ga en b y q 0 zeroS (hroom.less (by omega)) hq) (by repeat constructor) ?_; intro y2)
    refine EL.assign rfl rfl rfl ?_
    refine .go ?_; repeat constructor
    refine EL.move rfl rfl rfl ?_
    refine EL.move rfl rfl rfl ?_
    refine EL.move rfl rfl rfl ?_
    refine EL.move rfl rfl rfl ?_
    (refine EL.callMw rfl rfl rfl ent66 rfl (hkc ga en (b.step q 0 zeroS) y2 b.out.length (by omega) (r1.less (by omega))) (by repeat constructor) ?_; intro y3)
    refine EL.move rfl rfl rfl ?_
    refine EL.buildZA rfl rfl rfl rfl rfl ?_
    (refine EL.callM rfl rfl rfl ent89 rfl (nfaLink_p ga en _ y3 _ b.out.length 0 zeroS r2.1 r2.2.1 (by omega)) (by repeat constructor) ?_; intro y4)
    refine .go ?_; repeat constructor
    refine .go ?_; repeat constructor
    refine EL.move rfl rfl rfl ?_
    refine EL.assign rfl rfl rfl ?_
    refine .go ?_; repeat constructor
    exact PX.ret rfl Try.results91 (.cons (.tmp rfl) .nil) (fun w hs => ⟨y4.cast (by rw [hrep]), by rw [hrep]; rfl, hs.ent (.i (by repeat constructor))⟩)
  have hneg' : ¬ hi < 0 := hneg
  rw [if_neg hneg'] at hrep hrest
  have hge2 := hle (by omega)
  obtain ⟨M, hM⟩ : ∃ M, M = hi.toNat - lo := ⟨_, rfl⟩
  rw [← hM] at hrep hrest
  have r1 := step_room (k := 0) (s := zeroS) (n := M * (k.cost + 1)) (hroom.less (by omega)) hq
  have hsl := step_len b q 0 zeroS
  refine .go ?_; repeat constructor
  refine EL.move rfl rfl rfl ?_
  refine EL.move rfl rfl rfl ?_
  refine EL.buildZA rfl rfl rfl rfl rfl ?_
  (refine EL.callM rfl rfl rfl ent88 rfl (nfaStep_p ga en b y q 0 zeroS (hroom.less (by omega)) hq) (by repeat constructor) ?_; intro y2)
  refine EL.assign rfl rfl rfl ?_
  refine .go ?_; repeat constructor
  refine .g0 ?_; repeat constructor
  refine ES.draw (X := Unit) (fun _ => [(0, Pv ga 0), (2, Iv (q : Nat)), (7, Pv g' o'), (9, Iv (b.out.length : Nat)), (68, Iv (M : Nat)), (69, Iv ((0 : Nat) : Int))]) (fun _ => AP ga y2.1 en :: R) [] mixed (.i (by repeat constructor)) ?_ (fun _ => ?_)
  · refine ED.take 0 rfl (by decide +kernel) CutX.no_panic (by decide +kernel) rfl rfl rfl (RV.move rfl) ?_
    refine ED.take 1 rfl (by decide +kernel) CutX.no_panic (by decide +kernel) rfl rfl rfl (RV.nilCheck rfl) ?_
    refine ED.take 2 rfl (by decide +kernel) CutX.no_panic (by decide +kernel) rfl rfl rfl (RV.fieldAddr rfl rfl rfl rfl rfl rfl) ?_
    refine ED.take 3 rfl (by decide +kernel) CutX.no_panic (by decide +kernel) rfl rfl rfl (RV.loadOld rfl rfl rfl hrd rfl) ?_
    refine ED.take 4 rfl (by decide +kernel) CutX.no_panic (by decide +kernel) rfl rfl rfl (RV.move rfl) ?_
    refine ED.take 5 rfl (by decide +kernel) CutX.no_panic (by decide +kernel) rfl rfl rfl (RV.nilCheck rfl) ?_
    refine ED.take 6 rfl (by decide +kernel) CutX.no_panic (by decide +kernel) rfl rfl rfl (RV.fieldAddr rfl rfl rfl rfl rfl rfl) ?_
    refine ED.take 7 rfl (by decide +kernel) CutX.no_panic (by decide +kernel) rfl rfl rfl (RV.loadOld rfl rfl rfl hrd rfl) ?_
    refine ED.take 8 rfl (by decide +kernel) CutX.no_panic (by decide +kernel) rfl rfl rfl (RV.sub_ ((M : Nat) : Int) rfl rfl ((wrap_i64 _ (by simp only [RE.hi, RE.lo]; omega) (by simp only [RE.hi, RE.lo]; omega)).trans (by simp only [RE.hi, RE.lo]; omega))) ?_
    refine ED.take 9 rfl (by decide +kernel) CutX.no_panic (by decide +kernel) rfl rfl rfl (RV.move rfl) ?_
    refine ED.done (by decide +kernel) ?_
    exact PX.cutX () ⟨rfl, rfl, rfl, rfl, rfl, rfl, trivial⟩ (.i (by repeat constructor))
  refine .go ?_; repeat constructor
  generalize hO : b.out.length = O at *
  generalize hF : optA (layM k) O M (b.step q 0 zeroS) q = F at hrep
  refine ES.loop (σ := LS) (fun s => s.i ≤ M ∧ optA (layM k) O (M - s.i) s.b s.q = F ∧ s.q < s.b.out.length ∧ O < s.b.out.length ∧ s.b.Room ((M - s.i) * (k.cost + 1))) (fun s => [(0, Pv ga 0), (2, Iv (s.q : Nat)), (7, Pv g' o'), (9, Iv (O : Nat)), (68, Iv (M : Nat)), (69, Iv (s.i : Nat))])
    (fun s => AP ga s.x.1 en :: R) (fun s => M - s.i) ⟨0, b.step q 0 zeroS, q, y2⟩ ⟨Nat.zero_le _, hF, by simp only; omega, by simp only; omega, r1⟩ ⟨rfl, rfl, rfl, rfl, rfl, rfl, trivial⟩ (.i (by repeat constructor)) ?_
  rintro ⟨i, b2, q2, z⟩ ⟨hi1, hgo, hq2, hO2, hroom2⟩
  dsimp only at hi1 hgo hq2 hO2 hroom2 ⊢
  refine .go ?_; repeat constructor
  refine EL.lss rfl rfl rfl rfl ?_
  refine .go ?_; repeat constructor
  refine ES.condD rfl (fun hlt => ?_) (fun hge => ?_)
  · obtain ⟨d, hd⟩ : ∃ d, M - i = d + 1 := ⟨M - i - 1, by omega⟩
    have hd2 : M - (i + 1) = d := by omega
    rw [hd, Nat.succ_mul] at hroom2
    rw [hd, optA] at hgo
    have hnext := hl.room b2 q2 (d * (k.cost + 1) + 1) (hroom2.less (by omega)) hq2
    have hlink := link_room (k := 0) (s := zeroS) (t := O) hnext.1 hnext.2.1 (by omega)
    have hll := (link_len (layM k b2 q2).1 (layM k b2 q2).2 O 0 zeroS).1
    refine .go ?_; repeat constructor
    refine EL.move rfl rfl rfl ?_
    refine EL.move rfl rfl rfl ?_
    refine EL.move rfl rfl rfl ?_
    (refine EL.callMw rfl rfl rfl ent66 rfl (hkc ga en b2 z q2 hq2 (hroom2.less (by omega))) (by repeat constructor) ?_; intro z2)
    refine EL.assign rfl rfl rfl ?_
    refine .go ?_; repeat constructor
    refine EL.move rfl rfl rfl ?_
    refine EL.move rfl rfl rfl ?_
    refine EL.move rfl rfl rfl ?_
    refine EL.buildZA rfl rfl rfl rfl rfl ?_
    (refine EL.callM rfl rfl rfl ent89 rfl (nfaLink_p ga en _ z2 _ O 0 zeroS (hnext.1.less (by omega)) hnext.2.1 (by omega)) (by repeat constructor) ?_; intro z3)
    refine .go ?_; repeat constructor
    refine EL.add1 rfl rfl rfl rfl (by omega) ?_
    refine EL.move rfl rfl rfl ?_
    refine .go ?_; repeat constructor
    exact PX.loop ⟨i + 1, (layM k b2 q2).1.link (layM k b2 q2).2 O 0 zeroS, (layM k b2 q2).2, z3⟩ ⟨by simp only; omega, by rw [hd2]; exact hgo, by simp only; omega, by simp only; omega, by rw [hd2]; exact hlink⟩ (by simp only; omega) ⟨rfl, rfl, rfl, rfl, rfl, rfl, trivial⟩ (.i (by repeat constructor))
  obtain rfl : i = M := by omega
  rw [Nat.sub_self, optA] at hgo
  subst hgo
  refine .go ?_; repeat constructor
  refine EL.move rfl rfl rfl ?_
  refine EL.assign rfl rfl rfl ?_
  refine .go ?_; repeat constructor
  exact PX.ret rfl Try.results91 (.cons (.tmp rfl) .nil) (fun w hs => ⟨z.cast (by rw [hrep]), by rw [hrep]; rfl, hs.ent (.i (by repeat constructor))⟩)
theorem layL_kids (r : RE) (h : r.kind = 0 ∨ r.kind = 4) (a : AM) (p : Nat) : layM r a p = layL r.kids a p := by
  cases r <;> simp [RE.kind] at h
  · rw [layM]; rfl
  · rw [layM]; simp only [RE.kids]; rw [layL, layL]
theorem costL_kids (r : RE) (h : r.kind = 0 ∨ r.kind = 4) : r.cost = costL r.kids := by
  cases r <;> simp [RE.kind] at h
  · rw [RE.cost]; rfl
  · rw [RE.cost]; simp only [RE.kids]; rw [costL, costL]; rfl
theorem lay_n (w0 : World) (B n : Nat) : ∀ r : RE, r.sz ≤ n → r.fine → ∀ g off, NodeRd w0 B g off r → LayCt w0 B r g off := by
  induction n with
  | zero => intro r hr; exact absurd (sz_pos r) (by omega)
  | succ n ih =>
    intro r hsz hfine g off hn ga en a x p hp hr R w h
    replace h : Sat w0 B (AP ga x.1 en :: R) w := h
    have hkl := fine_len hfine
    obtain ⟨ad, cap, hrd, hkids⟩ := hn.kids
    have hrd := hrd.rd
    refine calls_of_ES TB Try.func66 rfl _ Try.ntmps66 rfl h ?_
    refine .go ?_; repeat constructor
    refine EL.assign rfl rfl rfl ?_
    refine .go ?_; repeat constructor
    refine EL.move rfl rfl rfl ?_
    refine EL.nilCheck rfl rfl rfl ?_
    refine EL.fieldAddr rfl rfl rfl rfl rfl rfl rfl rfl ?_
    refine EL.loadOld rfl rfl rfl rfl rfl hrd rfl ?_
    refine .go ?_; repeat constructor
    refine .go ?_; repeat constructor
    refine EL.eqlI rfl rfl rfl rfl ?_
    refine EL.assign rfl rfl rfl ?_
    refine .go ?_; repeat constructor
    refine ES.condD rfl (fun h1 => ?_) (fun h1 => ?_)
    · obtain ⟨bs, rfl⟩ := kind_1 (show r.kind = 1 by omega)
      rw [RE.cost] at hr
      have el : layM (.byte bs) a p = (a.step p 1 bs, a.out.length) := by rw [layM]
      refine .go ?_; repeat constructor
      refine EL.move rfl rfl rfl ?_
      refine EL.move rfl rfl rfl ?_
      refine EL.move rfl rfl rfl ?_
      refine EL.nilCheck rfl rfl rfl ?_
      refine EL.fieldAddr rfl rfl rfl rfl rfl rfl rfl rfl ?_
      refine EL.ofRV (RV.loadOldA (vs := [Wv bs.a, Wv bs.b, Wv bs.c, Wv bs.d]) rfl rfl rfl rfl (by simp) hrd (set_cells (.byte bs) _)) rfl rfl rfl (by intro c h; cases h) ?_
      (refine EL.callM rfl rfl rfl ent88 rfl (nfaStep_p ga en a x p 1 bs hr hp) (by repeat constructor) ?_; intro y)
      refine EL.assign rfl rfl rfl ?_
      refine .go ?_; repeat constructor
      exact PX.ret rfl Try.results66 (.cons (.tmp rfl) .nil) (fun w hs => ⟨y.cast (by rw [el]), congrArg (fun z : AM × Nat => Ending.returned (Iv (z.2 : Nat))) el.symm, hs.ent (.i (by repeat constructor))⟩)
    refine .go ?_; repeat constructor
    refine EL.eqlI rfl rfl rfl rfl ?_
    refine EL.assign rfl rfl rfl ?_
    refine .go ?_; repeat constructor
    refine ES.condD rfl (fun h2 => ?_) (fun h2 => ?_)
    · obtain rfl := kind_2 (show r.kind = 2 by omega)
      rw [RE.cost] at hr
      have el : layM .bol a p = (a.step p 2 zeroS, a.out.length) := by rw [layM]
      refine .go ?_; repeat constructor
      refine EL.move rfl rfl rfl ?_
      refine EL.move rfl rfl rfl ?_
      refine EL.buildZA rfl rfl rfl rfl rfl ?_
      (refine EL.callM rfl rfl rfl ent88 rfl (nfaStep_p ga en a x p 2 zeroS hr hp) (by repeat constructor) ?_; intro y)
      refine EL.assign rfl rfl rfl ?_
      refine .go ?_; repeat constructor
      exact PX.ret rfl Try.results66 (.cons (.tmp rfl) .nil) (fun w hs => ⟨y.cast (by rw [el]), congrArg (fun z : AM × Nat => Ending.returned (Iv (z.2 : Nat))) el.symm, hs.ent (.i (by repeat constructor))⟩)
    refine .go ?_; repeat constructor
    refine EL.eqlI rfl rfl rfl rfl ?_
    refine EL.assign rfl rfl rfl ?_
    refine .go ?_; repeat constructor
    refine ES.condD rfl (fun h3 => ?_) (fun h3 => ?_)
    · obtain rfl := kind_3 (show r.kind = 3 by omega)
      rw [RE.cost] at hr
      have el : layM .eol a p = (a.step p 3 zeroS, a.out.length) := by rw [layM]
      refine .go ?_; repeat constructor
      refine EL.move rfl rfl rfl ?_
      refine EL.move rfl rfl rfl ?_
      refine EL.buildZA rfl rfl rfl rfl rfl ?_
      (refine EL.callM rfl rfl rfl ent88 rfl (nfaStep_p ga en a x p 3 zeroS hr hp) (by repeat constructor) ?_; intro y)
      refine EL.assign rfl rfl rfl ?_
      refine .go ?_; repeat constructor
      exact PX.ret rfl Try.results66 (.cons (.tmp rfl) .nil) (fun w hs => ⟨y.cast (by rw [el]), congrArg (fun z : AM × Nat => Ending.returned (Iv (z.2 : Nat))) el.symm, hs.ent (.i (by repeat constructor))⟩)
    refine .go ?_; repeat constructor
    refine EL.eqlI rfl rfl rfl rfl ?_
    refine EL.assign rfl rfl rfl ?_
    refine .go ?_; repeat constructor
    refine ES.condD rfl (fun h6 => ?_) (fun h6 => ?_)
    · obtain ⟨bn, rfl⟩ := kind_6 (show r.kind = 6 by omega)
      rw [RE.cost] at hr
      have el : layM (.back bn) a p = ((a.step p 0 zeroS).link a.out.length a.out.length 1 (notS zeroS), a.out.length) := by rw [layM]
      have r1 := step_room (k := 0) (s := zeroS) (n := 1) hr hp
      have hsl := step_len a p 0 zeroS
      refine .go ?_; repeat constructor
      refine EL.move rfl rfl rfl ?_
      refine EL.move rfl rfl rfl ?_
      refine EL.buildZA rfl rfl rfl rfl rfl ?_
      (refine EL.callM rfl rfl rfl ent88 rfl (nfaStep_p ga en a x p 0 zeroS (hr.less (by omega)) hp) (by repeat constructor) ?_; intro y)
      refine EL.assign rfl rfl rfl ?_
      refine .go ?_; repeat constructor
      refine EL.move rfl rfl rfl ?_
      refine EL.move rfl rfl rfl ?_
      refine EL.move rfl rfl rfl ?_
      refine EL.buildZA rfl rfl rfl rfl rfl ?_
      refine EL.callP rfl rfl rfl ent90 rfl (not_c zeroS) ?_
      (refine EL.callM rfl rfl rfl ent89 rfl (nfaLink_p ga en _ y a.out.length a.out.length 1 (notS zeroS) r1 (by omega) (by omega)) (by repeat constructor) ?_; intro z)
      refine .go ?_; repeat constructor
      refine .go ?_; repeat constructor
      refine EL.move rfl rfl rfl ?_
      refine EL.assign rfl rfl rfl ?_
      refine .go ?_; repeat constructor
      exact PX.ret rfl Try.results66 (.cons (.tmp rfl) .nil) (fun w hs => ⟨z.cast (by rw [el]), congrArg (fun z : AM × Nat => Ending.returned (Iv (z.2 : Nat))) el.symm, hs.ent (.i (by repeat constructor))⟩)
    refine .go ?_; repeat constructor
    refine EL.eqlI rfl rfl rfl rfl ?_
    refine EL.assign rfl rfl rfl ?_
    refine .go ?_; repeat constructor
    refine ES.condD rfl (fun h5 => ?_) (fun h5 => ?_)
    · obtain ⟨lo, hi, k, rfl⟩ := kind_5 (show r.kind = 5 by omega)
      have hks : k.sz + 1 = (RE.rep lo hi k).sz := by simp [RE.sz]
      have el : layM (.rep lo hi k) a p = repA lo hi k (layM k) a p := by rw [layM]
      have hrc := layRep_c w0 B lo hi k hfine g off hn (fun g' off' hk => ih k (by omega) hfine.2.2.2.2 g' off' hk) ga en a x p hp hr
      refine .go ?_; repeat constructor
      refine EL.move rfl rfl rfl ?_
      refine EL.move rfl rfl rfl ?_
      refine EL.move rfl rfl rfl ?_
      (refine EL.callMw rfl rfl rfl ent91 rfl hrc (by repeat constructor) ?_; intro y)
      refine EL.assign rfl rfl rfl ?_
      refine .go ?_; repeat constructor
      exact PX.ret rfl Try.results66 (.cons (.tmp rfl) .nil) (fun w hs => ⟨y.cast (by rw [el]), congrArg (fun z : AM × Nat => Ending.returned (Iv (z.2 : Nat))) el.symm, hs.ent (.i (by repeat constructor))⟩)
    have hk04 : r.kind = 0 ∨ r.kind = 4 := by have := kind_le r; omega
    have hlk := layL_kids r hk04 a p
    have hck := costL_kids r hk04
    rw [hck] at hr
    refine .go ?_; repeat constructor
    refine EL.move rfl rfl rfl ?_
    refine EL.nilCheck rfl rfl rfl ?_
    refine EL.fieldAddr rfl rfl rfl rfl rfl rfl rfl rfl ?_
    refine EL.loadOld rfl rfl rfl rfl rfl hrd rfl ?_
    refine EL.lenL rfl rfl rfl rfl rfl ?_
    refine EL.move rfl rfl rfl ?_
    refine .go ?_; repeat constructor
    refine ES.loop (σ := LS) (fun s => s.i ≤ r.kids.length ∧ layL (r.kids.drop s.i) s.b s.q = layM r a p ∧ s.q < s.b.out.length ∧ s.b.Room (costL (r.kids.drop s.i))) (fun s => [(0, Pv ga 0), (1, Pv g off), (2, Iv (s.q : Nat)), (57, Iv (r.kids.length : Nat)), (58, Iv (s.i : Nat))])
      (fun s => AP ga s.x.1 en :: R) (fun s => r.kids.length - s.i) ⟨0, a, p, x⟩ ⟨Nat.zero_le _, by rw [List.drop_zero]; exact hlk.symm, hp, by rw [List.drop_zero]; exact hr⟩ ⟨rfl, rfl, rfl, rfl, rfl, trivial⟩ (.i (by repeat constructor)) ?_
    rintro ⟨i, b, q, y⟩ ⟨hi1, hgo, hq, hroom⟩
    dsimp only at hi1 hgo hq hroom ⊢
    refine .go ?_; repeat constructor
    refine EL.lss rfl rfl rfl rfl ?_
    refine .go ?_; repeat constructor
    refine ES.condD rfl (fun hlt => ?_) (fun hge => ?_)
    · have hlt' : i < r.kids.length := by omega
      obtain ⟨kg, ko, rfl, hk⟩ := hkids (by intro e; rw [e] at hlt'; simp at hlt')
      obtain ⟨k, hki⟩ : ∃ k, r.kids[i]? = some k := ⟨_, List.getElem?_eq_getElem hlt'⟩
      have hmem := List.mem_of_getElem? hki
      have hks := kids_lt hmem
      rw [List.drop_eq_getElem_cons hlt', show r.kids[i] = k from (List.getElem?_eq_some_iff.1 hki).2] at hgo hroom
      rw [costL] at hroom
      rw [layL] at hgo
      have hnext := (lay_room k).room b q _ hroom hq
      refine .go ?_; repeat constructor
      refine EL.move rfl rfl rfl ?_
      refine EL.assign rfl rfl rfl ?_
      refine .go ?_; repeat constructor
      refine EL.move rfl rfl rfl ?_
      refine EL.move rfl rfl rfl ?_
      refine EL.nilCheck rfl rfl rfl ?_
      refine EL.fieldAddr rfl rfl rfl rfl rfl rfl rfl rfl ?_
      refine EL.loadOld rfl rfl rfl rfl rfl hrd rfl ?_
      refine EL.move rfl rfl rfl ?_
      refine EL.indexAddrL rfl rfl rfl rfl rfl rfl rfl (by omega) ?_
      refine EL.move rfl rfl rfl ?_
      (refine EL.callMw rfl rfl rfl ent66 rfl (ih k (by omega) (fine_kid hfine hmem) kg (ko + i * 9) (hk i k hki) ga en b y q hq (hroom.less (by omega))) (by repeat constructor) ?_; intro z)
      refine EL.assign rfl rfl rfl ?_
      refine .go ?_; repeat constructor
      refine EL.add1 rfl rfl rfl rfl (by omega) ?_
      refine EL.move rfl rfl rfl ?_
      refine .go ?_; repeat constructor
      exact PX.loop ⟨i + 1, (layM k b q).1, (layM k b q).2, z⟩ ⟨hlt', hgo, hnext.2.1, hnext.1⟩ (by simp only; omega) ⟨rfl, rfl, rfl, rfl, rfl, trivial⟩ (.i (by repeat constructor))
    · obtain rfl : i = r.kids.length := by omega
      rw [List.drop_length, layL] at hgo
      refine .go ?_; repeat constructor
      refine EL.move rfl rfl rfl ?_
      refine EL.assign rfl rfl rfl ?_
      refine .go ?_; repeat constructor
      exact PX.ret rfl Try.results66 (.cons (.tmp rfl) .nil) (fun w hs => ⟨y.cast (by rw [← hgo]), by rw [← hgo]; rfl, hs.ent (.i (by repeat constructor))⟩)
theorem lay_c (w0 : World) (B : Nat) (r : RE) (hf : r.fine) (g off : Nat) (hn : NodeRd w0 B g off r) : LayCt w0 B r g off := lay_n w0 B r.sz r (Nat.le_refl _) hf g off hn
end Go.Proofs.Ytblpgpgbnlhjlaa
