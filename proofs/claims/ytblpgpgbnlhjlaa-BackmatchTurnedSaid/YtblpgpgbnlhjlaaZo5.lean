/- Texts of this claim, bundled. -/
import Derived.Test.YtblpgpgbnlhjlaaZo4
namespace Go.Proofs.Ytblpgpgbnlhjlaa
open Go Go.RowKit Sl
set_option maxRecDepth 100000
set_option maxHeartbeats 8000000
set_option linter.unusedVariables false
set_option linter.unusedSimpArgs false
attribute [local irreducible] ES EL PX wps
abbrev LayCt (w0 : World) (B : Nat) (r : RE) (g off : Nat) : Prop := ∀ (ga en : Nat) (a : AM) (x : AX a) (p : Nat), p < a.out.length → a.Room r.cost →
  MutAt Try.prog 66 #[Pv ga 0, Pv g off, Iv (p : Nat)] [AP ga x.1 en] (fun _ : AX (layM r a p).1 => Iv ((layM r a p).2 : Nat)) (fun y => [AP ga y.1 en]) w0 B
structure LS where
  i : Nat
  b : AM
  q : Nat
  x : AX b
theorem least_le (lo : Nat) (k : RE) : leastM lo k ≤ lo := by unfold leastM; split <;> omega
theorem layRep_c (w0 : World) (B lo : Nat) (hi : Int) (k : RE) (hf : (RE.rep lo hi k).fine) (g off : Nat) (hn : NodeRd w0 B g off (.rep lo hi k)) (hk : ∀ g' off', NodeRd w0 B g' off' k → LayCt w0 B k g' off')
    (ga en : Nat) (a : AM) (x : AX a) (p : Nat) (hp : p < a.out.length) (hr : a.Room (RE.rep lo hi k).cost) :
    MutAt Try.prog 91 #[Pv ga 0, Pv g off, Iv (p : Nat)] [AP ga x.1 en] (fun _ : AX (repA lo hi k (layM k) a p).1 => Iv ((repA lo hi k (layM k) a p).2 : Nat)) (fun y => [AP ga y.1 en]) w0 B := by
  intro R w h
  replace h : Sat w0 B (AP ga x.1 en :: R) w := h
  have hl := lay_room k
  obtain ⟨hlo, hm1, h255, hle, hkf⟩ := id hf
  obtain ⟨ad, cap, hrd, hkids⟩ := hn.kids
  have hrd := hrd.rd
  obtain ⟨g', o', rfl, hkk⟩ := hkids (by simp [RE.kids])
  have hkn : NodeRd w0 B g' o' k := by have := hkk 0 k rfl; rwa [Nat.zero_mul, Nat.add_zero] at this
  have hkc := hk g' o' hkn
  have hrep : repA lo hi k (layM k) a p = (let x := timesA (layM k) (leastM lo k) a p
    if hi = (lo : Int) ∨ k.thin = true then x
    else if hi < 0 then ((layM k (x.1.step x.2 0 zeroS) x.1.out.length).1.link (layM k (x.1.step x.2 0 zeroS) x.1.out.length).2 x.1.out.length 0 zeroS, x.1.out.length)
    else (optA (layM k) x.1.out.length (hi.toNat - lo) (x.1.step x.2 0 zeroS) x.2, x.1.out.length)) := rfl
  rw [RE.cost] at hr
  obtain ⟨rest, hrest⟩ : ∃ rest, rest = (if hi = (lo : Int) ∨ k.thin = true then 0 else if hi < 0 then k.cost + 3 else (hi.toNat - lo) * (k.cost + 1) + 2) := ⟨_, rfl⟩
  rw [← hrest] at hr
  have hleast := least_le lo k
  have hlc := fun w Hs (hs : Sat w0 B Hs w) => least_c lo hi k hf g off w (NodeRd.sat hn hs)
  generalize hX : timesA (layM k) (leastM lo k) a p = X at hrep
  generalize leastM lo k = m at *
  dsimp only at hrep
  refine calls_of_ES TB Try.func91 rfl _ Try.ntmps91 rfl h ?_
  refine .go ?_; repeat constructor
  refine EL.assign rfl rfl rfl ?_
  refine .go ?_; repeat constructor
  refine EL.move rfl rfl rfl ?_
  refine EL.nilCheck rfl rfl rfl ?_
  refine EL.fieldAddr rfl rfl rfl rfl rfl rfl rfl rfl ?_
  refine EL.loadOld rfl rfl rfl rfl rfl hrd rfl ?_
  refine EL.indexAddrL (i := 0) rfl rfl rfl rfl rfl rfl rfl (by simp [RE.kids]) ?_
  refine EL.assign rfl rfl rfl ?_
  refine .go ?_; repeat constructor
  refine .go ?_; repeat constructor
  refine EL.move rfl rfl rfl ?_
  refine EL.callPw rfl rfl rfl ent82 rfl (fun w hs => hlc w _ hs) ?_
  refine EL.move rfl rfl rfl ?_
  refine .go ?_; repeat constructor
  refine ES.loop (σ := LS) (fun s => s.i ≤ m ∧ timesA (layM k) (m - s.i) s.b s.q = X ∧ s.q < s.b.out.length ∧ s.b.Room ((m - s.i) * k.cost + rest)) (fun s => [(0, Pv ga 0), (1, Pv g off), (2, Iv (s.q : Nat)), (7, Pv g' o'), (16, Iv (m : Nat)), (17, Iv (s.i : Nat))])
    (fun s => AP ga s.x.1 en :: R) (fun s => m - s.i) ⟨0, a, p, x⟩ ⟨Nat.zero_le _, hX, hp, hr⟩ ⟨rfl, rfl, rfl, rfl, rfl, rfl, trivial⟩ (.i (by repeat constructor)) ?_
  rintro ⟨i, b, q, y⟩ ⟨hi1, hgo, hq, hroom⟩
  dsimp only at hi1 hgo hq hroom ⊢
  refine .go ?_; repeat constructor
  refine EL.lss rfl rfl rfl rfl ?_
  refine .go ?_; repeat constructor
  refine ES.condD rfl (fun hlt => ?_) (fun hge => ?_)
  · obtain ⟨d, hd⟩ : ∃ d, m - i = d + 1 := ⟨m - i - 1, by omega⟩
    have hd2 : m - (i + 1) = d := by omega
    rw [hd, Nat.succ_mul] at hroom
    rw [hd, timesA] at hgo
    have hnext := hl.room b q (d * k.cost + rest) (hroom.less (by omega)) hq
    refine .go ?_; repeat constructor
    refine EL.move rfl rfl rfl ?_
    refine EL.move rfl rfl rfl ?_
    refine EL.move rfl rfl rfl ?_
    (refine EL.callMw rfl rfl rfl ent66 rfl (hkc ga en b y q hq (hroom.less (by omega))) (by repeat constructor) ?_; intro z)
    refine EL.assign rfl rfl rfl ?_
    refine .go ?_; repeat constructor
    refine EL.add1 rfl rfl rfl rfl (by omega) ?_
    refine EL.move rfl rfl rfl ?_
    refine .go ?_; repeat constructor
    exact PX.loop ⟨i + 1, (layM k b q).1, (layM k b q).2, z⟩ ⟨by simp only; omega, by rw [hd2]; exact hgo, hnext.2.1, by rw [hd2]; exact hnext.1⟩ (by simp only; omega) ⟨rfl, rfl, rfl, rfl, rfl, rfl, trivial⟩ (.i (by repeat constructor))
  obtain rfl : i = m := by omega
  rw [Nat.sub_self, timesA] at hgo
  rw [Nat.sub_self, Nat.zero_mul, Nat.zero_add] at hroom
  subst hgo
  refine .g0 ?_; repeat constructor
  refine ES.draw (X := Unit) (fun _ => [(0, Pv ga 0), (1, Pv g off), (2, Iv (q : Nat)), (7, Pv g' o'), (36, .bool (decide (hi = (lo : Int) ∨ k.thin = true)))]) (fun _ => AP ga y.1 en :: R) [] mixed (.i (by repeat constructor)) ?_ (fun _ => ?_)
  · refine ED.take 0 rfl (by decide +kernel) CutX.no_panic (by decide +kernel) rfl rfl rfl (RV.move rfl) ?_
    refine ED.take 1 rfl (by decide +kernel) CutX.no_panic (by decide +kernel) rfl rfl rfl (RV.nilCheck rfl) ?_
    refine ED.take 2 rfl (by decide +kernel) CutX.no_panic (by decide +kernel) rfl rfl rfl (RV.fieldAddr rfl rfl rfl rfl rfl rfl) ?_
    refine ED.take 3 rfl (by decide +kernel) CutX.no_panic (by decide +kernel) rfl rfl rfl (RV.loadOld rfl rfl rfl hrd rfl) ?_
    refine ED.take 4 rfl (by decide +kernel) CutX.no_panic (by decide +kernel) rfl rfl rfl (RV.move rfl) ?_
    refine ED.take 5 rfl (by decide +kernel) CutX.no_panic (by decide +kernel) rfl rfl rfl (RV.nilCheck rfl) ?_
    refine ED.take 6 rfl (by decide +kernel) CutX.no_panic (by decide +kernel) rfl rfl rfl (RV.fieldAddr rfl rfl rfl rfl rfl rfl) ?_
    refine ED.take 7 rfl (by decide +kernel) CutX.no_panic (by decide +kernel) rfl rfl rfl (RV.loadOld rfl rfl rfl hrd rfl) ?_
    refine ED.take 8 rfl (by decide +kernel) CutX.no_panic (by decide +kernel) rfl rfl rfl (RV.eqlI rfl rfl) ?_
    refine ED.take 9 rfl (by decide +kernel) CutX.no_panic (by decide +kernel) rfl rfl rfl (RV.move rfl) ?_
    first | refine ED.part (d := 33) rfl (fun hp33 => ?_) (fun hp33 => ?_) | refine ED.partN (d := 33) rfl (fun hp33 => ?_) (fun hp33 => ?_) | refine ED.partB (d := 33) rfl (fun hp33 => ?_) (fun hp33 => ?_)
    · refine ED.pass 10 rfl (by decide +kernel) CutX.no_panic (by decide +kernel) rfl rfl rfl ?_
      refine ED.pass 11 rfl (by decide +kernel) CutX.no_panic (by decide +kernel) rfl rfl rfl ?_
      refine ED.take 12 rfl (by decide +kernel) CutX.no_panic (by decide +kernel) rfl rfl rfl (RV.pickT rfl rfl) ?_
      refine ED.done (by decide +kernel) ?_
      exact PX.cutX () ⟨rfl, rfl, rfl, rfl, getA rfl (congrArg Value.bool (by first | exact (decide_eq_true (p := hi = (lo : Int) ∨ k.thin = true) (Or.inl hp33)).symm | (have h0 : ¬ hi = (lo : Int) := hp33; simp [h0]))), trivial⟩ (.i (by repeat constructor))
    · refine ED.take 10 rfl (by decide +kernel) CutX.no_panic (by decide +kernel) rfl rfl rfl (RV.move rfl) ?_
      refine ED.loud 11 rfl (by decide +kernel) ?_
      refine EL.callPw rfl rfl rfl ent83 rfl (fun w hs => thin_c k hkf g' o' w (NodeRd.sat hkn hs)) ?_
      refine ED.next (.i (by repeat constructor)) ?_
      refine ED.take 12 rfl (by decide +kernel) CutX.no_panic (by decide +kernel) rfl rfl rfl (RV.pickF rfl rfl) ?_
      refine ED.done (by decide +kernel) ?_
      exact PX.cutX () ⟨rfl, rfl, rfl, rfl, getA rfl (congrArg Value.bool (by first | exact (decide_eq_true (p := hi = (lo : Int) ∨ k.thin = true) (Or.inl hp33)).symm | (have h0 : ¬ hi = (lo : Int) := hp33; simp [h0]))), trivial⟩ (.i (by repeat constructor))
  refine ES.condD rfl (fun hc => ?_) (fun hc => ?_)
  · rw [if_pos hc] at hrep
    refine .go ?_; repeat constructor
    refine EL.move rfl rfl rfl ?_
    refine EL.assign rfl rfl rfl ?_
    refine .go ?_; repeat constructor
    exact PX.ret rfl Try.results91 (.cons (.tmp rfl) .nil) (fun w hs => ⟨y.cast (by rw [hrep]), by rw [hrep]; rfl, hs.ent (.i (by repeat constructor))⟩)
  rw [if_neg hc] at hrep hrest
  refine .go ?_; repeat constructor
  refine EL.move rfl rfl rfl ?_
  refine EL.nilCheck rfl rfl rfl ?_
  refine EL.fieldAddr rfl rfl rfl rfl rfl rfl rfl rfl ?_
  refine EL.loadOld rfl rfl rfl rfl rfl hrd rfl ?_
  refine EL.lss rfl rfl rfl rfl ?_
  refine .go ?_; repeat constructor
  refine ES.condD rfl (fun hneg => ?_) (fun hneg => ?_)
  · have hneg' : hi < 0 := hneg
    rw [if_pos hneg'] at hrep hrest
    have r1 := step_room (k := 0) (s := zeroS) (n := k.cost + 1) (hroom.less (by omega)) hq
    have hsl := step_len b q 0 zeroS
    have r2 := hl.room _ b.out.length 1 r1 (by omega)
    refine .go ?_; repeat constructor
    refine EL.move rfl rfl rfl ?_
    refine EL.move rfl rfl rfl ?_
    refine EL.buildZA rfl rfl rfl rfl rfl ?_
    (refine EL.callM rfl rfl rfl ent88 rfl (nfaStep_p ga en b y q 0 zeroS (hroom.less (by omega)) hq) (by repeat constructor) ?_; intro y2)
    refine EL.assign rfl rfl rfl ?_
    refine .go ?_; repeat constructor
    refine EL.move rfl rfl rfl ?_
    refine EL.move rfl rfl rfl ?_
    refine EL.move rfl rfl rfl ?_
    refine EL.move rfl rfl rfl ?_
    (refine EL.callMw rfl rfl rfl ent66 rfl (hkc ga en (b.step q 0 zeroS) y2 b.out.length (by omega) (r1.less (by omega))) (by repeat constructor) ?_; intro y3)
    refine EL.move rfl rfl rfl ?_
    refine EL.buildZA rfl rfl rfl rfl rfl ?_
    (refine EL.callM rfl rfl rfl ent89 rfl (nfaLink_p ga en _ y3 _ b.out.length 0 zeroS r2.1 r2.2.1 (by omega)) (by repeat constructor) ?_; intro y4)
    refine .go ?_; repeat constructor
    refine .go ?_; repeat constructor
    refine EL.move rfl rfl rfl ?_
    refine EL.assign rfl rfl rfl ?_
    refine .go ?_; repeat constructor
    exact PX.ret rfl Try.results91 (.cons (.tmp rfl) .nil) (fun w hs => ⟨y4.cast (by rw [hrep]), by rw [hrep]; rfl, hs.ent (.i (by repeat constructor))⟩)
  have hneg' : ¬ hi < 0 := hneg
  rw [if_neg hneg'] at hrep hrest
  have hge2 := hle (by omega)
  obtain ⟨M, hM⟩ : ∃ M, M = hi.toNat - lo := ⟨_, rfl⟩
  rw [← hM] at hrep hrest
  have r1 := step_room (k := 0) (s := zeroS) (n := M * (k.cost + 1)) (hroom.less (by omega)) hq
  have hsl := step_len b q 0 zeroS
  refine .go ?_; repeat constructor
  refine EL.move rfl rfl rfl ?_
  refine EL.move rfl rfl rfl ?_
  refine EL.buildZA rfl rfl rfl rfl rfl ?_
  (refine EL.callM rfl rfl rfl ent88 rfl (nfaStep_p ga en b y q 0 zeroS (hroom.less (by omega)) hq) (by repeat constructor) ?_; intro y2)
  refine EL.assign rfl rfl rfl ?_
  refine .go ?_; repeat constructor
  refine .g0 ?_; repeat constructor
  refine ES.draw (X := Unit) (fun _ => [(0, Pv ga 0), (2, Iv (q : Nat)), (7, Pv g' o'), (9, Iv (b.out.length : Nat)), (68, Iv (M : Nat)), (69, Iv ((0 : Nat) : Int))]) (fun _ => AP ga y2.1 en :: R) [] mixed (.i (by repeat constructor)) ?_ (fun _ => ?_)
  · refine ED.take 0 rfl (by decide +kernel) CutX.no_panic (by decide +kernel) rfl rfl rfl (RV.move rfl) ?_
    refine ED.take 1 rfl (by decide +kernel) CutX.no_panic (by decide +kernel) rfl rfl rfl (RV.nilCheck rfl) ?_
    refine ED.take 2 rfl (by decide +kernel) CutX.no_panic (by decide +kernel) rfl rfl rfl (RV.fieldAddr rfl rfl rfl rfl rfl rfl) ?_
    refine ED.take 3 rfl (by decide +kernel) CutX.no_panic (by decide +kernel) rfl rfl rfl (RV.loadOld rfl rfl rfl hrd rfl) ?_
    refine ED.take 4 rfl (by decide +kernel) CutX.no_panic (by decide +kernel) rfl rfl rfl (RV.move rfl) ?_
    refine ED.take 5 rfl (by decide +kernel) CutX.no_panic (by decide +kernel) rfl rfl rfl (RV.nilCheck rfl) ?_
    refine ED.take 6 rfl (by decide +kernel) CutX.no_panic (by decide +kernel) rfl rfl rfl (RV.fieldAddr rfl rfl rfl rfl rfl rfl) ?_
    refine ED.take 7 rfl (by decide +kernel) CutX.no_panic (by decide +kernel) rfl rfl rfl (RV.loadOld rfl rfl rfl hrd rfl) ?_
    refine ED.take 8 rfl (by decide +kernel) CutX.no_panic (by decide +kernel) rfl rfl rfl (RV.sub_ ((M : Nat) : Int) rfl rfl ((wrap_i64 _ (by simp only [RE.hi, RE.lo]; omega) (by simp only [RE.hi, RE.lo]; omega)).trans (by simp only [RE.hi, RE.lo]; omega))) ?_
    refine ED.take 9 rfl (by decide +kernel) CutX.no_panic (by decide +kernel) rfl rfl rfl (RV.move rfl) ?_
    refine ED.done (by decide +kernel) ?_
    exact PX.cutX () ⟨rfl, rfl, rfl, rfl, rfl, rfl, trivial⟩ (.i (by repeat constructor))
  refine .go ?_; repeat constructor
  generalize hO : b.out.length = O at *
  generalize hF : optA (layM k) O M (b.step q 0 zeroS) q = F at hrep
  refine ES.loop (σ := LS) (fun s => s.i ≤ M ∧ optA (layM k) O (M - s.i) s.b s.q = F ∧ s.q < s.b.out.length ∧ O < s.b.out.length ∧ s.b.Room ((M - s.i) * (k.cost + 1))) (fun s => [(0, Pv ga 0), (2, Iv (s.q : Nat)), (7, Pv g' o'), (9, Iv (O : Nat)), (68, Iv (M : Nat)), (69, Iv (s.i : Nat))])
    (fun s => AP ga s.x.1 en :: R) (fun s => M - s.i) ⟨0, b.step q 0 zeroS, q, y2⟩ ⟨Nat.zero_le _, hF, by simp only; omega, by simp only; omega, r1⟩ ⟨rfl, rfl, rfl, rfl, rfl, rfl, trivial⟩ (.i (by repeat constructor)) ?_
  rintro ⟨i, b2, q2, z⟩ ⟨hi1, hgo, hq2, hO2, hroom2⟩
  dsimp only at hi1 hgo hq2 hO2 hroom2 ⊢
  refine .go ?_; repeat constructor
  refine EL.lss rfl rfl rfl rfl ?_
  refine .go ?_; repeat constructor
  refine ES.condD rfl (fun hlt => ?_) (fun hge => ?_)
  · obtain ⟨d, hd⟩ : ∃ d, M - i = d + 1 := ⟨M - i - 1, by omega⟩
    have hd2 : M - (i + 1) = d := by omega
    rw [hd, Nat.succ_mul] at hroom2
    rw [hd, optA] at hgo
    have hnext := hl.room b2 q2 (d * (k.cost + 1) + 1) (hroom2.less (by omega)) hq2
    have hlink := link_room (k := 0) (s := zeroS) (t := O) hnext.1 hnext.2.1 (by omega)
    have hll := (link_len (layM k b2 q2).1 (layM k b2 q2).2 O 0 zeroS).1
    refine .go ?_; repeat constructor
    refine EL.move rfl rfl rfl ?_
    refine EL.move rfl rfl rfl ?_
    refine EL.move rfl rfl rfl ?_
    (refine EL.callMw rfl rfl rfl ent66 rfl (hkc ga en b2 z q2 hq2 (hroom2.less (by omega))) (by repeat constructor) ?_; intro z2)
    refine EL.assign rfl rfl rfl ?_
    refine .go ?_; repeat constructor
    refine EL.move rfl rfl rfl ?_
    refine EL.move rfl rfl rfl ?_
    refine EL.move rfl rfl rfl ?_
    refine EL.buildZA rfl rfl rfl rfl rfl ?_
    (refine EL.callM rfl rfl rfl ent89 rfl (nfaLink_p ga en _ z2 _ O 0 zeroS (hnext.1.less (by omega)) hnext.2.1 (by omega)) (by repeat constructor) ?_; intro z3)
    refine .go ?_; repeat constructor
    refine EL.add1 rfl rfl rfl rfl (by omega) ?_
    refine EL.move rfl rfl rfl ?_
    refine .go ?_; repeat constructor
    exact PX.loop ⟨i + 1, (layM k b2 q2).1.link (layM k b2 q2).2 O 0 zeroS, (layM k b2 q2).2, z3⟩ ⟨by simp only; omega, by rw [hd2]; exact hgo, by simp only; omega, by simp only; omega, by rw [hd2]; exact hlink⟩ (by simp only; omega) ⟨rfl, rfl, rfl, rfl, rfl, rfl, trivial⟩ (.i (by repeat constructor))
  obtain rfl : i = M := by omega
  rw [Nat.sub_self, optA] at hgo
  subst hgo
  refine .go ?_; repeat constructor
  refine EL.move rfl rfl rfl ?_
  refine EL.assign rfl rfl rfl ?_
  refine .go ?_; repeat constructor
  exact PX.ret rfl Try.results91 (.cons (.tmp rfl) .nil) (fun w hs => ⟨z.cast (by rw [hrep]), by rw [hrep]; rfl, hs.ent (.i (by repeat constructor))⟩)
theorem layL_kids (r : RE) (h : r.kind = 0 ∨ r.kind = 4) (a : AM) (p : Nat) : layM r a p = layL r.kids a p := by
  cases r <;> simp [RE.kind] at h
  · rw [layM]; rfl
  · rw [layM]; simp only [RE.kids]; rw [layL, layL]
theorem costL_kids (r : RE) (h : r.kind = 0 ∨ r.kind = 4) : r.cost = costL r.kids := by
  cases r <;> simp [RE.kind] at h
  · rw [RE.cost]; rfl
  · rw [RE.cost]; simp only [RE.kids]; rw [costL, costL]; rfl
theorem lay_n (w0 : World) (B n : Nat) : ∀ r : RE, r.sz ≤ n → r.fine → ∀ g off, NodeRd w0 B g off r → LayCt w0 B r g off := by
  induction n with
  | zero => intro r hr; exact absurd (sz_pos r) (by omega)
  | succ n ih =>
    intro r hsz hfine g off hn ga en a x p hp hr R w h
    replace h : Sat w0 B (AP ga x.1 en :: R) w := h
    have hkl := fine_len hfine
    obtain ⟨ad, cap, hrd, hkids⟩ := hn.kids
    have hrd := hrd.rd
    refine calls_of_ES TB Try.func66 rfl _ Try.ntmps66 rfl h ?_
    refine .go ?_; repeat constructor
    refine EL.assign rfl rfl rfl ?_
    refine .go ?_; repeat constructor
    refine EL.move rfl rfl rfl ?_
    refine EL.nilCheck rfl rfl rfl ?_
    refine EL.fieldAddr rfl rfl rfl rfl rfl rfl rfl rfl ?_
    refine EL.loadOld rfl rfl rfl rfl rfl hrd rfl ?_
    refine .go ?_; repeat constructor
    refine .go ?_; repeat constructor
    refine EL.eqlI rfl rfl rfl rfl ?_
    refine EL.assign rfl rfl rfl ?_
    refine .go ?_; repeat constructor
    refine ES.condD rfl (fun h1 => ?_) (fun h1 => ?_)
    · obtain ⟨bs, rfl⟩ := kind_1 (show r.kind = 1 by omega)
      rw [RE.cost] at hr
      have el : layM (.byte bs) a p = (a.step p 1 bs, a.out.length) := by rw [layM]
      refine .go ?_; repeat constructor
      refine EL.move rfl rfl rfl ?_
      refine EL.move rfl rfl rfl ?_
      refine EL.move rfl rfl rfl ?_
      refine EL.nilCheck rfl rfl rfl ?_
      refine EL.fieldAddr rfl rfl rfl rfl rfl rfl rfl rfl ?_
      refine EL.ofRV (RV.loadOldA (vs := [Wv bs.a, Wv bs.b, Wv bs.c, Wv bs.d]) rfl rfl rfl rfl (by simp) hrd (set_cells (.byte bs) _)) rfl rfl rfl (by intro c h; cases h) ?_
      (refine EL.callM rfl rfl rfl ent88 rfl (nfaStep_p ga en a x p 1 bs hr hp) (by repeat constructor) ?_; intro y)
      refine EL.assign rfl rfl rfl ?_
      refine .go ?_; repeat constructor
      exact PX.ret rfl Try.results66 (.cons (.tmp rfl) .nil) (fun w hs => ⟨y.cast (by rw [el]), congrArg (fun z : AM × Nat => Ending.returned (Iv (z.2 : Nat))) el.symm, hs.ent (.i (by repeat constructor))⟩)
    refine .go ?_; repeat constructor
    refine EL.eqlI rfl rfl rfl rfl ?_
    refine EL.assign rfl rfl rfl ?_
    refine .go ?_; repeat constructor
    refine ES.condD rfl (fun h2 => ?_) (fun h2 => ?_)
    · obtain rfl := kind_2 (show r.kind = 2 by omega)
      rw [RE.cost] at hr
      have el : layM .bol a p = (a.step p 2 zeroS, a.out.length) := by rw [layM]
      refine .go ?_; repeat constructor
      refine EL.move rfl rfl rfl ?_
      refine EL.move rfl rfl rfl ?_
      refine EL.buildZA rfl rfl rfl rfl rfl ?_
      (refine EL.callM rfl rfl rfl ent88 rfl (nfaStep_p ga en a x p 2 zeroS hr hp) (by repeat constructor) ?_; intro y)
      refine EL.assign rfl rfl rfl ?_
      refine .go ?_; repeat constructor
      exact PX.ret rfl Try.results66 (.cons (.tmp rfl) .nil) (fun w hs => ⟨y.cast (by rw [el]), congrArg (fun z : AM × Nat => Ending.returned (Iv (z.2 : Nat))) el.symm, hs.ent (.i (by repeat constructor))⟩)
    refine .go ?_; repeat constructor
    refine EL.eqlI rfl rfl rfl rfl ?_
    refine EL.assign rfl rfl rfl ?_
    refine .go ?_; repeat constructor
    refine ES.condD rfl (fun h3 => ?_) (fun h3 => ?_)
    · obtain rfl := kind_3 (show r.kind = 3 by omega)
      rw [RE.cost] at hr
      have el : layM .eol a p = (a.step p 3 zeroS, a.out.length) := by rw [layM]
      refine .go ?_; repeat constructor
      refine EL.move rfl rfl rfl ?_
      refine EL.move rfl rfl rfl ?_
      refine EL.buildZA rfl rfl rfl rfl rfl ?_
      (refine EL.callM rfl rfl rfl ent88 rfl (nfaStep_p ga en a x p 3 zeroS hr hp) (by repeat constructor) ?_; intro y)
      refine EL.assign rfl rfl rfl ?_
      refine .go ?_; repeat constructor
      exact PX.ret rfl Try.results66 (.cons (.tmp rfl) .nil) (fun w hs => ⟨y.cast (by rw [el]), congrArg (fun z : AM × Nat => Ending.returned (Iv (z.2 : Nat))) el.symm, hs.ent (.i (by repeat constructor))⟩)
    refine .go ?_; repeat constructor
    refine EL.eqlI rfl rfl rfl rfl ?_
    refine EL.assign rfl rfl rfl ?_
    refine .go ?_; repeat constructor
    refine ES.condD rfl (fun h6 => ?_) (fun h6 => ?_)
    · obtain ⟨bn, rfl⟩ := kind_6 (show r.kind = 6 by omega)
      rw [RE.cost] at hr
      have el : layM (.back bn) a p = ((a.step p 0 zeroS).link a.out.length a.out.length 1 (notS zeroS), a.out.length) := by rw [layM]
      have r1 := step_room (k := 0) (s := zeroS) (n := 1) hr hp
      have hsl := step_len a p 0 zeroS
      refine .go ?_; repeat constructor
      refine EL.move rfl rfl rfl ?_
      refine EL.move rfl rfl rfl ?_
      refine EL.buildZA rfl rfl rfl rfl rfl ?_
      (refine EL.callM rfl rfl rfl ent88 rfl (nfaStep_p ga en a x p 0 zeroS (hr.less (by omega)) hp) (by repeat constructor) ?_; intro y)
      refine EL.assign rfl rfl rfl ?_
      refine .go ?_; repeat constructor
      refine EL.move rfl rfl rfl ?_
      refine EL.move rfl rfl rfl ?_
      refine EL.move rfl rfl rfl ?_
      refine EL.buildZA rfl rfl rfl rfl rfl ?_
      refine EL.callP rfl rfl rfl ent90 rfl (not_c zeroS) ?_
      (refine EL.callM rfl rfl rfl ent89 rfl (nfaLink_p ga en _ y a.out.length a.out.length 1 (notS zeroS) r1 (by omega) (by omega)) (by repeat constructor) ?_; intro z)
      refine .go ?_; repeat constructor
      refine .go ?_; repeat constructor
      refine EL.move rfl rfl rfl ?_
      refine EL.assign rfl rfl rfl ?_
      refine .go ?_; repeat constructor
      exact PX.ret rfl Try.results66 (.cons (.tmp rfl) .nil) (fun w hs => ⟨z.cast (by rw [el]), congrArg (fun z : AM × Nat => Ending.returned (Iv (z.2 : Nat))) el.symm, hs.ent (.i (by repeat constructor))⟩)
    refine .go ?_; repeat constructor
    refine EL.eqlI rfl rfl rfl rfl ?_
    refine EL.assign rfl rfl rfl ?_
    refine .go ?_; repeat constructor
    refine ES.condD rfl (fun h5 => ?_) (fun h5 => ?_)
    · obtain ⟨lo, hi, k, rfl⟩ := kind_5 (show r.kind = 5 by omega)
      have hks : k.sz + 1 = (RE.rep lo hi k).sz := by simp [RE.sz]
      have el : layM (.rep lo hi k) a p = repA lo hi k (layM k) a p := by rw [layM]
      have hrc := layRep_c w0 B lo hi k hfine g off hn (fun g' off' hk => ih k (by omega) hfine.2.2.2.2 g' off' hk) ga en a x p hp hr
      refine .go ?_; repeat constructor
      refine EL.move rfl rfl rfl ?_
      refine EL.move rfl rfl rfl ?_
      refine EL.move rfl rfl rfl ?_
      (refine EL.callMw rfl rfl rfl ent91 rfl hrc (by repeat constructor) ?_; intro y)
      refine EL.assign rfl rfl rfl ?_
      refine .go ?_; repeat constructor
      exact PX.ret rfl Try.results66 (.cons (.tmp rfl) .nil) (fun w hs => ⟨y.cast (by rw [el]), congrArg (fun z : AM × Nat => Ending.returned (Iv (z.2 : Nat))) el.symm, hs.ent (.i (by repeat constructor))⟩)
    have hk04 : r.kind = 0 ∨ r.kind = 4 := by have := kind_le r; omega
    have hlk := layL_kids r hk04 a p
    have hck := costL_kids r hk04
    rw [hck] at hr
    refine .go ?_; repeat constructor
    refine EL.move rfl rfl rfl ?_
    refine EL.nilCheck rfl rfl rfl ?_
    refine EL.fieldAddr rfl rfl rfl rfl rfl rfl rfl rfl ?_
    refine EL.loadOld rfl rfl rfl rfl rfl hrd rfl ?_
    refine EL.lenL rfl rfl rfl rfl rfl ?_
    refine EL.move rfl rfl rfl ?_
    refine .go ?_; repeat constructor
    refine ES.loop (σ := LS) (fun s => s.i ≤ r.kids.length ∧ layL (r.kids.drop s.i) s.b s.q = layM r a p ∧ s.q < s.b.out.length ∧ s.b.Room (costL (r.kids.drop s.i))) (fun s => [(0, Pv ga 0), (1, Pv g off), (2, Iv (s.q : Nat)), (57, Iv (r.kids.length : Nat)), (58, Iv (s.i : Nat))])
      (fun s => AP ga s.x.1 en :: R) (fun s => r.kids.length - s.i) ⟨0, a, p, x⟩ ⟨Nat.zero_le _, by rw [List.drop_zero]; exact hlk.symm, hp, by rw [List.drop_zero]; exact hr⟩ ⟨rfl, rfl, rfl, rfl, rfl, trivial⟩ (.i (by repeat constructor)) ?_
    rintro ⟨i, b, q, y⟩ ⟨hi1, hgo, hq, hroom⟩
    dsimp only at hi1 hgo hq hroom ⊢
    refine .go ?_; repeat constructor
    refine EL.lss rfl rfl rfl rfl ?_
    refine .go ?_; repeat constructor
    refine ES.condD rfl (fun hlt => ?_) (fun hge => ?_)
    · have hlt' : i < r.kids.length := by omega
      obtain ⟨kg, ko, rfl, hk⟩ := hkids (by intro e; rw [e] at hlt'; simp at hlt')
      obtain ⟨k, hki⟩ : ∃ k, r.kids[i]? = some k := ⟨_, List.getElem?_eq_getElem hlt'⟩
      have hmem := List.mem_of_getElem? hki
      have hks := kids_lt hmem
      rw [List.drop_eq_getElem_cons hlt', show r.kids[i] = k from (List.getElem?_eq_some_iff.1 hki).2] at hgo hroom
      rw [costL] at hroom
      rw [layL] at hgo
      have hnext := (lay_room k).room b q _ hroom hq
      refine .go ?_; repeat constructor
      refine EL.move rfl rfl rfl ?_
      refine EL.assign rfl rfl rfl ?_
      refine .go ?_; repeat constructor
      refine EL.move rfl rfl rfl ?_
      refine EL.move rfl rfl rfl ?_
      refine EL.nilCheck rfl rfl rfl ?_
      refine EL.fieldAddr rfl rfl rfl rfl rfl rfl rfl rfl ?_
      refine EL.loadOld rfl rfl rfl rfl rfl hrd rfl ?_
      refine EL.move rfl rfl rfl ?_
      refine EL.indexAddrL rfl rfl rfl rfl rfl rfl rfl (by omega) ?_
      refine EL.move rfl rfl rfl ?_
      (refine EL.callMw rfl rfl rfl ent66 rfl (ih k (by omega) (fine_kid hfine hmem) kg (ko + i * 9) (hk i k hki) ga en b y q hq (hroom.less (by omega))) (by repeat constructor) ?_; intro z)
      refine EL.assign rfl rfl rfl ?_
      refine .go ?_; repeat constructor
      refine EL.add1 rfl rfl rfl rfl (by omega) ?_
      refine EL.move rfl rfl rfl ?_
      refine .go ?_; repeat constructor
      exact PX.loop ⟨i + 1, (layM k b q).1, (layM k b q).2, z⟩ ⟨hlt', hgo, hnext.2.1, hnext.1⟩ (by simp only; omega) ⟨rfl, rfl, rfl, rfl, rfl, trivial⟩ (.i (by repeat constructor))
    · obtain rfl : i = r.kids.length := by omega
      rw [List.drop_length, layL] at hgo
      refine .go ?_; repeat constructor
      refine EL.move rfl rfl rfl ?_
      refine EL.assign rfl rfl rfl ?_
      refine .go ?_; repeat constructor
      exact PX.ret rfl Try.results66 (.cons (.tmp rfl) .nil) (fun w hs => ⟨y.cast (by rw [← hgo]), by rw [← hgo]; rfl, hs.ent (.i (by repeat constructor))⟩)
theorem lay_c (w0 : World) (B : Nat) (r : RE) (hf : r.fine) (g off : Nat) (hn : NodeRd w0 B g off r) : LayCt w0 B r g off := lay_n w0 B r.sz r (Nat.le_refl _) hf g off hn
end Go.Proofs.Ytblpgpgbnlhjlaa
namespace Go.Proofs.Ytblpgpgbnlhjlaa.Sl
open Go Go.RowKit
set_option linter.unusedVariables false
set_option linter.unusedSimpArgs false
section cuts
variable {C : Cx} {cs : List Code} {Q : Qt} {E E' : Env} {H H' : List HA}
def CutE {X Y : Type} (C : Cx) (id : Nat) (Ex : X → Env) (Hx : X → List HA) (Ey : Y → Env) (Hy : Y → List HA) : Qt := fun e a w => match e with
  | .normal => ∃ x, At C (Ex x) (Hx x) a w
  | .exit j => j = id ∧ ∃ y, At C (Ey y) (Hy y) a w
  | _ => False
theorem ES.cutE {X Y : Type} {c : Code} (id : Nat) (Ex : X → Env) (Hx : X → List HA) (Ey : Y → Env) (Hy : Y → List HA) (h : ES C [c] (CutE C id Ex Hx Ey Hy) E H) (k : ∀ x, ES C cs Q (Ex x) (Hx x)) (k2 : ∀ y, PX C Q (.exit id) (Ey y) (Hy y)) : ES C (c :: cs) Q E H := by
  intro a w ha
  refine wpIn_mono (h a w ha) ?_
  intro e a' w' hq
  cases e with
  | normal =>
    obtain ⟨x, hx⟩ := (hq : CutE C id Ex Hx Ey Hy .normal a' w')
    exact k x a' w' hx
  | exit j =>
    obtain ⟨rfl, y, hy⟩ := (hq : CutE C id Ex Hx Ey Hy (.exit j) a' w')
    exact k2 y a' w' hy
  | _ => exact (hq : False).elim
theorem PX.cutEn {X Y : Type} {id : Nat} {Ex : X → Env} {Hx : X → List HA} {Ey : Y → Env} {Hy : Y → List HA} (x : X) (he : Has E (Ex x)) (hh : Ent H (Hx x)) : PX C (CutE C id Ex Hx Ey Hy) .normal E H := fun a w h => ⟨x, h.sub he hh⟩
theorem PX.cutEx {X Y : Type} {id : Nat} {Ex : X → Env} {Hx : X → List HA} {Ey : Y → Env} {Hy : Y → List HA} (y : Y) (he : Has E (Ey y)) (hh : Ent H (Hy y)) : PX C (CutE C id Ex Hx Ey Hy) (.exit id) E H := fun a w h => ⟨rfl, y, h.sub he hh⟩
theorem ES.know {P : Prop} (h : ∀ w, Sat C.w0 C.B H w → P) (k : P → ES C cs Q E H) : ES C cs Q E H := fun a w ha => k (h w ha.2) a w ha
end cuts
section slices
variable {C : Cx} {E : Env} {H : List HA} {d ty t : Nat} {pos : String} {af : Array Edge} {gd : Option (Nat × Bool)} {x y z : Operand}
theorem RV.sliceLHk {ti te : TI} {el lo hi n cap g off : Nat} {kd kd' : IntKind} (hx : E.ev x = some (.slice (some ⟨g, off, none⟩) n cap)) (hy : E.ev y = some (.int kd (lo : Nat))) (hz : E.ev z = some (.int kd' (hi : Nat))) (ht : C.T.f t = some ti) (hu : ti.u = .slice el) (hte : C.T.f el = some te) (hlo : lo ≤ hi) (hhi : hi ≤ cap) (hlt : lo < cap) :
    RunV C E H ⟨some d, .slice t x (some y) (some z) none, ty, pos, af, gd⟩ (.slice (some ⟨g, off + lo * te.size, none⟩) (hi - lo) (cap - lo)) := fun a w ha => by
  have hT := (C.T.ok t ti ht).u
  rw [hu] at hT
  have hI := (C.T.ok el te hte).runInfo w
  have h1 : cap ≠ lo := by omega
  simp [execOp, ha.1.ev hx, ha.1.ev hy, ha.1.ev hz, Instr.sliceAt, Instr.slice, Instr.sliceBounds, Instr.sliceBound, asIntOf, run_underlying hT, hI.1, Result.andThen, h1, hlo, hhi, add_n]
theorem RV.sliceLk {ti te : TI} {el lo n cap g off : Nat} {kd : IntKind} (hx : E.ev x = some (.slice (some ⟨g, off, none⟩) n cap)) (hy : E.ev y = some (.int kd (lo : Nat))) (ht : C.T.f t = some ti) (hu : ti.u = .slice el) (hte : C.T.f el = some te) (hlo : lo ≤ n) (hn : n ≤ cap) (hlt : lo < cap) :
    RunV C E H ⟨some d, .slice t x (some y) none none, ty, pos, af, gd⟩ (.slice (some ⟨g, off + lo * te.size, none⟩) (n - lo) (cap - lo)) := fun a w ha => by
  have hT := (C.T.ok t ti ht).u
  rw [hu] at hT
  have hI := (C.T.ok el te hte).runInfo w
  have h1 : cap ≠ lo := by omega
  simp [execOp, ha.1.ev hx, ha.1.ev hy, Instr.sliceAt, Instr.slice, Instr.sliceBounds, Instr.sliceBound, asIntOf, run_underlying hT, hI.1, Result.andThen, h1, hlo, hn, add_n]
end slices
section funcs
variable {C : Cx} {all : Array Oper} {ops : List Oper} {Q : Qt} {E : Env} {H R : List HA} {d ty t t' : Nat} {pos : String} {af : Array Edge} {gd : Option (Nat × Bool)} {x y : Operand}
end funcs
end Go.Proofs.Ytblpgpgbnlhjlaa.Sl
namespace Go.Proofs.Ytblpgpgbnlhjlaa
open Go Go.RowKit Sl
set_option maxRecDepth 100000
set_option maxHeartbeats 8000000
set_option linter.unusedVariables false
set_option linter.unusedSimpArgs false
attribute [local irreducible] ES EL PX wps
theorem am0_room {n : Nat} (h : n ≤ 131072) : AM.Room ⟨[], []⟩ n := ⟨by simp; exact h, rfl, by simp, by simp, (by intro l hl; cases hl), (by intro l hl; cases hl)⟩
abbrev av0 : AV := ⟨none, 0, none, 0, [], []⟩
theorem Sat.auto0 {w0 w : World} {B ga : Nat} {R : List HA} (h : Sat w0 B (HA.blk ga (.cells #[.slice none 0 0, .slice none 0 0, Iv 0] 163) :: R) w) : Sat w0 B (AP ga av0 0 :: R) w := by
  have h1 := (h.nilRow 213 1).nilRow 213 1
  have h2 : Sat w0 B ([HA.edg [], HA.edg []] ++ (HA.row (.slice none 0 0) 213 1 0 [] :: HA.row (.slice none 0 0) 213 1 0 [] :: HA.blk ga (.cells #[.slice none 0 0, .slice none 0 0, Iv 0] 163) :: R)) w :=
    Sat.rules (Hs := []) h1 (by simp [fps, HA.edg]) (fun _ Y hY => by
      simp only [List.mem_cons, List.not_mem_nil, or_false, or_self] at hY
      subst hY
      intro p hp; cases hp)
  exact Sat.pack (Sat.ent (H' := AH ga av0 0 ++ R) h2 (.i (by repeat constructor)))
theorem make_c (ks : List RE) (hf : ∀ k ∈ ks, k.fine) (hl : ks.length ≤ 1024) (hc : costL ks + 1 ≤ 131072) (ad : Option Addr) (cap : Nat) (w : World) (hn : ∀ i k, ks[i]? = some k → ∃ g o, ad = some ⟨g, o, none⟩ ∧ NodeRd w w.heap.size g (o + i * 9) k) :
    Pure Try.prog 44 #[.slice ad ks.length cap] (fun x : Nat × AX (makeM ks).1 => Pv x.1 0) (fun x => [AP x.1 x.2.1 (makeM ks).2]) w := by
  have hm : makeM ks = layL ks (AM.add ⟨[], []⟩) 0 := rfl
  have h0 : AM.Room ⟨[], []⟩ (costL ks + 1) := am0_room hc
  have h1 := add_room h0
  generalize hX : makeM ks = X at *
  obtain ⟨XA, xe⟩ := X
  refine calls_of_ES TB Try.func44 rfl _ Try.ntmps44 rfl (Sat.start w) ?_
  refine .go ?_; repeat constructor
  refine EL.assign rfl rfl rfl ?_
  refine .go ?_; repeat constructor
  refine EL.buildZ rfl rfl rfl rfl rfl ?_
  (refine EL.box rfl rfl rfl ?_; intro g7)
  refine EL.assign rfl rfl rfl ?_
  refine .go ?_; repeat constructor
  refine EL.imp (H' := AP g7 av0 0 :: []) (fun w hs => Sat.auto0 (hs.ent (.i (by repeat constructor)))) ?_
  refine .go ?_; repeat constructor
  refine EL.move rfl rfl rfl ?_
  (refine EL.callM rfl rfl rfl ent65 rfl (nfaAdd_p g7 0 ⟨[], []⟩ ⟨av0, ⟨rfl, rfl⟩⟩ (h0.less (by omega))) (by repeat constructor) ?_; intro y)
  refine EL.assign rfl rfl rfl ?_
  refine .go ?_; repeat constructor
  refine .go ?_; repeat constructor
  refine EL.move rfl rfl rfl ?_
  refine EL.lenL rfl rfl rfl rfl rfl ?_
  refine EL.move rfl rfl rfl ?_
  refine .go ?_; repeat constructor
  refine ES.loop (σ := LS) (fun s => s.i ≤ ks.length ∧ layL (ks.drop s.i) s.b s.q = (XA, xe) ∧ s.q < s.b.out.length ∧ s.b.Room (costL (ks.drop s.i))) (fun s => [(0, .slice ad ks.length cap), (3, Pv g7 0), (4, Iv (s.q : Nat)), (11, Iv (ks.length : Nat)), (12, Iv (s.i : Nat))])
    (fun s => AP g7 s.x.1 0 :: []) (fun s => ks.length - s.i) ⟨0, _, 0, y⟩ ⟨Nat.zero_le _, hm.symm, by rw [add_len]; simp, h1⟩ ⟨rfl, rfl, rfl, rfl, rfl, trivial⟩ (.i (by repeat constructor)) ?_
  rintro ⟨i, b, q, z⟩ ⟨hi1, hgo, hq, hroom⟩
  dsimp only at hi1 hgo hq hroom ⊢
  refine .go ?_; repeat constructor
  refine EL.lss rfl rfl rfl rfl ?_
  refine .go ?_; repeat constructor
  refine ES.condD rfl (fun hlt => ?_) (fun hge => ?_)
  · have hlt' : i < ks.length := by omega
    obtain ⟨k, hki⟩ : ∃ k, ks[i]? = some k := ⟨_, List.getElem?_eq_getElem hlt'⟩
    have hmem := List.mem_of_getElem? hki
    obtain ⟨g, o, rfl, hnk⟩ := hn i k hki
    rw [List.drop_eq_getElem_cons hlt', show ks[i] = k from (List.getElem?_eq_some_iff.1 hki).2] at hgo hroom
    rw [costL] at hroom
    rw [layL] at hgo
    have hnext := (lay_room k).room b q _ hroom hq
    refine .go ?_; repeat constructor
    refine EL.move rfl rfl rfl ?_
    refine EL.assign rfl rfl rfl ?_
    refine .go ?_; repeat constructor
    refine EL.move rfl rfl rfl ?_
    refine EL.move rfl rfl rfl ?_
    refine EL.move rfl rfl rfl ?_
    refine EL.indexAddrL rfl rfl rfl rfl rfl rfl rfl (by omega) ?_
    refine EL.move rfl rfl rfl ?_
    (refine EL.callMw rfl rfl rfl ent66 rfl (lay_c w w.heap.size k (hf k hmem) g (o + i * 9) hnk g7 0 b z q hq (hroom.less (by omega))) (by repeat constructor) ?_; intro u)
    refine EL.assign rfl rfl rfl ?_
    refine .go ?_; repeat constructor
    refine EL.add1 rfl rfl rfl rfl (by omega) ?_
    refine EL.move rfl rfl rfl ?_
    refine .go ?_; repeat constructor
    exact PX.loop ⟨i + 1, (layM k b q).1, (layM k b q).2, u⟩ ⟨hlt', hgo, hnext.2.1, hnext.1⟩ (by simp only; omega) ⟨rfl, rfl, rfl, rfl, rfl, trivial⟩ (.i (by repeat constructor))
  · obtain rfl : i = ks.length := by omega
    rw [List.drop_length, layL] at hgo
    cases hgo
    refine .go ?_; repeat constructor
    refine EL.imp (H' := AH g7 z.1 0) (fun w hs => (Sat.unpack (R := []) hs).ent (.i (by rw [List.append_nil]; exact .refl _))) ?_
    refine .go ?_; repeat constructor
    refine EL.move rfl rfl rfl ?_
    refine EL.move rfl rfl rfl ?_
    refine EL.nilCheck rfl rfl rfl ?_
    refine EL.fieldAddr rfl rfl rfl rfl rfl rfl rfl rfl ?_
    (apply EL.storeB; exact rfl; exact rfl; exact rfl; exact rfl; exact rfl; exact rfl; (case p => repeat constructor); exact (by first | decide | exact Nat.le_of_ble_eq_true rfl | simp))
    refine .go ?_; repeat constructor
    refine EL.move rfl rfl rfl ?_
    refine EL.assign rfl rfl rfl ?_
    refine .go ?_; repeat constructor
    refine PX.ret rfl Try.results44 (.cons (.tmp rfl) .nil) (fun w hs => ⟨(g7, z), rfl, ?_⟩)
    exact Sat.pack (R := []) (by rw [List.append_nil]; exact hs.ent (.i (by repeat constructor)))
end Go.Proofs.Ytblpgpgbnlhjlaa
namespace Go.Proofs.Ytblpgpgbnlhjlaa
open Go Go.RowKit Sl
set_option maxRecDepth 100000
set_option maxHeartbeats 8000000
set_option linter.unusedVariables false
set_option linter.unusedSimpArgs false
attribute [local irreducible] ES EL PX wps
def prC (p : Nat × Nat) : List Value := [Iv (p.1 : Nat), Iv (p.2 : Nat)]
def prsC (l : List (Nat × Nat)) : List Value := l.flatMap prC
theorem prsC_len : ∀ l : List (Nat × Nat), (prsC l).length = l.length * 2
  | [] => rfl
  | p :: l => by
    have := prsC_len l
    simp only [prsC, List.flatMap_cons, List.length_append, List.length_cons] at this ⊢
    rw [this]; simp only [prC, List.length_cons, List.length_nil]; omega
theorem prsC_snoc (l : List (Nat × Nat)) (p : Nat × Nat) : prsC (l ++ [p]) = prsC l ++ prC p := by simp [prsC]
theorem edsC_get : ∀ (es : List Ed) (i : Nat) (e : Ed), es[i]? = some e → ∀ j u, (edC e)[j]? = some u → (edsC es)[i * 6 + j]? = some u
  | [], i, e, h, _, _, _ => by simp at h
  | e' :: es, 0, e, h, j, u, hj => by
    simp only [List.getElem?_cons_zero, Option.some.injEq] at h
    subst h
    have hlt := (List.getElem?_eq_some_iff.1 hj).1
    rw [Nat.zero_mul, Nat.zero_add]
    show (edC e' ++ edsC es)[j]? = some u
    rw [List.getElem?_append_left hlt]; exact hj
  | e' :: es, i + 1, e, h, j, u, hj => by
    simp only [List.getElem?_cons_succ] at h
    have ih := edsC_get es i e h j u hj
    show (edC e' ++ edsC es)[(i + 1) * 6 + j]? = some u
    rw [List.getElem?_append_right (by simp only [edC, List.length_cons, List.length_nil]; omega)]
    rw [show (i + 1) * 6 + j - (edC e').length = i * 6 + j by simp only [edC, List.length_cons, List.length_nil]; omega]
    exact ih
abbrev WB (gs : Nat) (s : List UInt8) (st : Nat) (rest : List Value) (ty : TypeId) : HA := HA.blk gs (.cells (Sv s :: Iv (st : Nat) :: rest).toArray ty)
theorem wb_set (s : List UInt8) (a : Value) (b : Nat) (rest : List Value) (ty : TypeId) : Obj.cells ((Sv s :: a :: rest).toArray.setIfInBounds 1 (Iv (b : Nat))) ty (0, 0) = Obj.cells (Sv s :: Iv (b : Nat) :: rest).toArray ty (0, 0) := by simp
abbrev BR (g n : Nat) (l : List Bool) : HA := HA.row (.slice (some ⟨g, 0, none⟩) n n) 4 1 n (l.map Value.bool)
abbrev TR (ad : Option Addr) (cap : Nat) (l : List (Nat × Nat)) : HA := HA.row (.slice ad l.length cap) 190 2 l.length (prsC l)
structure FL where
  f : Nat
  st : FS
  ad : Option Addr
  cap : Nat
theorem blk_sub {w : World} {g off e : Nat} {cs : Array Value} {vs : List Value} (h : w.heap[g]? = some (.cells cs e (0, 0))) (hv : (cs.toList.drop off).take vs.length = vs) : ∀ j u, vs[j]? = some u → w.cell? ((⟨g, off, none⟩ : Addr).add j) = some u := fun j u hj => by
  rw [add_n, blk_cell h]
  rw [← hv, List.getElem?_take] at hj
  split at hj
  · rw [List.getElem?_drop] at hj
    simpa using hj
  · cases hj
theorem flood_c (gs : Nat) (s : List UInt8) (hs : s.length ≤ 1024) (st0 : Nat) (hst0 : st0 ≤ 1152921504606846976) (rest : List Value) (ty : TypeId) (es : List (List Ed)) (hok : EdsOk es) (hN : es.length ≤ 131072) (hrow : ∀ l ∈ es, l.length ≤ 1048576)
    (ps : List EP) (hps : ps.map Prod.snd = es) (oad : Option Addr) (ocap : Nat) (x0 : Nat × Nat) (h1 : x0.1 < es.length) (h2 : x0.2 ≤ s.length) (goal : Nat) (fwd : Bool) :
    Mut Try.prog 87 #[Pv gs 0, .slice oad ps.length ocap, .agg #[Iv (x0.1 : Nat), Iv (x0.2 : Nat)], Iv (goal : Nat), .bool fwd] [WB gs s st0 rest ty, OR oad ocap ps, HA.edg ps]
      (fun g : Nat => .slice (some ⟨g, 0, none⟩) (s.length + 1) (s.length + 1)) (fun g => [BR g (s.length + 1) (floodM es s x0 goal fwd st0).marks, WB gs s (floodM es s x0 goal fwd st0).steps rest ty, OR oad ocap ps, HA.edg ps]) := by
  intro w0 B R w h
  replace h : Sat w0 B (WB gs s st0 rest ty :: OR oad ocap ps :: HA.edg ps :: R) w := h
  have hpl : ps.length = es.length := by rw [← hps, List.length_map]
  have hrows : ∀ p ∈ ps, ∃ ad cap, p.1 = .slice ad p.2.length cap := fun p hp => row_val ((h.all (HA.edg ps) (by simp) : (HA.edg ps).holds w) p hp)
  obtain ⟨og, rfl⟩ := (row_form (h.all (OR oad ocap ps) (by simp))).2.2.2.2 (by omega)
  have hmu0 := fs0_ok h1 h2 st0
  have hidx := idx_lt h1 h2
  have hbig : es.length * (s.length + 1) ≤ 131072 * 1025 := Nat.mul_le_mul hN (by omega)
  obtain ⟨F0, hF0⟩ : ∃ F0, F0 = es.length * (s.length + 1) := ⟨_, rfl⟩
  obtain ⟨r, hr⟩ : ∃ r, r = floodM es s x0 goal fwd st0 := ⟨_, rfl⟩
  have hgo0 : floodGo es s goal fwd F0 (fs0 es.length s.length x0 st0) = r := by rw [hr, hF0]; rfl
  rw [← hr]
  rw [← hF0] at hidx hbig hmu0
  obtain ⟨n, hn⟩ : ∃ n, n = s.length := ⟨_, rfl⟩
  refine calls_of_ES TB Try.func87 rfl _ Try.ntmps87 rfl h ?_
  refine .gr ?_; repeat constructor
  (refine EL.box rfl rfl rfl ?_; intro g7)
  refine EL.assign rfl rfl rfl ?_
  refine .gr ?_; repeat constructor
  refine EL.move rfl rfl rfl ?_
  refine EL.nilCheck rfl rfl rfl ?_
  refine EL.fieldAddr rfl rfl rfl rfl rfl rfl rfl rfl ?_
  (apply EL.loadB; exact rfl; exact rfl; exact rfl; exact rfl; exact rfl; (case hm => repeat constructor); exact rfl)
  refine EL.lenS rfl rfl rfl rfl rfl ?_
  refine EL.assign rfl rfl rfl ?_
  refine .gr ?_; repeat constructor
  refine .gr ?_; repeat constructor
  refine EL.move rfl rfl rfl ?_
  refine EL.add1 rfl rfl rfl rfl (by omega) ?_
  (refine EL.makeSlice (n := s.length + 1) rfl rfl rfl rfl rfl rfl (by show 1 * (s.length + 1) ≤ _; omega) (by unfold maxLen; omega) ?_; intro g28; refine EL.rowEq (v := .slice (some ⟨g28, 0, none⟩) (s.length + 1) (s.length + 1)) (by repeat constructor) ((made1 _ _).trans (List.map_replicate (f := Value.bool) (a := false)).symm) ?_)
  refine EL.assign rfl rfl rfl ?_
  refine .gr ?_; repeat constructor
  refine .gr ?_; repeat constructor
  refine EL.move rfl rfl rfl ?_
  refine EL.lenL rfl rfl rfl rfl rfl ?_
  refine EL.move rfl rfl rfl ?_
  refine EL.add1 rfl rfl rfl rfl (by omega) ?_
  (refine EL.mulN (m := ps.length) rfl rfl rfl rfl rfl (by rw [hpl, ← hF0]; omega) ?_; refine EL.rew (d := 33) (v' := Iv (F0 : Nat)) rfl (by rw [hpl, ← hF0]) ?_)
  (refine EL.makeSlice (n := F0) rfl rfl rfl rfl rfl rfl (by show 1 * F0 ≤ _; omega) (by unfold maxLen; omega) ?_; intro g34; refine EL.rowEq (v := .slice (some ⟨g34, 0, none⟩) F0 F0) (by repeat constructor) ((made1 _ _).trans (List.map_replicate (f := Value.bool) (a := false)).symm) ?_)
  refine EL.assign rfl rfl rfl ?_
  refine .gr ?_; repeat constructor
  refine .gr ?_; repeat constructor
  refine EL.move rfl rfl rfl ?_
  refine EL.fieldAddr rfl rfl rfl rfl rfl rfl rfl rfl ?_
  (apply EL.loadB; exact rfl; exact rfl; exact rfl; exact rfl; exact rfl; (case hm => repeat constructor); exact rfl)
  refine EL.move rfl rfl rfl ?_
  refine EL.add1 rfl rfl rfl rfl (by omega) ?_
  refine EL.mulN (m := x0.1) rfl rfl rfl rfl rfl (by omega) ?_
  refine EL.fieldAddr rfl rfl rfl rfl rfl rfl rfl rfl ?_
  (apply EL.loadB; exact rfl; exact rfl; exact rfl; exact rfl; exact rfl; (case hm => repeat constructor); exact rfl)
  refine EL.addN rfl rfl rfl rfl rfl (by omega) ?_
  refine EL.indexAddrL1 rfl rfl rfl rfl rfl rfl rfl rfl (by omega) ?_
  (refine EL.storeR rfl rfl rfl rfl rfl rfl (by repeat constructor) (by simp; omega) ?_; refine EL.rowEq (v := .slice (some ⟨g34, 0, none⟩) F0 F0) (by repeat constructor) (List.map_set (f := Value.bool) (a := true)).symm ?_)
  refine .gr ?_; repeat constructor
  refine .gr ?_; repeat constructor
  (apply EL.loadAggB; exact rfl; exact rfl; exact rfl; exact rfl; exact rfl; (case hm => repeat constructor); exact rfl)
  (refine EL.buildSlice1 rfl rfl rfl rfl rfl rfl rfl rfl rfl rfl ?_; intro b46)
  refine EL.assign rfl rfl rfl ?_
  refine .gr ?_; repeat constructor
  refine ES.loop (σ := FL) (fun z => z.st.Ok es.length s.length ∧ z.st.mu ≤ z.f ∧ z.f ≤ F0 ∧ floodGo es s goal fwd z.f z.st = r ∧ z.st.steps ≤ st0 + (F0 - z.f) * 1048576)
    (fun z => [(0, Pv gs 0), (1, .slice (some ⟨og, 0, none⟩) ps.length ocap), (3, Iv (goal : Nat)), (4, .bool fwd), (11, Iv (s.length : Nat)), (12, .slice (some ⟨g28, 0, none⟩) (s.length + 1) (s.length + 1)), (13, .slice (some ⟨g34, 0, none⟩) F0 F0), (14, .slice z.ad z.st.todo.length z.cap)])
    (fun z => WB gs s z.st.steps rest ty :: BR g28 (s.length + 1) z.st.marks :: BR g34 F0 z.st.seen :: TR z.ad z.cap z.st.todo :: OR (some ⟨og, 0, none⟩) ocap ps :: HA.edg ps :: R) (fun z => z.f) ⟨F0, fs0 es.length s.length x0 st0, some ⟨b46, 0, none⟩, 1⟩
    ⟨hmu0.1, by rw [hmu0.2]; exact Nat.le_refl _, Nat.le_refl _, hgo0, by simp [fs0]⟩ ⟨rfl, rfl, rfl, rfl, rfl, rfl, rfl, rfl, trivial⟩ (by simp only [fs0, hF0]; exact (.i (by repeat constructor))) ?_
  rintro ⟨f, st, tad, tcap⟩ ⟨zok, zmu, zf, zgo, zst⟩
  dsimp only at zok zmu zf zgo zst ⊢
  refine .gr ?_; repeat constructor
  refine EL.move rfl rfl rfl ?_
  refine EL.lenL rfl rfl rfl rfl rfl ?_
  refine EL.gtr rfl rfl rfl rfl ?_
  refine .gr ?_; repeat constructor
  refine ES.condD rfl (fun hpos => ?_) (fun hnone => ?_)
  rotate_left
  · have hnil : st.todo = [] := List.eq_nil_of_length_eq_zero (by omega)
    have hend : st = r := by
      rw [← zgo]
      cases f with
      | zero => rfl
      | succ f => rw [floodGo, hnil]; rfl
    rw [hend]
    refine .gr ?_; repeat constructor
    refine EL.move rfl rfl rfl ?_
    refine EL.assign rfl rfl rfl ?_
    refine .gr ?_; repeat constructor
    exact PX.ret rfl Try.results87 (.cons (.tmp rfl) .nil) (fun w hs => ⟨g28, rfl, hs.ent (.i (by repeat constructor))⟩)
  obtain ⟨p, hp⟩ : ∃ p, st.todo.getLast? = some p := ⟨_, List.getLast?_eq_some_getLast (by intro e; rw [e] at hpos; simp at hpos)⟩
  obtain ⟨pok, pmu, pq, pa⟩ := pop_ok (goal := goal) zok hp
  have hsplit := last_split hp
  obtain ⟨f, rfl⟩ : ∃ f', f = f' + 1 := ⟨f - 1, by simp only [FS.mu] at zmu; omega⟩
  rw [floodGo, hp] at zgo
  simp only at zgo
  obtain ⟨td, htd⟩ : ∃ td, td = st.todo.dropLast := ⟨_, rfl⟩
  have hpm : popM goal st p = ⟨if p.1 = goal then st.marks.set p.2 true else st.marks, st.seen, td, st.steps⟩ := by rw [htd]; rfl
  rw [← htd] at hsplit
  have hlen : st.todo.length = td.length + 1 := by rw [hsplit]; simp
  have htl : td.length + 1 ≤ 131072 * 1025 := by simp only [FS.mu] at zmu; omega
  refine ES.rowForm (e := 190) (sz := 2) (n := st.todo.length) (cs := prsC st.todo) (ad := tad) (len := st.todo.length) (cap := tcap) (by repeat constructor) (fun hf => ?_)
  obtain ⟨tg, rfl⟩ := hf.2.2.2.2 (by omega)
  have hcap := hf.2.1
  have hpl2 := prsC_len td
  have hcells : prsC st.todo = prsC td ++ prC p := by rw [hsplit, prsC_snoc]
  obtain ⟨pp, hpp⟩ : ∃ pp, ps[p.1]? = some pp := ⟨_, List.getElem?_eq_getElem (by rw [hpl]; exact pq)⟩
  obtain ⟨iad, icap, hpv⟩ := hrows pp (List.mem_of_getElem? hpp)
  have hpe : es.getD p.1 [] = pp.2 := by rw [← hps, List.getD_eq_getElem?_getD, List.getElem?_map, hpp]; rfl
  have hfst : (ps.map Prod.fst)[p.1]? = some (.slice iad pp.2.length icap) := by rw [List.getElem?_map, hpp, ← hpv]; rfl
  have hmem2 : pp.2 ∈ es := by rw [← hps]; exact List.mem_map_of_mem (List.mem_of_getElem? hpp)
  have hplen := hrow pp.2 hmem2
  have heok : ∀ e ∈ pp.2, e.to < es.length ∧ e.kind ≤ 3 := hok pp.2 hmem2
  have hpin : pp ∈ ps := List.mem_of_getElem? hpp
  rw [hpe] at zgo
  unfold TR
  rw [hlen, hcells]
  refine .gr ?_; repeat constructor
  refine EL.move rfl rfl rfl ?_
  refine EL.move rfl rfl rfl ?_
  refine EL.lenL rfl rfl rfl rfl rfl ?_
  refine EL.sub1 rfl rfl rfl rfl (by omega) (by omega) ?_
  refine EL.indexAddrL rfl rfl rfl rfl rfl rfl rfl (by omega) ?_
  refine EL.ofRV (RV.loadRA (prC p) rfl rfl rfl rfl (by repeat constructor) (by show ((prsC td ++ prC p).drop (0 + (td.length + 1 - 1) * 2)).take 2 = prC p; rw [show 0 + (td.length + 1 - 1) * 2 = (prsC td).length by omega, List.drop_left]; rfl)) rfl rfl rfl (by intro c h; cases h) ?_
  (refine EL.alloc rfl rfl rfl ?_; intro g15)
  (apply EL.storeAll; exact rfl; exact rfl; exact rfl; exact rfl; exact rfl; (case p => repeat constructor); exact rfl; (case h1 => exact (by first | rfl | exact all1 rfl | (intro u hu; simp only [List.mem_cons, List.not_mem_nil, or_false] at hu; rcases hu with rfl | rfl | rfl | rfl <;> rfl) | (intro u hu; simp at hu; rcases hu with rfl | rfl | rfl | rfl <;> rfl) | (intro u hu; simp at hu; rcases hu with rfl | rfl | rfl <;> rfl) | (intro u hu; simp at hu; rcases hu with rfl | rfl <;> rfl) | (intro u hu; simp at hu; obtain ⟨_, _, rfl⟩ := hu; rfl))))
  refine .gr ?_; repeat constructor
  refine .gr ?_; repeat constructor
  refine EL.move rfl rfl rfl ?_
  refine EL.move rfl rfl rfl ?_
  refine EL.lenL rfl rfl rfl rfl rfl ?_
  refine EL.sub1 rfl rfl rfl rfl (by omega) (by omega) ?_
  refine EL.ofRV (RV.sliceHi (hi := td.length) rfl rfl rfl rfl rfl (by omega)) rfl rfl rfl (by intro c h; cases h) ?_
  refine EL.assign rfl rfl rfl ?_
  refine .gr ?_; repeat constructor
  refine EL.imp (H' := HA.blk g15 (.cells #[Iv (p.1 : Nat), Iv (p.2 : Nat)] 190) :: WB gs s st.steps rest ty :: BR g28 (s.length + 1) st.marks :: BR g34 F0 st.seen :: TR (some ⟨tg, 0, none⟩) tcap td :: OR (some ⟨og, 0, none⟩) ocap ps :: HA.edg ps :: R) (fun w hs => ?_) ?_
  · have k1 := Sat.cutRow (m := td.length) (hs.ent (H' := HA.row (.slice (some ⟨tg, 0, none⟩) (td.length + 1) tcap) 190 2 (td.length + 1) (prsC td ++ prC p) :: HA.blk g15 (.cells #[Iv (p.1 : Nat), Iv (p.2 : Nat)] 190) :: WB gs s st.steps rest ty :: BR g28 (s.length + 1) st.marks :: BR g34 F0 st.seen :: OR (some ⟨og, 0, none⟩) ocap ps :: HA.edg ps :: R) (.i (by repeat constructor))) (by omega)
    rw [← hpl2, List.take_left] at k1
    exact k1.ent (.i (by repeat constructor))
  refine .gr ?_; repeat constructor
  refine EL.fieldAddr rfl rfl rfl rfl rfl rfl rfl rfl ?_
  (apply EL.loadB; exact rfl; exact rfl; exact rfl; exact rfl; exact rfl; (case hm => repeat constructor); exact rfl)
  refine EL.move rfl rfl rfl ?_
  refine EL.eqlI rfl rfl rfl rfl ?_
  refine .gr ?_; repeat constructor
  refine ES.cutC (X := Unit) (fun _ => [(0, Pv gs 0), (1, .slice (some ⟨og, 0, none⟩) ps.length ocap), (3, Iv (goal : Nat)), (4, .bool fwd), (11, Iv (s.length : Nat)), (12, .slice (some ⟨g28, 0, none⟩) (s.length + 1) (s.length + 1)), (13, .slice (some ⟨g34, 0, none⟩) F0 F0), (14, .slice (some ⟨tg, 0, none⟩) td.length tcap), (15, Pv g15 0)])
    (fun _ => HA.blk g15 (.cells #[Iv (p.1 : Nat), Iv (p.2 : Nat)] 190) :: WB gs s st.steps rest ty :: BR g28 (s.length + 1) (popM goal st p).marks :: BR g34 F0 st.seen :: TR (some ⟨tg, 0, none⟩) tcap td :: OR (some ⟨og, 0, none⟩) ocap ps :: HA.edg ps :: R) ?_ (fun _ => ?_)
  · refine ES.condD rfl (fun hg => ?_) (fun hg => ?_)
    · have hm : (popM goal st p).marks = st.marks.set p.2 true := by rw [hpm]; exact if_pos (by omega)
      rw [hm]
      refine .gr ?_; repeat constructor
      refine EL.move rfl rfl rfl ?_
      refine EL.fieldAddr rfl rfl rfl rfl rfl rfl rfl rfl ?_
      (apply EL.loadB; exact rfl; exact rfl; exact rfl; exact rfl; exact rfl; (case hm => repeat constructor); exact rfl)
      refine EL.indexAddrL1 rfl rfl rfl rfl rfl rfl rfl rfl (by omega) ?_
      (refine EL.storeR rfl rfl rfl rfl rfl rfl (by repeat constructor) (by rw [List.length_map, zok.marks]; omega) ?_; refine EL.rowEq (v := .slice (some ⟨g28, 0, none⟩) (s.length + 1) (s.length + 1)) (by repeat constructor) (List.map_set (f := Value.bool) (a := true)).symm ?_)
      refine .gr ?_; repeat constructor
      exact PX.cutX () ⟨rfl, rfl, rfl, rfl, rfl, rfl, rfl, rfl, rfl, trivial⟩ (.i (by repeat constructor))
    · have hm : (popM goal st p).marks = st.marks := by rw [hpm]; exact if_neg (by omega)
      rw [hm]
      refine .gr ?_; repeat constructor
      exact PX.cutX () ⟨rfl, rfl, rfl, rfl, rfl, rfl, rfl, rfl, rfl, trivial⟩ (.i (by repeat constructor))
  generalize hM : (popM goal st p).marks = mk
  have hpm2 : popM goal st p = ⟨mk, st.seen, td, st.steps⟩ := by rw [← hM, hpm]
  rw [hpm2] at pok pmu zgo
  have hed := edges_ok (fwd := fwd) pa pp.2 pok (fun e he => (heok e he).1)
  have hcs := cnts_le s.length fwd p.2 pp.2
  generalize hX : pp.2.foldl (edgeM s fwd p.2) ⟨mk, st.seen, td, st.steps⟩ = stX at zgo hed
  refine .gr ?_; repeat constructor
  refine EL.move rfl rfl rfl ?_
  refine EL.fieldAddr rfl rfl rfl rfl rfl rfl rfl rfl ?_
  (apply EL.loadB; exact rfl; exact rfl; exact rfl; exact rfl; exact rfl; (case hm => repeat constructor); exact rfl)
  refine EL.indexAddrL1 rfl rfl rfl rfl rfl rfl rfl rfl (by omega) ?_
  refine EL.loadR rfl rfl rfl rfl rfl (by repeat constructor) hfst ?_
  refine EL.lenL rfl rfl rfl rfl rfl ?_
  refine EL.move rfl rfl rfl ?_
  refine .gr ?_; repeat constructor
  refine ES.loop (σ := FL) (fun z => z.f ≤ pp.2.length ∧ (pp.2.drop z.f).foldl (edgeM s fwd p.2) z.st = stX ∧ z.st.Ok es.length s.length ∧ z.st.mu ≤ f ∧ z.st.steps ≤ st.steps + z.f)
    (fun z => [(0, Pv gs 0), (1, .slice (some ⟨og, 0, none⟩) ps.length ocap), (3, Iv (goal : Nat)), (4, .bool fwd), (11, Iv (s.length : Nat)), (12, .slice (some ⟨g28, 0, none⟩) (s.length + 1) (s.length + 1)), (13, .slice (some ⟨g34, 0, none⟩) F0 F0), (14, .slice z.ad z.st.todo.length z.cap), (15, Pv g15 0), (73, .slice iad pp.2.length icap), (74, Iv (pp.2.length : Nat)), (75, Iv (z.f : Nat))])
    (fun z => HA.blk g15 (.cells #[Iv (p.1 : Nat), Iv (p.2 : Nat)] 190) :: WB gs s z.st.steps rest ty :: BR g28 (s.length + 1) z.st.marks :: BR g34 F0 z.st.seen :: TR z.ad z.cap z.st.todo :: OR (some ⟨og, 0, none⟩) ocap ps :: HA.edg ps :: R) (fun z => pp.2.length - z.f)
    ⟨0, ⟨mk, st.seen, td, st.steps⟩, some ⟨tg, 0, none⟩, tcap⟩ ⟨Nat.zero_le _, hX, pok, by dsimp only; omega, Nat.le_refl _⟩ ⟨rfl, rfl, rfl, rfl, rfl, rfl, rfl, rfl, rfl, rfl, rfl, rfl, trivial⟩ (.i (by repeat constructor)) ?_
  rintro ⟨i, sj, jad, jcap⟩ ⟨ji, jgo, jok, jmu, jst⟩
  dsimp only at ji jgo jok jmu jst ⊢
  refine .gr ?_; repeat constructor
  refine EL.lss rfl rfl rfl rfl ?_
  refine .gr ?_; repeat constructor
  refine ES.condD rfl (fun hlt => ?_) (fun hge => ?_)
  rotate_left
  · obtain rfl : i = pp.2.length := by omega
    rw [List.drop_length] at jgo
    have jgo : sj = stX := jgo
    subst jgo
    refine .gr ?_; repeat constructor
    exact PX.loop ⟨f, sj, jad, jcap⟩ ⟨jok, jmu, by dsimp only; omega, zgo, by dsimp only; rw [show F0 - f = F0 - (f + 1) + 1 by omega]; omega⟩ (by simp only; omega) ⟨rfl, rfl, rfl, rfl, rfl, rfl, rfl, rfl, trivial⟩ (.i (by repeat constructor))
  have hlt' : i < pp.2.length := by omega
  obtain ⟨e, hei⟩ : ∃ e, pp.2[i]? = some e := ⟨_, List.getElem?_eq_getElem hlt'⟩
  have hemem := List.mem_of_getElem? hei
  obtain ⟨eto, ekind⟩ := heok e hemem
  rw [List.drop_eq_getElem_cons hlt', show pp.2[i] = e from (List.getElem?_eq_some_iff.1 hei).2, List.foldl_cons] at jgo
  have hstep := edge_ok (fwd := fwd) jok pa eto
  have hcl := cnt_le s.length fwd e p.2
  have hbig2 : e.to * (s.length + 1) + s.length < F0 := by rw [hF0]; exact idx_lt eto (Nat.le_refl _)
  refine ES.know (P := ∃ ig, iad = some ⟨ig, 0, none⟩) (fun w hs => ?_) (fun hig => ?_)
  · have hr := ((hs.all (HA.edg ps) (by simp) : (HA.edg ps).holds w) pp hpin)
    rw [hpv] at hr
    exact (row_form hr).2.2.2.2 (by omega)
  obtain ⟨ig, rfl⟩ := hig
  have hrd : ∀ (w : World), (HA.edg ps).holds w → ∀ j u, (edC e)[j]? = some u → w.cell? ((⟨ig, 0 + i * 6, none⟩ : Addr).add j) = some u := fun w hw j u hj => by
    have hr := hw pp hpin
    rw [hpv] at hr
    rw [add_n]
    exact row_cell hr _ u (by rw [Nat.zero_add]; exact edsC_get pp.2 i e hei j u hj)
  refine .gr ?_; repeat constructor
  refine EL.indexAddrL rfl rfl rfl rfl rfl rfl rfl (by omega) ?_
  refine EL.loadAgg (cs := edC e) rfl rfl rfl rfl rfl rfl (fun w hs => hrd w (hs.all (HA.edg ps) (by simp))) ?_
  (refine EL.alloc rfl rfl rfl ?_; intro g17)
  (apply EL.storeAll; exact rfl; exact rfl; exact rfl; exact rfl; exact rfl; (case p => repeat constructor); exact rfl; (case h1 => exact (by first | rfl | exact all1 rfl | (intro u hu; simp only [List.mem_cons, List.not_mem_nil, or_false] at hu; rcases hu with rfl | rfl | rfl | rfl <;> rfl) | (intro u hu; simp at hu; rcases hu with rfl | rfl | rfl | rfl <;> rfl) | (intro u hu; simp at hu; rcases hu with rfl | rfl | rfl <;> rfl) | (intro u hu; simp at hu; rcases hu with rfl | rfl <;> rfl) | (intro u hu; simp at hu; obtain ⟨_, _, rfl⟩ := hu; rfl))))
  refine .gr ?_; repeat constructor
  refine .gr ?_; repeat constructor
  refine EL.fieldAddr rfl rfl rfl rfl rfl rfl rfl rfl ?_
  (apply EL.loadB; exact rfl; exact rfl; exact rfl; exact rfl; exact rfl; (case hm => repeat constructor); exact rfl)
  refine EL.assign rfl rfl rfl ?_
  refine .gr ?_; repeat constructor
  refine EL.fieldAddr rfl rfl rfl rfl rfl rfl rfl rfl ?_
  (apply EL.loadB; exact rfl; exact rfl; exact rfl; exact rfl; exact rfl; (case hm => repeat constructor); exact rfl)
  repeat (first | apply EL.nil | apply ES.seq | apply ES.skip)
  refine ES.cutE (X := { b : Nat // placeM s fwd e p.2 = some b }) (Y := PLift (placeM s fwd e p.2 = none)) 3 (fun b => [(0, Pv gs 0), (1, .slice (some ⟨og, 0, none⟩) ps.length ocap), (3, Iv (goal : Nat)), (4, .bool fwd), (11, Iv (s.length : Nat)), (12, .slice (some ⟨g28, 0, none⟩) (s.length + 1) (s.length + 1)), (13, .slice (some ⟨g34, 0, none⟩) F0 F0), (14, .slice jad sj.todo.length jcap), (15, Pv g15 0), (17, Pv g17 0), (18, Iv (b.1 : Nat)), (73, .slice (some ⟨ig, 0, none⟩) pp.2.length icap), (74, Iv (pp.2.length : Nat)), (75, Iv (i : Nat))]) (fun _ => HA.blk g17 (.cells (edC e).toArray 215) :: HA.blk g15 (.cells #[Iv (p.1 : Nat), Iv (p.2 : Nat)] 190) :: WB gs s (sj.steps + cntM s.length fwd e p.2) rest ty :: BR g28 (s.length + 1) sj.marks :: BR g34 F0 sj.seen :: TR jad jcap sj.todo :: OR (some ⟨og, 0, none⟩) ocap ps :: HA.edg ps :: R) (fun _ => [(0, Pv gs 0), (1, .slice (some ⟨og, 0, none⟩) ps.length ocap), (3, Iv (goal : Nat)), (4, .bool fwd), (11, Iv (s.length : Nat)), (12, .slice (some ⟨g28, 0, none⟩) (s.length + 1) (s.length + 1)), (13, .slice (some ⟨g34, 0, none⟩) F0 F0), (14, .slice jad sj.todo.length jcap), (15, Pv g15 0), (73, .slice (some ⟨ig, 0, none⟩) pp.2.length icap), (74, Iv (pp.2.length : Nat)), (75, Iv (i : Nat))]) (fun _ => HA.blk g17 (.cells (edC e).toArray 215) :: HA.blk g15 (.cells #[Iv (p.1 : Nat), Iv (p.2 : Nat)] 190) :: WB gs s (sj.steps + cntM s.length fwd e p.2) rest ty :: BR g28 (s.length + 1) sj.marks :: BR g34 F0 sj.seen :: TR jad jcap sj.todo :: OR (some ⟨og, 0, none⟩) ocap ps :: HA.edg ps :: R) ?_ (fun b => ?_) (fun y => ?_)
  · refine .gr ?_; repeat constructor
    refine EL.eqlI rfl rfl rfl rfl ?_
    refine EL.assign rfl rfl rfl ?_
    refine .gr ?_; repeat constructor
    refine ES.condD rfl (fun k2 => ?_) (fun k2 => ?_)
    · have hk : e.kind = 2 := by have h : ((e.kind : Nat) : Int) = 2 := k2; omega
      have hc0 : cntM s.length fwd e p.2 = 0 := by unfold cntM; rw [if_neg (by omega)]
      have hpl : placeM s fwd e p.2 = if p.2 = 0 then some p.2 else none := by unfold placeM; rw [if_neg (by omega), if_pos hk]
      rw [hc0, Nat.add_zero]
      refine .gr ?_; repeat constructor
      refine EL.move rfl rfl rfl ?_
      refine EL.neqI rfl rfl rfl rfl ?_
      refine .gr ?_; repeat constructor
      refine ES.condN rfl (fun h0 => ?_) (fun h0 => ?_)
      · refine .gr ?_; repeat constructor
        exact PX.cutEx ⟨by rw [hpl, if_neg (by omega)]⟩ ⟨rfl, rfl, rfl, rfl, rfl, rfl, rfl, rfl, rfl, rfl, rfl, rfl, trivial⟩ (.i (by repeat constructor))
      · refine .gr ?_; repeat constructor
        exact PX.cutEn ⟨p.2, by rw [hpl, if_pos (by omega)]⟩ ⟨rfl, rfl, rfl, rfl, rfl, rfl, rfl, rfl, rfl, rfl, rfl, rfl, rfl, rfl, trivial⟩ (.i (by repeat constructor))
    have hk2 : ¬ e.kind = 2 := by have h : ¬ ((e.kind : Nat) : Int) = 2 := k2; omega
    refine .gr ?_; repeat constructor
    refine EL.eqlI rfl rfl rfl rfl ?_
    refine EL.assign rfl rfl rfl ?_
    refine .gr ?_; repeat constructor
    refine ES.condD rfl (fun k3 => ?_) (fun k3 => ?_)
    · have hk : e.kind = 3 := by have h : ((e.kind : Nat) : Int) = 3 := k3; omega
      have hc0 : cntM s.length fwd e p.2 = 0 := by unfold cntM; rw [if_neg (by omega)]
      have hpl : placeM s fwd e p.2 = if p.2 = s.length then some p.2 else none := by unfold placeM; rw [if_neg (by omega), if_neg (by omega), if_pos hk]
      rw [hc0, Nat.add_zero]
      refine .gr ?_; repeat constructor
      refine EL.move rfl rfl rfl ?_
      refine EL.move rfl rfl rfl ?_
      refine EL.neqI rfl rfl rfl rfl ?_
      refine .gr ?_; repeat constructor
      refine ES.condN rfl (fun h0 => ?_) (fun h0 => ?_)
      · refine .gr ?_; repeat constructor
        exact PX.cutEx ⟨by rw [hpl, if_neg (by omega)]⟩ ⟨rfl, rfl, rfl, rfl, rfl, rfl, rfl, rfl, rfl, rfl, rfl, rfl, trivial⟩ (.i (by repeat constructor))
      · refine .gr ?_; repeat constructor
        exact PX.cutEn ⟨p.2, by rw [hpl, if_pos (by omega)]⟩ ⟨rfl, rfl, rfl, rfl, rfl, rfl, rfl, rfl, rfl, rfl, rfl, rfl, rfl, rfl, trivial⟩ (.i (by repeat constructor))
    have hk3 : ¬ e.kind = 3 := by have h : ¬ ((e.kind : Nat) : Int) = 3 := k3; omega
    refine .gr ?_; repeat constructor
    refine EL.eqlI rfl rfl rfl rfl ?_
    refine EL.assign rfl rfl rfl ?_
    refine .gr ?_; repeat constructor
    refine ES.condD rfl (fun k1 => ?_) (fun k1 => ?_)
    rotate_left
    · have hk1 : ¬ e.kind = 1 := by have h : ¬ ((e.kind : Nat) : Int) = 1 := k1; omega
      have hc0 : cntM s.length fwd e p.2 = 0 := by unfold cntM; rw [if_neg (by omega)]
      rw [hc0, Nat.add_zero]
      refine .gr ?_; repeat constructor
      exact PX.cutEn ⟨p.2, by unfold placeM; rw [if_neg hk1, if_neg hk2, if_neg hk3]⟩ ⟨rfl, rfl, rfl, rfl, rfl, rfl, rfl, rfl, rfl, rfl, rfl, rfl, rfl, rfl, trivial⟩ (.i (by repeat constructor))
    have hk : e.kind = 1 := by have h : ((e.kind : Nat) : Int) = 1 := k1; omega
    have hpl : placeM s fwd e p.2 = if inB s.length fwd p.2 = true ∧ hasS e.set (s.getD (bAt fwd p.2) 0).toNat = true then some (if fwd = true then p.2 + 1 else p.2 - 1) else none := by unfold placeM; rw [if_pos hk]
    obtain ⟨bA, hbA⟩ : ∃ bA : Int, bA = if fwd = true then (p.2 : Int) else (p.2 : Int) - 1 := ⟨_, rfl⟩
    refine .gr ?_; repeat constructor
    refine EL.move rfl rfl rfl ?_
    refine EL.assign rfl rfl rfl ?_
    refine .gr ?_; repeat constructor
    refine EL.move rfl rfl rfl ?_
    refine EL.not rfl rfl rfl ?_
    refine .gr ?_; repeat constructor
    refine ES.cutC (X := Unit) (fun _ => [(0, Pv gs 0), (1, .slice (some ⟨og, 0, none⟩) ps.length ocap), (3, Iv (goal : Nat)), (4, .bool fwd), (11, Iv (s.length : Nat)), (12, .slice (some ⟨g28, 0, none⟩) (s.length + 1) (s.length + 1)), (13, .slice (some ⟨g34, 0, none⟩) F0 F0), (14, .slice jad sj.todo.length jcap), (15, Pv g15 0), (17, Pv g17 0), (19, Iv bA), (73, .slice (some ⟨ig, 0, none⟩) pp.2.length icap), (74, Iv (pp.2.length : Nat)), (75, Iv (i : Nat))]) (fun _ => HA.blk g17 (.cells (edC e).toArray 215) :: HA.blk g15 (.cells #[Iv (p.1 : Nat), Iv (p.2 : Nat)] 190) :: WB gs s sj.steps rest ty :: BR g28 (s.length + 1) sj.marks :: BR g34 F0 sj.seen :: TR jad jcap sj.todo :: OR (some ⟨og, 0, none⟩) ocap ps :: HA.edg ps :: R) ?_ (fun _ => ?_)
    · refine ES.cond rfl (fun hf => ?_) (fun hf => ?_)
      · have hf' : fwd = false := by simpa using hf
        refine .gr ?_; repeat constructor
        refine EL.move rfl rfl rfl ?_
        refine EL.sub_ ((p.2 : Int) - 1) rfl rfl rfl rfl (wrap_i64 _ (by omega) (by omega)) ?_
        refine EL.assign rfl rfl rfl ?_
        refine .gr ?_; repeat constructor
        exact PX.cutX () ⟨rfl, rfl, rfl, rfl, rfl, rfl, rfl, rfl, rfl, rfl, getA rfl (congrArg Iv (by rw [hbA, hf']; rfl)), rfl, rfl, rfl, trivial⟩ (.i (by repeat constructor))
      · have hf' : fwd = true := by simpa using hf
        refine .gr ?_; repeat constructor
        exact PX.cutX () ⟨rfl, rfl, rfl, rfl, rfl, rfl, rfl, rfl, rfl, rfl, getA rfl (congrArg Iv (by rw [hbA, hf']; rfl)), rfl, rfl, rfl, trivial⟩ (.i (by repeat constructor))
    refine .gr ?_; repeat constructor
    refine EL.cutX (X := Unit) (fun _ => [(0, Pv gs 0), (1, .slice (some ⟨og, 0, none⟩) ps.length ocap), (3, Iv (goal : Nat)), (4, .bool fwd), (11, Iv (s.length : Nat)), (12, .slice (some ⟨g28, 0, none⟩) (s.length + 1) (s.length + 1)), (13, .slice (some ⟨g34, 0, none⟩) F0 F0), (14, .slice jad sj.todo.length jcap), (15, Pv g15 0), (17, Pv g17 0), (19, Iv bA), (105, .bool (decide (bA < 0 ∨ (s.length : Int) ≤ bA))), (73, .slice (some ⟨ig, 0, none⟩) pp.2.length icap), (74, Iv (pp.2.length : Nat)), (75, Iv (i : Nat))]) (fun _ => HA.blk g17 (.cells (edC e).toArray 215) :: HA.blk g15 (.cells #[Iv (p.1 : Nat), Iv (p.2 : Nat)] 190) :: WB gs s sj.steps rest ty :: BR g28 (s.length + 1) sj.marks :: BR g34 F0 sj.seen :: TR jad jcap sj.todo :: OR (some ⟨og, 0, none⟩) ocap ps :: HA.edg ps :: R) ?_ (fun _ => ?_)
    · refine .gr ?_; repeat constructor
      refine EL.move rfl rfl rfl ?_
      refine EL.lss rfl rfl rfl rfl ?_
      refine EL.move rfl rfl rfl ?_
      first | refine EL.splitD (d := 101) rfl (fun hp101 => ?_) (fun hp101 => ?_) | refine EL.splitN (d := 101) rfl (fun hp101 => ?_) (fun hp101 => ?_) | refine EL.splitB (d := 101) rfl (fun hp101 => ?_) (fun hp101 => ?_)
      · refine EL.pass rfl rfl rfl ?_
        refine EL.pass rfl rfl rfl ?_
        refine EL.pass rfl rfl rfl ?_
        refine EL.pickT rfl rfl rfl rfl ?_
        exact EL.endX () ⟨rfl, rfl, rfl, rfl, rfl, rfl, rfl, rfl, rfl, rfl, rfl, getA rfl (congrArg Value.bool (by rw [Bool.eq_iff_iff]; simp only [decide_eq_true_eq, true_iff]; omega)), rfl, rfl, rfl, trivial⟩ (.i (by repeat constructor))
      · refine EL.move rfl rfl rfl ?_
        refine EL.move rfl rfl rfl ?_
        refine EL.geq rfl rfl rfl rfl ?_
        refine EL.pickF rfl rfl rfl rfl ?_
        exact EL.endX () ⟨rfl, rfl, rfl, rfl, rfl, rfl, rfl, rfl, rfl, rfl, rfl, getA rfl (congrArg Value.bool (by rw [Bool.eq_iff_iff]; simp only [decide_eq_true_eq, true_iff]; omega)), rfl, rfl, rfl, trivial⟩ (.i (by repeat constructor))
    refine ES.condD rfl (fun ho => ?_) (fun ho => ?_)
    · have hin : inB s.length fwd p.2 = false := by
        unfold inB
        cases fwd
        · simp only [Bool.false_eq_true, if_false] at hbA ⊢
          exact decide_eq_false (by omega)
        · simp only [if_true] at hbA ⊢
          exact decide_eq_false (by omega)
      have hc0 : cntM s.length fwd e p.2 = 0 := by unfold cntM; rw [hin, if_neg (by simp)]
      rw [hc0, Nat.add_zero]
      refine .gr ?_; repeat constructor
      exact PX.cutEx ⟨by rw [hpl, hin, if_neg (by simp)]⟩ ⟨rfl, rfl, rfl, rfl, rfl, rfl, rfl, rfl, rfl, rfl, rfl, rfl, trivial⟩ (.i (by repeat constructor))
    obtain ⟨k, hkb⟩ : ∃ k, k = bAt fwd p.2 := ⟨_, rfl⟩
    have hin : inB s.length fwd p.2 = true ∧ bA = (k : Int) ∧ k < s.length := by
      unfold inB
      unfold bAt at hkb
      cases fwd
      · simp only [Bool.false_eq_true, if_false] at hbA hkb ⊢
        exact ⟨decide_eq_true (by omega), by omega, by omega⟩
      · simp only [if_true] at hbA hkb ⊢
        exact ⟨decide_eq_true (by omega), by omega, by omega⟩
    obtain ⟨hin, hbk, hklt⟩ := hin
    have hc1 : cntM s.length fwd e p.2 = 1 := by unfold cntM; rw [hin, if_pos ⟨hk, rfl⟩]
    rw [hin, ← hkb] at hpl
    rw [hc1]
    rw [hbk]
    refine .gr ?_; repeat constructor
    refine EL.move rfl rfl rfl ?_
    refine EL.nilCheck rfl rfl rfl ?_
    refine EL.fieldAddr rfl rfl rfl rfl rfl rfl rfl rfl ?_
    (apply EL.loadB; exact rfl; exact rfl; exact rfl; exact rfl; exact rfl; (case hm => repeat constructor); exact rfl)
    refine EL.add1 rfl rfl rfl rfl (by omega) ?_
    refine EL.nilCheck rfl rfl rfl ?_
    refine EL.fieldAddr rfl rfl rfl rfl rfl rfl rfl rfl ?_
    (refine EL.storeB rfl rfl rfl rfl rfl rfl (by repeat constructor) (by simp) ?_; refine EL.blkEq (g := gs) (by repeat constructor) (wb_set s _ (sj.steps + 1) rest ty) ?_)
    refine .gr ?_; repeat constructor
    refine .gs ?_; repeat constructor
    refine ES.draw (X := Unit) (fun _ => [(0, Pv gs 0), (1, .slice (some ⟨og, 0, none⟩) ps.length ocap), (3, Iv (goal : Nat)), (4, .bool fwd), (11, Iv (s.length : Nat)), (12, .slice (some ⟨g28, 0, none⟩) (s.length + 1) (s.length + 1)), (13, .slice (some ⟨g34, 0, none⟩) F0 F0), (14, .slice jad sj.todo.length jcap), (15, Pv g15 0), (17, Pv g17 0), (19, Iv (k : Nat)), (122, .bool (!hasS e.set (s.getD k 0).toNat)), (73, .slice (some ⟨ig, 0, none⟩) pp.2.length icap), (74, Iv (pp.2.length : Nat)), (75, Iv (i : Nat))]) (fun _ => HA.blk g17 (.cells (edC e).toArray 215) :: HA.blk g15 (.cells #[Iv (p.1 : Nat), Iv (p.2 : Nat)] 190) :: WB gs s (sj.steps + 1) rest ty :: BR g28 (s.length + 1) sj.marks :: BR g34 F0 sj.seen :: TR jad jcap sj.todo :: OR (some ⟨og, 0, none⟩) ocap ps :: HA.edg ps :: R) (HA.blk g17 (.cells (edC e).toArray 215) :: WB gs s (sj.steps + 1) rest ty :: []) mixed (.i (by repeat constructor)) ?_ (fun _ => ?_)
    · refine ED.take 0 rfl (by decide +kernel) CutX.no_panic (by decide +kernel) rfl rfl rfl (RV.fieldAddr rfl rfl rfl rfl rfl rfl) ?_
      refine ED.take 1 rfl (by decide +kernel) CutX.no_panic (by decide +kernel) rfl rfl rfl (RV.loadAgg (cs := [Wv e.set.a, Wv e.set.b, Wv e.set.c, Wv e.set.d]) rfl rfl rfl rfl (fun w hs => blk_sub (hs.all (HA.blk g17 (.cells (edC e).toArray 215)) (by simp)) rfl)) ?_
      refine ED.take 2 rfl (by decide +kernel) CutX.no_panic (by decide +kernel) rfl rfl rfl (RV.move rfl) ?_
      refine ED.take 3 rfl (by decide +kernel) CutX.no_panic (by decide +kernel) rfl rfl rfl (RV.nilCheck rfl) ?_
      refine ED.take 4 rfl (by decide +kernel) CutX.no_panic (by decide +kernel) rfl rfl rfl (RV.fieldAddr rfl rfl rfl rfl rfl rfl) ?_
      refine ED.take 5 rfl (by decide +kernel) CutX.no_panic (by decide +kernel) rfl rfl rfl (RV.loadB rfl rfl rfl (by repeat constructor) rfl) ?_
      refine ED.take 6 rfl (by decide +kernel) CutX.no_panic (by decide +kernel) rfl rfl rfl (RV.move rfl) ?_
      refine ED.take 7 rfl (by decide +kernel) CutX.no_panic (by decide +kernel) rfl rfl rfl (RV.indexSN rfl rfl rfl rfl (by omega)) ?_
      refine ED.loud 8 rfl (by decide +kernel) ?_
      refine EL.callP rfl rfl rfl ent60 rfl (has_c e.set (s.getD k 0)) ?_
      refine ED.next (.i (by repeat constructor)) ?_
      refine ED.take 9 rfl (by decide +kernel) CutX.no_panic (by decide +kernel) rfl rfl rfl (RV.not rfl) ?_
      refine ED.done (by decide +kernel) ?_
      exact PX.cutX () ⟨rfl, rfl, rfl, rfl, rfl, rfl, rfl, rfl, rfl, rfl, rfl, rfl, rfl, rfl, rfl, trivial⟩ (.i (by repeat constructor))
    refine ES.cond rfl (fun hh => ?_) (fun hh => ?_)
    · have hh' : hasS e.set (s.getD k 0).toNat = false := by simpa using hh
      rw [hh', if_neg (by simp)] at hpl
      refine .gr ?_; repeat constructor
      exact PX.cutEx ⟨hpl⟩ ⟨rfl, rfl, rfl, rfl, rfl, rfl, rfl, rfl, rfl, rfl, rfl, rfl, trivial⟩ (.i (by repeat constructor))
    have hh' : hasS e.set (s.getD k 0).toNat = true := by simpa using hh
    rw [hh', if_pos ⟨rfl, rfl⟩] at hpl
    refine .gr ?_; repeat constructor
    refine EL.move rfl rfl rfl ?_
    refine EL.assign rfl rfl rfl ?_
    refine .gr ?_; repeat constructor
    refine EL.move rfl rfl rfl ?_
    refine .gr ?_; repeat constructor
    refine ES.cond rfl (fun hf => ?_) (fun hf => ?_)
    · rw [if_pos hf] at hpl
      have hk2 : k = p.2 := by rw [hkb]; unfold bAt; exact if_pos hf
      subst hk2
      refine .gr ?_; repeat constructor
      refine EL.move rfl rfl rfl ?_
      refine EL.add1 rfl rfl rfl rfl (by omega) ?_
      refine EL.assign rfl rfl rfl ?_
      refine .gr ?_; repeat constructor
      exact PX.cutEn ⟨p.2 + 1, hpl⟩ ⟨rfl, rfl, rfl, rfl, rfl, rfl, rfl, rfl, rfl, rfl, rfl, rfl, rfl, rfl, trivial⟩ (.i (by repeat constructor))
    · rw [if_neg (by rw [hf]; simp)] at hpl
      have hk2 : k = p.2 - 1 := by rw [hkb]; unfold bAt; exact if_neg (by rw [hf]; simp)
      rw [← hk2] at hpl
      refine .gr ?_; repeat constructor
      exact PX.cutEn ⟨k, hpl⟩ ⟨rfl, rfl, rfl, rfl, rfl, rfl, rfl, rfl, rfl, rfl, rfl, rfl, rfl, rfl, trivial⟩ (.i (by repeat constructor))
  · obtain ⟨b, hb⟩ := b
    have hble := place_le pa hb
    have hix : e.to * (s.length + 1) + b < F0 := by omega
    have htl3 : sj.todo.length ≤ F0 := by simp only [FS.mu] at jmu; omega
    have hse : edgeM s fwd p.2 sj e = pushM s.length { sj with steps := sj.steps + cntM s.length fwd e p.2 } e.to b := by unfold edgeM; rw [hb]
    dsimp only
    refine .gr ?_; repeat constructor
    refine EL.fieldAddr rfl rfl rfl rfl rfl rfl rfl rfl ?_
    (apply EL.loadB; exact rfl; exact rfl; exact rfl; exact rfl; exact rfl; (case hm => repeat constructor); exact rfl)
    refine EL.move rfl rfl rfl ?_
    refine EL.add1 rfl rfl rfl rfl (by omega) ?_
    refine EL.mulN (m := e.to) rfl rfl rfl rfl rfl (by omega) ?_
    refine EL.move rfl rfl rfl ?_
    refine EL.addN rfl rfl rfl rfl rfl (by omega) ?_
    refine EL.assign rfl rfl rfl ?_
    refine .gr ?_; repeat constructor
    refine EL.move rfl rfl rfl ?_
    refine EL.move rfl rfl rfl ?_
    refine EL.indexAddrL1 rfl rfl rfl rfl rfl rfl rfl rfl (by omega) ?_
    refine EL.ofRV (RV.loadRm Value.bool false rfl rfl rfl (by repeat constructor) (by rw [jok.seen, ← hF0]; exact hix)) rfl rfl rfl (by intro c h; cases h) ?_
    refine EL.not rfl rfl rfl ?_
    refine .gr ?_; repeat constructor
    refine ES.cond rfl (fun hf => ?_) (fun hf => ?_)
    · have hns : sj.seen.getD (e.to * (s.length + 1) + b) false = false := by simpa using hf
      have hst : edgeM s fwd p.2 sj e = ⟨sj.marks, sj.seen.set (e.to * (s.length + 1) + b) true, sj.todo ++ [(e.to, b)], sj.steps + cntM s.length fwd e p.2⟩ := by
        rw [hse]; unfold pushM; rw [if_neg (by rw [hns]; simp)]
      rw [hst] at jgo hstep
      refine .gr ?_; repeat constructor
      refine EL.move rfl rfl rfl ?_
      refine EL.move rfl rfl rfl ?_
      refine EL.indexAddrL1 rfl rfl rfl rfl rfl rfl rfl rfl (by omega) ?_
      (refine EL.storeR rfl rfl rfl rfl rfl rfl (by repeat constructor) (by rw [List.length_map, jok.seen, ← hF0]; exact hix) ?_; refine EL.rowEq (v := .slice (some ⟨g34, 0, none⟩) F0 F0) (by repeat constructor) (List.map_set (f := Value.bool) (a := true)).symm ?_)
      refine .gr ?_; repeat constructor
      refine EL.move rfl rfl rfl ?_
      refine EL.fieldAddr rfl rfl rfl rfl rfl rfl rfl rfl ?_
      (apply EL.loadB; exact rfl; exact rfl; exact rfl; exact rfl; exact rfl; (case hm => repeat constructor); exact rfl)
      refine EL.move rfl rfl rfl ?_
      (apply EL.build2; exact rfl; exact rfl; exact rfl; exact rfl; exact rfl; exact rfl; exact rfl; exact rfl; exact rfl; exact rfl)
      (refine EL.buildSlice1 rfl rfl rfl rfl rfl rfl rfl rfl rfl rfl ?_; intro b147)
      (refine EL.append1 rfl rfl rfl rfl rfl rfl rfl rfl rfl (by repeat constructor) (by repeat constructor) (by first | (intro u hu; simp [Value.cells] at hu; subst hu; rfl) | exact all1 rfl) (by rfl) (by unfold maxLen; omega) (by first | omega | (show 1 * _ ≤ _; omega) | (show 8 * _ ≤ _; omega) | (show 16 * _ ≤ _; omega) | (show 24 * _ ≤ _; omega) | (show _ * 1 ≤ _; omega) | (show _ * 8 ≤ _; omega) | (show _ * 16 ≤ _; omega) | (show _ * 24 ≤ _; omega) | exact Nat.le_trans (Nat.mul_le_mul_right _ (show _ ≤ 1073741824 by omega)) (by decide)) ?_; intro a148 c148)
      refine EL.assign rfl rfl rfl ?_
      refine .gr ?_; repeat constructor
      refine EL.add1 rfl rfl rfl rfl (by omega) ?_
      refine EL.move rfl rfl rfl ?_
      refine .gr ?_; repeat constructor
      exact PX.loop ⟨i + 1, _, some ⟨a148, 0, none⟩, c148⟩ ⟨hlt', jgo, hstep.1, by rw [hstep.2.1]; exact jmu, by dsimp only; omega⟩ (by simp only; omega) ⟨rfl, rfl, rfl, rfl, rfl, rfl, rfl, getA rfl (by simp), rfl, rfl, rfl, rfl, trivial⟩ (by dsimp only; unfold TR; rw [List.length_append, prsC_snoc]; exact (.i (by repeat constructor)))
    · have hys : sj.seen.getD (e.to * (s.length + 1) + b) false = true := by simpa using hf
      have hst : edgeM s fwd p.2 sj e = { sj with steps := sj.steps + cntM s.length fwd e p.2 } := by
        rw [hse]; unfold pushM; rw [if_pos (by exact hys)]
      rw [hst] at jgo hstep
      refine .gr ?_; repeat constructor
      refine EL.add1 rfl rfl rfl rfl (by omega) ?_
      refine EL.move rfl rfl rfl ?_
      refine .gr ?_; repeat constructor
      exact PX.loop ⟨i + 1, _, jad, jcap⟩ ⟨hlt', jgo, hstep.1, by rw [hstep.2.1]; exact jmu, by dsimp only; omega⟩ (by simp only; omega) ⟨rfl, rfl, rfl, rfl, rfl, rfl, rfl, rfl, rfl, rfl, rfl, rfl, trivial⟩ (.i (by repeat constructor))
  · have hst : edgeM s fwd p.2 sj e = { sj with steps := sj.steps + cntM s.length fwd e p.2 } := by unfold edgeM; rw [y.down]
    rw [hst] at jgo hstep
    refine .gr ?_; repeat constructor
    refine .gr ?_; repeat constructor
    refine EL.add1 rfl rfl rfl rfl (by omega) ?_
    refine EL.move rfl rfl rfl ?_
    refine .gr ?_; repeat constructor
    exact PX.loop ⟨i + 1, _, jad, jcap⟩ ⟨hlt', jgo, hstep.1, by rw [hstep.2.1]; exact jmu, by dsimp only; omega⟩ (by simp only; omega) ⟨rfl, rfl, rfl, rfl, rfl, rfl, rfl, rfl, rfl, rfl, rfl, rfl, trivial⟩ (.i (by repeat constructor))
end Go.Proofs.Ytblpgpgbnlhjlaa
namespace Go.Proofs.Ytblpgpgbnlhjlaa
open Go Go.RowKit Sl
set_option maxRecDepth 100000
set_option maxHeartbeats 8000000
set_option linter.unusedVariables false
set_option linter.unusedSimpArgs false
attribute [local irreducible] ES EL PX wps
abbrev leftLo (lo : Nat) (k : RE) (times : Nat) : Nat := leastM lo k - times
def leftM (lo : Nat) (hi : Int) (k : RE) (times : Nat) : RE := .rep (leftLo lo k times) (if 0 ≤ hi then max ((leftLo lo k times : Nat) : Int) (hi - times) else -1) k
theorem left_c (lo : Nat) (hi : Int) (k : RE) (hf : (RE.rep lo hi k).fine) (times : Nat) (ht : times ≤ 1073741824) (g off : Nat) (ad : Option Addr) (cap : Nat) (w : World) (hn : NodeRd w w.heap.size g off (.rep lo hi k)) (hrd : Rd w w.heap.size (some ⟨g, off, none⟩) (reCells (.rep lo hi k) (.slice ad 1 cap))) :
    Pure Try.prog 93 #[Pv g off, Iv (times : Nat)] (fun _ : Unit => .agg (reCells (leftM lo hi k times) (.slice ad 1 cap)).toArray) (fun _ => []) w := by
  have hlo := hf.1
  have hle := least_le lo k
  have hh := hf.2.1
  have hh2 := hf.2.2.1
  obtain ⟨m, hm⟩ : ∃ m, m = leastM lo k := ⟨_, rfl⟩
  obtain ⟨l, hl⟩ : ∃ l, l = leftLo lo k times := ⟨_, rfl⟩
  have hlm : l = m - times := by rw [hl, hm]
  rw [← hm] at hle
  have hmx : max 0 ((m : Int) - (times : Int)) = ((l : Nat) : Int) := by omega
  have hlm2 : leftM lo hi k times = .rep l (if 0 ≤ hi then max ((l : Nat) : Int) (hi - times) else -1) k := by rw [hl]; rfl
  rw [hlm2]
  refine calls_of_ES TB Try.func93 rfl _ Try.ntmps93 rfl (Sat.start w) ?_
  refine .gr ?_; repeat constructor
  (refine EL.alloc rfl rfl rfl ?_; intro g4)
  refine .gr ?_; repeat constructor
  refine ES.draw (X := Nat) (fun g5 => [(0, Pv g off), (1, Iv (times : Nat)), (4, Pv g4 0), (5, Pv g5 0)]) (fun g5 => HA.blk g5 (.cells #[Iv 5, Wv 0, Wv 0, Wv 0, Wv 0, Iv (max 0 ((m : Int) - (times : Int))), Iv (-1), Iv 0, .slice ad 1 cap] 82) :: HA.blk g4 (.cells zeroRe 82) :: []) [] mixed (.i (by repeat constructor)) ?_ (fun g5 => ?_)
  · refine ED.take 0 rfl (by decide +kernel) CutX.no_panic (by decide +kernel) rfl rfl rfl (RV.move rfl) ?_
    refine ED.take 2 rfl (by decide +kernel) CutX.no_panic (by decide +kernel) rfl rfl rfl (RV.move rfl) ?_
    refine ED.take 5 rfl (by decide +kernel) CutX.no_panic (by decide +kernel) rfl rfl rfl (RV.move rfl) ?_
    refine ED.take 6 rfl (by decide +kernel) CutX.no_panic (by decide +kernel) rfl rfl rfl (RV.nilCheck rfl) ?_
    refine ED.take 7 rfl (by decide +kernel) CutX.no_panic (by decide +kernel) rfl rfl rfl (RV.fieldAddr rfl rfl rfl rfl rfl rfl) ?_
    refine ED.take 8 rfl (by decide +kernel) CutX.no_panic (by decide +kernel) rfl rfl rfl (RV.loadOld rfl rfl rfl hrd rfl) ?_
    refine ED.fork 1 [10] (by decide +kernel) ⟨⟨_, rfl, ?_⟩, ⟨_, rfl, ?_⟩, trivial⟩
    · (refine EL.callPw rfl rfl rfl ent82 rfl (fun w hs => least_c lo hi k hf g off w (NodeRd.sat hn hs)) ?_; rw [← hm])
      refine ED.next (.i (by repeat constructor)) ?_
      refine ED.take 3 rfl (by decide +kernel) CutX.no_panic (by decide +kernel) rfl rfl rfl (RV.sub_ ((m : Int) - (times : Int)) rfl rfl (wrap_i64 _ (by omega) (by omega))) ?_
      refine ED.take 4 rfl (by decide +kernel) CutX.no_panic (by decide +kernel) rfl rfl rfl (RV.maxI rfl rfl) ?_
      refine ED.take 9 rfl (by decide +kernel) CutX.no_panic (by decide +kernel) rfl rfl rfl (RV.buildS #[Iv 5, Wv 0, Wv 0, Wv 0, Wv 0, Iv (max 0 ((m : Int) - (times : Int))), Iv (-1), Iv 0, .slice ad 1 cap] rfl rfl rfl rfl (by kernel_rfl)) ?_
      refine ED.loud 10 rfl (by decide +kernel) ?_
      (refine EL.alloc rfl rfl rfl ?_; intro g5)
      refine ED.next (.i (by repeat constructor)) ?_
      refine ED.last 11 rfl (by decide +kernel) (by decide +kernel) (by decide +kernel) ?_
      (apply EL.storeAll; exact rfl; exact rfl; exact rfl; exact rfl; exact rfl; (case p => repeat constructor); exact rfl; (case h1 => exact (by first | rfl | exact all1 rfl | (intro u hu; simp only [List.mem_cons, List.not_mem_nil, or_false] at hu; rcases hu with rfl | rfl | rfl | rfl <;> rfl) | (intro u hu; simp at hu; rcases hu with rfl | rfl | rfl | rfl <;> rfl) | (intro u hu; simp at hu; rcases hu with rfl | rfl | rfl <;> rfl) | (intro u hu; simp at hu; rcases hu with rfl | rfl <;> rfl) | (intro u hu; simp at hu; obtain ⟨_, _, rfl⟩ := hu; rfl))))
      refine EL.endQ ?_
      exact PX.cutX g5 ⟨rfl, rfl, rfl, rfl, trivial⟩ (.i (by repeat constructor))
    · (refine EL.alloc rfl rfl rfl ?_; intro g5)
      refine ED.next (.i (by repeat constructor)) ?_
      refine ED.loud 1 rfl (by decide +kernel) ?_
      (refine EL.callPw rfl rfl rfl ent82 rfl (fun w hs => least_c lo hi k hf g off w (NodeRd.sat hn hs)) ?_; rw [← hm])
      refine ED.next (.i (by repeat constructor)) ?_
      refine ED.take 3 rfl (by decide +kernel) CutX.no_panic (by decide +kernel) rfl rfl rfl (RV.sub_ ((m : Int) - (times : Int)) rfl rfl (wrap_i64 _ (by omega) (by omega))) ?_
      refine ED.take 4 rfl (by decide +kernel) CutX.no_panic (by decide +kernel) rfl rfl rfl (RV.maxI rfl rfl) ?_
      refine ED.take 9 rfl (by decide +kernel) CutX.no_panic (by decide +kernel) rfl rfl rfl (RV.buildS #[Iv 5, Wv 0, Wv 0, Wv 0, Wv 0, Iv (max 0 ((m : Int) - (times : Int))), Iv (-1), Iv 0, .slice ad 1 cap] rfl rfl rfl rfl (by kernel_rfl)) ?_
      refine ED.last 11 rfl (by decide +kernel) (by decide +kernel) (by decide +kernel) ?_
      (apply EL.storeAll; exact rfl; exact rfl; exact rfl; exact rfl; exact rfl; (case p => repeat constructor); exact rfl; (case h1 => exact (by first | rfl | exact all1 rfl | (intro u hu; simp only [List.mem_cons, List.not_mem_nil, or_false] at hu; rcases hu with rfl | rfl | rfl | rfl <;> rfl) | (intro u hu; simp at hu; rcases hu with rfl | rfl | rfl | rfl <;> rfl) | (intro u hu; simp at hu; rcases hu with rfl | rfl | rfl <;> rfl) | (intro u hu; simp at hu; rcases hu with rfl | rfl <;> rfl) | (intro u hu; simp at hu; obtain ⟨_, _, rfl⟩ := hu; rfl))))
      refine EL.endQ ?_
      exact PX.cutX g5 ⟨rfl, rfl, rfl, rfl, trivial⟩ (.i (by repeat constructor))
  rw [hmx]
  refine .gr ?_; repeat constructor
  refine EL.move rfl rfl rfl ?_
  refine EL.nilCheck rfl rfl rfl ?_
  refine EL.fieldAddr rfl rfl rfl rfl rfl rfl rfl rfl ?_
  refine EL.loadOld rfl rfl rfl rfl rfl hrd rfl ?_
  refine EL.geq rfl rfl rfl rfl ?_
  refine .gr ?_; repeat constructor
  refine ES.condD rfl (fun hge => ?_) (fun hlt => ?_)
  · have hge' : 0 ≤ hi := hge
    rw [if_pos hge']
    refine .gs ?_; repeat constructor
    refine ES.draw (X := Unit) (fun _ => [(4, Pv g4 0), (5, Pv g5 0)]) (fun _ => HA.blk g5 (.cells (reCells (.rep l (max ((l : Nat) : Int) (hi - times)) k) (.slice ad 1 cap)).toArray 82) :: HA.blk g4 (.cells zeroRe 82) :: []) (HA.blk g5 (.cells #[Iv 5, Wv 0, Wv 0, Wv 0, Wv 0, Iv (l : Nat), Iv (-1), Iv 0, .slice ad 1 cap] 82) :: []) mixed (.i (by repeat constructor)) ?_ (fun _ => ?_)
    · refine ED.take 0 rfl (by decide +kernel) CutX.no_panic (by decide +kernel) rfl rfl rfl (RV.fieldAddr rfl rfl rfl rfl rfl rfl) ?_
      refine ED.take 1 rfl (by decide +kernel) CutX.no_panic (by decide +kernel) rfl rfl rfl (RV.loadB rfl rfl rfl (by repeat constructor) rfl) ?_
      refine ED.take 2 rfl (by decide +kernel) CutX.no_panic (by decide +kernel) rfl rfl rfl (RV.move rfl) ?_
      refine ED.take 3 rfl (by decide +kernel) CutX.no_panic (by decide +kernel) rfl rfl rfl (RV.nilCheck rfl) ?_
      refine ED.take 4 rfl (by decide +kernel) CutX.no_panic (by decide +kernel) rfl rfl rfl (RV.fieldAddr rfl rfl rfl rfl rfl rfl) ?_
      refine ED.take 5 rfl (by decide +kernel) CutX.no_panic (by decide +kernel) rfl rfl rfl (RV.loadOld rfl rfl rfl hrd rfl) ?_
      refine ED.take 6 rfl (by decide +kernel) CutX.no_panic (by decide +kernel) rfl rfl rfl (RV.move rfl) ?_
      refine ED.take 7 rfl (by decide +kernel) CutX.no_panic (by decide +kernel) rfl rfl rfl (RV.sub_ (hi - (times : Int)) rfl rfl (wrap_i64 _ (by simp only [RE.hi]; omega) (by simp only [RE.hi]; omega))) ?_
      refine ED.take 8 rfl (by decide +kernel) CutX.no_panic (by decide +kernel) rfl rfl rfl (RV.maxI rfl rfl) ?_
      refine ED.take 9 rfl (by decide +kernel) CutX.no_panic (by decide +kernel) rfl rfl rfl (RV.fieldAddr rfl rfl rfl rfl rfl rfl) ?_
      refine ED.last 10 rfl (by decide +kernel) (by decide +kernel) (by decide +kernel) ?_
      (apply EL.storeB; exact rfl; exact rfl; exact rfl; exact rfl; exact rfl; exact rfl; (case p => repeat constructor); exact (by first | decide | exact Nat.le_of_ble_eq_true rfl | simp))
      refine EL.endQ ?_
      exact PX.cutX () ⟨rfl, rfl, trivial⟩ (.i (by repeat constructor))
    refine .gr ?_; repeat constructor
    (apply EL.loadAggB; exact rfl; exact rfl; exact rfl; exact rfl; exact rfl; (case hm => repeat constructor); exact rfl)
    (apply EL.storeAll; exact rfl; exact rfl; exact rfl; exact rfl; exact rfl; (case p => repeat constructor); exact rfl; (case h1 => exact (by first | rfl | exact all1 rfl | (intro u hu; simp only [List.mem_cons, List.not_mem_nil, or_false] at hu; rcases hu with rfl | rfl | rfl | rfl <;> rfl) | (intro u hu; simp at hu; rcases hu with rfl | rfl | rfl | rfl <;> rfl) | (intro u hu; simp at hu; rcases hu with rfl | rfl | rfl <;> rfl) | (intro u hu; simp at hu; rcases hu with rfl | rfl <;> rfl) | (intro u hu; simp at hu; obtain ⟨_, _, rfl⟩ := hu; rfl))))
    refine .gr ?_; repeat constructor
    exact PX.ret rfl Try.results93 (.cons (.blkA rfl rfl rfl (by repeat constructor) rfl) .nil) (fun w hs => ⟨(), rfl, hs.ent (.i (by repeat constructor))⟩)
  · have hlt' : ¬ 0 ≤ hi := hlt
    rw [if_neg hlt']
    refine .gr ?_; repeat constructor
    refine .gr ?_; repeat constructor
    (apply EL.loadAggB; exact rfl; exact rfl; exact rfl; exact rfl; exact rfl; (case hm => repeat constructor); exact rfl)
    (apply EL.storeAll; exact rfl; exact rfl; exact rfl; exact rfl; exact rfl; (case p => repeat constructor); exact rfl; (case h1 => exact (by first | rfl | exact all1 rfl | (intro u hu; simp only [List.mem_cons, List.not_mem_nil, or_false] at hu; rcases hu with rfl | rfl | rfl | rfl <;> rfl) | (intro u hu; simp at hu; rcases hu with rfl | rfl | rfl | rfl <;> rfl) | (intro u hu; simp at hu; rcases hu with rfl | rfl | rfl <;> rfl) | (intro u hu; simp at hu; rcases hu with rfl | rfl <;> rfl) | (intro u hu; simp at hu; obtain ⟨_, _, rfl⟩ := hu; rfl))))
    refine .gr ?_; repeat constructor
    exact PX.ret rfl Try.results93 (.cons (.blkA rfl rfl rfl (by repeat constructor) rfl) .nil) (fun w hs => ⟨(), rfl, hs.ent (.i (by repeat constructor))⟩)
end Go.Proofs.Ytblpgpgbnlhjlaa
namespace Go.Proofs.Ytblpgpgbnlhjlaa
open Go Go.RowKit Sl
set_option maxRecDepth 100000
set_option maxHeartbeats 8000000
set_option linter.unusedVariables false
set_option linter.unusedSimpArgs false
attribute [local irreducible] ES EL PX wps
theorem edge_steps (s : List UInt8) (fwd : Bool) (a : Nat) (st : FS) (e : Ed) : (edgeM s fwd a st e).steps = st.steps + cntM s.length fwd e a := by
  unfold edgeM
  split
  · rfl
  · unfold pushM; split <;> rfl
theorem edges_steps (s : List UInt8) (fwd : Bool) (a : Nat) : ∀ (es : List Ed) (st : FS), (es.foldl (edgeM s fwd a) st).steps ≤ st.steps + es.length
  | [], st => Nat.le_refl _
  | e :: es, st => by
    have h1 := edges_steps s fwd a es (edgeM s fwd a st e)
    have h2 := edge_steps s fwd a st e
    have h3 := cnt_le s.length fwd e a
    simp only [List.foldl_cons, List.length_cons]; omega
theorem flood_steps {es : List (List Ed)} {M : Nat} (hM : ∀ l ∈ es, l.length ≤ M) (s : List UInt8) (goal : Nat) (fwd : Bool) : ∀ (f : Nat) (st : FS), (floodGo es s goal fwd f st).steps ≤ st.steps + f * M
  | 0, st => by rw [floodGo]; omega
  | f + 1, st => by
    rw [floodGo]
    split
    · omega
    · rename_i p hp
      have h1 := flood_steps hM s goal fwd f ((es.getD p.1 []).foldl (edgeM s fwd p.2) (popM goal st p))
      have h2 := edges_steps s fwd p.2 (es.getD p.1 []) (popM goal st p)
      have h3 : (popM goal st p).steps = st.steps := rfl
      have h4 : (es.getD p.1 []).length ≤ M := by
        rw [List.getD_eq_getElem?_getD]
        cases hg : es[p.1]? with
        | none => simp
        | some l => exact hM l (List.mem_of_getElem? hg)
      rw [Nat.succ_mul]; omega
theorem floodM_steps {es : List (List Ed)} (hN : es.length ≤ 131072) (hM : ∀ l ∈ es, l.length ≤ 131072) (s : List UInt8) (hs : s.length ≤ 1024) (p : Nat × Nat) (goal : Nat) (fwd : Bool) (st : Nat) : (floodM es s p goal fwd st).steps ≤ st + 131072 * 1025 * 131072 := by
  have h1 := flood_steps hM s goal fwd (es.length * (s.length + 1)) (fs0 es.length s.length p st)
  have h2 : es.length * (s.length + 1) * 131072 ≤ 131072 * 1025 * 131072 := Nat.mul_le_mul_right _ (Nat.mul_le_mul hN (by omega))
  have h3 : (fs0 es.length s.length p st).steps = st := rfl
  unfold floodM
  omega
theorem make_room (ks : List RE) (h : costL ks + 1 ≤ 131072) : (makeM ks).1.Room 0 ∧ (makeM ks).2 < (makeM ks).1.out.length := by
  have h0 : AM.Room ⟨[], []⟩ (costL ks + 1) := am0_room h
  have h1 := layL_room ks _ 0 0 (add_room h0) (by rw [add_len]; simp)
  exact ⟨h1.1, h1.2.1⟩
def endsM (A : AM × Nat) (s : List UInt8) (i st : Nat) : FS := floodM A.1.out s (0, i) A.2 true st
def startsM (A : AM × Nat) (s : List UInt8) (j st : Nat) : FS := floodM A.1.back s (A.2, j) 0 false st
theorem ends_c (gs : Nat) (s : List UInt8) (hs : s.length ≤ 1024) (st0 : Nat) (hst0 : st0 ≤ 1152921504606846976) (rest : List Value) (ty : TypeId) (ga : Nat) (A : AM × Nat) (x : AX A.1) (hr : A.1.Room 0) (he : A.2 < A.1.out.length) (i : Nat) (hi : i ≤ s.length) :
    Mut Try.prog 64 #[Pv gs 0, Pv ga 0, Iv (i : Nat)] [WB gs s st0 rest ty, AP ga x.1 A.2] (fun g : Nat => .slice (some ⟨g, 0, none⟩) (s.length + 1) (s.length + 1))
      (fun g => [BR g (s.length + 1) (endsM A s i st0).marks, WB gs s (endsM A s i st0).steps rest ty, AP ga x.1 A.2]) := by
  intro w0 B R w h
  obtain ⟨a, en⟩ := A
  obtain ⟨⟨oad, ocap, bad, bcap, ps, qs⟩, hv⟩ := x
  obtain ⟨ho, hb⟩ := id hv
  dsimp only at ho hb hr he ⊢
  have hout := hr.out
  have hro := hr.ro
  have hfc := flood_c gs s hs st0 hst0 rest ty a.out hr.eo (by omega) (fun l hl => by have := hro l hl; omega) ps ho oad ocap (0, i) (by show 0 < _; omega) hi en true
  replace h : Sat w0 B (AH ga ⟨oad, ocap, bad, bcap, ps, qs⟩ en ++ (WB gs s st0 rest ty :: R)) w := Sat.unpack (h.ent (.i (by repeat constructor)))
  replace h : Sat w0 B (HA.blk ga (.cells #[.slice oad ps.length ocap, .slice bad qs.length bcap, Iv (en : Nat)] 163) :: WB gs s st0 rest ty :: OR oad ocap ps :: HA.edg ps :: OR bad bcap qs :: HA.edg qs :: R) w := h.ent (.i (by repeat constructor))
  unfold endsM
  dsimp only
  generalize floodM a.out s (0, i) en true st0 = r at hfc
  refine calls_of_ES TB Try.func64 rfl _ Try.ntmps64 rfl h ?_
  refine .gr ?_; repeat constructor
  refine EL.assign rfl rfl rfl ?_
  refine .gr ?_; repeat constructor
  refine ES.draw (X := Nat) (fun g => [(6, .slice (some ⟨g, 0, none⟩) (s.length + 1) (s.length + 1))]) (fun g => BR g (s.length + 1) r.marks :: WB gs s r.steps rest ty :: HA.blk ga (.cells #[.slice oad ps.length ocap, .slice bad qs.length bcap, Iv (en : Nat)] 163) :: OR oad ocap ps :: HA.edg ps :: OR bad bcap qs :: HA.edg qs :: R)
    (HA.blk ga (.cells #[.slice oad ps.length ocap, .slice bad qs.length bcap, Iv (en : Nat)] 163) :: []) mixed (.i (by repeat constructor)) ?_ (fun g => ?_)
  · refine ED.take 0 rfl (by decide +kernel) CutX.no_panic (by decide +kernel) rfl rfl rfl (RV.move rfl) ?_
    refine ED.take 1 rfl (by decide +kernel) CutX.no_panic (by decide +kernel) rfl rfl rfl (RV.move rfl) ?_
    refine ED.take 2 rfl (by decide +kernel) CutX.no_panic (by decide +kernel) rfl rfl rfl (RV.nilCheck rfl) ?_
    refine ED.take 3 rfl (by decide +kernel) CutX.no_panic (by decide +kernel) rfl rfl rfl (RV.fieldAddr rfl rfl rfl rfl rfl rfl) ?_
    refine ED.take 4 rfl (by decide +kernel) CutX.no_panic (by decide +kernel) rfl rfl rfl (RV.loadB rfl rfl rfl (by repeat constructor) rfl) ?_
    refine ED.take 5 rfl (by decide +kernel) CutX.no_panic (by decide +kernel) rfl rfl rfl (RV.move rfl) ?_
    refine ED.take 6 rfl (by decide +kernel) CutX.no_panic (by decide +kernel) rfl rfl rfl (RV.buildS #[Iv 0, Iv (i : Nat)] rfl rfl rfl rfl (by kernel_rfl)) ?_
    refine ED.take 7 rfl (by decide +kernel) CutX.no_panic (by decide +kernel) rfl rfl rfl (RV.move rfl) ?_
    refine ED.take 8 rfl (by decide +kernel) CutX.no_panic (by decide +kernel) rfl rfl rfl (RV.nilCheck rfl) ?_
    refine ED.take 9 rfl (by decide +kernel) CutX.no_panic (by decide +kernel) rfl rfl rfl (RV.fieldAddr rfl rfl rfl rfl rfl rfl) ?_
    refine ED.take 10 rfl (by decide +kernel) CutX.no_panic (by decide +kernel) rfl rfl rfl (RV.loadB rfl rfl rfl (by repeat constructor) rfl) ?_
    refine ED.loud 11 rfl (by decide +kernel) ?_
    (refine EL.callM rfl rfl rfl ent87 rfl hfc (by repeat constructor) ?_; intro g)
    refine ED.next (.i (by repeat constructor)) ?_
    refine ED.take 12 rfl (by decide +kernel) CutX.no_panic (by decide +kernel) rfl rfl rfl (RV.assign rfl) ?_
    refine ED.done (by decide +kernel) ?_
    exact PX.cutX g ⟨rfl, trivial⟩ (.i (by repeat constructor))
  refine .gr ?_; repeat constructor
  refine PX.ret rfl Try.results64 (.cons (.tmp rfl) .nil) (fun w hs => ⟨g, rfl, ?_⟩)
  have k1 := Sat.pack (Hs := AH ga ⟨oad, ocap, bad, bcap, ps, qs⟩ en) (hs.ent (H' := AH ga ⟨oad, ocap, bad, bcap, ps, qs⟩ en ++ (BR g (s.length + 1) r.marks :: WB gs s r.steps rest ty :: R)) (.i (by repeat constructor)))
  exact k1.ent (.i (by repeat constructor))
theorem starts_c (gs : Nat) (s : List UInt8) (hs : s.length ≤ 1024) (st0 : Nat) (hst0 : st0 ≤ 1152921504606846976) (rest : List Value) (ty : TypeId) (ga : Nat) (A : AM × Nat) (x : AX A.1) (hr : A.1.Room 0) (he : A.2 < A.1.out.length) (j : Nat) (hj : j ≤ s.length) :
    Mut Try.prog 104 #[Pv gs 0, Pv ga 0, Iv (j : Nat)] [WB gs s st0 rest ty, AP ga x.1 A.2] (fun g : Nat => .slice (some ⟨g, 0, none⟩) (s.length + 1) (s.length + 1))
      (fun g => [BR g (s.length + 1) (startsM A s j st0).marks, WB gs s (startsM A s j st0).steps rest ty, AP ga x.1 A.2]) := by
  intro w0 B R w h
  obtain ⟨a, en⟩ := A
  obtain ⟨⟨oad, ocap, bad, bcap, ps, qs⟩, hv⟩ := x
  obtain ⟨ho, hb⟩ := id hv
  dsimp only at ho hb hr he ⊢
  have hout := hr.out
  have hsame := hr.same
  have hrb := hr.rb
  have hfc := flood_c gs s hs st0 hst0 rest ty a.back hr.eb (by omega) (fun l hl => by have := hrb l hl; omega) qs hb bad bcap (en, j) (by show en < _; omega) hj 0 false
  replace h : Sat w0 B (AH ga ⟨oad, ocap, bad, bcap, ps, qs⟩ en ++ (WB gs s st0 rest ty :: R)) w := Sat.unpack (h.ent (.i (by repeat constructor)))
  replace h : Sat w0 B (HA.blk ga (.cells #[.slice oad ps.length ocap, .slice bad qs.length bcap, Iv (en : Nat)] 163) :: WB gs s st0 rest ty :: OR oad ocap ps :: HA.edg ps :: OR bad bcap qs :: HA.edg qs :: R) w := h.ent (.i (by repeat constructor))
  unfold startsM
  dsimp only
  generalize floodM a.back s (en, j) 0 false st0 = r at hfc
  refine calls_of_ES TB Try.func104 rfl _ Try.ntmps104 rfl h ?_
  refine .gr ?_; repeat constructor
  refine EL.assign rfl rfl rfl ?_
  refine .gr ?_; repeat constructor
  refine ES.draw (X := Nat) (fun g => [(6, .slice (some ⟨g, 0, none⟩) (s.length + 1) (s.length + 1))]) (fun g => BR g (s.length + 1) r.marks :: WB gs s r.steps rest ty :: HA.blk ga (.cells #[.slice oad ps.length ocap, .slice bad qs.length bcap, Iv (en : Nat)] 163) :: OR oad ocap ps :: HA.edg ps :: OR bad bcap qs :: HA.edg qs :: R)
    (HA.blk ga (.cells #[.slice oad ps.length ocap, .slice bad qs.length bcap, Iv (en : Nat)] 163) :: []) mixed (.i (by repeat constructor)) ?_ (fun g => ?_)
  · refine ED.take 0 rfl (by decide +kernel) CutX.no_panic (by decide +kernel) rfl rfl rfl (RV.move rfl) ?_
    refine ED.take 1 rfl (by decide +kernel) CutX.no_panic (by decide +kernel) rfl rfl rfl (RV.move rfl) ?_
    refine ED.take 2 rfl (by decide +kernel) CutX.no_panic (by decide +kernel) rfl rfl rfl (RV.nilCheck rfl) ?_
    refine ED.take 3 rfl (by decide +kernel) CutX.no_panic (by decide +kernel) rfl rfl rfl (RV.fieldAddr rfl rfl rfl rfl rfl rfl) ?_
    refine ED.take 4 rfl (by decide +kernel) CutX.no_panic (by decide +kernel) rfl rfl rfl (RV.loadB rfl rfl rfl (by repeat constructor) rfl) ?_
    refine ED.take 5 rfl (by decide +kernel) CutX.no_panic (by decide +kernel) rfl rfl rfl (RV.move rfl) ?_
    refine ED.take 6 rfl (by decide +kernel) CutX.no_panic (by decide +kernel) rfl rfl rfl (RV.nilCheck rfl) ?_
    refine ED.take 7 rfl (by decide +kernel) CutX.no_panic (by decide +kernel) rfl rfl rfl (RV.fieldAddr rfl rfl rfl rfl rfl rfl) ?_
    refine ED.take 8 rfl (by decide +kernel) CutX.no_panic (by decide +kernel) rfl rfl rfl (RV.loadB rfl rfl rfl (by repeat constructor) rfl) ?_
    refine ED.take 9 rfl (by decide +kernel) CutX.no_panic (by decide +kernel) rfl rfl rfl (RV.move rfl) ?_
    refine ED.take 10 rfl (by decide +kernel) CutX.no_panic (by decide +kernel) rfl rfl rfl (RV.buildS #[Iv (en : Nat), Iv (j : Nat)] rfl rfl rfl rfl (by kernel_rfl)) ?_
    refine ED.loud 11 rfl (by decide +kernel) ?_
    (refine EL.callM rfl rfl rfl ent87 rfl hfc (by repeat constructor) ?_; intro g)
    refine ED.next (.i (by repeat constructor)) ?_
    refine ED.take 12 rfl (by decide +kernel) CutX.no_panic (by decide +kernel) rfl rfl rfl (RV.assign rfl) ?_
    refine ED.done (by decide +kernel) ?_
    exact PX.cutX g ⟨rfl, trivial⟩ (.i (by repeat constructor))
  refine .gr ?_; repeat constructor
  refine PX.ret rfl Try.results104 (.cons (.tmp rfl) .nil) (fun w hs => ⟨g, rfl, ?_⟩)
  have k1 := Sat.pack (Hs := AH ga ⟨oad, ocap, bad, bcap, ps, qs⟩ en) (hs.ent (H' := AH ga ⟨oad, ocap, bad, bcap, ps, qs⟩ en ++ (BR g (s.length + 1) r.marks :: WB gs s r.steps rest ty :: R)) (.i (by repeat constructor)))
  exact k1.ent (.i (by repeat constructor))
def dnL (i : Nat) : Nat → List Nat
  | 0 => []
  | n + 1 => (i + n) :: dnL i n
def splE (s : List UInt8) (hd : List RE) (i st : Nat) : FS := endsM (makeM hd) s i st
def splS (s : List UInt8) (hd tl : List RE) (i j st : Nat) : FS := startsM (makeM tl) s j (splE s hd i st).steps
def splL (s : List UInt8) (hd tl : List RE) (i j st : Nat) : List Nat := (dnL i (j + 1 - i)).filter fun p => (splE s hd i st).marks.getD p false && (splS s hd tl i j st).marks.getD p false
abbrev IR (ad : Option Addr) (cap : Nat) (l : List Nat) : HA := HA.row (.slice ad l.length cap) 3 1 l.length (l.map fun z : Nat => Iv (z : Nat))
structure SPL where
  n : Nat
  l : List Nat
  ad : Option Addr
  cap : Nat
abbrev RowRd (w0 : World) (B : Nat) (T : HA) (ad : Option Addr) (ks : List RE) : Prop := ∀ (w : World) (H : List HA), Sat w0 B (T :: H) w → ∀ i k, ks[i]? = some k → ∃ g o, ad = some ⟨g, o, none⟩ ∧ NodeRd w w.heap.size g (o + i * 9) k
theorem flood_len {es : List (List Ed)} (hes : EdsOk es) (s : List UInt8) {x0 : Nat × Nat} (h1 : x0.1 < es.length) (h2 : x0.2 ≤ s.length) (goal : Nat) (fwd : Bool) (st0 : Nat) : (floodM es s x0 goal fwd st0).marks.length = s.length + 1 := by
  obtain ⟨_, h⟩ := flood_spec hes s h1 h2 goal fwd st0
  exact h.len
theorem splits_c (gs : Nat) (s : List UInt8) (hs : s.length ≤ 1024) (st0 : Nat) (hst0 : st0 ≤ 576460752303423488) (rest : List Value) (ty : TypeId) (hd tl : List RE) (hdf : ∀ k ∈ hd, k.fine) (tlf : ∀ k ∈ tl, k.fine) (hdl : hd.length ≤ 1024) (tll : tl.length ≤ 1024) (hdc : costL hd + 1 ≤ 131072) (tlc : costL tl + 1 ≤ 131072)
    (had tad : Option Addr) (hcap tcap : Nat) (i j : Nat) (hij : i ≤ j) (hj : j ≤ s.length) (w0 : World) (B : Nat) (T : HA) (hh : RowRd w0 B T had hd) (ht : RowRd w0 B T tad tl) :
    MutAt Try.prog 92 #[Pv gs 0, .slice had hd.length hcap, .slice tad tl.length tcap, Iv (i : Nat), Iv (j : Nat)] [WB gs s st0 rest ty, T] (fun z : Option Addr × Nat => .slice z.1 (splL s hd tl i j st0).length z.2)
      (fun z => [IR z.1 z.2 (splL s hd tl i j st0), WB gs s (splS s hd tl i j st0).steps rest ty, T]) w0 B := by
  intro R w h
  replace h : Sat w0 B (WB gs s st0 rest ty :: T :: R) w := h
  have hi : i ≤ s.length := by omega
  obtain ⟨hr1, he1⟩ := make_room hd hdc
  obtain ⟨hr2, he2⟩ := make_room tl tlc
  have hE : (splE s hd i st0).steps ≤ 1152921504606846976 := by
    have := floodM_steps (es := (makeM hd).1.out) (by have := hr1.out; omega) (fun l hl => by have := hr1.ro l hl; omega) s hs (0, i) (makeM hd).2 true st0
    unfold splE endsM
    omega
  have hL : splL s hd tl i j st0 = (dnL i (j + 1 - i)).filter fun p => (splE s hd i st0).marks.getD p false && (splS s hd tl i j st0).marks.getD p false := rfl
  have hl1 : (splE s hd i st0).marks.length = s.length + 1 := flood_len hr1.eo s (by show 0 < _; omega) hi _ _ _
  have hl2 : (splS s hd tl i j st0).marks.length = s.length + 1 := flood_len hr2.eb s (by show (makeM tl).2 < _; rw [hr2.same]; exact he2) hj _ _ _
  have hec := fun ga (x : AX (makeM hd).1) => ends_c gs s hs st0 (by omega) rest ty ga (makeM hd) x hr1 he1 i hi
  have hsc := fun ga (x : AX (makeM tl).1) => starts_c gs s hs (splE s hd i st0).steps hE rest ty ga (makeM tl) x hr2 he2 j hj
  change ∀ (ga : Nat) (x : AX (makeM hd).1), Mut _ _ _ _ _ (fun g => [BR g (s.length + 1) (splE s hd i st0).marks, WB gs s (splE s hd i st0).steps rest ty, AP ga x.1 (makeM hd).2]) at hec
  change ∀ (ga : Nat) (x : AX (makeM tl).1), Mut _ _ _ _ _ (fun g => [BR g (s.length + 1) (splS s hd tl i j st0).marks, WB gs s (splS s hd tl i j st0).steps rest ty, AP ga x.1 (makeM tl).2]) at hsc
  generalize splS s hd tl i j st0 = FSs at *
  generalize splE s hd i st0 = FE at *
  generalize splL s hd tl i j st0 = L at *
  refine calls_of_ES TB Try.func92 rfl _ Try.ntmps92 rfl h ?_
  refine .gr ?_; repeat constructor
  refine EL.assign rfl rfl rfl ?_
  refine .gr ?_; repeat constructor
  refine .gr ?_; repeat constructor
  refine EL.move rfl rfl rfl ?_
  refine EL.move rfl rfl rfl ?_
  (refine EL.callXw rfl rfl rfl ent44 rfl (fun w hs => make_c hd hdf hdl hdc had hcap w (hh w [] (hs.ent (.i (by repeat constructor))))) ?_; intro m1)
  refine EL.move rfl rfl rfl ?_
  (refine EL.callM rfl rfl rfl ent64 rfl (hec m1.1 m1.2) (by repeat constructor) ?_; intro e1)
  refine EL.move rfl rfl rfl ?_
  refine EL.move rfl rfl rfl ?_
  (refine EL.callXw rfl rfl rfl ent44 rfl (fun w hs => make_c tl tlf tll tlc tad tcap w (ht w [] (hs.ent (.i (by repeat constructor))))) ?_; intro m2)
  refine EL.move rfl rfl rfl ?_
  (refine EL.callM rfl rfl rfl ent104 rfl (hsc m2.1 m2.2) (by repeat constructor) ?_; intro e2)
  refine EL.assign rfl rfl rfl ?_
  refine EL.assign rfl rfl rfl ?_
  refine .gr ?_; repeat constructor
  refine EL.nilRow 3 1 ?_
  refine .gr ?_; repeat constructor
  refine EL.assign rfl rfl rfl ?_
  refine .gr ?_; repeat constructor
  refine EL.move rfl rfl rfl ?_
  refine EL.assign rfl rfl rfl ?_
  refine .gr ?_; repeat constructor
  refine ES.loop (σ := SPL) (fun z => z.n ≤ j + 1 - i ∧ z.l ++ ((dnL i z.n).filter fun p => FE.marks.getD p false && FSs.marks.getD p false) = L ∧ z.l.length + z.n ≤ j + 1 - i)
    (fun z => [(3, Iv (i : Nat)), (11, .slice (some ⟨e1, 0, none⟩) (s.length + 1) (s.length + 1)), (12, .slice (some ⟨e2, 0, none⟩) (s.length + 1) (s.length + 1)), (13, .slice z.ad z.l.length z.cap), (14, Iv ((i : Int) + (z.n : Int) - 1))])
    (fun z => IR z.ad z.cap z.l :: BR e1 (s.length + 1) FE.marks :: BR e2 (s.length + 1) FSs.marks :: WB gs s FSs.steps rest ty :: T :: R) (fun z => z.n) ⟨j + 1 - i, [], none, 0⟩ ⟨Nat.le_refl _, hL.symm, by simp⟩
    ⟨rfl, rfl, rfl, rfl, getA rfl (congrArg Iv (by simp only; omega)), trivial⟩ (.i (by repeat constructor)) ?_
  rintro ⟨n, l, ad, cap⟩ ⟨zn, zl, zc⟩
  dsimp only at zn zl zc ⊢
  refine .gr ?_; repeat constructor
  refine EL.move rfl rfl rfl ?_
  refine EL.move rfl rfl rfl ?_
  refine EL.geq rfl rfl rfl rfl ?_
  refine .gr ?_; repeat constructor
  refine ES.condD rfl (fun hge => ?_) (fun hlt => ?_)
  rotate_left
  · obtain rfl : n = 0 := by omega
    rw [dnL, List.filter_nil, List.append_nil] at zl
    subst zl
    refine .gr ?_; repeat constructor
    refine EL.move rfl rfl rfl ?_
    refine EL.assign rfl rfl rfl ?_
    refine .gr ?_; repeat constructor
    exact PX.ret rfl Try.results92 (.cons (.tmp rfl) .nil) (fun w hs => ⟨(ad, cap), rfl, hs.ent (.i (by repeat constructor))⟩)
  obtain ⟨n, rfl⟩ : ∃ n', n = n' + 1 := ⟨n - 1, by omega⟩
  have e : (i : Int) + ((n + 1 : Nat) : Int) - 1 = ((i + n : Nat) : Int) := by omega
  rw [e]
  have hp : i + n ≤ s.length := by omega
  rw [dnL, List.filter_cons] at zl
  refine .gr ?_; repeat constructor
  refine EL.cutX (X := Unit) (fun _ => [(3, Iv (i : Nat)), (11, .slice (some ⟨e1, 0, none⟩) (s.length + 1) (s.length + 1)), (12, .slice (some ⟨e2, 0, none⟩) (s.length + 1) (s.length + 1)), (13, .slice ad l.length cap), (14, Iv ((i + n : Nat) : Int)), (40, .bool (FE.marks.getD (i + n) false && FSs.marks.getD (i + n) false))])
    (fun _ => IR ad cap l :: BR e1 (s.length + 1) FE.marks :: BR e2 (s.length + 1) FSs.marks :: WB gs s FSs.steps rest ty :: T :: R) ?_ (fun _ => ?_)
  · refine .gr ?_; repeat constructor
    refine EL.move rfl rfl rfl ?_
    refine EL.move rfl rfl rfl ?_
    refine EL.indexAddrL1 rfl rfl rfl rfl rfl rfl rfl rfl (by omega) ?_
    refine EL.ofRV (RV.loadRm (l := FE.marks) Value.bool false rfl rfl rfl (by repeat constructor) (by rw [hl1]; omega)) rfl rfl rfl (by intro c h; cases h) ?_
    refine EL.move rfl rfl rfl ?_
    first | refine EL.splitD (d := 35) rfl (fun hp35 => ?_) (fun hp35 => ?_) | refine EL.splitN (d := 35) rfl (fun hp35 => ?_) (fun hp35 => ?_) | refine EL.splitB (d := 35) rfl (fun hp35 => ?_) (fun hp35 => ?_)
    · refine EL.move rfl rfl rfl ?_
      refine EL.move rfl rfl rfl ?_
      refine EL.indexAddrL1 rfl rfl rfl rfl rfl rfl rfl rfl (by omega) ?_
      refine EL.ofRV (RV.loadRm (l := FSs.marks) Value.bool false rfl rfl rfl (by repeat constructor) (by rw [hl2]; omega)) rfl rfl rfl (by intro c h; cases h) ?_
      refine EL.pickT rfl rfl rfl rfl ?_
      exact EL.endX () ⟨rfl, rfl, rfl, rfl, rfl, getA rfl (congrArg Value.bool (by rw [hp35]; rfl)), trivial⟩ (.i (by repeat constructor))
    · refine EL.pass rfl rfl rfl ?_
      refine EL.pass rfl rfl rfl ?_
      refine EL.pass rfl rfl rfl ?_
      refine EL.pass rfl rfl rfl ?_
      refine EL.pickF rfl rfl rfl rfl ?_
      exact EL.endX () ⟨rfl, rfl, rfl, rfl, rfl, getA rfl (congrArg Value.bool (by rw [hp35]; rfl)), trivial⟩ (.i (by repeat constructor))
  refine ES.cond rfl (fun hf => ?_) (fun hf => ?_)
  · rw [if_pos hf] at zl
    refine .gr ?_; repeat constructor
    refine EL.move rfl rfl rfl ?_
    refine EL.move rfl rfl rfl ?_
    (refine EL.buildSlice1 rfl rfl rfl rfl rfl rfl rfl rfl rfl rfl ?_; intro b43)
    (refine EL.append1 rfl rfl rfl rfl rfl rfl rfl rfl rfl (by repeat constructor) (by repeat constructor) (by first | (intro u hu; simp [Value.cells] at hu; subst hu; rfl) | exact all1 rfl) (by rfl) (by unfold maxLen; omega) (by first | omega | (show 1 * _ ≤ _; omega) | (show 8 * _ ≤ _; omega) | (show 16 * _ ≤ _; omega) | (show 24 * _ ≤ _; omega) | (show _ * 1 ≤ _; omega) | (show _ * 8 ≤ _; omega) | (show _ * 16 ≤ _; omega) | (show _ * 24 ≤ _; omega) | exact Nat.le_trans (Nat.mul_le_mul_right _ (show _ ≤ 1073741824 by omega)) (by decide)) ?_; intro a44 c44)
    refine EL.assign rfl rfl rfl ?_
    refine .gr ?_; repeat constructor
    refine .gr ?_; repeat constructor
    refine EL.move rfl rfl rfl ?_
    refine EL.sub_ ((i : Int) + (n : Int) - 1) rfl rfl rfl rfl ((wrap_i64 _ (by omega) (by omega)).trans (by omega)) ?_
    refine EL.assign rfl rfl rfl ?_
    refine .gr ?_; repeat constructor
    exact PX.loop ⟨n, l ++ [i + n], some ⟨a44, 0, none⟩, c44⟩ ⟨by dsimp only; omega, by dsimp only; rw [List.append_assoc]; exact zl, by dsimp only; rw [List.length_append, List.length_singleton]; omega⟩ (by simp only; omega) ⟨rfl, rfl, rfl, getA rfl (by simp), rfl, trivial⟩ (by dsimp only; unfold IR; rw [List.length_append, List.map_append]; exact (.i (by repeat constructor)))
  · rw [if_neg (by rw [hf]; simp)] at zl
    refine .gr ?_; repeat constructor
    refine .gr ?_; repeat constructor
    refine EL.move rfl rfl rfl ?_
    refine EL.sub_ ((i : Int) + (n : Int) - 1) rfl rfl rfl rfl ((wrap_i64 _ (by omega) (by omega)).trans (by omega)) ?_
    refine EL.assign rfl rfl rfl ?_
    refine .gr ?_; repeat constructor
    exact PX.loop ⟨n, l, ad, cap⟩ ⟨by dsimp only; omega, zl, by dsimp only; omega⟩ (by simp only; omega) ⟨rfl, rfl, rfl, rfl, rfl, trivial⟩ (.i (by repeat constructor))
end Go.Proofs.Ytblpgpgbnlhjlaa
namespace Go.Proofs.Ytblpgpgbnlhjlaa
open Go Go.RowKit Sl
set_option maxRecDepth 100000
set_option maxHeartbeats 8000000
set_option linter.unusedVariables false
set_option linter.unusedSimpArgs false
attribute [local irreducible] ES EL PX wps
abbrev w64 (x : Int) : Int := IntKind.i64.wrap x
structure Me where
  pos : Int
  grp : Int
  least : Int
  most : Int
  back : Bool
  bol : Bool
  eol : Bool
def Me.cells (m : Me) : List Value := [Iv m.pos, Iv m.grp, Iv m.least, Iv m.most, .bool m.back, .bool m.bol, .bool m.eol]
def Me.zero : Me := ⟨0, 0, 0, 0, false, false, false⟩
def moreM (a b : Int) : Int := if a < 0 ∨ b < 0 then -1 else w64 (a + b)
def manyM (a h : Int) : Int := if a = 0 ∨ h = 0 then 0 else if a < 0 ∨ h < 0 then -1 else w64 (a * h)
def Me.plus (m n : Me) : Me := ⟨w64 (m.pos + n.pos), w64 (m.grp + n.grp), w64 (m.least + n.least), moreM m.most n.most, m.back || n.back, m.bol || n.bol, m.eol || n.eol⟩
def timesI (lo : Nat) (hi : Int) : Int := if hi < 0 then max (lo : Int) 1 else hi
def finM (k lo : Nat) (hi : Int) (m : Me) : Me :=
  if k = 1 then { m with pos := 1, least := 1, most := 1 }
  else if k = 2 then { m with bol := true }
  else if k = 3 then { m with eol := true }
  else if k = 4 then { m with grp := w64 (m.grp + 1) }
  else if k = 6 then { m with pos := 1, most := -1, back := true }
  else if k = 5 then { m with pos := w64 (m.pos * timesI lo hi), least := w64 (m.least * lo), most := manyM m.most hi }
  else m
mutual
def measM : RE → Me
  | .byte _ => finM 1 0 0 Me.zero
  | .bol => finM 2 0 0 Me.zero
  | .eol => finM 3 0 0 Me.zero
  | .back _ => finM 6 0 0 Me.zero
  | .cat ks => measL ks Me.zero
  | .group _ k => finM 4 0 0 (Me.zero.plus (measM k))
  | .rep lo hi k => finM 5 lo hi (Me.zero.plus (measM k))
def measL : List RE → Me → Me
  | [], m => m
  | k :: ks, m => measL ks (m.plus (measM k))
end
theorem meas_eq (r : RE) : measM r = finM r.kind r.lo r.hi (measL r.kids Me.zero) := by
  cases r <;> simp only [RE.kind, RE.lo, RE.hi, RE.kids] <;> rw [measM] <;> first | rfl | (rw [measL]; rfl) | (rw [measL, measL])
theorem more_c (a b : Int) (w : World) : Pure Try.prog 85 #[Iv a, Iv b] (fun _ : Unit => Iv (moreM a b)) (fun _ => []) w := by
  refine calls_of_ES TB Try.func85 rfl _ Try.ntmps85 rfl (Sat.start w) ?_
  refine .go ?_; repeat constructor
  refine EL.assign rfl rfl rfl ?_
  refine .go ?_; repeat constructor
  refine EL.cutX (X := Unit) (fun _ => [(0, Iv a), (1, Iv b), (10, .bool (decide (a < 0 ∨ b < 0)))]) (fun _ => []) ?_ (fun _ => ?_)
  · refine .go ?_; repeat constructor
    refine EL.move rfl rfl rfl ?_
    refine EL.lss rfl rfl rfl rfl ?_
    refine EL.move rfl rfl rfl ?_
    first | refine EL.splitD (d := 7) rfl (fun hp7 => ?_) (fun hp7 => ?_) | refine EL.splitN (d := 7) rfl (fun hp7 => ?_) (fun hp7 => ?_) | refine EL.splitB (d := 7) rfl (fun hp7 => ?_) (fun hp7 => ?_)
    · refine EL.pass rfl rfl rfl ?_
      refine EL.pass rfl rfl rfl ?_
      refine EL.pickT rfl rfl rfl rfl ?_
      exact EL.endX () ⟨rfl, rfl, getA rfl (congrArg Value.bool (by rw [Bool.eq_iff_iff]; simp only [decide_eq_true_eq, true_iff]; omega)), trivial⟩ (.i (by repeat constructor))
    · refine EL.move rfl rfl rfl ?_
      refine EL.lss rfl rfl rfl rfl ?_
      refine EL.pickF rfl rfl rfl rfl ?_
      exact EL.endX () ⟨rfl, rfl, getA rfl (congrArg Value.bool (by rw [Bool.eq_iff_iff]; simp only [decide_eq_true_eq, true_iff]; omega)), trivial⟩ (.i (by repeat constructor))
  refine ES.condD rfl (fun h => ?_) (fun h => ?_)
  · refine .go ?_; repeat constructor
    refine EL.assign rfl rfl rfl ?_
    refine .go ?_; repeat constructor
    exact PX.ret rfl Try.results85 (.cons (.tmp rfl) .nil) (fun w hs => ⟨(), by unfold moreM; rw [if_pos h]; rfl, hs.ent (.i (by repeat constructor))⟩)
  · refine .go ?_; repeat constructor
    refine EL.move rfl rfl rfl ?_
    refine EL.move rfl rfl rfl ?_
    refine EL.add (w64 (a + b)) rfl rfl rfl rfl rfl ?_
    refine EL.assign rfl rfl rfl ?_
    refine .go ?_; repeat constructor
    exact PX.ret rfl Try.results85 (.cons (.tmp rfl) .nil) (fun w hs => ⟨(), by unfold moreM; rw [if_neg h]; rfl, hs.ent (.i (by repeat constructor))⟩)
theorem many_c (a b : Int) (w : World) : Pure Try.prog 86 #[Iv a, Iv b] (fun _ : Unit => Iv (manyM a b)) (fun _ => []) w := by
  refine calls_of_ES TB Try.func86 rfl _ Try.ntmps86 rfl (Sat.start w) ?_
  refine .go ?_; repeat constructor
  refine EL.assign rfl rfl rfl ?_
  refine .go ?_; repeat constructor
  refine EL.cutX (X := Unit) (fun _ => [(0, Iv a), (1, Iv b), (5, .bool (decide (a = 0 ∨ b = 0)))]) (fun _ => []) ?_ (fun _ => ?_)
  · refine .go ?_; repeat constructor
    refine EL.move rfl rfl rfl ?_
    refine EL.eqlI rfl rfl rfl rfl ?_
    refine EL.move rfl rfl rfl ?_
    first | refine EL.splitD (d := 8) rfl (fun hp8 => ?_) (fun hp8 => ?_) | refine EL.splitN (d := 8) rfl (fun hp8 => ?_) (fun hp8 => ?_) | refine EL.splitB (d := 8) rfl (fun hp8 => ?_) (fun hp8 => ?_)
    · refine EL.pass rfl rfl rfl ?_
      refine EL.pass rfl rfl rfl ?_
      refine EL.pickT rfl rfl rfl rfl ?_
      refine EL.assign rfl rfl rfl ?_
      exact EL.endX () ⟨rfl, rfl, getA rfl (congrArg Value.bool (by rw [Bool.eq_iff_iff]; simp only [decide_eq_true_eq, true_iff]; omega)), trivial⟩ (.i (by repeat constructor))
    · refine EL.move rfl rfl rfl ?_
      refine EL.eqlI rfl rfl rfl rfl ?_
      refine EL.pickF rfl rfl rfl rfl ?_
      refine EL.assign rfl rfl rfl ?_
      exact EL.endX () ⟨rfl, rfl, getA rfl (congrArg Value.bool (by rw [Bool.eq_iff_iff]; simp only [decide_eq_true_eq, true_iff]; omega)), trivial⟩ (.i (by repeat constructor))
  refine ES.condD rfl (fun h => ?_) (fun h => ?_)
  · refine .go ?_; repeat constructor
    refine EL.assign rfl rfl rfl ?_
    refine .go ?_; repeat constructor
    exact PX.ret rfl Try.results86 (.cons (.tmp rfl) .nil) (fun w hs => ⟨(), by unfold manyM; rw [if_pos h]; rfl, hs.ent (.i (by repeat constructor))⟩)
  refine .go ?_; repeat constructor
  refine EL.cutX (X := Unit) (fun _ => [(0, Iv a), (1, Iv b), (12, .bool (decide (a < 0 ∨ b < 0)))]) (fun _ => []) ?_ (fun _ => ?_)
  · refine .go ?_; repeat constructor
    refine EL.move rfl rfl rfl ?_
    refine EL.lss rfl rfl rfl rfl ?_
    refine EL.move rfl rfl rfl ?_
    first | refine EL.splitD (d := 15) rfl (fun hp15 => ?_) (fun hp15 => ?_) | refine EL.splitN (d := 15) rfl (fun hp15 => ?_) (fun hp15 => ?_) | refine EL.splitB (d := 15) rfl (fun hp15 => ?_) (fun hp15 => ?_)
    · refine EL.pass rfl rfl rfl ?_
      refine EL.pass rfl rfl rfl ?_
      refine EL.pickT rfl rfl rfl rfl ?_
      refine EL.assign rfl rfl rfl ?_
      exact EL.endX () ⟨rfl, rfl, getA rfl (congrArg Value.bool (by rw [Bool.eq_iff_iff]; simp only [decide_eq_true_eq, true_iff]; omega)), trivial⟩ (.i (by repeat constructor))
    · refine EL.move rfl rfl rfl ?_
      refine EL.lss rfl rfl rfl rfl ?_
      refine EL.pickF rfl rfl rfl rfl ?_
      refine EL.assign rfl rfl rfl ?_
      exact EL.endX () ⟨rfl, rfl, getA rfl (congrArg Value.bool (by rw [Bool.eq_iff_iff]; simp only [decide_eq_true_eq, true_iff]; omega)), trivial⟩ (.i (by repeat constructor))
  refine ES.condD rfl (fun h2 => ?_) (fun h2 => ?_)
  · refine .go ?_; repeat constructor
    refine EL.assign rfl rfl rfl ?_
    refine .go ?_; repeat constructor
    exact PX.ret rfl Try.results86 (.cons (.tmp rfl) .nil) (fun w hs => ⟨(), by unfold manyM; rw [if_neg h, if_pos h2]; rfl, hs.ent (.i (by repeat constructor))⟩)
  · refine .go ?_; repeat constructor
    refine EL.move rfl rfl rfl ?_
    refine EL.move rfl rfl rfl ?_
    refine EL.mul (w64 (a * b)) rfl rfl rfl rfl rfl ?_
    refine EL.assign rfl rfl rfl ?_
    refine .go ?_; repeat constructor
    exact PX.ret rfl Try.results86 (.cons (.tmp rfl) .nil) (fun w hs => ⟨(), by unfold manyM; rw [if_neg h, if_neg h2]; rfl, hs.ent (.i (by repeat constructor))⟩)
structure MS where
  i : Nat
  m : Me
theorem of_n (n : Nat) : ∀ r : RE, r.sz ≤ n → r.fine → ∀ (ad : Option Addr) (cap : Nat) (w : World), KidsRd w w.heap.size r.kids ad →
    Pure Try.prog 63 #[.agg (reCells r (.slice ad r.kids.length cap)).toArray] (fun _ : Unit => .agg (measM r).cells.toArray) (fun _ => []) w := by
  induction n with
  | zero => intro r hr; exact absurd (sz_pos r) (by omega)
  | succ n ih =>
    intro r hsz hfine ad cap w hkids
    have hkl := fine_len hfine
    rw [meas_eq r]
    obtain ⟨KM, hKM⟩ : ∃ KM, KM = measL r.kids Me.zero := ⟨_, rfl⟩
    rw [← hKM]
    refine calls_of_ES TB Try.func63 rfl _ Try.ntmps63 rfl (Sat.start w) ?_
    refine .go ?_; repeat constructor
    (refine EL.box rfl rfl rfl ?_; intro g1)
    (refine EL.alloc rfl rfl rfl ?_; intro g2)
    refine .go ?_; repeat constructor
    (refine EL.alloc rfl rfl rfl ?_; intro g3)
    refine .go ?_; repeat constructor
    refine EL.fieldAddr rfl rfl rfl rfl rfl rfl rfl rfl ?_
    (apply EL.loadB; exact rfl; exact rfl; exact rfl; exact rfl; exact rfl; (case hm => repeat constructor); exact rfl)
    refine EL.lenL rfl rfl rfl rfl rfl ?_
    refine EL.move rfl rfl rfl ?_
    refine .go ?_; repeat constructor
    refine ES.loop (σ := MS) (fun z => z.i ≤ r.kids.length ∧ measL (r.kids.drop z.i) z.m = KM) (fun z => [(1, Pv g1 0), (2, Pv g2 0), (3, Pv g3 0), (9, .slice ad r.kids.length cap), (10, Iv (r.kids.length : Nat)), (11, Iv (z.i : Nat))])
      (fun z => HA.blk g3 (.cells z.m.cells.toArray 93) :: HA.blk g2 (.cells Me.zero.cells.toArray 93) :: HA.blk g1 (.cells (reCells r (.slice ad r.kids.length cap)).toArray 82) :: []) (fun z => r.kids.length - z.i) ⟨0, Me.zero⟩ ⟨Nat.zero_le _, by rw [List.drop_zero]; exact hKM.symm⟩ ⟨rfl, rfl, rfl, rfl, rfl, rfl, trivial⟩ (.i (by repeat constructor)) ?_
    rintro ⟨i, m⟩ ⟨hi, hgo⟩
    dsimp only at hi hgo ⊢
    refine .go ?_; repeat constructor
    refine EL.lss rfl rfl rfl rfl ?_
    refine .go ?_; repeat constructor
    refine ES.condD rfl (fun hlt => ?_) (fun hge => ?_)
    · have hlt' : i < r.kids.length := by omega
      obtain ⟨k, hki⟩ : ∃ k, r.kids[i]? = some k := ⟨_, List.getElem?_eq_getElem hlt'⟩
      have hmem := List.mem_of_getElem? hki
      have hks := kids_lt hmem
      obtain ⟨kg, ko, rfl, hkn⟩ := hkids i k hki
      obtain ⟨kad, kcap, hkrd, hkk⟩ := hkn.kids
      have hkrd2 : Rd w w.heap.size (some ⟨kg, ko + i * 9, none⟩) (reCells k (.slice kad k.kids.length kcap)) := hkrd.rd
      rw [List.drop_eq_getElem_cons hlt', show r.kids[i] = k from (List.getElem?_eq_some_iff.1 hki).2, measL] at hgo
      have hrec := ih k (by omega) (fine_kid hfine hmem) kad kcap
      generalize measM k = n at hgo hrec
      refine .go ?_; repeat constructor
      refine EL.indexAddrL rfl rfl rfl rfl rfl rfl rfl (by omega) ?_
      refine EL.loadOldA (j := 0) (vs := reCells k (.slice kad k.kids.length kcap)) rfl rfl rfl rfl rfl (by simp [reCells]) rfl hkrd2 (fun i u hi => by rw [Nat.zero_add]; exact hi) ?_
      (refine EL.alloc rfl rfl rfl ?_; intro g5)
      (apply EL.storeAll; exact rfl; exact rfl; exact rfl; exact rfl; exact rfl; (case p => repeat constructor); exact rfl; (case h1 => exact (by first | rfl | exact all1 rfl | (intro u hu; simp only [List.mem_cons, List.not_mem_nil, or_false] at hu; rcases hu with rfl | rfl | rfl | rfl <;> rfl) | (intro u hu; simp at hu; rcases hu with rfl | rfl | rfl | rfl <;> rfl) | (intro u hu; simp at hu; rcases hu with rfl | rfl | rfl <;> rfl) | (intro u hu; simp at hu; rcases hu with rfl | rfl <;> rfl) | (intro u hu; simp at hu; obtain ⟨_, _, rfl⟩ := hu; rfl))))
      refine .go ?_; repeat constructor
      refine .go ?_; repeat constructor
      (apply EL.loadAggB; exact rfl; exact rfl; exact rfl; exact rfl; exact rfl; (case hm => repeat constructor); exact rfl)
      refine EL.callPw rfl rfl rfl ent63 rfl (fun w' hs => hrec w' (fun i' k' hi' => by obtain ⟨g', o', e1, e2⟩ := hkk (by intro e; rw [e] at hi'; simp at hi'); exact ⟨g', o', e1, NodeRd.sat (e2 i' k' hi') hs⟩)) ?_
      (refine EL.alloc rfl rfl rfl ?_; intro g6)
      (apply EL.storeAll; exact rfl; exact rfl; exact rfl; exact rfl; exact rfl; (case p => repeat constructor); exact rfl; (case h1 => exact (by first | rfl | exact all1 rfl | (intro u hu; simp only [List.mem_cons, List.not_mem_nil, or_false] at hu; rcases hu with rfl | rfl | rfl | rfl <;> rfl) | (intro u hu; simp at hu; rcases hu with rfl | rfl | rfl | rfl <;> rfl) | (intro u hu; simp at hu; rcases hu with rfl | rfl | rfl <;> rfl) | (intro u hu; simp at hu; rcases hu with rfl | rfl <;> rfl) | (intro u hu; simp at hu; obtain ⟨_, _, rfl⟩ := hu; rfl))))
      refine .go ?_; repeat constructor
      refine .go ?_; repeat constructor
      refine EL.fieldAddr rfl rfl rfl rfl rfl rfl rfl rfl ?_
      (apply EL.loadB; exact rfl; exact rfl; exact rfl; exact rfl; exact rfl; (case hm => repeat constructor); exact rfl)
      refine EL.fieldAddr rfl rfl rfl rfl rfl rfl rfl rfl ?_
      (apply EL.loadB; exact rfl; exact rfl; exact rfl; exact rfl; exact rfl; (case hm => repeat constructor); exact rfl)
      refine EL.add (w64 (m.pos + n.pos)) rfl rfl rfl rfl rfl ?_
      refine EL.fieldAddr rfl rfl rfl rfl rfl rfl rfl rfl ?_
      (apply EL.storeB; exact rfl; exact rfl; exact rfl; exact rfl; exact rfl; exact rfl; (case p => repeat constructor); exact (by first | decide | exact Nat.le_of_ble_eq_true rfl | simp))
      refine .go ?_; repeat constructor
      refine EL.fieldAddr rfl rfl rfl rfl rfl rfl rfl rfl ?_
      (apply EL.loadB; exact rfl; exact rfl; exact rfl; exact rfl; exact rfl; (case hm => repeat constructor); exact rfl)
      refine EL.fieldAddr rfl rfl rfl rfl rfl rfl rfl rfl ?_
      (apply EL.loadB; exact rfl; exact rfl; exact rfl; exact rfl; exact rfl; (case hm => repeat constructor); exact rfl)
      refine EL.add (w64 (m.grp + n.grp)) rfl rfl rfl rfl rfl ?_
      refine EL.fieldAddr rfl rfl rfl rfl rfl rfl rfl rfl ?_
      (apply EL.storeB; exact rfl; exact rfl; exact rfl; exact rfl; exact rfl; exact rfl; (case p => repeat constructor); exact (by first | decide | exact Nat.le_of_ble_eq_true rfl | simp))
      refine .go ?_; repeat constructor
      refine EL.fieldAddr rfl rfl rfl rfl rfl rfl rfl rfl ?_
      (apply EL.loadB; exact rfl; exact rfl; exact rfl; exact rfl; exact rfl; (case hm => repeat constructor); exact rfl)
      refine EL.fieldAddr rfl rfl rfl rfl rfl rfl rfl rfl ?_
      (apply EL.loadB; exact rfl; exact rfl; exact rfl; exact rfl; exact rfl; (case hm => repeat constructor); exact rfl)
      refine EL.add (w64 (m.least + n.least)) rfl rfl rfl rfl rfl ?_
      refine EL.fieldAddr rfl rfl rfl rfl rfl rfl rfl rfl ?_
      (apply EL.storeB; exact rfl; exact rfl; exact rfl; exact rfl; exact rfl; exact rfl; (case p => repeat constructor); exact (by first | decide | exact Nat.le_of_ble_eq_true rfl | simp))
      refine .go ?_; repeat constructor
      refine EL.fieldAddr rfl rfl rfl rfl rfl rfl rfl rfl ?_
      (apply EL.loadB; exact rfl; exact rfl; exact rfl; exact rfl; exact rfl; (case hm => repeat constructor); exact rfl)
      refine EL.fieldAddr rfl rfl rfl rfl rfl rfl rfl rfl ?_
      (apply EL.loadB; exact rfl; exact rfl; exact rfl; exact rfl; exact rfl; (case hm => repeat constructor); exact rfl)
      refine EL.callP rfl rfl rfl ent85 rfl (more_c m.most n.most) ?_
      refine EL.fieldAddr rfl rfl rfl rfl rfl rfl rfl rfl ?_
      (apply EL.storeB; exact rfl; exact rfl; exact rfl; exact rfl; exact rfl; exact rfl; (case p => repeat constructor); exact (by first | decide | exact Nat.le_of_ble_eq_true rfl | simp))
      refine .go ?_; repeat constructor
      refine EL.cutX (X := Unit) (fun _ => [(1, Pv g1 0), (2, Pv g2 0), (3, Pv g3 0), (9, .slice (some ⟨kg, ko, none⟩) r.kids.length cap), (10, Iv (r.kids.length : Nat)), (11, Iv (i : Nat)), (6, Pv g6 0)]) (fun _ => HA.blk g3 (.cells #[Iv (w64 (m.pos + n.pos)), Iv (w64 (m.grp + n.grp)), Iv (w64 (m.least + n.least)), Iv (moreM m.most n.most), .bool (m.back || n.back), .bool (m.bol), .bool (m.eol)] 93) :: HA.blk g6 (.cells n.cells.toArray 93) :: HA.blk g2 (.cells Me.zero.cells.toArray 93) :: HA.blk g1 (.cells (reCells r (.slice (some ⟨kg, ko, none⟩) r.kids.length cap)).toArray 82) :: []) ?_ (fun _ => ?_)
      · refine .go ?_; repeat constructor
        refine EL.fieldAddr rfl rfl rfl rfl rfl rfl rfl rfl ?_
        (apply EL.loadB; exact rfl; exact rfl; exact rfl; exact rfl; exact rfl; (case hm => repeat constructor); exact rfl)
        refine EL.move rfl rfl rfl ?_
        first | refine EL.splitD (d := 43) rfl (fun hp43 => ?_) (fun hp43 => ?_) | refine EL.splitN (d := 43) rfl (fun hp43 => ?_) (fun hp43 => ?_) | refine EL.splitB (d := 43) rfl (fun hp43 => ?_) (fun hp43 => ?_)
        · refine EL.pass rfl rfl rfl ?_
          refine EL.pass rfl rfl rfl ?_
          refine EL.pickT rfl rfl rfl rfl ?_
          refine EL.fieldAddr rfl rfl rfl rfl rfl rfl rfl rfl ?_
          (apply EL.storeB; exact rfl; exact rfl; exact rfl; exact rfl; exact rfl; exact rfl; (case p => repeat constructor); exact (by first | decide | exact Nat.le_of_ble_eq_true rfl | simp))
          exact EL.endX () ⟨rfl, rfl, rfl, rfl, rfl, rfl, rfl, trivial⟩ (by rw [hp43]; exact (.i (by repeat constructor)))
        · refine EL.fieldAddr rfl rfl rfl rfl rfl rfl rfl rfl ?_
          (apply EL.loadB; exact rfl; exact rfl; exact rfl; exact rfl; exact rfl; (case hm => repeat constructor); exact rfl)
          refine EL.pickF rfl rfl rfl rfl ?_
          refine EL.fieldAddr rfl rfl rfl rfl rfl rfl rfl rfl ?_
          (apply EL.storeB; exact rfl; exact rfl; exact rfl; exact rfl; exact rfl; exact rfl; (case p => repeat constructor); exact (by first | decide | exact Nat.le_of_ble_eq_true rfl | simp))
          exact EL.endX () ⟨rfl, rfl, rfl, rfl, rfl, rfl, rfl, trivial⟩ (by rw [hp43]; exact (.i (by repeat constructor)))
      refine .go ?_; repeat constructor
      refine EL.cutX (X := Unit) (fun _ => [(1, Pv g1 0), (2, Pv g2 0), (3, Pv g3 0), (9, .slice (some ⟨kg, ko, none⟩) r.kids.length cap), (10, Iv (r.kids.length : Nat)), (11, Iv (i : Nat)), (6, Pv g6 0)]) (fun _ => HA.blk g3 (.cells #[Iv (w64 (m.pos + n.pos)), Iv (w64 (m.grp + n.grp)), Iv (w64 (m.least + n.least)), Iv (moreM m.most n.most), .bool (m.back || n.back), .bool (m.bol || n.bol), .bool (m.eol)] 93) :: HA.blk g6 (.cells n.cells.toArray 93) :: HA.blk g2 (.cells Me.zero.cells.toArray 93) :: HA.blk g1 (.cells (reCells r (.slice (some ⟨kg, ko, none⟩) r.kids.length cap)).toArray 82) :: []) ?_ (fun _ => ?_)
      · refine .go ?_; repeat constructor
        refine EL.fieldAddr rfl rfl rfl rfl rfl rfl rfl rfl ?_
        (apply EL.loadB; exact rfl; exact rfl; exact rfl; exact rfl; exact rfl; (case hm => repeat constructor); exact rfl)
        refine EL.move rfl rfl rfl ?_
        first | refine EL.splitD (d := 50) rfl (fun hp50 => ?_) (fun hp50 => ?_) | refine EL.splitN (d := 50) rfl (fun hp50 => ?_) (fun hp50 => ?_) | refine EL.splitB (d := 50) rfl (fun hp50 => ?_) (fun hp50 => ?_)
        · refine EL.pass rfl rfl rfl ?_
          refine EL.pass rfl rfl rfl ?_
          refine EL.pickT rfl rfl rfl rfl ?_
          refine EL.fieldAddr rfl rfl rfl rfl rfl rfl rfl rfl ?_
          (apply EL.storeB; exact rfl; exact rfl; exact rfl; exact rfl; exact rfl; exact rfl; (case p => repeat constructor); exact (by first | decide | exact Nat.le_of_ble_eq_true rfl | simp))
          exact EL.endX () ⟨rfl, rfl, rfl, rfl, rfl, rfl, rfl, trivial⟩ (by rw [hp50]; exact (.i (by repeat constructor)))
        · refine EL.fieldAddr rfl rfl rfl rfl rfl rfl rfl rfl ?_
          (apply EL.loadB; exact rfl; exact rfl; exact rfl; exact rfl; exact rfl; (case hm => repeat constructor); exact rfl)
          refine EL.pickF rfl rfl rfl rfl ?_
          refine EL.fieldAddr rfl rfl rfl rfl rfl rfl rfl rfl ?_
          (apply EL.storeB; exact rfl; exact rfl; exact rfl; exact rfl; exact rfl; exact rfl; (case p => repeat constructor); exact (by first | decide | exact Nat.le_of_ble_eq_true rfl | simp))
          exact EL.endX () ⟨rfl, rfl, rfl, rfl, rfl, rfl, rfl, trivial⟩ (by rw [hp50]; exact (.i (by repeat constructor)))
      refine .go ?_; repeat constructor
      refine EL.cutX (X := Unit) (fun _ => [(1, Pv g1 0), (2, Pv g2 0), (3, Pv g3 0), (9, .slice (some ⟨kg, ko, none⟩) r.kids.length cap), (10, Iv (r.kids.length : Nat)), (11, Iv (i : Nat)), (6, Pv g6 0)]) (fun _ => HA.blk g3 (.cells #[Iv (w64 (m.pos + n.pos)), Iv (w64 (m.grp + n.grp)), Iv (w64 (m.least + n.least)), Iv (moreM m.most n.most), .bool (m.back || n.back), .bool (m.bol || n.bol), .bool (m.eol || n.eol)] 93) :: HA.blk g6 (.cells n.cells.toArray 93) :: HA.blk g2 (.cells Me.zero.cells.toArray 93) :: HA.blk g1 (.cells (reCells r (.slice (some ⟨kg, ko, none⟩) r.kids.length cap)).toArray 82) :: []) ?_ (fun _ => ?_)
      · refine .go ?_; repeat constructor
        refine EL.fieldAddr rfl rfl rfl rfl rfl rfl rfl rfl ?_
        (apply EL.loadB; exact rfl; exact rfl; exact rfl; exact rfl; exact rfl; (case hm => repeat constructor); exact rfl)
        refine EL.move rfl rfl rfl ?_
        first | refine EL.splitD (d := 57) rfl (fun hp57 => ?_) (fun hp57 => ?_) | refine EL.splitN (d := 57) rfl (fun hp57 => ?_) (fun hp57 => ?_) | refine EL.splitB (d := 57) rfl (fun hp57 => ?_) (fun hp57 => ?_)
        · refine EL.pass rfl rfl rfl ?_
          refine EL.pass rfl rfl rfl ?_
          refine EL.pickT rfl rfl rfl rfl ?_
          refine EL.fieldAddr rfl rfl rfl rfl rfl rfl rfl rfl ?_
          (apply EL.storeB; exact rfl; exact rfl; exact rfl; exact rfl; exact rfl; exact rfl; (case p => repeat constructor); exact (by first | decide | exact Nat.le_of_ble_eq_true rfl | simp))
          exact EL.endX () ⟨rfl, rfl, rfl, rfl, rfl, rfl, rfl, trivial⟩ (by rw [hp57]; exact (.i (by repeat constructor)))
        · refine EL.fieldAddr rfl rfl rfl rfl rfl rfl rfl rfl ?_
          (apply EL.loadB; exact rfl; exact rfl; exact rfl; exact rfl; exact rfl; (case hm => repeat constructor); exact rfl)
          refine EL.pickF rfl rfl rfl rfl ?_
          refine EL.fieldAddr rfl rfl rfl rfl rfl rfl rfl rfl ?_
          (apply EL.storeB; exact rfl; exact rfl; exact rfl; exact rfl; exact rfl; exact rfl; (case p => repeat constructor); exact (by first | decide | exact Nat.le_of_ble_eq_true rfl | simp))
          exact EL.endX () ⟨rfl, rfl, rfl, rfl, rfl, rfl, rfl, trivial⟩ (by rw [hp57]; exact (.i (by repeat constructor)))
      refine .go ?_; repeat constructor
      refine EL.add1 rfl rfl rfl rfl (by omega) ?_
      refine EL.move rfl rfl rfl ?_
      refine .go ?_; repeat constructor
      exact PX.loop ⟨i + 1, m.plus n⟩ ⟨hlt', hgo⟩ (by simp only; omega) ⟨rfl, rfl, rfl, rfl, rfl, rfl, trivial⟩ (.i (by repeat constructor))
    · obtain rfl : i = r.kids.length := by omega
      rw [List.drop_length, measL] at hgo
      subst hgo
      refine .go ?_; repeat constructor
      refine EL.fieldAddr rfl rfl rfl rfl rfl rfl rfl rfl ?_
      (apply EL.loadB; exact rfl; exact rfl; exact rfl; exact rfl; exact rfl; (case hm => repeat constructor); exact rfl)
      repeat (first | apply EL.nil | apply ES.seq | apply ES.skip)
      refine ES.cutC (X := Unit) (fun _ => [(1, Pv g1 0), (2, Pv g2 0), (3, Pv g3 0)]) (fun _ => HA.blk g3 (.cells (finM r.kind r.lo r.hi m).cells.toArray 93) :: HA.blk g2 (.cells Me.zero.cells.toArray 93) :: HA.blk g1 (.cells (reCells r (.slice ad r.kids.length cap)).toArray 82) :: []) ?_ (fun _ => ?_)
      · refine .go ?_; repeat constructor
        refine EL.eqlI rfl rfl rfl rfl ?_
        refine EL.assign rfl rfl rfl ?_
        refine .go ?_; repeat constructor
        refine ES.condD rfl (fun h1 => ?_) (fun h1 => ?_)
        · have hk : r.kind = 1 := by have h : ((r.kind : Nat) : Int) = 1 := h1; omega
          have e : finM r.kind r.lo r.hi m = { m with pos := 1, least := 1, most := 1 } := by rw [hk]; rfl
          rw [e]
          refine .go ?_; repeat constructor
          refine EL.fieldAddr rfl rfl rfl rfl rfl rfl rfl rfl ?_
          (apply EL.storeB; exact rfl; exact rfl; exact rfl; exact rfl; exact rfl; exact rfl; (case p => repeat constructor); exact (by first | decide | exact Nat.le_of_ble_eq_true rfl | simp))
          refine EL.fieldAddr rfl rfl rfl rfl rfl rfl rfl rfl ?_
          (apply EL.storeB; exact rfl; exact rfl; exact rfl; exact rfl; exact rfl; exact rfl; (case p => repeat constructor); exact (by first | decide | exact Nat.le_of_ble_eq_true rfl | simp))
          refine EL.fieldAddr rfl rfl rfl rfl rfl rfl rfl rfl ?_
          (apply EL.storeB; exact rfl; exact rfl; exact rfl; exact rfl; exact rfl; exact rfl; (case p => repeat constructor); exact (by first | decide | exact Nat.le_of_ble_eq_true rfl | simp))
          refine .go ?_; repeat constructor
          exact PX.cutX () ⟨rfl, rfl, rfl, trivial⟩ (.i (by repeat constructor))
        have hk1 : ¬ r.kind = 1 := by have h : ¬ ((r.kind : Nat) : Int) = 1 := h1; omega
        refine .go ?_; repeat constructor
        refine EL.eqlI rfl rfl rfl rfl ?_
        refine EL.assign rfl rfl rfl ?_
        refine .go ?_; repeat constructor
        refine ES.condD rfl (fun h2 => ?_) (fun h2 => ?_)
        · have hk : r.kind = 2 := by have h : ((r.kind : Nat) : Int) = 2 := h2; omega
          have e : finM r.kind r.lo r.hi m = { m with bol := true } := by rw [hk]; rfl
          rw [e]
          refine .go ?_; repeat constructor
          refine EL.fieldAddr rfl rfl rfl rfl rfl rfl rfl rfl ?_
          (apply EL.storeB; exact rfl; exact rfl; exact rfl; exact rfl; exact rfl; exact rfl; (case p => repeat constructor); exact (by first | decide | exact Nat.le_of_ble_eq_true rfl | simp))
          refine .go ?_; repeat constructor
          exact PX.cutX () ⟨rfl, rfl, rfl, trivial⟩ (.i (by repeat constructor))
        have hk2 : ¬ r.kind = 2 := by have h : ¬ ((r.kind : Nat) : Int) = 2 := h2; omega
        refine .go ?_; repeat constructor
        refine EL.eqlI rfl rfl rfl rfl ?_
        refine EL.assign rfl rfl rfl ?_
        refine .go ?_; repeat constructor
        refine ES.condD rfl (fun h3 => ?_) (fun h3 => ?_)
        · have hk : r.kind = 3 := by have h : ((r.kind : Nat) : Int) = 3 := h3; omega
          have e : finM r.kind r.lo r.hi m = { m with eol := true } := by rw [hk]; rfl
          rw [e]
          refine .go ?_; repeat constructor
          refine EL.fieldAddr rfl rfl rfl rfl rfl rfl rfl rfl ?_
          (apply EL.storeB; exact rfl; exact rfl; exact rfl; exact rfl; exact rfl; exact rfl; (case p => repeat constructor); exact (by first | decide | exact Nat.le_of_ble_eq_true rfl | simp))
          refine .go ?_; repeat constructor
          exact PX.cutX () ⟨rfl, rfl, rfl, trivial⟩ (.i (by repeat constructor))
        have hk3 : ¬ r.kind = 3 := by have h : ¬ ((r.kind : Nat) : Int) = 3 := h3; omega
        refine .go ?_; repeat constructor
        refine EL.eqlI rfl rfl rfl rfl ?_
        refine EL.assign rfl rfl rfl ?_
        refine .go ?_; repeat constructor
        refine ES.condD rfl (fun h4 => ?_) (fun h4 => ?_)
        · have hk : r.kind = 4 := by have h : ((r.kind : Nat) : Int) = 4 := h4; omega
          have e : finM r.kind r.lo r.hi m = { m with grp := w64 (m.grp + 1) } := by rw [hk]; rfl
          rw [e]
          refine .go ?_; repeat constructor
          refine EL.fieldAddr rfl rfl rfl rfl rfl rfl rfl rfl ?_
          (apply EL.loadB; exact rfl; exact rfl; exact rfl; exact rfl; exact rfl; (case hm => repeat constructor); exact rfl)
          refine EL.add (w64 (m.grp + 1)) rfl rfl rfl rfl rfl ?_
          refine EL.fieldAddr rfl rfl rfl rfl rfl rfl rfl rfl ?_
          (apply EL.storeB; exact rfl; exact rfl; exact rfl; exact rfl; exact rfl; exact rfl; (case p => repeat constructor); exact (by first | decide | exact Nat.le_of_ble_eq_true rfl | simp))
          refine .go ?_; repeat constructor
          exact PX.cutX () ⟨rfl, rfl, rfl, trivial⟩ (.i (by repeat constructor))
        have hk4 : ¬ r.kind = 4 := by have h : ¬ ((r.kind : Nat) : Int) = 4 := h4; omega
        refine .go ?_; repeat constructor
        refine EL.eqlI rfl rfl rfl rfl ?_
        refine EL.assign rfl rfl rfl ?_
        refine .go ?_; repeat constructor
        refine ES.condD rfl (fun h6 => ?_) (fun h6 => ?_)
        · have hk : r.kind = 6 := by have h : ((r.kind : Nat) : Int) = 6 := h6; omega
          have e : finM r.kind r.lo r.hi m = { m with pos := 1, most := -1, back := true } := by rw [hk]; rfl
          rw [e]
          refine .go ?_; repeat constructor
          refine EL.fieldAddr rfl rfl rfl rfl rfl rfl rfl rfl ?_
          (apply EL.storeB; exact rfl; exact rfl; exact rfl; exact rfl; exact rfl; exact rfl; (case p => repeat constructor); exact (by first | decide | exact Nat.le_of_ble_eq_true rfl | simp))
          refine EL.fieldAddr rfl rfl rfl rfl rfl rfl rfl rfl ?_
          (apply EL.storeB; exact rfl; exact rfl; exact rfl; exact rfl; exact rfl; exact rfl; (case p => repeat constructor); exact (by first | decide | exact Nat.le_of_ble_eq_true rfl | simp))
          refine EL.fieldAddr rfl rfl rfl rfl rfl rfl rfl rfl ?_
          (apply EL.storeB; exact rfl; exact rfl; exact rfl; exact rfl; exact rfl; exact rfl; (case p => repeat constructor); exact (by first | decide | exact Nat.le_of_ble_eq_true rfl | simp))
          refine .go ?_; repeat constructor
          exact PX.cutX () ⟨rfl, rfl, rfl, trivial⟩ (.i (by repeat constructor))
        have hk6 : ¬ r.kind = 6 := by have h : ¬ ((r.kind : Nat) : Int) = 6 := h6; omega
        refine .go ?_; repeat constructor
        refine EL.eqlI rfl rfl rfl rfl ?_
        refine EL.assign rfl rfl rfl ?_
        refine .go ?_; repeat constructor
        refine ES.condD rfl (fun h5 => ?_) (fun h5 => ?_)
        rotate_left
        · have hk5 : ¬ r.kind = 5 := by have h : ¬ ((r.kind : Nat) : Int) = 5 := h5; omega
          have e : finM r.kind r.lo r.hi m = m := by unfold finM; rw [if_neg hk1, if_neg hk2, if_neg hk3, if_neg hk4, if_neg hk6, if_neg hk5]
          rw [e]
          refine .go ?_; repeat constructor
          exact PX.cutX () ⟨rfl, rfl, rfl, trivial⟩ (.i (by repeat constructor))
        have hk : r.kind = 5 := by have h : ((r.kind : Nat) : Int) = 5 := h5; omega
        have e : finM r.kind r.lo r.hi m = { m with pos := w64 (m.pos * timesI r.lo r.hi), least := w64 (m.least * r.lo), most := manyM m.most r.hi } := by rw [hk]; rfl
        rw [e]
        refine .go ?_; repeat constructor
        refine EL.fieldAddr rfl rfl rfl rfl rfl rfl rfl rfl ?_
        (apply EL.loadB; exact rfl; exact rfl; exact rfl; exact rfl; exact rfl; (case hm => repeat constructor); exact rfl)
        refine EL.assign rfl rfl rfl ?_
        refine .go ?_; repeat constructor
        refine EL.move rfl rfl rfl ?_
        refine EL.lss rfl rfl rfl rfl ?_
        refine .go ?_; repeat constructor
        refine ES.cutC (X := Unit) (fun _ => [(1, Pv g1 0), (2, Pv g2 0), (3, Pv g3 0), (7, Iv (timesI r.lo r.hi))]) (fun _ => HA.blk g3 (.cells m.cells.toArray 93) :: HA.blk g2 (.cells Me.zero.cells.toArray 93) :: HA.blk g1 (.cells (reCells r (.slice ad r.kids.length cap)).toArray 82) :: []) ?_ (fun _ => ?_)
        · refine ES.condD rfl (fun hneg => ?_) (fun hpos => ?_)
          · refine .go ?_; repeat constructor
            refine EL.fieldAddr rfl rfl rfl rfl rfl rfl rfl rfl ?_
            (apply EL.loadB; exact rfl; exact rfl; exact rfl; exact rfl; exact rfl; (case hm => repeat constructor); exact rfl)
            refine EL.ofRV (RV.maxI rfl rfl) rfl rfl rfl (by intro c h; cases h) ?_
            refine EL.assign rfl rfl rfl ?_
            refine .go ?_; repeat constructor
            exact PX.cutX () ⟨rfl, rfl, rfl, getA rfl (congrArg Iv (by unfold timesI; rw [if_pos hneg])), trivial⟩ (.i (by repeat constructor))
          · refine .go ?_; repeat constructor
            exact PX.cutX () ⟨rfl, rfl, rfl, getA rfl (congrArg Iv (by unfold timesI; rw [if_neg hpos])), trivial⟩ (.i (by repeat constructor))
        refine .go ?_; repeat constructor
        refine EL.fieldAddr rfl rfl rfl rfl rfl rfl rfl rfl ?_
        (apply EL.loadB; exact rfl; exact rfl; exact rfl; exact rfl; exact rfl; (case hm => repeat constructor); exact rfl)
        refine EL.move rfl rfl rfl ?_
        refine EL.mul (w64 (m.pos * timesI r.lo r.hi)) rfl rfl rfl rfl rfl ?_
        refine EL.fieldAddr rfl rfl rfl rfl rfl rfl rfl rfl ?_
        (apply EL.storeB; exact rfl; exact rfl; exact rfl; exact rfl; exact rfl; exact rfl; (case p => repeat constructor); exact (by first | decide | exact Nat.le_of_ble_eq_true rfl | simp))
        refine .go ?_; repeat constructor
        refine EL.fieldAddr rfl rfl rfl rfl rfl rfl rfl rfl ?_
        (apply EL.loadB; exact rfl; exact rfl; exact rfl; exact rfl; exact rfl; (case hm => repeat constructor); exact rfl)
        refine EL.fieldAddr rfl rfl rfl rfl rfl rfl rfl rfl ?_
        (apply EL.loadB; exact rfl; exact rfl; exact rfl; exact rfl; exact rfl; (case hm => repeat constructor); exact rfl)
        refine EL.mul (w64 (m.least * r.lo)) rfl rfl rfl rfl rfl ?_
        refine EL.fieldAddr rfl rfl rfl rfl rfl rfl rfl rfl ?_
        (apply EL.storeB; exact rfl; exact rfl; exact rfl; exact rfl; exact rfl; exact rfl; (case p => repeat constructor); exact (by first | decide | exact Nat.le_of_ble_eq_true rfl | simp))
        refine .go ?_; repeat constructor
        refine EL.fieldAddr rfl rfl rfl rfl rfl rfl rfl rfl ?_
        (apply EL.loadB; exact rfl; exact rfl; exact rfl; exact rfl; exact rfl; (case hm => repeat constructor); exact rfl)
        refine EL.fieldAddr rfl rfl rfl rfl rfl rfl rfl rfl ?_
        (apply EL.loadB; exact rfl; exact rfl; exact rfl; exact rfl; exact rfl; (case hm => repeat constructor); exact rfl)
        refine EL.callP rfl rfl rfl ent86 rfl (many_c m.most r.hi) ?_
        refine EL.fieldAddr rfl rfl rfl rfl rfl rfl rfl rfl ?_
        (apply EL.storeB; exact rfl; exact rfl; exact rfl; exact rfl; exact rfl; exact rfl; (case p => repeat constructor); exact (by first | decide | exact Nat.le_of_ble_eq_true rfl | simp))
        refine .go ?_; repeat constructor
        exact PX.cutX () ⟨rfl, rfl, rfl, trivial⟩ (.i (by repeat constructor))
      refine .go ?_; repeat constructor
      (apply EL.loadAggB; exact rfl; exact rfl; exact rfl; exact rfl; exact rfl; (case hm => repeat constructor); exact rfl)
      (apply EL.storeAll; exact rfl; exact rfl; exact rfl; exact rfl; exact rfl; (case p => repeat constructor); exact rfl; (case h1 => exact (by first | rfl | exact all1 rfl | (intro u hu; simp only [List.mem_cons, List.not_mem_nil, or_false] at hu; rcases hu with rfl | rfl | rfl | rfl <;> rfl) | (intro u hu; simp at hu; rcases hu with rfl | rfl | rfl | rfl <;> rfl) | (intro u hu; simp at hu; rcases hu with rfl | rfl | rfl <;> rfl) | (intro u hu; simp at hu; rcases hu with rfl | rfl <;> rfl) | (intro u hu; simp at hu; obtain ⟨_, _, rfl⟩ := hu; rfl))))
      refine .go ?_; repeat constructor
      exact PX.ret rfl Try.results63 (.cons (.blkA rfl rfl rfl (by repeat constructor) rfl) .nil) (fun w hs => ⟨(), rfl, hs.ent (.i (by repeat constructor))⟩)
theorem meas_c (r : RE) (hf : r.fine) (ad : Option Addr) (cap : Nat) (w : World) (h : KidsRd w w.heap.size r.kids ad) : Pure Try.prog 63 #[.agg (reCells r (.slice ad r.kids.length cap)).toArray] (fun _ : Unit => .agg (measM r).cells.toArray) (fun _ => []) w := of_n r.sz r (Nat.le_refl _) hf ad cap w h
def ofM (t : List UInt8) : Me × Int × Nat := if (parseM t).e ≠ 0 then (Me.zero, (parseM t).e, (parseM t).at_) else (measM (parseM t).tree, 0, 0)
theorem measOf_c (t : List UInt8) (ht : t.length ≤ 4611686018427387904) (w : World) (hG : GR w w.heap.size) :
    Pure Try.prog 42 #[Sv t] (fun _ : Unit => .tuple #[.agg (ofM t).1.cells.toArray, .agg #[Iv (ofM t).2.1, Iv ((ofM t).2.2 : Nat)]]) (fun _ => []) w := by
  have hw : ofM t = if (parseM t).e ≠ 0 then (Me.zero, (parseM t).e, (parseM t).at_) else (measM (parseM t).tree, 0, 0) := rfl
  have hpf := parse_fine t
  have hpc := fun w hG => parse_c t ht w hG
  generalize parseM t = p at hw hpf hpc
  obtain ⟨tree, pe, pat⟩ := p
  dsimp only at hw hpf hpc
  refine calls_of_ES TB Try.func42 rfl _ Try.ntmps42 rfl (Sat.start w) ?_
  refine .go ?_; repeat constructor
  (refine EL.alloc rfl rfl rfl ?_; intro g2)
  (refine EL.alloc rfl rfl rfl ?_; intro g3)
  refine .go ?_; repeat constructor
  refine EL.move rfl rfl rfl ?_
  (refine EL.callXw rfl rfl rfl ent40 rfl (fun w hs => hpc w (GR.sat hG hs)) ?_; intro px)
  refine EL.move rfl rfl rfl ?_
  refine EL.extract rfl rfl rfl rfl ?_
  refine EL.extract rfl rfl rfl rfl ?_
  (refine EL.alloc rfl rfl rfl ?_; intro g4)
  (refine EL.alloc rfl rfl rfl ?_; intro g5)
  (apply EL.storeAll; exact rfl; exact rfl; exact rfl; exact rfl; exact rfl; (case p => repeat constructor); exact rfl; (case h1 => exact (by first | rfl | exact all1 rfl | (intro u hu; simp only [List.mem_cons, List.not_mem_nil, or_false] at hu; rcases hu with rfl | rfl | rfl | rfl <;> rfl) | (intro u hu; simp at hu; rcases hu with rfl | rfl | rfl | rfl <;> rfl) | (intro u hu; simp at hu; rcases hu with rfl | rfl | rfl <;> rfl) | (intro u hu; simp at hu; rcases hu with rfl | rfl <;> rfl) | (intro u hu; simp at hu; obtain ⟨_, _, rfl⟩ := hu; rfl))))
  (apply EL.storeAll; exact rfl; exact rfl; exact rfl; exact rfl; exact rfl; (case p => repeat constructor); exact rfl; (case h1 => exact (by first | rfl | exact all1 rfl | (intro u hu; simp only [List.mem_cons, List.not_mem_nil, or_false] at hu; rcases hu with rfl | rfl | rfl | rfl <;> rfl) | (intro u hu; simp at hu; rcases hu with rfl | rfl | rfl | rfl <;> rfl) | (intro u hu; simp at hu; rcases hu with rfl | rfl | rfl <;> rfl) | (intro u hu; simp at hu; rcases hu with rfl | rfl <;> rfl) | (intro u hu; simp at hu; obtain ⟨_, _, rfl⟩ := hu; rfl))))
  refine .go ?_; repeat constructor
  refine .go ?_; repeat constructor
  refine EL.fieldAddr rfl rfl rfl rfl rfl rfl rfl rfl ?_
  (apply EL.loadB; exact rfl; exact rfl; exact rfl; exact rfl; exact rfl; (case hm => repeat constructor); exact rfl)
  refine EL.neqI rfl rfl rfl rfl ?_
  refine .go ?_; repeat constructor
  refine ES.condN rfl (fun hne => ?_) (fun he => ?_)
  · rw [if_pos hne] at hw
    rw [hw]
    refine .g0 ?_; repeat constructor
    refine ES.draw (X := Unit) (fun _ => [(2, Pv g2 0), (3, Pv g3 0)]) (fun _ => HA.blk g2 (.cells Me.zero.cells.toArray 93) :: HA.blk g3 (.cells #[Iv pe, Iv (pat : Nat)] 67) :: []) (HA.blk g5 (.cells #[Iv pe, Iv (pat : Nat)] 67) :: []) mixed (.i (by repeat constructor)) ?_ (fun _ => ?_)
    · refine ED.take 1 rfl (by decide +kernel) CutX.no_panic (by decide +kernel) rfl rfl rfl (RV.loadAggB rfl rfl rfl (by repeat constructor) rfl) ?_
      refine ED.loud 0 rfl (by decide +kernel) ?_
      refine EL.buildZ rfl rfl rfl rfl rfl ?_
      refine ED.next (.i (by repeat constructor)) ?_
      refine ED.loud 2 rfl (by decide +kernel) ?_
      (apply EL.storeAll; exact rfl; exact rfl; exact rfl; exact rfl; exact rfl; (case p => repeat constructor); exact rfl; (case h1 => exact (by first | rfl | exact all1 rfl | (intro u hu; simp only [List.mem_cons, List.not_mem_nil, or_false] at hu; rcases hu with rfl | rfl | rfl | rfl <;> rfl) | (intro u hu; simp at hu; rcases hu with rfl | rfl | rfl | rfl <;> rfl) | (intro u hu; simp at hu; rcases hu with rfl | rfl | rfl <;> rfl) | (intro u hu; simp at hu; rcases hu with rfl | rfl <;> rfl) | (intro u hu; simp at hu; obtain ⟨_, _, rfl⟩ := hu; rfl))))
      refine ED.next (.i (by repeat constructor)) ?_
      refine ED.last 3 rfl (by decide +kernel) (by decide +kernel) (by decide +kernel) ?_
      (apply EL.storeAll; exact rfl; exact rfl; exact rfl; exact rfl; exact rfl; (case p => repeat constructor); exact rfl; (case h1 => exact (by first | rfl | exact all1 rfl | (intro u hu; simp only [List.mem_cons, List.not_mem_nil, or_false] at hu; rcases hu with rfl | rfl | rfl | rfl <;> rfl) | (intro u hu; simp at hu; rcases hu with rfl | rfl | rfl | rfl <;> rfl) | (intro u hu; simp at hu; rcases hu with rfl | rfl | rfl <;> rfl) | (intro u hu; simp at hu; rcases hu with rfl | rfl <;> rfl) | (intro u hu; simp at hu; obtain ⟨_, _, rfl⟩ := hu; rfl))))
      refine EL.endQ ?_
      exact PX.cutX () ⟨rfl, rfl, trivial⟩ (.i (by repeat constructor))
    refine .go ?_; repeat constructor
    exact PX.ret rfl Try.results42 (.cons (.blkA rfl rfl rfl (by repeat constructor) rfl) (.cons (.blkA rfl rfl rfl (by repeat constructor) rfl) .nil)) (fun w hs => ⟨(), rfl, hs.ent (.i (by repeat constructor))⟩)
  rw [if_neg (fun h => h he)] at hw
  rw [hw]
  refine .go ?_; repeat constructor
  (apply EL.loadAggB; exact rfl; exact rfl; exact rfl; exact rfl; exact rfl; (case hm => repeat constructor); exact rfl)
  refine EL.callPw rfl rfl rfl ent63 rfl (fun w hs => meas_c tree hpf px.ad px.cap w (kids_of hs (by repeat constructor))) ?_
  refine EL.buildZ rfl rfl rfl rfl rfl ?_
  (apply EL.storeAll; exact rfl; exact rfl; exact rfl; exact rfl; exact rfl; (case p => repeat constructor); exact rfl; (case h1 => exact (by first | rfl | exact all1 rfl | (intro u hu; simp only [List.mem_cons, List.not_mem_nil, or_false] at hu; rcases hu with rfl | rfl | rfl | rfl <;> rfl) | (intro u hu; simp at hu; rcases hu with rfl | rfl | rfl | rfl <;> rfl) | (intro u hu; simp at hu; rcases hu with rfl | rfl | rfl <;> rfl) | (intro u hu; simp at hu; rcases hu with rfl | rfl <;> rfl) | (intro u hu; simp at hu; obtain ⟨_, _, rfl⟩ := hu; rfl))))
  (apply EL.storeAll; exact rfl; exact rfl; exact rfl; exact rfl; exact rfl; (case p => repeat constructor); exact rfl; (case h1 => exact (by first | rfl | exact all1 rfl | (intro u hu; simp only [List.mem_cons, List.not_mem_nil, or_false] at hu; rcases hu with rfl | rfl | rfl | rfl <;> rfl) | (intro u hu; simp at hu; rcases hu with rfl | rfl | rfl | rfl <;> rfl) | (intro u hu; simp at hu; rcases hu with rfl | rfl | rfl <;> rfl) | (intro u hu; simp at hu; rcases hu with rfl | rfl <;> rfl) | (intro u hu; simp at hu; obtain ⟨_, _, rfl⟩ := hu; rfl))))
  refine .go ?_; repeat constructor
  exact PX.ret rfl Try.results42 (.cons (.blkA rfl rfl rfl (by repeat constructor) rfl) (.cons (.blkA rfl rfl rfl (by repeat constructor) rfl) .nil)) (fun w hs => ⟨(), rfl, hs.ent (.i (by repeat constructor))⟩)
end Go.Proofs.Ytblpgpgbnlhjlaa
namespace Go.Proofs.Ytblpgpgbnlhjlaa
open Go Go.RowKit Sl
set_option maxRecDepth 100000
set_option maxHeartbeats 8000000
set_option linter.unusedVariables false
set_option linter.unusedSimpArgs false
attribute [local irreducible] ES EL PX wps
abbrev Spn := Int × Int
structure SS where
  spans : List Spn
  steps : Nat
inductive WT where
  | one (r : RE)
  | cat (ks : List RE)
  | rep (lo : Nat) (hi : Int) (k : RE) (times : Nat)
def cutS (s : List UInt8) (hd tl : List RE) (i j st : Nat) : Option (Nat × Nat) :=
  if st ≤ 576460752303423488 ∧ costL hd + 1 ≤ 131072 ∧ costL tl + 1 ≤ 131072 ∧ i ≤ j ∧ j ≤ s.length then
    match splL s hd tl i j st with
    | [] => none
    | p :: _ => some (p, (splS s hd tl i j st).steps)
  else none
def walkM (s : List UInt8) : Nat → WT → Nat → Nat → SS → Option SS
  | 0, _, _, _, _ => none
  | f + 1, .one (.group n k), i, j, z => if n < z.spans.length then walkM s f (.one k) i j { z with spans := z.spans.set n ((i : Int), (j : Int)) } else none
  | f + 1, .one (.cat ks), i, j, z => walkM s f (.cat ks) i j z
  | f + 1, .one (.rep lo hi k), i, j, z => walkM s f (.rep lo hi k 0) i j z
  | _ + 1, .one _, _, _, z => some z
  | _ + 1, .cat [], _, _, z => some z
  | f + 1, .cat [k], i, j, z => walkM s f (.one k) i j z
  | f + 1, .cat (k :: k' :: ks), i, j, z =>
    match cutS s [k] (k' :: ks) i j z.steps with
    | none => none
    | some (e, st) =>
      match walkM s f (.one k) i e { z with steps := st } with
      | none => none
      | some z' => walkM s f (.cat (k' :: ks)) e j z'
  | f + 1, .rep lo hi k t, i, j, z =>
    if i = j then (if t < leastM lo k then walkM s f (.one k) j j z else some z)
    else if 1000000 < t then none
    else
      match cutS s [k] [leftM lo hi k (t + 1)] i j z.steps with
      | none => none
      | some (e, st) =>
        match walkM s f (.one k) i e { z with steps := st } with
        | none => none
        | some z' => walkM s f (.rep lo hi k (t + 1)) e j z'
end Go.Proofs.Ytblpgpgbnlhjlaa
namespace Go.Proofs.Ytblpgpgbnlhjlaa
open Go Go.RowKit Sl
set_option maxRecDepth 100000
set_option maxHeartbeats 8000000
set_option linter.unusedVariables false
set_option linter.unusedSimpArgs false
attribute [local irreducible] ES EL PX wps
def spC (p : Spn) : List Value := [Iv p.1, Iv p.2]
def spsC (l : List Spn) : List Value := l.flatMap spC
theorem spsC_len : ∀ l : List Spn, (spsC l).length = l.length * 2
  | [] => rfl
  | p :: l => by
    have := spsC_len l
    simp only [spsC, List.flatMap_cons, List.length_append, List.length_cons] at this ⊢
    rw [this]; simp only [spC, List.length_cons, List.length_nil]; omega
theorem spsC_app (l l' : List Spn) : spsC (l ++ l') = spsC l ++ spsC l' := by simp [spsC]
theorem spsC_set (l : List Spn) (n : Nat) (hn : n < l.length) (p : Spn) : putAt (spsC l) (0 + n * 2) (spC p) = spsC (l.set n p) := by
  have e : l = l.take n ++ l[n] :: l.drop (n + 1) := by rw [List.getElem_cons_drop, List.take_append_drop]
  have e2 : l.set n p = l.take n ++ p :: l.drop (n + 1) := by
    rw [List.set_eq_take_append_cons_drop, if_pos hn]
  have hl : (spsC (l.take n)).length = n * 2 := by rw [spsC_len, List.length_take, Nat.min_eq_left (by omega)]
  have e3 : spsC l = spsC (l.take n) ++ (spC l[n] ++ spsC (l.drop (n + 1))) := by
    conv => lhs; rw [e]
    rw [spsC_app]; rfl
  rw [e2, e3, Nat.zero_add]
  unfold putAt
  rw [← hl, List.take_left, List.drop_append, List.drop_of_length_le (by simp [spC]), List.nil_append]
  rw [spsC_app]
  have e4 : (spsC (l.take n)).length + (spC p).length - (spsC (l.take n)).length = (spC l[n]).length := by simp [spC]
  rw [e4, List.drop_left]
  show _ = spsC (l.take n) ++ (spC p ++ spsC (l.drop (n + 1)))
  rw [List.append_assoc]
abbrev PRow (sp : Option Addr) (cap : Nat) (l : List Spn) : HA := HA.row (.slice sp l.length cap) 33 2 l.length (spsC l)
theorem kind_4 {r : RE} (h : r.kind = 4) : ∃ n k, r = .group n k := by cases r <;> first | (simp [RE.kind] at h; done) | exact ⟨_, _, rfl⟩
theorem kind_0 {r : RE} (h : r.kind = 0) : ∃ ks, r = .cat ks := by cases r <;> first | (simp [RE.kind] at h; done) | exact ⟨_, rfl⟩
theorem kids_drop {w0 : World} {B : Nat} {ks : List RE} {kg ko : Nat} (h : KidsRd w0 B ks (some ⟨kg, ko, none⟩)) (i : Nat) (l : List RE) (hl : ∀ j k, l[j]? = some k → ks[i + j]? = some k) (T : HA) : RowRd w0 B T (some ⟨kg, ko + i * 9, none⟩) l := fun w H hs j k hj => by
  obtain ⟨g, o, e, hn⟩ := h (i + j) k (hl j k hj)
  cases e
  refine ⟨kg, ko + i * 9, rfl, ?_⟩
  have := NodeRd.sat hn hs
  rw [Nat.add_mul, ← Nat.add_assoc] at this
  exact this
theorem left_fine {lo : Nat} {hi : Int} {k : RE} (h : (RE.rep lo hi k).fine) (t : Nat) : (leftM lo hi k t).fine := by
  obtain ⟨h1, h2, h3, h4, h5⟩ := h
  have hl := least_le lo k
  unfold leftM leftLo
  by_cases hp : 0 ≤ hi
  · have := h4 hp
    rw [if_pos hp]
    exact ⟨by omega, by omega, by omega, fun _ => by omega, h5⟩
  · rw [if_neg hp]
    exact ⟨by omega, by omega, by omega, fun h => by omega, h5⟩
theorem rowRd_one {w0 : World} {B b : Nat} {r : RE} {ad : Option Addr} {cap : Nat} {cs0 : List Value} (h2 : Forest (· < B) w0 r.kids cs0) (h3 : Reads (· < B) w0 ad cs0) (h4 : r.kids.length ≤ cap) :
    RowRd w0 B (HA.row (.slice (some ⟨b, 0, none⟩) 1 1) 82 9 1 (reCells r (.slice ad r.kids.length cap))) (some ⟨b, 0, none⟩) [r] := fun w H hs i k' hi => by
  have hi0 : i = 0 := by
    rcases i with _ | i
    · rfl
    · simp at hi
  subst hi0
  simp only [List.getElem?_cons_zero, Option.some.injEq] at hi
  subst hi
  refine ⟨b, 0, rfl, ?_⟩
  have hrow : w.ownsRow 0 82 9 (.slice (some ⟨b, 0, none⟩) 1 1) 1 (reCells r (.slice ad r.kids.length cap)) := hs.head
  have hlt : b < w.heap.size := (hs.lo b (by rw [fps_cons]; simp [HA.row, Value.ownBlock])).2
  have hB : ∀ g, g < B → w.heap[g]? = w0.heap[g]? := fun g hg => hs.below.block g hg
  refine ⟨ad, cap, cs0, fun _ => ⟨b, 0, rfl, hlt, ?_⟩, ?_, ?_, h4⟩
  · exact row_reads hrow
  · exact (h2.loc (fun g hg => hB g hg)).mono (fun g hg => Nat.lt_of_lt_of_le hg hs.base)
  · exact (h3.loc (fun g hg => hB g hg)).mono (fun g hg => Nat.lt_of_lt_of_le hg hs.base)
theorem rowRd_left {w0 : World} {B b : Nat} {lo : Nat} {hi : Int} {k : RE} {ad : Option Addr} {cap t : Nat} {cs0 : List Value} (h2 : Forest (· < B) w0 [k] cs0) (h3 : Reads (· < B) w0 ad cs0) (h4 : 1 ≤ cap) :
    RowRd w0 B (HA.row (.slice (some ⟨b, 0, none⟩) 1 1) 82 9 1 (reCells (leftM lo hi k t) (.slice ad 1 cap))) (some ⟨b, 0, none⟩) [leftM lo hi k t] := rowRd_one (r := leftM lo hi k t) h2 h3 h4
section walks
variable (w0 : World) (B gs : Nat) (s : List UInt8) (sp : Option Addr) (cap : Nat)
variable {w0 B gs s sp cap}
end walks
end Go.Proofs.Ytblpgpgbnlhjlaa
namespace Go.Proofs.Ytblpgpgbnlhjlaa
open Go Go.RowKit Sl
set_option maxRecDepth 100000
set_option maxHeartbeats 8000000
set_option linter.unusedVariables false
set_option linter.unusedSimpArgs false
attribute [local irreducible] ES EL PX wps
theorem rd_blk {w0 w : World} {B g e : Nat} {H : List HA} {cs : List Value} (hs : Sat w0 B H w) (hm : Mem H (HA.blk g (.cells cs.toArray e))) : Rd w w.heap.size (some ⟨g, 0, none⟩) cs := fun _ => by
  have hb : w.heap[g]? = some (.cells cs.toArray e (0, 0)) := hs.all _ hm.mem
  exact ⟨g, 0, rfl, (Array.getElem?_eq_some_iff.1 hb).1, fun j v hj => by rw [blk_cell hb, Nat.zero_add]; simpa using hj⟩
structure SpSt where
  i : Nat
  ad : Option Addr
  cap : Nat
end Go.Proofs.Ytblpgpgbnlhjlaa
namespace Go.Proofs.Ytblpgpgbnlhjlaa
open Go Go.RowKit Sl
set_option maxRecDepth 100000
set_option maxHeartbeats 8000000
set_option linter.unusedVariables false
set_option linter.unusedSimpArgs false
attribute [local irreducible] ES EL PX wps
def Iter (R : Nat → Nat → Prop) : Nat → Nat → Nat → Prop
  | 0, i, j => i = j
  | c + 1, i, j => ∃ m, R i m ∧ Iter R c m j
theorem Iter.snoc {R : Nat → Nat → Prop} : ∀ {c i m j}, Iter R c i m → R m j → Iter R (c + 1) i j
  | 0, i, m, j, h, hr => by
    have h : i = m := h
    subst h
    exact ⟨j, hr, rfl⟩
  | c + 1, i, m, j, ⟨u, h1, h2⟩, hr => ⟨u, h1, Iter.snoc h2 hr⟩
theorem Iter.add {R : Nat → Nat → Prop} : ∀ {c d i j}, Iter R (c + d) i j ↔ ∃ m, Iter R c i m ∧ Iter R d m j
  | 0, d, i, j => by
    rw [Nat.zero_add]
    exact ⟨fun h => ⟨i, rfl, h⟩, fun ⟨m, h1, h2⟩ => by cases (show i = m from h1); exact h2⟩
  | c + 1, d, i, j => by
    rw [Nat.succ_add]
    constructor
    · rintro ⟨u, h1, h2⟩
      obtain ⟨m, h3, h4⟩ := Iter.add.1 h2
      exact ⟨m, ⟨u, h1, h3⟩, h4⟩
    · rintro ⟨m, ⟨u, h1, h3⟩, h4⟩
      exact ⟨u, h1, Iter.add.2 ⟨m, h3, h4⟩⟩
def RepN (lo : Nat) (hi : Int) (k : RE) (c : Nat) : Prop := leastM lo k ≤ c ∧ (if hi = (lo : Int) ∨ k.thin = true then c = leastM lo k else hi < 0 ∨ c ≤ leastM lo k + (hi.toNat - lo))
mutual
def Hit (s : List UInt8) : RE → Nat → Nat → Prop
  | .byte S, i, j => (i < s.length ∧ hasS S (s.getD i 0).toNat = true) ∧ j = i + 1
  | .bol, i, j => i = 0 ∧ j = i
  | .eol, i, j => i = s.length ∧ j = i
  | .back _, i, j => j = i ∨ (i < j ∧ j ≤ s.length)
  | .group _ k, i, j => Hit s k i j
  | .cat ks, i, j => HitL s ks i j
  | .rep lo hi k, i, j => ∃ c, RepN lo hi k c ∧ Iter (Hit s k) c i j
def HitL (s : List UInt8) : List RE → Nat → Nat → Prop
  | [], i, j => i = j
  | k :: ks, i, j => ∃ m, Hit s k i m ∧ HitL s ks m j
end
abbrev ERow (a : AM) (q : Nat) : List Ed := a.out.getD q []
abbrev FW (s : List UInt8) (a : AM) (x y : Nat × Nat) : Prop := Rch a.out s true x y
theorem getD_nil {l : List (List Ed)} {q : Nat} (h : l.length ≤ q) : l.getD q [] = [] := by
  rw [List.getD_eq_getElem?_getD, List.getElem?_eq_none h]; rfl
theorem row_lt {a : AM} {q : Nat} {e : Ed} (h : e ∈ ERow a q) : q < a.out.length := by
  apply Decidable.byContradiction
  intro hn
  rw [show ERow a q = [] from getD_nil (by omega)] at h
  cases h
theorem getD_addTo (l : List (List Ed)) (f q : Nat) (e : Ed) (hf : f < l.length) : (addTo l f e).getD q [] = if q = f then l.getD q [] ++ [e] else l.getD q [] := by
  unfold addTo
  by_cases h : q = f
  · subst h
    rw [if_pos rfl]
    simp [List.getD_eq_getElem?_getD, hf]
  · rw [if_neg h, List.getD_eq_getElem?_getD, List.getElem?_set, if_neg (fun e => h e.symm), ← List.getD_eq_getElem?_getD]
theorem getD_new (l : List (List Ed)) (q : Nat) : (l ++ [[]]).getD q [] = l.getD q [] := by
  rw [List.getD_eq_getElem?_getD, List.getD_eq_getElem?_getD]
  by_cases h : q < l.length
  · rw [List.getElem?_append_left h]
  · rw [List.getElem?_append_right (by omega), List.getElem?_eq_none (show l.length ≤ q by omega)]
    cases q - l.length with
    | zero => rfl
    | succ n => rfl
theorem row_link {a : AM} {f t k : Nat} {S : BS} (hf : f < a.out.length) (q : Nat) : ERow (a.link f t k S) q = if q = f then ERow a q ++ [⟨k, S, t⟩] else ERow a q := getD_addTo _ _ _ _ hf
theorem row_step {a : AM} {f k : Nat} {S : BS} (hf : f < a.out.length) (q : Nat) : ERow (a.step f k S) q = if q = f then ERow a q ++ [⟨k, S, a.out.length⟩] else ERow a q := by
  unfold AM.step
  rw [row_link (by rw [add_len]; omega), show ERow a.add q = ERow a q from getD_new _ _]
theorem Rch.mono {es es' : List (List Ed)} {s : List UInt8} {fwd : Bool} {x y : Nat × Nat} (h : ∀ q e, e ∈ es.getD q [] → e ∈ es'.getD q []) (hr : Rch es s fwd x y) : Rch es' s fwd x y := by
  induction hr with
  | here => exact .here
  | step _ he hp ih => exact .step ih (h _ _ he) hp
theorem Rch.trans {es : List (List Ed)} {s : List UInt8} {fwd : Bool} {x y z : Nat × Nat} (h1 : Rch es s fwd x y) (h2 : Rch es s fwd y z) : Rch es s fwd x z := by
  induction h2 with
  | here => exact h1
  | step _ he hp ih => exact .step ih he hp
theorem Rch.dead {es : List (List Ed)} {s : List UInt8} {fwd : Bool} {q i : Nat} {y : Nat × Nat} (hd : es.getD q [] = []) (h : Rch es s fwd (q, i) y) : y = (q, i) := by
  induction h with
  | here => rfl
  | step _ he _ ih =>
    injection ih with h1 h2
    subst h1
    rw [hd] at he
    cases he
theorem Rch.inv {es : List (List Ed)} {s : List UInt8} {fwd : Bool} {x : Nat × Nat} {t b : Nat} (h : Rch es s fwd x (t, b)) : x = (t, b) ∨ ∃ q a e, Rch es s fwd x (q, a) ∧ e ∈ es.getD q [] ∧ e.to = t ∧ placeM s fwd e a = some b := by
  cases h with
  | here => exact .inl rfl
  | step h he hp => exact .inr ⟨_, _, _, h, he, rfl, hp⟩
theorem eps_place (s : List UInt8) (fwd : Bool) (S : BS) (t a : Nat) : placeM s fwd ⟨0, S, t⟩ a = some a := rfl
def Wf (a : AM) : Prop := ∀ q, ∀ e ∈ ERow a q, e.to < a.out.length
theorem wf_link {a : AM} {f t k : Nat} {S : BS} (h : Wf a) (hf : f < a.out.length) (ht : t < a.out.length) : Wf (a.link f t k S) := fun q e he => by
  rw [(link_len _ _ _ _ _).1]
  rw [row_link hf] at he
  split at he
  · rcases List.mem_append.1 he with he | he
    · exact h q e he
    · rw [List.mem_singleton] at he; subst he; exact ht
  · exact h q e he
theorem wf_step {a : AM} {f k : Nat} {S : BS} (h : Wf a) (hf : f < a.out.length) : Wf (a.step f k S) := fun q e he => by
  rw [step_len]
  rw [row_step hf] at he
  split at he
  · rcases List.mem_append.1 he with he | he
    · have := h q e he; omega
    · rw [List.mem_singleton] at he; subst he; exact Nat.lt_succ_self _
  · have := h q e he; omega
structure Grow (a b : AM) (p : Nat) : Prop where
  len : a.out.length ≤ b.out.length
  sub : ∀ q, ∀ e ∈ ERow a q, e ∈ ERow b q
  new : ∀ q, ∀ e ∈ ERow b q, e ∈ ERow a q ∨ ((q = p ∨ a.out.length ≤ q) ∧ a.out.length ≤ e.to)
theorem Grow.refl (a : AM) (p : Nat) : Grow a a p := ⟨Nat.le_refl _, fun _ _ h => h, fun _ _ h => .inl h⟩
theorem Grow.comp {a b c : AM} {p q : Nat} (h1 : Grow a b p) (h2 : Grow b c q) (hq : q = p ∨ a.out.length ≤ q) : Grow a c p := by
  have := h1.len
  refine ⟨Nat.le_trans h1.len h2.len, fun r e h => h2.sub r e (h1.sub r e h), fun r e h => ?_⟩
  rcases h2.new r e h with h | ⟨hr, ht⟩
  · exact h1.new r e h
  · right
    refine ⟨?_, by omega⟩
    rcases hr with rfl | hr
    · exact hq
    · right; omega
theorem Grow.old {s : List UInt8} {a b : AM} {p x0 i y j : Nat} (h : Grow a b p) (hw : Wf a) (hx : x0 < a.out.length) (hy : y < a.out.length) : FW s b (x0, i) (y, j) ↔ FW s a (x0, i) (y, j) := by
  refine ⟨fun hr => ?_, fun hr => hr.mono h.sub⟩
  have key : ∀ z, FW s b (x0, i) z → z.1 < a.out.length → FW s a (x0, i) z := by
    intro z hz
    induction hz with
    | here => exact fun _ => .here
    | step h1 he hp ih =>
      intro hlt
      rcases h.new _ _ he with he | ⟨_, h3⟩
      · exact .step (ih (row_lt he)) he hp
      · have hlt : _ < a.out.length := hlt
        dsimp only at hlt
        omega
  exact key _ hr hy
theorem grow_step {a : AM} {p k : Nat} {S : BS} (hp : p < a.out.length) : Grow a (a.step p k S) p := by
  refine ⟨by rw [step_len]; omega, fun q e h => ?_, fun q e h => ?_⟩
  · rw [row_step hp]; split
    · exact List.mem_append.2 (.inl h)
    · exact h
  · rw [row_step hp] at h
    split at h
    · rename_i e1
      rcases List.mem_append.1 h with h | h
      · exact .inl h
      · rw [List.mem_singleton] at h; subst h; exact .inr ⟨.inl e1, Nat.le_refl _⟩
    · exact .inl h
theorem step_hit {s : List UInt8} {a : AM} {p k x0 i j : Nat} {S : BS} (hw : Wf a) (hp : p < a.out.length) (hx : x0 < a.out.length) : FW s (a.step p k S) (x0, i) (a.out.length, j) ↔ ∃ m, FW s a (x0, i) (p, m) ∧ placeM s true ⟨k, S, a.out.length⟩ m = some j := by
  have hg := grow_step (k := k) (S := S) hp
  constructor
  · intro h
    rcases h.inv with h | ⟨q, m, e, h1, he, ht, hpl⟩
    · injection h with h1 h2; omega
    · have he' : e ∈ ERow (a.step p k S) q := he
      rw [row_step hp] at he'
      split at he'
      · rename_i e1
        rcases List.mem_append.1 he' with he' | he'
        · have := hw q e he'; omega
        · rw [List.mem_singleton] at he'; subst he' e1
          exact ⟨m, (hg.old hw hx hp).1 h1, hpl⟩
      · have := hw q e he'; omega
  · rintro ⟨m, h1, h2⟩
    refine Rch.step (e := ⟨k, S, a.out.length⟩) (h1.mono hg.sub) ?_ h2
    show _ ∈ ERow (a.step p k S) p
    rw [row_step hp, if_pos rfl]
    simp
structure LayH (s : List UInt8) (f : AM → Nat → AM × Nat) (R : Nat → Nat → Prop) : Prop where
  wf : ∀ a p, Wf a → p < a.out.length → Wf (f a p).1
  grow : ∀ a p, Wf a → p < a.out.length → Grow a (f a p).1 p
  out : ∀ a p, Wf a → p < a.out.length → ((f a p).2 = p ∨ a.out.length ≤ (f a p).2) ∧ (f a p).2 < (f a p).1.out.length
  hit : ∀ a p x0 i j, Wf a → p < a.out.length → x0 < a.out.length → (FW s (f a p).1 (x0, i) ((f a p).2, j) ↔ ∃ m, FW s a (x0, i) (p, m) ∧ R m j)
theorem LayH.iff {s : List UInt8} {f : AM → Nat → AM × Nat} {R R' : Nat → Nat → Prop} (h : LayH s f R) (e : ∀ i j, R i j ↔ R' i j) : LayH s f R' :=
  ⟨h.wf, h.grow, h.out, fun a p x0 i j h1 h2 h3 => (h.hit a p x0 i j h1 h2 h3).trans ⟨fun ⟨m, a, b⟩ => ⟨m, a, (e _ _).1 b⟩, fun ⟨m, a, b⟩ => ⟨m, a, (e _ _).2 b⟩⟩⟩
theorem LayH.id (s : List UInt8) : LayH s (fun a p => (a, p)) (fun i j => i = j) :=
  ⟨fun _ _ h _ => h, fun a p _ _ => Grow.refl a p, fun _ _ _ h => ⟨.inl rfl, h⟩, fun a p x0 i j _ _ _ => ⟨fun h => ⟨j, h, rfl⟩, fun ⟨m, h, e⟩ => e ▸ h⟩⟩
theorem LayH.seq {s : List UInt8} {f g : AM → Nat → AM × Nat} {R R' : Nat → Nat → Prop} (h1 : LayH s f R) (h2 : LayH s g R') : LayH s (fun a p => g (f a p).1 (f a p).2) (fun i j => ∃ m, R i m ∧ R' m j) := by
  refine ⟨fun a p hw hp => h2.wf _ _ (h1.wf a p hw hp) (h1.out a p hw hp).2, fun a p hw hp => (h1.grow a p hw hp).comp (h2.grow _ _ (h1.wf a p hw hp) (h1.out a p hw hp).2) (h1.out a p hw hp).1, fun a p hw hp => ?_, fun a p x0 i j hw hp hx => ?_⟩
  · have e1 := h1.out a p hw hp
    have e2 := h2.out _ _ (h1.wf a p hw hp) e1.2
    have e3 := (h1.grow a p hw hp).len
    refine ⟨?_, e2.2⟩
    rcases e2.1 with e | e
    · rw [e]; exact e1.1
    · right; omega
  · have e1 := h1.out a p hw hp
    have e3 := (h1.grow a p hw hp).len
    rw [h2.hit _ _ x0 i j (h1.wf a p hw hp) e1.2 (by omega)]
    constructor
    · rintro ⟨m, hm, hr⟩
      obtain ⟨m0, h3, h4⟩ := (h1.hit a p x0 i m hw hp hx).1 hm
      exact ⟨m0, h3, m, h4, hr⟩
    · rintro ⟨m0, h3, m, h4, hr⟩
      exact ⟨m, (h1.hit a p x0 i m hw hp hx).2 ⟨m0, h3, h4⟩, hr⟩
theorem LayH.times {s : List UInt8} {f : AM → Nat → AM × Nat} {R : Nat → Nat → Prop} (h : LayH s f R) : ∀ n, LayH s (timesA f n) (Iter R n)
  | 0 => LayH.id s
  | n + 1 => (LayH.seq h (LayH.times h n))
theorem LayH.edge (s : List UInt8) (k : Nat) (S : BS) (R : Nat → Nat → Prop) (hR : ∀ t i j, placeM s true ⟨k, S, t⟩ i = some j ↔ R i j) : LayH s (fun a p => (a.step p k S, a.out.length)) R :=
  ⟨fun a p hw hp => wf_step hw hp, fun a p _ hp => grow_step hp, fun a p _ hp => ⟨.inr (Nat.le_refl _), by rw [step_len]; exact Nat.lt_succ_self _⟩, fun a p x0 i j hw hp hx => (step_hit hw hp hx).trans ⟨fun ⟨m, h1, h2⟩ => ⟨m, h1, (hR _ _ _).1 h2⟩, fun ⟨m, h1, h2⟩ => ⟨m, h1, (hR _ _ _).2 h2⟩⟩⟩
def starA (f : AM → Nat → AM × Nat) (a : AM) (p : Nat) : AM × Nat :=
  ((f (a.step p 0 zeroS) a.out.length).1.link (f (a.step p 0 zeroS) a.out.length).2 a.out.length 0 zeroS, a.out.length)
theorem LayH.star {s : List UInt8} {f : AM → Nat → AM × Nat} {R : Nat → Nat → Prop} (h : LayH s f R) : LayH s (starA f) (fun i j => ∃ c, Iter R c i j) := by
  have all : ∀ a p, Wf a → p < a.out.length → Wf (starA f a p).1 ∧ Grow a (starA f a p).1 p ∧ a.out.length < (starA f a p).1.out.length ∧ ∀ x0 i j, x0 < a.out.length → (FW s (starA f a p).1 (x0, i) (a.out.length, j) ↔ ∃ m, FW s a (x0, i) (p, m) ∧ ∃ c, Iter R c m j) := by
    intro a p hw hp
    have hw2 := wf_step (k := 0) (S := zeroS) hw hp
    have hl2 : (a.step p 0 zeroS).out.length = a.out.length + 1 := step_len _ _ _ _
    have hh : a.out.length < (a.step p 0 zeroS).out.length := by omega
    have hg2 := grow_step (k := 0) (S := zeroS) hp
    have hw3 := h.wf _ _ hw2 hh
    have hg3 := h.grow _ _ hw2 hh
    obtain ⟨ho, hlt⟩ := h.out _ _ hw2 hh
    have hhit := fun x0 i j => h.hit _ a.out.length x0 i j hw2 hh
    have hrow2 := fun q => row_step (k := 0) (S := zeroS) hp q
    unfold starA
    dsimp only
    generalize f (a.step p 0 zeroS) a.out.length = y at hw3 hg3 ho hlt hhit
    obtain ⟨a3, q3⟩ := y
    dsimp only at hw3 hg3 ho hlt hhit ⊢
    have hl3 := hg3.len
    have hrow4 := fun q => row_link (k := 0) (S := zeroS) (t := a.out.length) hlt q
    have hsub4 : ∀ q, ∀ e ∈ ERow a3 q, e ∈ ERow (a3.link q3 a.out.length 0 zeroS) q := fun q e he => by
      rw [hrow4]; split
      · exact List.mem_append.2 (.inl he)
      · exact he
    have hl4 : (a3.link q3 a.out.length 0 zeroS).out.length = a3.out.length := (link_len _ _ _ _ _).1
    have hdead : ERow (a.step p 0 zeroS) a.out.length = [] := by
      rw [hrow2, if_neg (by omega)]
      exact getD_nil (Nat.le_refl _)
    refine ⟨wf_link hw3 hlt (by omega), ⟨by rw [hl4]; omega, fun q e he => hsub4 q e (hg3.sub q e (hg2.sub q e he)), fun q e he => ?_⟩, by rw [hl4]; omega, fun x0 i j hx => ⟨fun hr => ?_, ?_⟩⟩
    · have h23 := hg2.comp hg3 (.inr (Nat.le_refl _))
      rw [hrow4] at he
      split at he
      · rename_i e1
        rcases List.mem_append.1 he with he | he
        · exact h23.new q e he
        · rw [List.mem_singleton] at he; subst he e1
          refine .inr ⟨.inr (by omega), Nat.le_refl _⟩
      · exact h23.new q e he
    · have key : ∀ z, FW s (a3.link q3 a.out.length 0 zeroS) (x0, i) z → (z.1 < a.out.length ∧ FW s a (x0, i) z) ∨ ∃ m c m', FW s a (x0, i) (p, m) ∧ Iter R c m m' ∧ FW s a3 (a.out.length, m') z := by
        intro z hz
        induction hz with
        | here => exact .inl ⟨hx, .here⟩
        | @step q u b e h1 he hpl ih =>
          have he' : e ∈ ERow (a3.link q3 a.out.length 0 zeroS) q := he
          rw [hrow4] at he'
          have hcase : e ∈ ERow a3 q ∨ (q = q3 ∧ e = ⟨0, zeroS, a.out.length⟩) := by
            split at he'
            · rename_i e1
              rcases List.mem_append.1 he' with he' | he'
              · exact .inl he'
              · exact .inr ⟨e1, List.mem_singleton.1 he'⟩
            · exact .inl he'
          rcases hcase with he3 | ⟨rfl, rfl⟩
          · rcases ih with ⟨hq, hold⟩ | ⟨m, c, m', k1, k2, k3⟩
            · have hq : q < a.out.length := hq
              rcases hg3.new q e he3 with he2 | ⟨hbad, _⟩
              · rw [hrow2] at he2
                split at he2
                · rename_i e1
                  rcases List.mem_append.1 he2 with he2 | he2
                  · exact .inl ⟨hw q e he2, .step hold he2 hpl⟩
                  · rw [List.mem_singleton] at he2; subst he2 e1
                    rw [eps_place] at hpl
                    cases hpl
                    exact .inr ⟨u, 0, u, hold, rfl, .here⟩
                · exact .inl ⟨hw q e he2, .step hold he2 hpl⟩
              · omega
            · exact .inr ⟨m, c, m', k1, k2, .step k3 he3 hpl⟩
          · rw [eps_place] at hpl
            cases hpl
            rcases ih with ⟨hq, hold⟩ | ⟨m, c, m', k1, k2, k3⟩
            · have hq : q < a.out.length := hq
              omega
            · obtain ⟨m2, k4, k5⟩ := (hhit _ _ _ hh).1 k3
              have := Rch.dead hdead k4
              injection this with _ e2
              subst e2
              exact .inr ⟨m, c + 1, u, k1, k2.snoc k5, .here⟩
      rcases key _ hr with ⟨hbad, _⟩ | ⟨m, c, m', k1, k2, k3⟩
      · exact absurd hbad (by dsimp only; omega)
      · have k4 := (hg3.old hw2 hh hh).1 k3
        have := Rch.dead hdead k4
        injection this with _ e2
        subst e2
        exact ⟨m, k1, c, k2⟩
    · rintro ⟨m, h1, c, hc⟩
      have hbase : FW s (a3.link q3 a.out.length 0 zeroS) (x0, i) (a.out.length, m) := by
        have h2 := (step_hit (k := 0) (S := zeroS) hw hp hx (j := m) (s := s) (i := i)).2 ⟨m, h1, rfl⟩
        exact (h2.mono hg3.sub).mono hsub4
      clear h1
      induction c generalizing m with
      | zero =>
        cases (show m = j from hc)
        exact hbase
      | succ c ih =>
        obtain ⟨m1, k1, k2⟩ := hc
        refine ih m1 k2 ?_
        have h3 : FW s a3 (a.out.length, m) (q3, m1) := (hhit _ _ _ hh).2 ⟨m, .here, k1⟩
        refine Rch.step (e := ⟨0, zeroS, a.out.length⟩) (hbase.trans (h3.mono hsub4)) ?_ (eps_place _ _ _ _ _)
        show _ ∈ ERow _ q3
        rw [hrow4, if_pos rfl]
        simp
  exact ⟨fun a p hw hp => (all a p hw hp).1, fun a p hw hp => (all a p hw hp).2.1, fun a p hw hp => ⟨.inr (Nat.le_refl _), (all a p hw hp).2.2.1⟩, fun a p x0 i j hw hp hx => (all a p hw hp).2.2.2 x0 i j hx⟩
end Go.Proofs.Ytblpgpgbnlhjlaa
namespace Go.Proofs.Ytblpgpgbnlhjlaa
open Go Go.RowKit Sl
set_option maxRecDepth 100000
set_option maxHeartbeats 8000000
set_option linter.unusedVariables false
set_option linter.unusedSimpArgs false
attribute [local irreducible] ES EL PX wps
theorem opt_all {s : List UInt8} {f : AM → Nat → AM × Nat} {R : Nat → Nat → Prop} (h : LayH s f R) (o : Nat) : ∀ (n : Nat) (a : AM) (p : Nat), Wf a → p < a.out.length → o < a.out.length → o ≠ p → ERow a o = [] →
    Wf (optA f o n a p) ∧ a.out.length ≤ (optA f o n a p).out.length ∧ (∀ q, ∀ e ∈ ERow a q, e ∈ ERow (optA f o n a p) q) ∧ (∀ q, ∀ e ∈ ERow (optA f o n a p) q, e ∈ ERow a q ∨ ((q = p ∨ a.out.length ≤ q) ∧ (e.to = o ∨ a.out.length ≤ e.to))) ∧
    ∀ x0 i j, x0 < a.out.length → (FW s (optA f o n a p) (x0, i) (o, j) ↔ FW s a (x0, i) (o, j) ∨ ∃ m c, FW s a (x0, i) (p, m) ∧ 1 ≤ c ∧ c ≤ n ∧ Iter R c m j)
  | 0, a, p, hw, hp, ho, hne, hd => ⟨hw, Nat.le_refl _, fun _ _ h => h, fun _ _ h => .inl h, fun x0 i j hx => ⟨.inl, fun h => by
    rcases h with h | ⟨m, c, _, h1, h2, _⟩
    · exact h
    · omega⟩⟩
  | n + 1, a, p, hw, hp, ho, hne, hd => by
    have hw1 := h.wf a p hw hp
    have hg := h.grow a p hw hp
    obtain ⟨hout, hlt⟩ := h.out a p hw hp
    have hhit := fun x0 i j => h.hit a p x0 i j hw hp
    rw [show optA f o (n + 1) a p = optA f o n ((f a p).1.link (f a p).2 o 0 zeroS) (f a p).2 from rfl]
    generalize f a p = y at hw1 hg hout hlt hhit
    obtain ⟨a1, p1⟩ := y
    dsimp only at hw1 hg hout hlt hhit ⊢
    have hl1 := hg.len
    have hne1 : o ≠ p1 := by
      rcases hout with e | e
      · rw [e]; exact hne
      · omega
    have hd1 : ERow a1 o = [] := by
      apply List.eq_nil_iff_forall_not_mem.2
      intro e he
      rcases hg.new o e he with h | ⟨h, _⟩
      · rw [hd] at h; cases h
      · omega
    have hrow2 := fun q => row_link (k := 0) (S := zeroS) (t := o) hlt q
    have hl2 : (a1.link p1 o 0 zeroS).out.length = a1.out.length := (link_len _ _ _ _ _).1
    have hw2 : Wf (a1.link p1 o 0 zeroS) := wf_link hw1 hlt (by omega)
    have hd2 : ERow (a1.link p1 o 0 zeroS) o = [] := by rw [hrow2, if_neg hne1]; exact hd1
    obtain ⟨k1, k2, k3, k4, k5⟩ := opt_all h o n _ p1 hw2 (by omega) (by omega) hne1 hd2
    have hsub2 : ∀ q, ∀ e ∈ ERow a1 q, e ∈ ERow (a1.link p1 o 0 zeroS) q := fun q e he => by
      rw [hrow2]; split
      · exact List.mem_append.2 (.inl he)
      · exact he
    have hrow3 : ∀ q, ∀ e ∈ ERow (a1.link p1 o 0 zeroS) q, e ∈ ERow a1 q ∨ (q = p1 ∧ e = ⟨0, zeroS, o⟩) := fun q e he => by
      rw [hrow2] at he
      split at he
      · rename_i e1
        rcases List.mem_append.1 he with he | he
        · exact .inl he
        · exact .inr ⟨e1, List.mem_singleton.1 he⟩
      · exact .inl he
    have hother : ∀ x z, FW s (a1.link p1 o 0 zeroS) x z → z.1 ≠ o → FW s a1 x z := by
      intro x z hz
      induction hz with
      | here => exact fun _ => .here
      | @step q u b e h1 he hpl ih =>
        intro hzo
        rcases hrow3 q e he with he1 | ⟨rfl, rfl⟩
        · exact .step (ih (fun e1 => by
            have e1 : q = o := e1
            rw [e1, hd1] at he1; cases he1)) he1 hpl
        · exact absurd rfl hzo
    have hexit : ∀ x0 i j, FW s (a1.link p1 o 0 zeroS) (x0, i) (o, j) ↔ FW s a1 (x0, i) (o, j) ∨ FW s a1 (x0, i) (p1, j) := by
      intro x0 i j
      constructor
      · intro hr
        rcases hr.inv with e | ⟨q, u, e, h1, he, ht, hpl⟩
        · rw [e]; exact .inl .here
        · rcases hrow3 q e he with he1 | ⟨rfl, rfl⟩
          · left
            have hq : q ≠ o := fun e1 => by rw [e1, hd1] at he1; cases he1
            have := Rch.step (hother _ _ h1 hq) he1 hpl
            rw [ht] at this; exact this
          · rw [eps_place] at hpl
            cases hpl
            exact .inr (hother _ _ h1 (fun e => hne1 e.symm))
      · rintro (h1 | h1)
        · exact h1.mono hsub2
        · refine Rch.step (e := ⟨0, zeroS, o⟩) (h1.mono hsub2) ?_ (eps_place _ _ _ _ _)
          show _ ∈ ERow _ p1
          rw [hrow2, if_pos rfl]; simp
    refine ⟨k1, by omega, fun q e he => k3 q e (hsub2 q e (hg.sub q e he)), fun q e he => ?_, fun x0 i j hx => ?_⟩
    · rcases k4 q e he with he2 | ⟨hq, ht⟩
      · rcases hrow3 q e he2 with he1 | ⟨rfl, rfl⟩
        · rcases hg.new q e he1 with h1 | ⟨h1, h2⟩
          · exact .inl h1
          · exact .inr ⟨h1, .inr h2⟩
        · exact .inr ⟨hout, .inl rfl⟩
      · rw [hl2] at hq ht
        right
        constructor
        · rcases hq with rfl | hq
          · exact hout
          · right; omega
        · rcases ht with ht | ht
          · exact .inl ht
          · right; omega
    · rw [k5 x0 i j (by omega), hexit]
      constructor
      · rintro ((h1 | h1) | ⟨m, c, h1, c1, c2, hc⟩)
        · exact .inl ((hg.old hw hx ho).1 h1)
        · obtain ⟨m, h2, h3⟩ := (hhit x0 i j hx).1 h1
          exact .inr ⟨m, 1, h2, by omega, by omega, j, h3, rfl⟩
        · have h2 := hother _ _ h1 (fun e => hne1 e.symm)
          obtain ⟨m0, h3, h4⟩ := (hhit x0 i m hx).1 h2
          exact .inr ⟨m0, c + 1, h3, by omega, by omega, m, h4, hc⟩
      · rintro (h1 | ⟨m, c, h1, c1, c2, hc⟩)
        · exact .inl (.inl ((hg.old hw hx ho).2 h1))
        · cases c with
          | zero => omega
          | succ c =>
            obtain ⟨m1, h2, h3⟩ := hc
            have h4 : FW s a1 (x0, i) (p1, m1) := (hhit x0 i m1 hx).2 ⟨m, h1, h2⟩
            cases c with
            | zero =>
              cases (show m1 = j from h3)
              exact .inl (.inr h4)
            | succ c => exact .inr ⟨m1, c + 1, h4.mono hsub2, by omega, by omega, h3⟩
def questA (f : AM → Nat → AM × Nat) (n : Nat) (a : AM) (p : Nat) : AM × Nat := (optA f a.out.length n (a.step p 0 zeroS) p, a.out.length)
theorem LayH.quest {s : List UInt8} {f : AM → Nat → AM × Nat} {R : Nat → Nat → Prop} (h : LayH s f R) (n : Nat) : LayH s (questA f n) (fun i j => ∃ c, c ≤ n ∧ Iter R c i j) := by
  have all : ∀ a p, Wf a → p < a.out.length → Wf (questA f n a p).1 ∧ Grow a (questA f n a p).1 p ∧ a.out.length < (questA f n a p).1.out.length ∧ ∀ x0 i j, x0 < a.out.length → (FW s (questA f n a p).1 (x0, i) (a.out.length, j) ↔ ∃ m, FW s a (x0, i) (p, m) ∧ ∃ c, c ≤ n ∧ Iter R c m j) := by
    intro a p hw hp
    have hw2 := wf_step (k := 0) (S := zeroS) hw hp
    have hl2 : (a.step p 0 zeroS).out.length = a.out.length + 1 := step_len _ _ _ _
    have hg2 := grow_step (k := 0) (S := zeroS) hp
    have hdead : ERow (a.step p 0 zeroS) a.out.length = [] := by
      rw [row_step hp, if_neg (by omega)]
      exact getD_nil (Nat.le_refl _)
    obtain ⟨k1, k2, k3, k4, k5⟩ := opt_all h a.out.length n (a.step p 0 zeroS) p hw2 (by omega) (by omega) (by omega) hdead
    unfold questA
    dsimp only
    refine ⟨k1, ⟨by omega, fun q e he => k3 q e (hg2.sub q e he), fun q e he => ?_⟩, by omega, fun x0 i j hx => ?_⟩
    · rcases k4 q e he with he | ⟨hq, ht⟩
      · exact hg2.new q e he
      · exact .inr ⟨by omega, by omega⟩
    · rw [k5 x0 i j (by omega)]
      constructor
      · rintro (h1 | ⟨m, c, h1, c1, c2, hc⟩)
        · obtain ⟨m, h2, h3⟩ := (step_hit hw hp hx).1 h1
          rw [eps_place] at h3
          cases h3
          exact ⟨_, h2, 0, Nat.zero_le _, rfl⟩
        · exact ⟨m, (hg2.old hw hx hp).1 h1, c, c2, hc⟩
      · rintro ⟨m, h1, c, c2, hc⟩
        cases c with
        | zero =>
          cases (show m = j from hc)
          exact .inl ((step_hit hw hp hx).2 ⟨_, h1, rfl⟩)
        | succ c => exact .inr ⟨m, c + 1, (hg2.old hw hx hp).2 h1, by omega, c2, hc⟩
  exact ⟨fun a p hw hp => (all a p hw hp).1, fun a p hw hp => (all a p hw hp).2.1, fun a p hw hp => ⟨.inr (Nat.le_refl _), (all a p hw hp).2.2.1⟩, fun a p x0 i j hw hp hx => (all a p hw hp).2.2.2 x0 i j hx⟩
theorem LayH.rep {s : List UInt8} {f : AM → Nat → AM × Nat} {R : Nat → Nat → Prop} (h : LayH s f R) (lo : Nat) (hi : Int) (k : RE) : LayH s (repA lo hi k f) (fun i j => ∃ c, RepN lo hi k c ∧ Iter R c i j) := by
  by_cases hc : hi = (lo : Int) ∨ k.thin = true
  · have e : repA lo hi k f = timesA f (leastM lo k) := by
      funext a p
      unfold repA
      dsimp only
      rw [if_pos hc]
    rw [e]
    refine (h.times _).iff fun i j => ⟨fun hh => ⟨_, ⟨Nat.le_refl _, by rw [if_pos hc]⟩, hh⟩, fun ⟨c, ⟨_, h2⟩, hh⟩ => ?_⟩
    rw [if_pos hc] at h2
    rw [h2] at hh
    exact hh
  by_cases hn : hi < 0
  · have e : repA lo hi k f = fun a p => starA f (timesA f (leastM lo k) a p).1 (timesA f (leastM lo k) a p).2 := by
      funext a p
      unfold repA starA
      dsimp only
      rw [if_neg hc, if_pos hn]
    rw [e]
    refine ((h.times _).seq h.star).iff fun i j => ⟨fun ⟨m, h1, c, h2⟩ => ⟨leastM lo k + c, ⟨Nat.le_add_right _ _, by rw [if_neg hc]; exact .inl hn⟩, Iter.add.2 ⟨m, h1, h2⟩⟩, fun ⟨c, ⟨h1, _⟩, hh⟩ => ?_⟩
    obtain ⟨d, rfl⟩ := Nat.exists_eq_add_of_le h1
    obtain ⟨m, h3, h4⟩ := Iter.add.1 hh
    exact ⟨m, h3, d, h4⟩
  · have e : repA lo hi k f = fun a p => questA f (hi.toNat - lo) (timesA f (leastM lo k) a p).1 (timesA f (leastM lo k) a p).2 := by
      funext a p
      unfold repA questA
      dsimp only
      rw [if_neg hc, if_neg hn]
    rw [e]
    refine ((h.times _).seq (h.quest _)).iff fun i j => ⟨fun ⟨m, h1, c, hcn, h2⟩ => ⟨leastM lo k + c, ⟨Nat.le_add_right _ _, by rw [if_neg hc]; exact .inr (by omega)⟩, Iter.add.2 ⟨m, h1, h2⟩⟩, fun ⟨c, ⟨h1, h5⟩, hh⟩ => ?_⟩
    rw [if_neg hc] at h5
    obtain ⟨d, rfl⟩ := Nat.exists_eq_add_of_le h1
    obtain ⟨m, h3, h4⟩ := Iter.add.1 hh
    exact ⟨m, h3, d, by omega, h4⟩
theorem all_has : ∀ b : UInt8, hasS (notS zeroS) b.toNat = true := by
  have h : ∀ b : Fin 256, hasS (notS zeroS) b.val = true := by decide +kernel
  exact fun b => h ⟨b.toNat, b.toNat_lt⟩
theorem LayH.any (s : List UInt8) : LayH s (fun a p => ((a.step p 0 zeroS).link a.out.length a.out.length 1 (notS zeroS), a.out.length)) (fun i j => j = i ∨ (i < j ∧ j ≤ s.length)) := by
  have all : ∀ a p, Wf a → p < a.out.length → Wf ((a.step p 0 zeroS).link a.out.length a.out.length 1 (notS zeroS)) ∧ Grow a ((a.step p 0 zeroS).link a.out.length a.out.length 1 (notS zeroS)) p ∧ a.out.length < ((a.step p 0 zeroS).link a.out.length a.out.length 1 (notS zeroS)).out.length ∧
      ∀ x0 i j, x0 < a.out.length → (FW s ((a.step p 0 zeroS).link a.out.length a.out.length 1 (notS zeroS)) (x0, i) (a.out.length, j) ↔ ∃ m, FW s a (x0, i) (p, m) ∧ (j = m ∨ (m < j ∧ j ≤ s.length))) := by
    intro a p hw hp
    have hw2 := wf_step (k := 0) (S := zeroS) hw hp
    have hl2 : (a.step p 0 zeroS).out.length = a.out.length + 1 := step_len _ _ _ _
    have hg2 := grow_step (k := 0) (S := zeroS) hp
    have hh : a.out.length < (a.step p 0 zeroS).out.length := by omega
    have hdead : ERow (a.step p 0 zeroS) a.out.length = [] := by
      rw [row_step hp, if_neg (by omega)]
      exact getD_nil (Nat.le_refl _)
    have hrow3 := fun q => row_link (k := 1) (S := notS zeroS) (t := a.out.length) hh q
    have hl3 : ((a.step p 0 zeroS).link a.out.length a.out.length 1 (notS zeroS)).out.length = (a.step p 0 zeroS).out.length := (link_len _ _ _ _ _).1
    have hsub3 : ∀ q, ∀ e ∈ ERow (a.step p 0 zeroS) q, e ∈ ERow ((a.step p 0 zeroS).link a.out.length a.out.length 1 (notS zeroS)) q := fun q e he => by
      rw [hrow3]; split
      · exact List.mem_append.2 (.inl he)
      · exact he
    have hcase : ∀ q, ∀ e ∈ ERow ((a.step p 0 zeroS).link a.out.length a.out.length 1 (notS zeroS)) q, e ∈ ERow (a.step p 0 zeroS) q ∨ (q = a.out.length ∧ e = ⟨1, notS zeroS, a.out.length⟩) := fun q e he => by
      rw [hrow3] at he
      split at he
      · rename_i e1
        rcases List.mem_append.1 he with he | he
        · exact .inl he
        · exact .inr ⟨e1, List.mem_singleton.1 he⟩
      · exact .inl he
    refine ⟨wf_link hw2 hh hh, ⟨by omega, fun q e he => hsub3 q e (hg2.sub q e he), fun q e he => ?_⟩, by omega, fun x0 i j hx => ⟨fun hr => ?_, ?_⟩⟩
    · rcases hcase q e he with he | ⟨rfl, rfl⟩
      · exact hg2.new q e he
      · exact .inr ⟨.inr (Nat.le_refl _), Nat.le_refl _⟩
    · have key : ∀ z, FW s ((a.step p 0 zeroS).link a.out.length a.out.length 1 (notS zeroS)) (x0, i) z → (z.1 < a.out.length ∧ FW s a (x0, i) z) ∨ ∃ m, FW s a (x0, i) (p, m) ∧ z.1 = a.out.length ∧ (z.2 = m ∨ (m < z.2 ∧ z.2 ≤ s.length)) := by
        intro z hz
        induction hz with
        | here => exact .inl ⟨hx, .here⟩
        | @step q u b e h1 he hpl ih =>
          rcases hcase q e he with he2 | ⟨rfl, rfl⟩
          · rcases ih with ⟨hq, hold⟩ | ⟨m, k1, k2, k3⟩
            · have hq : q < a.out.length := hq
              rw [row_step hp] at he2
              split at he2
              · rename_i e1
                rcases List.mem_append.1 he2 with he2 | he2
                · exact .inl ⟨hw q e he2, .step hold he2 hpl⟩
                · rw [List.mem_singleton] at he2; subst he2 e1
                  rw [eps_place] at hpl
                  cases hpl
                  exact .inr ⟨u, hold, rfl, .inl rfl⟩
              · exact .inl ⟨hw q e he2, .step hold he2 hpl⟩
            · have k2 : q = a.out.length := k2
              rw [k2, hdead] at he2
              cases he2
          · rcases ih with ⟨hq, hold⟩ | ⟨m, k1, k2, k3⟩
            · have hq : a.out.length < a.out.length := hq
              omega
            · dsimp only at k3 ⊢
              unfold placeM inB at hpl
              simp at hpl
              exact .inr ⟨m, k1, rfl, .inr (by omega)⟩
      rcases key _ hr with ⟨hbad, _⟩ | ⟨m, k1, _, k3⟩
      · exact absurd hbad (by dsimp only; omega)
      · exact ⟨m, k1, k3⟩
    · rintro ⟨m, h1, hj⟩
      have hbase : FW s ((a.step p 0 zeroS).link a.out.length a.out.length 1 (notS zeroS)) (x0, i) (a.out.length, m) :=
        ((step_hit (k := 0) (S := zeroS) hw hp hx (j := m) (s := s) (i := i)).2 ⟨m, h1, rfl⟩).mono hsub3
      have hgo : ∀ d, m + d ≤ s.length → FW s ((a.step p 0 zeroS).link a.out.length a.out.length 1 (notS zeroS)) (x0, i) (a.out.length, m + d) := by
        intro d
        induction d with
        | zero => exact fun _ => hbase
        | succ d ih =>
          intro hd
          refine Rch.step (e := ⟨1, notS zeroS, a.out.length⟩) (ih (by omega)) ?_ (b := m + (d + 1)) ?_
          · show _ ∈ ERow _ a.out.length
            rw [hrow3, if_pos rfl]; simp
          · have := all_has (s.getD (m + d) 0)
            unfold placeM inB bAt
            simp only [if_true, this, and_true, decide_eq_true_eq]
            rw [if_pos (by omega)]
            rfl
      rcases hj with rfl | ⟨h2, h3⟩
      · exact hbase
      · have := hgo (j - m) (by omega)
        rw [show m + (j - m) = j by omega] at this
        exact this
  exact ⟨fun a p hw hp => (all a p hw hp).1, fun a p hw hp => (all a p hw hp).2.1, fun a p hw hp => ⟨.inr (Nat.le_refl _), (all a p hw hp).2.2.1⟩, fun a p x0 i j hw hp hx => (all a p hw hp).2.2.2 x0 i j hx⟩
mutual
theorem lay_hit (s : List UInt8) : ∀ r : RE, LayH s (layM r) (Hit s r)
  | .byte S => by
    rw [show layM (.byte S) = fun a p => (a.step p 1 S, a.out.length) from by funext a p; rw [layM]]
    refine LayH.edge s 1 S _ fun t i j => ?_
    rw [Hit]
    unfold placeM inB bAt
    simp only [if_true, decide_eq_true_eq]
    constructor
    · intro h
      split at h
      · rename_i h1; cases h; exact ⟨h1, rfl⟩
      · cases h
    · rintro ⟨h1, rfl⟩
      rw [if_pos h1]
  | .bol => by
    rw [show layM .bol = fun a p => (a.step p 2 zeroS, a.out.length) from by funext a p; rw [layM]]
    refine LayH.edge s 2 zeroS _ fun t i j => ?_
    rw [Hit]
    unfold placeM
    simp only [show ¬ ((2 : Nat) = 1) by omega, if_false, if_true]
    constructor
    · intro h
      split at h
      · rename_i h1; cases h; exact ⟨h1, rfl⟩
      · cases h
    · rintro ⟨h1, rfl⟩
      rw [if_pos h1]
  | .eol => by
    rw [show layM .eol = fun a p => (a.step p 3 zeroS, a.out.length) from by funext a p; rw [layM]]
    refine LayH.edge s 3 zeroS _ fun t i j => ?_
    rw [Hit]
    unfold placeM
    simp only [show ¬ ((3 : Nat) = 1) by omega, show ¬ ((3 : Nat) = 2) by omega, if_false, if_true]
    constructor
    · intro h
      split at h
      · rename_i h1; cases h; exact ⟨h1, rfl⟩
      · cases h
    · rintro ⟨h1, rfl⟩
      rw [if_pos h1]
  | .back n => by
    rw [show layM (.back n) = fun a p => ((a.step p 0 zeroS).link a.out.length a.out.length 1 (notS zeroS), a.out.length) from by funext a p; rw [layM]]
    exact (LayH.any s).iff fun i j => by rw [Hit]
  | .rep lo hi k => by
    rw [show layM (.rep lo hi k) = repA lo hi k (layM k) from by funext a p; rw [layM]]
    exact (LayH.rep (lay_hit s k) lo hi k).iff fun i j => by rw [Hit]
  | .cat ks => by
    rw [show layM (.cat ks) = layL ks from by funext a p; rw [layM]]
    exact (layL_hit s ks).iff fun i j => by rw [Hit]
  | .group n k => by
    rw [show layM (.group n k) = layM k from by funext a p; rw [layM]]
    exact (lay_hit s k).iff fun i j => by rw [Hit]
theorem layL_hit (s : List UInt8) : ∀ ks : List RE, LayH s (layL ks) (HitL s ks)
  | [] => by
    rw [show layL [] = fun a p => (a, p) from by funext a p; rw [layL]]
    exact (LayH.id s).iff fun i j => by rw [HitL]
  | k :: ks => by
    rw [show layL (k :: ks) = fun a p => layL ks (layM k a p).1 (layM k a p).2 from by funext a p; rw [layL]]
    exact ((lay_hit s k).seq (layL_hit s ks)).iff fun i j => by rw [HitL]
end
theorem make_hit (s : List UInt8) (ks : List RE) (i j : Nat) : FW s (makeM ks).1 (0, i) ((makeM ks).2, j) ↔ HitL s ks i j := by
  have hw : Wf (AM.add ⟨[], []⟩) := fun q e he => by
    rw [show ERow (AM.add ⟨[], []⟩) q = ERow ⟨[], []⟩ q from getD_new _ _] at he
    cases he
  refine ((layL_hit s ks).hit (AM.add ⟨[], []⟩) 0 0 i j hw (by decide) (by decide)).trans ⟨fun ⟨m, h1, h2⟩ => ?_, fun h => ⟨i, .here, h⟩⟩
  have := Rch.dead rfl h1
  injection this with _ e
  subst e
  exact h2
theorem ends_iff {ks : List RE} (hc : costL ks + 1 ≤ 131072) (s : List UInt8) {i j : Nat} (st : Nat) (hi : i ≤ s.length) (hj : j ≤ s.length) : (endsM (makeM ks) s i st).marks.getD j false = true ↔ HitL s ks i j := by
  obtain ⟨hr, hlt⟩ := make_room ks hc
  obtain ⟨done, hd⟩ := flood_spec hr.eo s (x0 := (0, i)) (by omega) hi (makeM ks).2 true st
  exact (hd.marks j hj).trans (make_hit s ks i j)
theorem place_rev (s : List UInt8) (k t q : Nat) (S : BS) (a b : Nat) : placeM s true ⟨k, S, t⟩ a = some b ↔ placeM s false ⟨k, S, q⟩ b = some a := by
  unfold placeM inB bAt
  dsimp only
  by_cases h1 : k = 1
  · simp only [h1, if_true, Bool.false_eq_true, if_false, decide_eq_true_eq]
    constructor
    · intro h
      split at h
      · rename_i h2; cases h
        rw [show a + 1 - 1 = a by omega, if_pos ⟨⟨by omega, h2.1⟩, h2.2⟩]
      · cases h
    · intro h
      split at h
      · rename_i h2; cases h
        rw [if_pos ⟨h2.1.2, h2.2⟩, show b - 1 + 1 = b by omega]
      · cases h
  · simp only [h1, if_false]
    by_cases h2 : k = 2
    · simp only [h2, if_true]
      constructor <;> intro h <;> split at h <;> first | (rename_i h3; cases h; rw [if_pos h3]) | cases h
    · simp only [h2, if_false]
      by_cases h3 : k = 3
      · simp only [h3, if_true]
        constructor <;> intro h <;> split at h <;> first | (rename_i h4; cases h; rw [if_pos h4]) | cases h
      · simp only [h3, if_false, Option.some.injEq]
        exact eq_comm
def Rev (a : AM) : Prop := a.back.length = a.out.length ∧ ∀ q t k S, (⟨k, S, t⟩ : Ed) ∈ a.out.getD q [] ↔ (⟨k, S, q⟩ : Ed) ∈ a.back.getD t []
theorem rev_add {a : AM} (h : Rev a) : Rev a.add := ⟨by simp [AM.add, h.1], fun q t k S => by
  rw [show a.add.out.getD q [] = a.out.getD q [] from getD_new _ _, show a.add.back.getD t [] = a.back.getD t [] from getD_new _ _]
  exact h.2 q t k S⟩
theorem rev_link {a : AM} {f t k : Nat} {S : BS} (h : Rev a) (hf : f < a.out.length) (ht : t < a.out.length) : Rev (a.link f t k S) := by
  refine ⟨by rw [(link_len _ _ _ _ _).1, (link_len _ _ _ _ _).2]; exact h.1, fun q t' k' S' => ?_⟩
  rw [show (a.link f t k S).out.getD q [] = _ from getD_addTo _ _ _ _ hf, show (a.link f t k S).back.getD t' [] = _ from getD_addTo _ _ _ _ (by rw [h.1]; exact ht)]
  have h2 := h.2 q t' k' S'
  have e1 : (⟨k', S', t'⟩ : Ed) ∈ (if q = f then a.out.getD q [] ++ [⟨k, S, t⟩] else a.out.getD q []) ↔ (⟨k', S', t'⟩ : Ed) ∈ a.out.getD q [] ∨ (q = f ∧ k' = k ∧ S' = S ∧ t' = t) := by
    split <;> simp_all
  have e2 : (⟨k', S', q⟩ : Ed) ∈ (if t' = t then a.back.getD t' [] ++ [⟨k, S, f⟩] else a.back.getD t' []) ↔ (⟨k', S', q⟩ : Ed) ∈ a.back.getD t' [] ∨ (t' = t ∧ k' = k ∧ S' = S ∧ q = f) := by
    split <;> simp_all
  rw [e1, e2, h2]
  constructor
  · rintro (h | ⟨h1, h2, h3, h4⟩)
    · exact .inl h
    · exact .inr ⟨h4, h2, h3, h1⟩
  · rintro (h | ⟨h1, h2, h3, h4⟩)
    · exact .inl h
    · exact .inr ⟨h4, h2, h3, h1⟩
theorem Rch.rev {es es' : List (List Ed)} {s : List UInt8} (hrev : ∀ q t k S, (⟨k, S, t⟩ : Ed) ∈ es.getD q [] ↔ (⟨k, S, q⟩ : Ed) ∈ es'.getD t []) {x y : Nat × Nat} : Rch es s true x y ↔ Rch es' s false y x := by
  constructor
  · intro h
    induction h with
    | here => exact .here
    | @step q a b e h1 he hp ih =>
      obtain ⟨k, S, t⟩ := e
      exact Rch.trans (Rch.step (e := ⟨k, S, q⟩) .here ((hrev q t k S).1 he) ((place_rev s k t q S a b).1 hp)) ih
  · intro h
    induction h with
    | here => exact .here
    | @step q a b e h1 he hp ih =>
      obtain ⟨k, S, t⟩ := e
      exact Rch.trans (Rch.step (e := ⟨k, S, q⟩) .here ((hrev t q k S).2 he) ((place_rev s k q t S b a).2 hp)) ih
end Go.Proofs.Ytblpgpgbnlhjlaa
namespace Go.Proofs.Ytblpgpgbnlhjlaa
open Go Go.RowKit Sl
set_option maxRecDepth 100000
set_option maxHeartbeats 8000000
set_option linter.unusedVariables false
set_option linter.unusedSimpArgs false
attribute [local irreducible] ES EL PX wps
structure Inv (P : AM → Prop) : Prop where
  add : ∀ a, P a → P a.add
  link : ∀ a f t k S, P a → f < a.out.length → t < a.out.length → P (a.link f t k S)
def Pres (P : AM → Prop) (f : AM → Nat → AM × Nat) : Prop := ∀ a p, P a → p < a.out.length → P (f a p).1 ∧ (f a p).2 < (f a p).1.out.length ∧ a.out.length ≤ (f a p).1.out.length
theorem Inv.step {P : AM → Prop} (hP : Inv P) {a : AM} {f k : Nat} {S : BS} (h : P a) (hf : f < a.out.length) : P (a.step f k S) :=
  hP.link _ _ _ _ _ (hP.add _ h) (by rw [add_len]; omega) (by rw [add_len]; omega)
theorem times_pres {P : AM → Prop} {f : AM → Nat → AM × Nat} (hf : Pres P f) : ∀ n, Pres P (timesA f n)
  | 0, a, p, h, hp => ⟨h, hp, Nat.le_refl _⟩
  | n + 1, a, p, h, hp => by
    have h1 := hf a p h hp
    have h2 := times_pres hf n _ _ h1.1 h1.2.1
    exact ⟨h2.1, h2.2.1, Nat.le_trans h1.2.2 h2.2.2⟩
theorem opt_pres {P : AM → Prop} (hP : Inv P) {f : AM → Nat → AM × Nat} (hf : Pres P f) (o : Nat) : ∀ n a p, P a → p < a.out.length → o < a.out.length → P (optA f o n a p) ∧ a.out.length ≤ (optA f o n a p).out.length
  | 0, a, p, h, _, _ => ⟨h, Nat.le_refl _⟩
  | n + 1, a, p, h, hp, ho => by
    have h1 := hf a p h hp
    have hl : ((f a p).1.link (f a p).2 o 0 zeroS).out.length = (f a p).1.out.length := (link_len _ _ _ _ _).1
    have h2 := opt_pres hP hf o n _ (f a p).2 (hP.link _ _ _ 0 zeroS h1.1 h1.2.1 (show o < _ by omega)) (by omega) (by omega)
    exact ⟨h2.1, by have := h2.2; rw [optA]; omega⟩
theorem rep_pres {P : AM → Prop} (hP : Inv P) {f : AM → Nat → AM × Nat} (hf : Pres P f) (lo : Nat) (hi : Int) (k : RE) : Pres P (repA lo hi k f) := fun a p h hp => by
  have h1 := times_pres hf (leastM lo k) a p h hp
  unfold repA
  dsimp only
  generalize timesA f (leastM lo k) a p = x at h1
  obtain ⟨a1, p1⟩ := x
  dsimp only at h1 ⊢
  split
  · exact h1
  · have h2 : P (a1.step p1 0 zeroS) := hP.step h1.1 h1.2.1
    have hl2 : (a1.step p1 0 zeroS).out.length = a1.out.length + 1 := step_len _ _ _ _
    split
    · have h3 := hf (a1.step p1 0 zeroS) a1.out.length h2 (by omega)
      dsimp only
      refine ⟨hP.link _ _ _ _ _ h3.1 h3.2.1 (by omega), ?_, ?_⟩ <;> rw [(link_len _ _ _ _ _).1] <;> omega
    · have h3 := opt_pres hP hf a1.out.length (hi.toNat - lo) (a1.step p1 0 zeroS) p1 h2 (by omega) (by omega)
      exact ⟨h3.1, by dsimp only; omega, by dsimp only; omega⟩
mutual
theorem lay_pres {P : AM → Prop} (hP : Inv P) : ∀ r : RE, Pres P (layM r)
  | .byte S, a, p, h, hp => by
    rw [layM]
    exact ⟨hP.step h hp, by dsimp only; rw [step_len]; omega, by dsimp only; rw [step_len]; omega⟩
  | .bol, a, p, h, hp => by
    rw [layM]
    exact ⟨hP.step h hp, by dsimp only; rw [step_len]; omega, by dsimp only; rw [step_len]; omega⟩
  | .eol, a, p, h, hp => by
    rw [layM]
    exact ⟨hP.step h hp, by dsimp only; rw [step_len]; omega, by dsimp only; rw [step_len]; omega⟩
  | .back n, a, p, h, hp => by
    rw [layM]
    refine ⟨hP.link _ _ _ _ _ (hP.step h hp) (by rw [step_len]; omega) (by rw [step_len]; omega), ?_, ?_⟩ <;> dsimp only <;> rw [(link_len _ _ _ _ _).1, step_len] <;> omega
  | .rep lo hi k, a, p, h, hp => by
    rw [layM]
    exact rep_pres hP (lay_pres hP k) lo hi k a p h hp
  | .cat ks, a, p, h, hp => by
    rw [layM]
    exact layL_pres hP ks a p h hp
  | .group n k, a, p, h, hp => by
    rw [layM]
    exact lay_pres hP k a p h hp
theorem layL_pres {P : AM → Prop} (hP : Inv P) : ∀ ks : List RE, Pres P (layL ks)
  | [], a, p, h, hp => by
    rw [layL]
    exact ⟨h, hp, Nat.le_refl _⟩
  | k :: ks, a, p, h, hp => by
    rw [layL]
    have h1 := lay_pres hP k a p h hp
    have h2 := layL_pres hP ks _ _ h1.1 h1.2.1
    exact ⟨h2.1, h2.2.1, Nat.le_trans h1.2.2 h2.2.2⟩
end
theorem make_rev (ks : List RE) : Rev (makeM ks).1 := by
  have h0 : Rev ⟨[], []⟩ := ⟨rfl, fun q t k S => by simp⟩
  exact (layL_pres (P := Rev) ⟨fun _ h => rev_add h, fun _ _ _ _ _ h h1 h2 => rev_link h h1 h2⟩ ks (AM.add ⟨[], []⟩) 0 (rev_add h0) (by decide)).1
theorem starts_iff {ks : List RE} (hc : costL ks + 1 ≤ 131072) (s : List UInt8) {i j : Nat} (st : Nat) (hi : i ≤ s.length) (hj : j ≤ s.length) : (startsM (makeM ks) s j st).marks.getD i false = true ↔ HitL s ks i j := by
  obtain ⟨hr, hlt⟩ := make_room ks hc
  obtain ⟨done, hd⟩ := flood_spec hr.eb s (x0 := ((makeM ks).2, j)) (by rw [hr.same]; exact hlt) hj 0 false st
  refine (hd.marks i hi).trans (Iff.trans ?_ (make_hit s ks i j))
  exact (Rch.rev (make_rev ks).2).symm
theorem startsM_steps {A : AM × Nat} (hr : A.1.Room 0) {s : List UInt8} (hs : s.length ≤ 1024) (j st : Nat) : (startsM A s j st).steps ≤ st + 17609365913600 :=
  floodM_steps (by have := hr.out; have := hr.same; omega) (fun l hl => by have := hr.rb l hl; omega) s hs (A.2, j) 0 false st
end Go.Proofs.Ytblpgpgbnlhjlaa
namespace Go.Proofs.Ytblpgpgbnlhjlaa
open Go Go.RowKit Sl
set_option maxRecDepth 100000
set_option maxHeartbeats 8000000
set_option linter.unusedVariables false
set_option linter.unusedSimpArgs false
attribute [local irreducible] ES EL PX wps
theorem endsM_le {A : AM × Nat} (hr : A.1.Room 0) {s : List UInt8} (hs : s.length ≤ 1024) (i st : Nat) : (endsM A s i st).steps ≤ st + 17609365913600 :=
  floodM_steps (by have := hr.out; omega) (fun l hl => by have := hr.ro l hl; omega) s hs (0, i) A.2 true st
theorem flood_up {es : List (List Ed)} (hes : EdsOk es) (s : List UInt8) {x0 : Nat × Nat} (h1 : x0.1 < es.length) (h2 : x0.2 ≤ s.length) (goal : Nat) (fwd : Bool) (st : Nat) : st ≤ (floodM es s x0 goal fwd st).steps := by
  obtain ⟨done, hd⟩ := flood_spec hes s h1 h2 goal fwd st
  rw [hd.steps]; omega
theorem dn_head (i : Nat) (f : Nat → Bool) {p : Nat} (hf : f p = true) : ∀ n, i ≤ p → p < i + n → (∀ q, p < q → q < i + n → f q = false) → ((dnL i n).filter f).head? = some p ∧ (dnL i n).find? f = some p
  | 0, h1, h2, _ => by omega
  | n + 1, h1, h2, h3 => by
    rw [dnL, List.filter_cons, List.find?_cons]
    by_cases h : p = i + n
    · subst h
      rw [hf]
      exact ⟨rfl, rfl⟩
    · rw [h3 (i + n) (by omega) (by omega)]
      exact dn_head i f hf n h1 (by omega) (fun q hq1 hq2 => h3 q hq1 (by omega))
structure First (s : List UInt8) (hd tl : List RE) (i e j : Nat) : Prop where
  ch : costL hd + 1 ≤ 131072
  ct : costL tl + 1 ≤ 131072
  ie : i ≤ e
  ej : e ≤ j
  hh : HitL s hd i e
  ht : HitL s tl e j
  no : ∀ p, e < p → p ≤ j → ¬ (HitL s hd i p ∧ HitL s tl p j)
abbrev floodC : Nat := 17609365913600
theorem cut_first {s : List UInt8} (hs : s.length ≤ 1024) {hd tl : List RE} {i e j st : Nat} (h : First s hd tl i e j) (hj : j ≤ s.length) (hst : st ≤ 576460752303423488) : ∃ st', cutS s hd tl i j st = some (e, st') ∧ st ≤ st' ∧ st' ≤ st + 2 * floodC := by
  have hie := h.ie
  have hej := h.ej
  obtain ⟨hr1, hl1⟩ := make_room hd h.ch
  obtain ⟨hr2, hl2⟩ := make_room tl h.ct
  have hE := fun p (hp : p ≤ s.length) => ends_iff h.ch s (i := i) (j := p) st (by omega) hp
  have hS := fun p (hp : p ≤ s.length) => starts_iff h.ct s (i := p) (j := j) (splE s hd i st).steps hp hj
  have hhead := (dn_head i (fun p => (splE s hd i st).marks.getD p false && (splS s hd tl i j st).marks.getD p false) (p := e) (by
      rw [Bool.and_eq_true]
      exact ⟨(hE e (by omega)).2 h.hh, (hS e (by omega)).2 h.ht⟩) (j + 1 - i) hie (by omega) (fun q h1 h2 => by
      rw [Bool.eq_false_iff]
      intro hq
      rw [Bool.and_eq_true] at hq
      exact h.no q h1 (by omega) ⟨(hE q (by omega)).1 hq.1, (hS q (by omega)).1 hq.2⟩)).1
  have hup1 := flood_up hr1.eo s (x0 := (0, i)) (by omega) (show i ≤ s.length by omega) (makeM hd).2 true st
  have hup2 := flood_up hr2.eb s (x0 := ((makeM tl).2, j)) (by rw [hr2.same]; exact hl2) hj 0 false (splE s hd i st).steps
  have hup1' : st ≤ (splE s hd i st).steps := hup1
  have hup2' : (splE s hd i st).steps ≤ (splS s hd tl i j st).steps := hup2
  have hb1 : (splE s hd i st).steps ≤ st + 17609365913600 := endsM_le hr1 hs i st
  have hb2 : (splS s hd tl i j st).steps ≤ (splE s hd i st).steps + 17609365913600 := startsM_steps hr2 hs j _
  refine ⟨(splS s hd tl i j st).steps, ?_, by omega, by unfold floodC; omega⟩
  unfold cutS
  rw [if_pos ⟨hst, h.ch, h.ct, by omega, hj⟩]
  have hspl : (splL s hd tl i j st).head? = some e := hhead
  cases hx : splL s hd tl i j st with
  | nil => rw [hx] at hspl; cases hspl
  | cons p l => rw [hx] at hspl; cases hspl; rfl
inductive Wk (s : List UInt8) : WT → Nat → Nat → List Spn → List Spn → Nat → Nat → Prop
  | group {n k i j z z' f c} (hn : n < z.length) (h : Wk s (.one k) i j (z.set n ((i : Int), (j : Int))) z' f c) : Wk s (.one (.group n k)) i j z z' (f + 1) c
  | cat {ks i j z z' f c} (h : Wk s (.cat ks) i j z z' f c) : Wk s (.one (.cat ks)) i j z z' (f + 1) c
  | rep {lo hi k i j z z' f c} (h : Wk s (.rep lo hi k 0) i j z z' f c) : Wk s (.one (.rep lo hi k)) i j z z' (f + 1) c
  | byte {S i j z} : Wk s (.one (.byte S)) i j z z 1 0
  | bol {i j z} : Wk s (.one .bol) i j z z 1 0
  | eol {i j z} : Wk s (.one .eol) i j z z 1 0
  | nil {i j z} : Wk s (.cat []) i j z z 1 0
  | last {k i j z z' f c} (h : Wk s (.one k) i j z z' f c) : Wk s (.cat [k]) i j z z' (f + 1) c
  | cons {k k' ks i e j z z1 z2 f c c2} (hf : First s [k] (k' :: ks) i e j) (h1 : Wk s (.one k) i e z z1 f c) (h2 : Wk s (.cat (k' :: ks)) e j z1 z2 f c2) : Wk s (.cat (k :: k' :: ks)) i j z z2 (f + 1) (c + c2 + 1)
  | end0 {lo hi k t j z z' f c} (ht : t < leastM lo k) (h : Wk s (.one k) j j z z' f c) : Wk s (.rep lo hi k t) j j z z' (f + 1) c
  | end1 {lo hi k t j z} (ht : ¬ t < leastM lo k) : Wk s (.rep lo hi k t) j j z z 1 0
  | turn {lo hi k t i e j z z1 z2 f c c2} (hij : i ≠ j) (ht : t ≤ 1000000) (hf : First s [k] [leftM lo hi k (t + 1)] i e j) (h1 : Wk s (.one k) i e z z1 f c) (h2 : Wk s (.rep lo hi k (t + 1)) e j z1 z2 f c2) : Wk s (.rep lo hi k t) i j z z2 (f + 1) (c + c2 + 1)
  | more {wt i j z z' f c} (h : Wk s wt i j z z' f c) : Wk s wt i j z z' (f + 1) c
theorem Wk.run {s : List UInt8} (hs : s.length ≤ 1024) {wt : WT} {i j f c : Nat} {z z' : List Spn} (h : Wk s wt i j z z' f c) : i ≤ j → j ≤ s.length → ∀ F st, f ≤ F → st + c * (2 * floodC) ≤ 576460752303423488 → ∃ st', walkM s F wt i j ⟨z, st⟩ = some ⟨z', st'⟩ ∧ st ≤ st' ∧ st' ≤ st + c * (2 * floodC) := by
  induction h with
  | group hn h ih =>
    intro h1 h2 F st hF hst
    obtain ⟨F, rfl⟩ : ∃ F', F = F' + 1 := ⟨F - 1, by omega⟩
    rw [walkM, if_pos hn]
    exact ih h1 h2 F st (by omega) hst
  | cat h ih =>
    intro h1 h2 F st hF hst
    obtain ⟨F, rfl⟩ : ∃ F', F = F' + 1 := ⟨F - 1, by omega⟩
    rw [walkM]
    exact ih h1 h2 F st (by omega) hst
  | rep h ih =>
    intro h1 h2 F st hF hst
    obtain ⟨F, rfl⟩ : ∃ F', F = F' + 1 := ⟨F - 1, by omega⟩
    rw [walkM]
    exact ih h1 h2 F st (by omega) hst
  | byte =>
    intro h1 h2 F st hF hst
    obtain ⟨F, rfl⟩ : ∃ F', F = F' + 1 := ⟨F - 1, by omega⟩
    exact ⟨st, by simp [walkM], Nat.le_refl _, by omega⟩
  | bol =>
    intro h1 h2 F st hF hst
    obtain ⟨F, rfl⟩ : ∃ F', F = F' + 1 := ⟨F - 1, by omega⟩
    exact ⟨st, by simp [walkM], Nat.le_refl _, by omega⟩
  | eol =>
    intro h1 h2 F st hF hst
    obtain ⟨F, rfl⟩ : ∃ F', F = F' + 1 := ⟨F - 1, by omega⟩
    exact ⟨st, by simp [walkM], Nat.le_refl _, by omega⟩
  | nil =>
    intro h1 h2 F st hF hst
    obtain ⟨F, rfl⟩ : ∃ F', F = F' + 1 := ⟨F - 1, by omega⟩
    exact ⟨st, by simp [walkM], Nat.le_refl _, by omega⟩
  | last h ih =>
    intro h1 h2 F st hF hst
    obtain ⟨F, rfl⟩ : ∃ F', F = F' + 1 := ⟨F - 1, by omega⟩
    rw [walkM]
    exact ih h1 h2 F st (by omega) hst
  | @cons k k' ks i e j z z1 z2 f c c2 hf _ _ ih1 ih2 =>
    intro h1 h2 F st hF hst
    obtain ⟨F, rfl⟩ : ∃ F', F = F' + 1 := ⟨F - 1, by omega⟩
    have hmul : (c + c2 + 1) * (2 * floodC) = c * (2 * floodC) + c2 * (2 * floodC) + 2 * floodC := by rw [Nat.add_mul, Nat.add_mul, Nat.one_mul]
    rw [hmul] at hst
    have hie := hf.ie
    have hej := hf.ej
    obtain ⟨st1, e1, e2, e3⟩ := cut_first hs hf h2 (st := st) (by omega)
    obtain ⟨st2, e4, e5, e6⟩ := ih1 hie (by omega) F st1 (by omega) (by omega)
    obtain ⟨st3, e7, e8, e9⟩ := ih2 hej h2 F st2 (by omega) (by omega)
    refine ⟨st3, ?_, by omega, by rw [hmul]; omega⟩
    rw [walkM]
    simp only [e1, e4, e7]
  | @end0 lo hi k t j z z' f c ht h ih =>
    intro h1 h2 F st hF hst
    obtain ⟨F, rfl⟩ : ∃ F', F = F' + 1 := ⟨F - 1, by omega⟩
    rw [walkM, if_pos rfl, if_pos ht]
    exact ih h1 h2 F st (by omega) hst
  | @end1 lo hi k t j z ht =>
    intro h1 h2 F st hF hst
    obtain ⟨F, rfl⟩ : ∃ F', F = F' + 1 := ⟨F - 1, by omega⟩
    exact ⟨st, by rw [walkM, if_pos rfl, if_neg ht], Nat.le_refl _, by omega⟩
  | @turn lo hi k t i e j z z1 z2 f c c2 hij ht hf _ _ ih1 ih2 =>
    intro h1 h2 F st hF hst
    obtain ⟨F, rfl⟩ : ∃ F', F = F' + 1 := ⟨F - 1, by omega⟩
    have hmul : (c + c2 + 1) * (2 * floodC) = c * (2 * floodC) + c2 * (2 * floodC) + 2 * floodC := by rw [Nat.add_mul, Nat.add_mul, Nat.one_mul]
    rw [hmul] at hst
    have hie := hf.ie
    have hej := hf.ej
    obtain ⟨st1, e1, e2, e3⟩ := cut_first hs hf h2 (st := st) (by omega)
    obtain ⟨st2, e4, e5, e6⟩ := ih1 hie (by omega) F st1 (by omega) (by omega)
    obtain ⟨st3, e7, e8, e9⟩ := ih2 hej h2 F st2 (by omega) (by omega)
    refine ⟨st3, ?_, by omega, by rw [hmul]; omega⟩
    rw [walkM, if_neg hij, if_neg (by omega)]
    simp only [e1, e4, e7]
  | more h ih =>
    intro h1 h2 F st hF hst
    exact ih h1 h2 F st (by omega) hst
end Go.Proofs.Ytblpgpgbnlhjlaa
namespace Go.Proofs.Ytblpgpgbnlhjlaa
open Go Go.RowKit Sl
set_option maxRecDepth 100000
set_option maxHeartbeats 8000000
set_option linter.unusedVariables false
set_option linter.unusedSimpArgs false
attribute [local irreducible] ES EL PX wps
abbrev At (s : List UInt8) (S : BS) (k : Nat) : Prop := k < s.length ∧ hasS S (s.getD k 0).toNat = true
theorem hit_byte {s : List UInt8} {S : BS} {i j : Nat} : Hit s (.byte S) i j ↔ At s S i ∧ j = i + 1 := by rw [Hit]
theorem hitL_one {s : List UInt8} {r : RE} {i j : Nat} : HitL s [r] i j ↔ Hit s r i j := by
  rw [HitL]
  constructor
  · rintro ⟨m, h1, h2⟩
    rw [HitL] at h2
    subst h2; exact h1
  · exact fun h => ⟨j, h, by rw [HitL]⟩
theorem hitL_two {s : List UInt8} {r : RE} {ks : List RE} {i j : Nat} : HitL s (r :: ks) i j ↔ ∃ m, Hit s r i m ∧ HitL s ks m j := by rw [HitL]
theorem hit_group {s : List UInt8} {n : Nat} {r : RE} {i j : Nat} : Hit s (.group n (.cat [r])) i j ↔ Hit s r i j := by rw [Hit, Hit, hitL_one]
theorem hit_cat {s : List UInt8} {ks : List RE} {i j : Nat} : Hit s (.cat ks) i j ↔ HitL s ks i j := by rw [Hit]
end Go.Proofs.Ytblpgpgbnlhjlaa
namespace Go.Proofs.Ytblpgpgbnlhjlaa
open Go Go.RowKit Sl
set_option maxRecDepth 100000
set_option maxHeartbeats 8000000
set_option linter.unusedVariables false
set_option linter.unusedSimpArgs false
attribute [local irreducible] ES EL PX wps
theorem row_le (s : List UInt8) (r : RE) (a q : Nat) : rowW s r a q ≤ 4097 := by
  unfold rowW
  rw [row_cap]
  exact cap_le _
theorem thr_le (f : Nat → Row) (v : Row) (more : Bool) (q : Nat) : ∀ m, thrGo capW f v more q m ≤ 4097
  | 0 => by simp [thrGo]
  | m + 1 => by
    rw [thrGo]
    split
    · exact thr_le f v more q m
    · exact cap_le _
theorem thr_zero {cap : Nat → Nat} (hc : cap 0 = 0) (f : Nat → Row) (v : Row) (more : Bool) (q : Nat) (h : ∀ p, v p = 0 ∨ f p q = 0 ∨ (more = true ∧ q = p)) : ∀ m, thrGo cap f v more q m = 0
  | 0 => rfl
  | m + 1 => by
    rw [thrGo, thr_zero hc f v more q h m]
    split
    · rfl
    · rename_i hn
      rcases h m with h1 | h1 | h1
      · exact absurd (.inl h1) hn
      · rw [h1]; simpa using hc
      · exact absurd (.inr h1) hn
def zeroTo (v : Row) (b : Nat) : Prop := ∀ q, q < b → v q = 0
section zero
variable {cap : Nat → Nat} (hc : cap 0 = 0) {f : Nat → Row} (hf : ∀ p q, q < p → f p q = 0)
include hc hf
theorem thrR_zero {n : Nat} {v : Row} {more : Bool} {b : Nat} (h : zeroTo v b) : zeroTo (thrR cap n f v more) b := fun q hq =>
  thr_zero hc f v more q (fun p => by
    rcases Nat.lt_or_ge p b with h1 | h1
    · exact .inl (h p h1)
    · exact .inr (.inl (hf p q (by omega)))) _
theorem thrR_step {n : Nat} {v : Row} {b : Nat} (h : zeroTo v b) : zeroTo (thrR cap n f v true) (b + 1) := fun q hq =>
  thr_zero hc f v true q (fun p => by
    rcases Nat.lt_or_ge p b with h1 | h1
    · exact .inl (h p h1)
    · rcases Nat.lt_or_ge q p with h2 | h2
      · exact .inr (.inl (hf p q h2))
      · exact .inr (.inr ⟨rfl, by omega⟩)) _
theorem times_zero {n : Nat} {b : Nat} : ∀ (k : Nat) (v : Row), zeroTo v b → zeroTo (timesR cap n f k v) b
  | 0, v, h => h
  | k + 1, v, h => by rw [timesR]; exact times_zero k _ (thrR_zero hc hf h)
theorem more_zero {n : Nat} {b : Nat} : ∀ (k : Nat) (v all : Row), zeroTo v b → zeroTo all b → zeroTo (moreR cap n f k v all) b
  | 0, v, all, _, h => h
  | k + 1, v, all, hv, ha => by
    rw [moreR]
    have h1 : zeroTo (thrR cap n f v true) b := thrR_zero hc hf hv
    split
    · exact ha
    · refine more_zero k _ _ h1 (fun q hq => ?_)
      rw [ha q hq, h1 q hq]; exact hc
theorem rep_zero {n lo : Nat} {hi : Int} {thin : Bool} {v : Row} {b : Nat} (h : zeroTo v b) : zeroTo (repR cap n lo hi thin f v) b := by
  unfold repR
  dsimp only
  have h1 := times_zero hc hf (n := n) (b := b) (if thin = true then min lo 1 else lo) v h
  generalize timesR cap n f (if thin = true then min lo 1 else lo) v = v1 at h1 ⊢
  split
  · exact h1
  · exact more_zero hc hf _ _ _ h1 h1
end zero
theorem unit_zero (a : Nat) : zeroTo (unitR a) a := fun q hq => if_neg (by omega)
mutual
theorem row_zero {cap : Nat → Nat} (hc : cap 0 = 0) (s : List UInt8) : ∀ (r : RE) (a q : Nat), q < a → rowR cap s r a q = 0
  | .byte b, a, q, h => by rw [rowR]; exact if_neg (by omega)
  | .bol, a, q, h => by rw [rowR]; exact if_neg (by omega)
  | .eol, a, q, h => by rw [rowR]; exact if_neg (by omega)
  | .back _, a, q, h => by rw [rowR]; exact if_neg (by omega)
  | .rep lo hi k, a, q, h => by rw [rowR]; exact rep_zero hc (row_zero hc s k) (unit_zero a) q h
  | .cat ks, a, q, h => by rw [rowR]; exact cat_zero hc s ks _ a (unit_zero a) q h
  | .group _ k, a, q, h => by rw [rowR]; exact thrR_zero hc (row_zero hc s k) (unit_zero a) q h
theorem cat_zero {cap : Nat → Nat} (hc : cap 0 = 0) (s : List UInt8) : ∀ (ks : List RE) (v : Row) (b : Nat), zeroTo v b → zeroTo (catR cap s ks v) b
  | [], v, b, h => by rw [catR]; exact h
  | k :: ks, v, b, h => by rw [catR]; exact cat_zero hc s ks _ b (thrR_zero hc (row_zero hc s k) h)
end
theorem rowW_zero (s : List UInt8) (r : RE) (p q : Nat) (h : q < p) : rowW s r p q = 0 := row_zero rfl s r p q h
theorem noneR_iff (n : Nat) (v : Row) : noneR n v = true ↔ ∀ q, q ≤ n → v q = 0 := by
  unfold noneR
  rw [List.all_eq_true]
  simp only [List.mem_range, decide_eq_true_eq]
  exact ⟨fun h q hq => h q (by omega), fun h q hq => h q (by omega)⟩
def rowC (v : Row) (n : Nat) : List Value := (List.range (n + 1)).map fun q => Iv (v q : Nat)
theorem rowC_len (v : Row) (n : Nat) : (rowC v n).length = n + 1 := by simp [rowC]
theorem rowC_get (v : Row) {n q : Nat} (h : q ≤ n) : (rowC v n)[q]? = some (Iv (v q : Nat)) := by
  unfold rowC
  rw [List.getElem?_map, List.getElem?_range (by omega)]
  rfl
theorem rowC_ext {u v : Row} {n : Nat} (h : ∀ q, q ≤ n → u q = v q) : rowC u n = rowC v n := by
  unfold rowC
  refine List.map_congr_left (fun q hq => ?_)
  rw [h q (by have := List.mem_range.1 hq; omega)]
def updR (v : Row) (j x : Nat) : Row := fun q => if q = j then x else v q
theorem rowC_set (v : Row) {n j : Nat} (x : Nat) (h : j ≤ n) : (rowC v n).set j (Iv (x : Nat)) = rowC (updR v j x) n := by
  apply List.ext_getElem?
  intro q
  rw [List.getElem?_set]
  rcases Nat.lt_or_ge n q with hq | hq
  · rw [if_neg (by omega), List.getElem?_eq_none (by rw [rowC_len]; omega), List.getElem?_eq_none (by rw [rowC_len]; omega)]
  · rw [rowC_get _ hq]
    by_cases e : j = q
    · subst e
      rw [if_pos rfl, if_pos (by rw [rowC_len]; omega), rowC_get _ hq]
      show some (Iv (x : Nat)) = some (Iv ((if j = j then x else v j : Nat) : Nat))
      rw [if_pos rfl]
    · rw [if_neg e, rowC_get _ hq]
      show some (Iv (v q : Nat)) = some (Iv ((if q = j then x else v q : Nat) : Nat))
      rw [if_neg (Ne.symm e)]
theorem rowC_zero (n : Nat) : List.replicate (n + 1) (Iv 0) = rowC (fun _ => 0) n := by
  apply List.ext_getElem?
  intro q
  rcases Nat.lt_or_ge n q with hq | hq
  · rw [List.getElem?_eq_none (by simp; omega), List.getElem?_eq_none (by rw [rowC_len]; omega)]
  · rw [rowC_get _ hq, List.getElem?_replicate, if_pos (by omega)]; rfl
end Go.Proofs.Ytblpgpgbnlhjlaa
namespace Go.Proofs.Ytblpgpgbnlhjlaa.Sl
open Go Go.RowKit
set_option linter.unusedVariables false
set_option linter.unusedSimpArgs false
theorem Rd.take {w : World} {B : Nat} {ad : Option Addr} {cs : List Value} (h : Rd w B ad cs) (k : Nat) : Rd w B ad (cs.take k) := by
  intro hne
  obtain ⟨g, off, h1, h2, h3⟩ := h (by intro e; subst e; simp at hne)
  refine ⟨g, off, h1, h2, fun j v hj => h3 j v ?_⟩
  rw [List.getElem?_take] at hj
  split at hj
  · exact hj
  · cases hj
section cutabove
variable {C : Cx} {all : Array Oper} {ops : List Oper} {Q : Qt} {E : Env} {H : List HA} {d ty t : Nat} {pos : String} {af : Array Edge} {gd : Option (Nat × Bool)} {x y : Operand}
end cutabove
end Go.Proofs.Ytblpgpgbnlhjlaa.Sl
namespace Go.Proofs.Ytblpgpgbnlhjlaa.Sl
open Go Go.RowKit
set_option linter.unusedVariables false
set_option linter.unusedSimpArgs false
variable {C : Cx} {Q : Qt} {E : Env} {H : List HA}
theorem run_append_none {P : Program} (w : World) (t ty e : TypeId) (i : TypeInfo) (ht : P.underlying t = some (.slice e)) (hi : P.info? e = some i) (base : Option Addr) (sLen sCap : Nat) (hle : sLen ≤ sCap) (ad2 : Option Addr) (c : Nat) :
    (Builtin.append_ #[t, t] ty #[.slice base sLen sCap, .slice ad2 0 c]).run P w = .ok (.slice base sLen sCap) w := by
  cases base <;> cases ad2 <;> simp [Builtin.append_, run_underlying ht, sizeOf, typeInfo, hi, hle, Builtin.lenOf, Builtin.firstCells, loadCells, loadCellsFrom, storeCells, Result.andThen]
section appendrd
variable {all : Array Oper} {ops : List Oper} {d ty t : Nat} {pos : String} {af : Array Edge} {gd : Option (Nat × Bool)} {x y : Operand}
end appendrd
end Go.Proofs.Ytblpgpgbnlhjlaa.Sl
namespace Go.Proofs.Ytblpgpgbnlhjlaa.Sl
open Go Go.RowKit Go.Lib
set_option linter.unusedVariables false
set_option linter.unusedSimpArgs false
section buffers
variable {C : Cx} {all : Array Oper} {ops : List Oper} {Q : Qt} {E : Env} {H R : List HA} {d ty t : Nat} {pos : String} {af : Array Edge} {gd : Option (Nat × Bool)} {x y : Operand}
end buffers
end Go.Proofs.Ytblpgpgbnlhjlaa.Sl
namespace Go.Proofs.Ytblpgpgbnlhjlaa.Sl
open Go Go.RowKit
set_option linter.unusedVariables false
set_option linter.unusedSimpArgs false
section appendrow
variable {C : Cx} {all : Array Oper} {ops : List Oper} {Q : Qt} {E : Env} {H R : List HA} {d ty t : Nat} {pos : String} {af : Array Edge} {gd : Option (Nat × Bool)} {x y : Operand}
theorem EL.appendW {ti te : TI} {el : TypeId} {ad ad2 : Option Addr} {n cap m c : Nat} {cs news : List Value} (hg : guardOk all E gd = some true) (hx : E.ev x = some (.slice ad n cap)) (hy : E.ev y = some (.slice ad2 m c)) (ht : C.T.f t = some ti) (hu : ti.u = .slice el) (hte : C.T.f el = some te)
    (hz1 : te.zero.cells.size = te.size) (hpos : Nat.blt 0 te.size = true) (hd : Nat.blt d C.n = true) (p : Pick H (HA.row (.slice ad n cap) el te.size n cs) R) (hrd : ∀ w, Sat C.w0 C.B H w → Rd w w.heap.size ad2 news) (hl : news.length = m * te.size) (h1 : ∀ u ∈ news, u.oneCell' = true)
    (h63 : n + m ≤ maxLen) (hbytes : (n + m) * te.bytes ≤ 140737488355328)
    (k : ∀ ad' cap', EL C all ops Q ((d, .slice ad' (n + m) cap') :: E) (HA.row (.slice ad' (n + m) cap') el te.size (n + m) (cs ++ news) :: R)) :
    EL C all (⟨some d, .call { callee := .builtin .append, args := #[x, y], argTypes := #[t, t] }, ty, pos, af, gd⟩ :: ops) Q E H := by
  rcases Nat.eq_zero_or_pos m with rfl | hm
  · obtain rfl : news = [] := List.eq_nil_of_length_eq_zero (by simpa using hl)
    refine EL.val (.slice ad n cap) hg rfl hd (by simp) (fun a w ha => ?_) ?_
    · have hT := (C.T.ok t ti ht).u
      rw [hu] at hT
      obtain ⟨i, hi, hz, hs, hb⟩ := (C.T.ok el te hte).info
      have hf := row_form (ha.2.perm p.perm).head
      have hr := run_append_none (P := C.P) w t ty el i hT hi ad n cap hf.2.1 ad2 c
      simp [execOp, ha.1.ev hx, ha.1.ev hy, resolve, invoke, builtin, hr, Result.andThen]
    · intro a w ha
      have h2 := k ad cap a w
      simp only [Nat.add_zero, List.append_nil] at h2
      exact h2 ⟨ha.1, ha.2.perm p.perm⟩
  · have hpz : 0 < te.size := by simpa using hpos
    have hne : news ≠ [] := by
      intro e; subst e
      have := Nat.mul_pos hm hpz
      simp at hl; omega
    intro a w ha
    obtain ⟨g, off, rfl, hgB, _⟩ := hrd w ha.2 hne
    exact (EL.append hg hx hy ht hu hte hz1 hpos hd p hl hm (fun w hs j u hj => by
      obtain ⟨g', off', h1', h2', h3'⟩ := hrd w hs hne
      cases h1'
      rw [add_n]; exact h3' j u hj) h1 h63 hbytes (fun g' cap' => k _ cap')) a w ha
end appendrow
end Go.Proofs.Ytblpgpgbnlhjlaa.Sl
