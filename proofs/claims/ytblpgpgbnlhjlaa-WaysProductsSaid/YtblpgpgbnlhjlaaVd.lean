/- Layer 9 (ways): the walk of repeat. -/
import Derived.Test.YtblpgpgbnlhjlaaVc
namespace Go.Proofs.Ytblpgpgbnlhjlaa
open Go Go.RowKit Sl
set_option maxRecDepth 100000
set_option maxHeartbeats 8000000
set_option linter.unusedVariables false
set_option linter.unusedSimpArgs false
attribute [local irreducible] ES EL PX wps

theorem more_le (f : Nat → Row) (n : Nat) : ∀ (k : Nat) (v all : Row), (∀ q, all q ≤ 4097) → ∀ q, moreR capW n f k v all q ≤ 4097
  | 0, v, all, h, q => h q
  | k + 1, v, all, h, q => by
    rw [moreR]
    split
    · exact h q
    · exact more_le f n k _ _ (fun q => cap_le _) q
structure RSt (w0 : World) (B : Nat) (s : List UInt8) (es : List ME) (b : Nat) where
  i : Nat
  g : Nat
  cap : Nat
  v : Row
  G : Grow w0 B s es b
structure MSt (w0 : World) (B : Nat) (s : List UInt8) (es : List ME) (b : Nat) where
  c : Nat
  g : Nat
  cap : Nat
  v : Row
  all : Row
  G : Grow w0 B s es b
theorem repeat_c (s : List UInt8) (hs : s.length ≤ 1024) (gc gm : Nat) (w0 : World) (B : Nat) (lo : Nat) (hi : Int) (k : RE) (g off : Nat) (hfine : (RE.rep lo hi k).fine) (hn : NodeRd w0 B g off (.rep lo hi k))
    (hrow : ∀ g off, NodeRd w0 B g off k → RowCt s gc gm w0 B k g off) (vg vcap : Nat) (vr : Row) (es : List ME) (hv : ∀ q, vr q ≤ 4097) (hok : MemoOk w0 B s es) :
    MutAt Try.prog 61 #[Pv gc 0, .slice (some ⟨vg, 0, none⟩) (s.length + 1) vcap, Pv g off] [CB gc gm s, MH gm es, VR vg vcap s.length vr] (fun x : ThrX w0 B s es k => .slice (some ⟨x.g, 0, none⟩) (s.length + 1) x.cap)
      (fun x => [CB gc gm s, MH gm x.G.es', VR x.g x.cap s.length (repR capW s.length lo hi k.thin (rowW s k) vr)]) w0 B := by
  intro R w h
  replace h : Sat w0 B (CB gc gm s :: MH gm es :: VR vg vcap s.length vr :: R) w := h
  obtain ⟨ad, cap, hrd, hkids⟩ := hn.kids
  have hrd := hrd.rd
  obtain ⟨kg, ko, rfl, hk⟩ := hkids (by simp [RE.kids])
  have hkn : NodeRd w0 B kg ko k := by have := hk 0 k rfl; rwa [Nat.zero_mul, Nat.add_zero] at this
  have hrk := hrow kg ko hkn
  have hkf := hfine.2.2.2.2
  have hle : leastM lo k = if k.thin = true then min lo 1 else lo := rfl
  obtain ⟨hlo, hh0, hh1, hlh, _⟩ := hfine
  have hrep : repR capW s.length lo hi k.thin (rowW s k) vr = (let v1 := timesR capW s.length (rowW s k) (leastM lo k) vr; if k.thin = true then v1 else moreR capW s.length (rowW s k) (if hi < 0 then s.length + 2 else hi.toNat - lo) v1 v1) := rfl
  have hlel : leastM lo k ≤ 255 := by rw [hle]; split <;> omega
  obtain ⟨v1, hv1⟩ : ∃ v1, v1 = timesR capW s.length (rowW s k) (leastM lo k) vr := ⟨_, rfl⟩
  dsimp only at hrep
  rw [← hv1] at hrep
  rw [hrep]
  refine calls_of_ES TB Try.func61 rfl _ Try.ntmps61 rfl h ?_
  refine .go ?_; repeat constructor
  refine EL.assign rfl rfl rfl ?_
  refine .go ?_; repeat constructor
  refine EL.move rfl rfl rfl ?_
  refine EL.nilCheck rfl rfl rfl ?_
  refine EL.fieldAddr rfl rfl rfl rfl rfl rfl rfl rfl ?_
  refine EL.loadOld rfl rfl rfl rfl rfl hrd rfl ?_
  refine EL.indexAddrL (i := 0) rfl rfl rfl rfl rfl rfl rfl (by simp [RE.kids]) ?_
  refine EL.assign rfl rfl rfl ?_
  refine .go ?_; repeat constructor
  refine EL.move rfl rfl rfl ?_
  refine EL.callPw rfl rfl rfl ent82 rfl (fun w hs => least_c lo hi k ⟨hlo, hh0, hh1, hlh, hkf⟩ g off w (NodeRd.sat hn hs)) ?_
  refine EL.move rfl rfl rfl ?_
  refine .go ?_; repeat constructor
  refine ES.loop (σ := RSt w0 B s es k.sz) (fun x => x.i ≤ leastM lo k ∧ (∀ q, x.v q ≤ 4097) ∧ timesR capW s.length (rowW s k) (leastM lo k - x.i) x.v = v1) (fun x => [(0, Pv gc 0), (1, .slice (some ⟨x.g, 0, none⟩) (s.length + 1) x.cap), (2, Pv g off), (7, Pv kg ko), (18, Iv (leastM lo k : Nat)), (19, Iv (x.i : Nat))])
    (fun x => CB gc gm s :: MH gm x.G.es' :: VR x.g x.cap s.length x.v :: R) (fun x => leastM lo k - x.i) ⟨0, vg, vcap, vr, Grow.zero hok⟩ ⟨Nat.zero_le _, hv, hv1.symm⟩ ⟨rfl, rfl, rfl, rfl, rfl, rfl, trivial⟩ (.i (by repeat constructor)) ?_
  rintro ⟨i, ig, icap, iv, G⟩ ⟨hi1, hi2, hi3⟩
  dsimp only at hi1 hi2 hi3 ⊢
  refine .go ?_; repeat constructor
  refine EL.lss rfl rfl rfl rfl ?_
  refine .go ?_; repeat constructor
  refine ES.condD rfl (fun hlt => ?_) (fun hge => ?_)
  · refine .go ?_; repeat constructor
    refine EL.move rfl rfl rfl ?_
    refine EL.move rfl rfl rfl ?_
    refine EL.move rfl rfl rfl ?_
    (refine EL.callMw rfl rfl rfl ent62 rfl (through_c s hs gc gm w0 B k kg ko hrk ig icap iv false G.es' hi2 G.ok) (by repeat constructor) ?_; intro x)
    refine EL.assign rfl rfl rfl ?_
    refine .go ?_; repeat constructor
    refine EL.add1 rfl rfl rfl rfl (by omega) ?_
    refine EL.move rfl rfl rfl ?_
    refine .go ?_; repeat constructor
    refine PX.loop ⟨i + 1, x.g, x.cap, thrR capW s.length (rowW s k) iv false, G.trans x.G (Nat.le_refl _)⟩ ⟨by simp only; omega, fun q => thr_le _ _ _ _ _, ?_⟩ (by simp only; omega) ⟨rfl, rfl, rfl, rfl, rfl, rfl, trivial⟩ (.i (by repeat constructor))
    dsimp only
    obtain ⟨m, hm⟩ : ∃ m, leastM lo k - i = m + 1 := ⟨leastM lo k - i - 1, by omega⟩
    rw [hm, timesR] at hi3
    rw [show leastM lo k - (i + 1) = m by omega]
    exact hi3
  obtain rfl : i = leastM lo k := by omega
  rw [Nat.sub_self, timesR] at hi3
  subst hi3
  refine ES.nilRow 3 1 ?_
  refine .go ?_; repeat constructor
  refine EL.move rfl rfl rfl ?_
  refine EL.appendW (cs := []) (news := rowC iv s.length) rfl rfl rfl rfl rfl rfl rfl rfl rfl (by repeat constructor) (fun w hs => Rd.row hs (by repeat constructor) (by decide)) (by rw [rowC_len]; exact (Nat.mul_one _).symm) (fun u hu => by obtain ⟨q, _, rfl⟩ := List.mem_map.1 hu; rfl) (by unfold maxLen; omega) (by first | omega | (show 1 * _ ≤ _; omega) | (show 8 * _ ≤ _; omega) | (show 16 * _ ≤ _; omega) | (show 24 * _ ≤ _; omega) | (show _ * 1 ≤ _; omega) | (show _ * 8 ≤ _; omega) | (show _ * 16 ≤ _; omega) | (show _ * 24 ≤ _; omega) | exact Nat.le_trans (Nat.mul_le_mul_right _ (show _ ≤ 1073741824 by omega)) (by decide)) ?_
  intro ad27 cap27
  refine EL.rowForm (e := 3) (sz := 1) (cs := [] ++ rowC iv s.length) (ad := ad27) (cap := cap27) (len := 0 + (s.length + 1)) (n := 0 + (s.length + 1)) (by repeat constructor) (fun hf => ?_)
  obtain ⟨ag, rfl⟩ := hf.2.2.2.2 (by omega)
  rw [Nat.zero_add]
  refine EL.assign rfl rfl rfl ?_
  refine .go ?_; repeat constructor
  refine EL.move rfl rfl rfl ?_
  refine EL.callPw rfl rfl rfl ent83 rfl (fun w hs => thin_c k hkf kg ko w (NodeRd.sat hkn hs)) ?_
  refine .go ?_; repeat constructor
  refine ES.cond rfl (fun ht => ?_) (fun hf => ?_)
  · rw [if_pos ht]
    refine .go ?_; repeat constructor
    refine EL.move rfl rfl rfl ?_
    refine EL.assign rfl rfl rfl ?_
    refine .go ?_; repeat constructor
    exact PX.ret rfl Try.results61 (.cons (.tmp rfl) .nil) (fun w hs => ⟨⟨G, ag, cap27⟩, rfl, hs.ent (.i (by repeat constructor))⟩)
  rw [if_neg (by rw [hf]; decide)]
  obtain ⟨F, hF⟩ : ∃ F, F = if hi < 0 then s.length + 2 else hi.toNat - lo := ⟨_, rfl⟩
  rw [← hF]
  obtain ⟨fin, hfin⟩ : ∃ fin, fin = moreR capW s.length (rowW s k) F iv iv := ⟨_, rfl⟩
  rw [← hfin]
  have hF2 : F ≤ 2000 := by rw [hF]; split <;> omega
  have hzero : ∀ p q, q < p → rowW s k p q = 0 := rowW_zero s k
  refine .go ?_; repeat constructor
  refine EL.move rfl rfl rfl ?_
  refine EL.nilCheck rfl rfl rfl ?_
  refine EL.fieldAddr rfl rfl rfl rfl rfl rfl rfl rfl ?_
  refine EL.loadOld rfl rfl rfl rfl rfl hrd rfl ?_
  refine EL.assign rfl rfl rfl ?_
  refine .go ?_; repeat constructor
  refine ES.loop (σ := MSt w0 B s es k.sz) (fun x => x.c ≤ F ∧ (∀ q, x.v q ≤ 4097) ∧ (∀ q, x.all q ≤ 4097) ∧ zeroTo x.v x.c ∧ (hi < 0 → x.c ≤ s.length) ∧ moreR capW s.length (rowW s k) (F - x.c) x.v x.all = fin)
    (fun x => [(0, Pv gc 0), (1, .slice (some ⟨x.g, 0, none⟩) (s.length + 1) x.cap), (2, Pv g off), (7, Pv kg ko), (8, .slice (some ⟨ag, 0, none⟩) (s.length + 1) cap27), (9, Iv ((lo + x.c : Nat) : Int))])
    (fun x => CB gc gm s :: MH gm x.G.es' :: VR x.g x.cap s.length x.v :: VR ag cap27 s.length x.all :: R) (fun x => F - x.c) ⟨0, ig, icap, iv, iv, G⟩ ⟨Nat.zero_le _, hi2, hi2, fun q hq => absurd hq (Nat.not_lt_zero q), fun _ => Nat.zero_le _, hfin.symm⟩ ⟨rfl, rfl, rfl, rfl, rfl, rfl, trivial⟩ (.i (by repeat constructor)) ?_
  rintro ⟨c, cg, ccap, cv, call, G⟩ ⟨hc1, hc2, hc3, hc4, hc5, hc6⟩
  dsimp only at hc1 hc2 hc3 hc4 hc5 hc6 ⊢
  refine .go ?_; repeat constructor
  refine EL.cutX (X := Unit) (fun _ => [(0, Pv gc 0), (1, .slice (some ⟨cg, 0, none⟩) (s.length + 1) ccap), (2, Pv g off), (7, Pv kg ko), (8, .slice (some ⟨ag, 0, none⟩) (s.length + 1) cap27), (9, Iv ((lo + c : Nat) : Int)), (47, .bool (decide (hi < 0 ∨ ((lo + c : Nat) : Int) < hi)))])
    (fun _ => CB gc gm s :: MH gm G.es' :: VR cg ccap s.length cv :: VR ag cap27 s.length call :: R) ?_ (fun _ => ?_)
  · refine .go ?_; repeat constructor
    refine EL.move rfl rfl rfl ?_
    refine EL.nilCheck rfl rfl rfl ?_
    refine EL.fieldAddr rfl rfl rfl rfl rfl rfl rfl rfl ?_
    refine EL.loadOld rfl rfl rfl rfl rfl hrd rfl ?_
    refine EL.lss rfl rfl rfl rfl ?_
    refine EL.move rfl rfl rfl ?_
    first | refine EL.splitD (d := 40) rfl (fun hp40 => ?_) (fun hp40 => ?_) | refine EL.splitN (d := 40) rfl (fun hp40 => ?_) (fun hp40 => ?_) | refine EL.splitB (d := 40) rfl (fun hp40 => ?_) (fun hp40 => ?_)
    · refine EL.pass rfl rfl rfl ?_
      refine EL.pass rfl rfl rfl ?_
      refine EL.pass rfl rfl rfl ?_
      refine EL.pass rfl rfl rfl ?_
      refine EL.pass rfl rfl rfl ?_
      refine EL.pass rfl rfl rfl ?_
      refine EL.pickT rfl rfl rfl rfl ?_
      exact EL.endX () ⟨rfl, rfl, rfl, rfl, rfl, rfl, getA rfl (congrArg Value.bool (by rw [Bool.eq_iff_iff]; simp only [decide_eq_true_eq, true_iff]; have hh : (RE.rep lo hi k).hi = hi := rfl; omega)), trivial⟩ (.i (by repeat constructor))
    · refine EL.move rfl rfl rfl ?_
      refine EL.move rfl rfl rfl ?_
      refine EL.nilCheck rfl rfl rfl ?_
      refine EL.fieldAddr rfl rfl rfl rfl rfl rfl rfl rfl ?_
      refine EL.loadOld rfl rfl rfl rfl rfl hrd rfl ?_
      refine EL.lss rfl rfl rfl rfl ?_
      refine EL.pickF rfl rfl rfl rfl ?_
      exact EL.endX () ⟨rfl, rfl, rfl, rfl, rfl, rfl, getA rfl (congrArg Value.bool (by rw [Bool.eq_iff_iff]; simp only [decide_eq_true_eq, true_iff]; have hh : (RE.rep lo hi k).hi = hi := rfl; omega)), trivial⟩ (.i (by repeat constructor))
  refine ES.condD rfl (fun hgo => ?_) (fun hend => ?_)
  · obtain ⟨m, hm⟩ : ∃ m, F - c = m + 1 := ⟨F - c - 1, by
      rw [hF] at hc1 ⊢
      split at hc1 <;> rename_i hneg
      · have := hc5 hneg; rw [if_pos hneg]; omega
      · rw [if_neg hneg]; omega⟩
    rw [hm, moreR] at hc6
    refine .go ?_; repeat constructor
    refine EL.move rfl rfl rfl ?_
    refine EL.move rfl rfl rfl ?_
    refine EL.move rfl rfl rfl ?_
    (refine EL.callMw rfl rfl rfl ent62 rfl (through_c s hs gc gm w0 B k kg ko hrk cg ccap cv true G.es' hc2 G.ok) (by repeat constructor) ?_; intro x)
    refine EL.assign rfl rfl rfl ?_
    refine .go ?_; repeat constructor
    obtain ⟨nv, hnv⟩ : ∃ nv, nv = thrR capW s.length (rowW s k) cv true := ⟨_, rfl⟩
    rw [← hnv] at hc6 ⊢
    have hnz : zeroTo nv (c + 1) := by rw [hnv]; exact thrR_step rfl hzero hc4
    have hnl : ∀ q, nv q ≤ 4097 := fun q => by rw [hnv]; exact thr_le _ _ _ _ _
    refine .go ?_; repeat constructor
    refine EL.move rfl rfl rfl ?_
    refine EL.callPw rfl rfl rfl ent84 rfl (fun w hs => none_c nv s.length (by omega) _ _ w (Rd.row hs (show Mem _ (VR x.g x.cap s.length nv) from (by repeat constructor)) (by decide))) ?_
    refine .go ?_; repeat constructor
    refine ES.cond rfl (fun hno => ?_) (fun hsome => ?_)
    · rw [if_pos hno] at hc6
      subst hc6
      refine .go ?_; repeat constructor
      refine EL.move rfl rfl rfl ?_
      refine EL.assign rfl rfl rfl ?_
      refine .go ?_; repeat constructor
      exact PX.ret rfl Try.results61 (.cons (.tmp rfl) .nil) (fun w hs => ⟨⟨G.trans x.G (Nat.le_refl _), ag, cap27⟩, rfl, hs.ent (.i (by repeat constructor))⟩)
    · rw [if_neg (by rw [hsome]; decide)] at hc6
      have hcn : c + 1 ≤ s.length := by
        rcases Nat.lt_or_ge s.length (c + 1) with hlt | hge
        · have : noneR s.length nv = true := (noneR_iff _ _).2 (fun q hq => hnz q (by omega))
          rw [this] at hsome; cases hsome
        · exact hge
      refine .go ?_; repeat constructor
      refine EL.move rfl rfl rfl ?_
      refine EL.lenL rfl rfl rfl rfl rfl ?_
      refine EL.move rfl rfl rfl ?_
      refine .go ?_; repeat constructor
      have e0 : rowC call s.length = rowC (fun q => if q < 0 then capW (call q + nv q) else call q) s.length := rowC_ext (fun q _ => (if_neg (by omega)).symm)
      refine ES.loop (σ := Nat) (fun j => j ≤ s.length + 1) (fun j => [(0, Pv gc 0), (1, .slice (some ⟨x.g, 0, none⟩) (s.length + 1) x.cap), (2, Pv g off), (7, Pv kg ko), (8, .slice (some ⟨ag, 0, none⟩) (s.length + 1) cap27), (9, Iv ((lo + c : Nat) : Int)), (56, .slice (some ⟨x.g, 0, none⟩) (s.length + 1) x.cap), (57, Iv ((s.length + 1 : Nat) : Int)), (58, Iv (j : Nat))])
        (fun j => CB gc gm s :: MH gm x.G.es' :: VR x.g x.cap s.length nv :: VR ag cap27 s.length (fun q => if q < j then capW (call q + nv q) else call q) :: R) (fun j => s.length + 1 - j) 0 (Nat.zero_le _) ⟨rfl, rfl, rfl, rfl, rfl, rfl, rfl, rfl, rfl, trivial⟩ (by rw [← VR_eq (g := ag) (cap := cap27) e0]; exact (.i (by repeat constructor))) ?_
      intro j hj
      refine .go ?_; repeat constructor
      refine EL.lss rfl rfl rfl rfl ?_
      refine .go ?_; repeat constructor
      refine ES.condD rfl (fun hlt => ?_) (fun hge => ?_)
      · have hjn : j ≤ s.length := by omega
        have hcj := hc3 j
        have hnj := hnl j
        have hget : (rowC (fun q => if q < j then capW (call q + nv q) else call q) s.length)[j]? = some (Iv (call j : Nat)) := by
          rw [rowC_get _ hjn]
          simp
        have hval : (Iv (min (((call j : Nat) : Int) + ((nv j : Nat) : Int)) 4097)) = Iv ((capW (call j + nv j) : Nat) : Int) := congrArg Iv (by unfold capW; omega)
        refine .go ?_; repeat constructor
        refine EL.move rfl rfl rfl ?_
        refine EL.indexAddrL1 rfl rfl rfl rfl rfl rfl rfl rfl (by omega) ?_
        refine EL.loadR rfl rfl rfl rfl rfl (by repeat constructor) (rowC_get nv hjn) ?_
        refine EL.assign rfl rfl rfl ?_
        refine EL.assign rfl rfl rfl ?_
        refine .go ?_; repeat constructor
        refine EL.move rfl rfl rfl ?_
        refine EL.move rfl rfl rfl ?_
        refine EL.move rfl rfl rfl ?_
        refine EL.move rfl rfl rfl ?_
        refine EL.indexAddrL1 rfl rfl rfl rfl rfl rfl rfl rfl (by omega) ?_
        refine EL.loadR rfl rfl rfl rfl rfl (by repeat constructor) hget ?_
        refine EL.move rfl rfl rfl ?_
        refine EL.addN rfl rfl rfl rfl rfl (by omega) ?_
        refine EL.ofRV (RV.minI rfl rfl) rfl rfl rfl (by intro c h; cases h) ?_
        refine EL.indexAddrL1 rfl rfl rfl rfl rfl rfl rfl rfl (by omega) ?_
        (refine EL.storeR rfl rfl rfl rfl rfl rfl (by repeat constructor) (by rw [rowC_len]; omega) ?_; refine EL.rowEq (v := .slice (some ⟨ag, 0, none⟩) (s.length + 1) cap27) (by repeat constructor) ((congrArg (fun u => (rowC _ _).set j u) hval).trans ((rowC_set _ _ hjn).trans (if_row _ (fun q => capW (call q + nv q)) _ _ _ rfl))) ?_)
        refine .go ?_; repeat constructor
        refine EL.add1 rfl rfl rfl rfl (by omega) ?_
        refine EL.move rfl rfl rfl ?_
        refine .go ?_; repeat constructor
        exact PX.loop (j + 1) (by omega) (by omega) ⟨rfl, rfl, rfl, rfl, rfl, rfl, rfl, rfl, rfl, trivial⟩ (.i (by repeat constructor))
      · obtain rfl : j = s.length + 1 := by omega
        have e1 : rowC (fun q => if q < s.length + 1 then capW (call q + nv q) else call q) s.length = rowC (fun q => capW (call q + nv q)) s.length := rowC_ext (fun q hq => if_pos (by omega))
        refine .go ?_; repeat constructor
        refine EL.move rfl rfl rfl ?_
        refine EL.add1 rfl rfl rfl rfl (by omega) ?_
        refine EL.assign rfl rfl rfl ?_
        refine .go ?_; repeat constructor
        refine PX.loop ⟨c + 1, x.g, x.cap, nv, fun q => capW (call q + nv q), G.trans x.G (Nat.le_refl _)⟩ ⟨by simp only; omega, hnl, fun q => cap_le _, hnz, fun _ => hcn, by simp only; rw [show F - (c + 1) = m by omega]; exact hc6⟩ (by simp only; omega) ⟨rfl, rfl, rfl, rfl, rfl, rfl, trivial⟩ ?_
        dsimp only
        rw [← VR_eq (g := ag) (cap := cap27) e1]
        exact (.i (by repeat constructor))
  · have h0 : F - c = 0 := by
      rw [hF]
      split <;> omega
    rw [h0, moreR] at hc6
    subst hc6
    refine .go ?_; repeat constructor
    refine EL.move rfl rfl rfl ?_
    refine EL.assign rfl rfl rfl ?_
    refine .go ?_; repeat constructor
    exact PX.ret rfl Try.results61 (.cons (.tmp rfl) .nil) (fun w hs => ⟨⟨G, ag, cap27⟩, rfl, hs.ent (.i (by repeat constructor))⟩)
end Go.Proofs.Ytblpgpgbnlhjlaa
