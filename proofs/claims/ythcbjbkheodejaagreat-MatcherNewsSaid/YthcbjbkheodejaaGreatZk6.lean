/- Texts of this claim, bundled. -/
import Derived.Test.YthcbjbkheodejaaGreatZk5
set_option linter.unusedVariables false
set_option linter.unusedSimpArgs false
namespace Go.Proofs.YthcbjbkheodejaaGreat
open Go Go.RowKit Sl
set_option maxRecDepth 100000
set_option maxHeartbeats 8000000
attribute [local irreducible] ES EL PX wps
structure HBr where
  p : Option Addr
  ea : Option Addr
  ec : Nat
  sa : Option Addr
  sc : Nat
  b : Br
def HBr.cells (x : HBr) : List Value := [.pointer x.p, .slice x.ea x.b.ends.length x.ec, .slice x.sa x.b.spans.length x.sc]
def brsC (l : List HBr) : List Value := l.flatMap HBr.cells
theorem brs_app (l l' : List HBr) : brsC (l ++ l') = brsC l ++ brsC l' := by simp [brsC]
theorem brs_one (x : HBr) : brsC [x] = x.cells := by simp [brsC]
theorem brs_len : ∀ l : List HBr, (brsC l).length = l.length * 3
  | [] => rfl
  | x :: l => by
    have := brs_len l
    show (x.cells ++ brsC l).length = _
    rw [List.length_append, this, List.length_cons]
    show 3 + _ = _
    omega
theorem brs_top (l : List HBr) (x : HBr) (j : Nat) : (brsC (l ++ [x]))[0 + l.length * 3 + j]? = x.cells[j]? := by
  rw [Nat.zero_add, brs_app, brs_one, List.getElem?_append_right (by rw [brs_len]; omega), brs_len, Nat.add_sub_cancel_left]
theorem brs_cut (l : List HBr) (x : HBr) : (brsC (l ++ [x])).take (l.length * 3) = brsC l := by
  rw [brs_app, ← brs_len, List.take_left]
theorem brs_set (l : List HBr) (x y : HBr) (v : Value) (h : x.cells.set 1 v = y.cells) : (brsC (l ++ [x])).set (0 + l.length * 3 + 1) v = brsC (l ++ [y]) := by
  rw [Nat.zero_add, brs_app, brs_app, brs_one, brs_one, List.set_append_right _ _ (by rw [brs_len]; omega), brs_len, Nat.add_sub_cancel_left, h]
structure HBr.Ok (w0 : World) (B : Nat) (es : List ME) (pool : List HA) (zl : Nat) (x : HBr) : Prop where
  chain : ChainAt w0 B pool x.p x.b.ts
  ends : EndsAt es pool x.ea x.b.ends
  ecap : x.b.ends.length ≤ x.ec
  spans : PRow x.sa x.sc x.b.spans ∈ pool
  small : x.b.spans.length = zl
  kle : ∀ t, x.b.ts.head? = some t → t.r.kind ≠ 4 → t.k ≤ 1073741824
theorem HBr.Ok.mono {w0 : World} {B : Nat} {es es' : List ME} {pool pool' : List HA} {zl : Nat} {x : HBr} (h : x.Ok w0 B es pool zl) (he : ∀ m ∈ es, m ∈ es') (hp : ∀ A ∈ pool, A ∈ pool') : x.Ok w0 B es' pool' zl :=
  ⟨h.chain.mono hp, h.ends.mono he hp, h.ecap, hp _ h.spans, h.small, h.kle⟩
theorem follow_len {l now : List Tk} {e : Nat} {z z' : List Spn} (h : followB l e z = some (now, z')) : z'.length = z.length := by
  cases l with
  | nil => cases h
  | cons t ts =>
    obtain ⟨r, k, i, j⟩ := t
    rw [followB] at h
    cases r <;> dsimp only at h
    · split at h
      · cases h; rfl
      · cases h
    · cases h
    · cases h
    · cases h
    · split at h
      · cases h; simp
      · cases h
    · cases h; rfl
    · cases h
theorem ends_kle {s : List UInt8} {t : Tk} {z : List Spn} {l : List Nat} (hf : t.r.fine) (h : endsB s t z = some (l, true)) (hl : l ≠ []) (hfo : ∃ ts e x, followB (t :: ts) e z = some x) (hk : t.r.kind ≠ 4) : t.k ≤ 1073741824 := by
  obtain ⟨r, k, i, j⟩ := t
  obtain ⟨ts, e, x, hx⟩ := hfo
  rw [endsB] at h
  rw [followB] at hx
  split at h
  rotate_left
  · cases h
  cases r <;> dsimp only at h hx hf hk ⊢
  · split at hx
    · rename_i y hy
      have := (List.getElem?_eq_some_iff.1 hy).1
      have := hf.1
      omega
    · cases hx
  · cases hx
  · cases hx
  · cases hx
  · exact absurd rfl hk
  · split at h
    · cases h; exact absurd rfl hl
    · split at h
      · rename_i h2; have := h2.1; omega
      · cases h
  · cases hx
theorem spsC_one (l : List Spn) : ∀ u ∈ spsC l, u.oneCell' = true := fun u hu => by
  obtain ⟨p, _, hp⟩ := List.mem_flatMap.1 hu
  simp only [spC, List.mem_cons, List.not_mem_nil, or_false] at hp
  rcases hp with rfl | rfl <;> rfl
theorem ends_rest {es : List ME} {pool : List HA} {g off e cap : Nat} {l : List Nat} (h : EndsAt es pool (some ⟨g, off, none⟩) (e :: l)) (hc : l.length + 1 ≤ cap) : EndsAt es pool (if cap = 1 then some ⟨g, off, none⟩ else (some (⟨g, off, none⟩ : Addr)).map (·.add (1 * 1))) l := by
  by_cases h1 : cap = 1
  · obtain rfl : l = [] := List.eq_nil_of_length_eq_zero (by omega)
    exact EndsAt.nil _ _ _
  · rw [if_neg h1]
    exact h.tail
theorem top_of {l : List HBr} (h : 0 < l.length) : ∃ init top, l = init ++ [top] := ⟨l.dropLast, l.getLast (by intro e; subst e; simp at h), (List.dropLast_concat_getLast _).symm⟩
theorem pop_dead {init : List HBr} {x : HBr} (h : x.b.ends = []) : popB (((init ++ [x]).map HBr.b).reverse) = popB ((init.map HBr.b).reverse) := by
  rw [List.map_append, List.map_cons, List.map_nil, List.reverse_append, List.reverse_singleton, List.singleton_append, popB, if_pos h]
theorem pop_top {init : List HBr} {x : HBr} (h : x.b.ends ≠ []) : popB (((init ++ [x]).map HBr.b).reverse) = some (x.b, (init.map HBr.b).reverse) := by
  rw [List.map_append, List.map_cons, List.map_nil, List.reverse_append, List.reverse_singleton, List.singleton_append, popB, if_neg h]
theorem stk_rev (init : List HBr) (x : HBr) : ((init ++ [x]).map HBr.b).reverse = x.b :: (init.map HBr.b).reverse := by
  rw [List.map_append, List.map_cons, List.map_nil, List.reverse_append, List.reverse_singleton, List.singleton_append]
structure RnS where
  f : Nat
  now : List Tk
  stk : List HBr
  z : List Spn
  p : Option Addr
  sp : Option Addr
  cap : Nat
  es : List ME
  st : Nat
  pool : List HA
  sad : Option Addr
  scap : Nat
structure RnOk (w0 : World) (B : Nat) (s : List UInt8) (res : Option (List Spn)) (F zl top : Nat) (x : RnS) : Prop where
  run : runB s x.f x.now (x.stk.map HBr.b).reverse x.z = some res
  mem : MemB w0 B s x.es
  chain : ChainAt w0 B x.pool x.p x.now
  stk : ∀ y ∈ x.stk, y.Ok w0 B x.es x.pool zl
  steps : x.st + x.f * (2 * floodC) ≤ top
  small : x.z.length = zl
  high : x.stk.length + x.f ≤ F
structure RnX (w0 : World) (B : Nat) (s : List UInt8) (res : Option (List Spn)) (zl top : Nat) where
  es' : List ME
  st' : Nat
  sp : Option Addr
  cap : Nat
  z : List Spn
  ok : MemB w0 B s es'
  le : st' ≤ top
  len : z.length = zl
  eq : ∀ y, res = some y → z = y
theorem run10_c (gs gm : Nat) (s : List UInt8) (hs : s.length ≤ 1024) (st F : Nat) (hF : F ≤ 16384) (hst : st + F * (2 * floodC) ≤ 576460752303423488) (sp : Option Addr) (cap : Nat) (z : List Spn) (hz : z.length ≤ 100) (es : List ME) (r : RE) (i j : Nat) (w0 : World) (B gr off : Nat) (hn : NodeRd w0 B gr off r) (hf : r.fine) (hok : MemB w0 B s es)
    (res : Option (List Spn)) (hrun : runB s F [⟨r, 0, i, j⟩] [] z = some res) :
    MutAt Tryz.prog 90 #[Pv gs 0, Pv gr off, Iv (i : Nat), Iv (j : Nat)] [SB10 gs s st sp z.length cap gm, HA.memo gm 3 es, PRow sp cap z] (fun _ : RnX w0 B s res z.length (st + F * (2 * floodC)) => .bool res.isSome)
      (fun x => [SB10 gs s x.st' x.sp x.z.length x.cap gm, HA.memo gm 3 x.es', PRow x.sp x.cap x.z]) w0 B := by
  intro R w h
  replace h : Sat w0 B (SB10 gs s st sp z.length cap gm :: HA.memo gm 3 es :: PRow sp cap z :: R) w := h
  refine calls_of_ES TB Tryz.func90 rfl _ Tryz.ntmps90 rfl h ?_; refine .gr ?_; (repeat constructor); refine .as_ ?_; refine .gr ?_; (repeat constructor); refine .as_ ?_; refine .gr ?_; (repeat constructor); refine .mv ?_; refine .mv ?_; refine .mv ?_; refine EL.buildS #[Pv gr off, Iv 0, Iv (i : Nat), Iv (j : Nat), .pointer none] rfl rfl rfl rfl rfl (by kernel_rfl) rfl ?_; (refine .bx ?_; intro g20); refine .as_ ?_; refine .gr ?_; (repeat constructor); refine ES.pack0 ?_; refine ES.poolIn (A := TkB g20 gr off 0 i j none) (by repeat constructor) ?_; refine ES.nilRow 219 3 ?_
  refine ES.loop (σ := RnS) (RnOk w0 B s res F z.length (st + F * (2 * floodC))) (fun x => [(0, Pv gs 0), (9, .slice x.sad x.stk.length x.scap), (10, .pointer x.p)])
    (fun x => SB10 gs s x.st x.sp x.z.length x.cap gm :: HA.memo gm 3 x.es :: PRow x.sp x.cap x.z :: HA.pack x.pool :: HA.row (.slice x.sad x.stk.length x.scap) 219 3 x.stk.length (brsC x.stk) :: R) (fun x => x.f)
    ⟨F, [⟨r, 0, i, j⟩], [], z, some ⟨g20, 0, none⟩, sp, cap, es, st, [TkB g20 gr off 0 i j none], none, 0⟩ ⟨hrun, hok, ⟨g20, gr, off, none, rfl, List.mem_cons_self, hn, hf, rfl⟩, fun y hy => by simp at hy, Nat.le_refl _, rfl, by simp⟩ ⟨rfl, rfl, rfl, trivial⟩ (.i (by repeat constructor)) ?_
  rintro ⟨f, now, stk, z1, p, sp1, cap1, es1, st1, pool, sad, scap⟩ ⟨hgo, hmem, hch, hstk, hsteps, hsmall, hhigh⟩
  dsimp only at hgo hmem hch hstk hsteps hsmall hhigh ⊢
  obtain ⟨f, rfl⟩ : ∃ f', f = f' + 1 := by
    cases f with
    | zero => rw [runB] at hgo; cases hgo
    | succ f => exact ⟨f, rfl⟩
  have hst1 : st1 + 2 * floodC + f * (2 * floodC) ≤ st + F * (2 * floodC) := by rw [Nat.succ_mul] at hsteps; omega
  cases now with
  | nil =>
    have hp : p = none := hch
    subst hp
    rw [runB] at hgo
    cases hgo
    refine .gr ?_; (repeat constructor); refine .mv ?_; refine EL.neqPn rfl rfl rfl rfl rfl rfl ?_; refine .gr ?_; (repeat constructor); refine ES.condF rfl ?_; refine .gr ?_; (repeat constructor); refine .gr ?_; (repeat constructor); refine .as_ ?_; refine .gr ?_; repeat constructor
    exact PX.ret rfl Tryz.results90 (.cons (.tmp rfl) .nil) (fun w hs => ⟨⟨es1, st1, sp1, cap1, z1, hmem, by omega, hsmall, fun y hy => Option.some.inj hy⟩, rfl, hs.ent (.i (by repeat constructor))⟩)
  | cons t ts =>
    obtain ⟨r1, k1, i1, j1⟩ := t
    obtain ⟨tg, tgr, toff, tnx, rfl, htk, htn, htf, htc⟩ := hch
    dsimp only at htk htn htf
    refine .gr ?_; (repeat constructor); refine .mv ?_; refine EL.neqPn rfl rfl rfl rfl rfl rfl ?_; refine .gr ?_; (repeat constructor); refine ES.condT rfl ?_
    rw [runB] at hgo
    cases he : endsB s ⟨r1, k1, i1, j1⟩ z1 with
    | none => rw [he] at hgo; cases hgo
    | some lo =>
    obtain ⟨l, ok⟩ := lo
    rw [he] at hgo
    dsimp only at hgo
    have hends := ends10_c gs gm s hs st1 (by omega) sp1 cap1 z1 es1 pool r1 k1 i1 j1 w0 B tg tgr toff tnx htk htn htf hmem l ok he
    refine .gr ?_; (repeat constructor); refine .mv ?_; refine .mv ?_
    (refine EL.callMw rfl rfl rfl ent105 rfl hends (by repeat constructor) ?_; rintro ⟨es2, st2, pool2, lad, lcap, y1, y2, y3, y4, y5, y6⟩)
    refine .mv ?_; refine .ex ?_; refine .ex ?_; refine .as_ ?_; refine .as_ ?_; refine .gr ?_; repeat constructor
    dsimp only
    have htk2 := y2 _ htk
    have hstk2 : ∀ y ∈ stk, y.Ok w0 B es2 pool2 z.length := fun y hy => (hstk y hy).mono y1 y2
    have htc2 := htc.mono y2
    refine EL.cutX (X := Unit) (fun _ => [(0, Pv gs 0), (9, .slice sad stk.length scap), (10, Pv tg 0), (11, .slice lad l.length lcap), (12, .bool ok), (13, .bool (decide (ok = true ∧ l = [] ∧ needsB ⟨r1, k1, i1, j1⟩ = false)))])
      (fun _ => SB10 gs s st2 sp1 z1.length cap1 gm :: HA.memo gm 3 es2 :: PRow sp1 cap1 z1 :: HA.pack pool2 :: HA.row (.slice sad stk.length scap) 219 3 stk.length (brsC stk) :: R) ?_ (fun _ => ?_)
    · refine .gr ?_; (repeat constructor); refine .mv ?_; refine .mv ?_
      first | refine EL.splitD (d := 30) rfl (fun hp30 => ?_) (fun hp30 => ?_) | refine EL.splitN (d := 30) rfl (fun hp30 => ?_) (fun hp30 => ?_) | refine EL.splitB (d := 30) rfl (fun hp30 => ?_) (fun hp30 => ?_)
      · refine .mv ?_; refine .lL ?_; refine .ei ?_; refine .pt ?_; refine .mv ?_
        first | refine EL.splitD (d := 35) rfl (fun hp35 => ?_) (fun hp35 => ?_) | refine EL.splitN (d := 35) rfl (fun hp35 => ?_) (fun hp35 => ?_) | refine EL.splitB (d := 35) rfl (fun hp35 => ?_) (fun hp35 => ?_)
        · refine .mv ?_; refine EL.callPw rfl rfl rfl ent106 rfl (fun w hs => needs_c r1 k1 i1 j1 htf tg tgr toff tnx w (pool_rdB hs (by repeat constructor) htk2) (NodeRd.sat htn hs)) ?_; refine .nt ?_; refine .pt ?_; refine .as_ ?_
          exact .dx () ⟨rfl, rfl, rfl, rfl, rfl, getA rfl (congrArg Value.bool (by rw [Bool.eq_iff_iff]; simp only [decide_eq_true_eq, ← List.length_eq_zero_iff] at *; first | (simp_all; done) | (simp_all; omega))), trivial⟩
        · refine .ps ?_; refine .ps ?_; refine .ps ?_; refine .pf ?_; refine .as_ ?_
          exact .dx () ⟨rfl, rfl, rfl, rfl, rfl, getA rfl (congrArg Value.bool (by rw [Bool.eq_iff_iff]; simp only [decide_eq_true_eq, ← List.length_eq_zero_iff] at *; first | (simp_all; done) | (simp_all; omega))), trivial⟩
      · refine .ps ?_; refine .ps ?_; refine .ps ?_; refine .pf ?_; refine .mv ?_; refine .ps ?_; refine .ps ?_; refine .ps ?_; refine .pf ?_; refine .as_ ?_
        exact .dx () ⟨rfl, rfl, rfl, rfl, rfl, getA rfl (congrArg Value.bool (by rw [Bool.eq_iff_iff]; simp only [decide_eq_true_eq, ← List.length_eq_zero_iff] at *; first | (simp_all; done) | (simp_all; omega))), trivial⟩
    refine .gr ?_; (repeat constructor); refine .mv ?_; refine .gr ?_; repeat constructor
    refine ES.condD rfl (fun hA => ?_) (fun hA => ?_)
    · rw [if_pos hA] at hgo
      refine .gr ?_; (repeat constructor); refine .mv ?_; refine .nc ?_; refine .fa ?_; refine EL.loadPool rfl rfl rfl rfl rfl (by repeat constructor) htk2 rfl ?_; refine .as_ ?_; refine .gr ?_; repeat constructor
      exact .ly ⟨f, ts, stk, z1, tnx, sp1, cap1, es2, st2, pool2, sad, scap⟩ ⟨hgo, y3, htc2, hstk2, by dsimp only; omega, hsmall, by dsimp only; omega⟩ (Nat.lt_succ_self _)
    rw [if_neg hA] at hgo
    refine .gr ?_; repeat constructor
    refine EL.cutX (X := Unit) (fun _ => [(0, Pv gs 0), (9, .slice sad stk.length scap), (10, Pv tg 0), (11, .slice lad l.length lcap), (50, .bool (decide (ok = true ∧ l ≠ [])))])
      (fun _ => SB10 gs s st2 sp1 z1.length cap1 gm :: HA.memo gm 3 es2 :: PRow sp1 cap1 z1 :: HA.pack pool2 :: HA.row (.slice sad stk.length scap) 219 3 stk.length (brsC stk) :: R) ?_ (fun _ => ?_)
    · refine .gr ?_; (repeat constructor); refine .mv ?_; refine .mv ?_
      first | refine EL.splitD (d := 46) rfl (fun hp46 => ?_) (fun hp46 => ?_) | refine EL.splitN (d := 46) rfl (fun hp46 => ?_) (fun hp46 => ?_) | refine EL.splitB (d := 46) rfl (fun hp46 => ?_) (fun hp46 => ?_)
      · refine .mv ?_; refine .lL ?_; refine .gt_ ?_; refine .pt ?_
        exact .dx () ⟨rfl, rfl, rfl, rfl, getA rfl (congrArg Value.bool (by clear hgo; rw [Bool.eq_iff_iff]; cases l <;> simp_all)), trivial⟩
      · refine .ps ?_; refine .ps ?_; refine .ps ?_; refine .pf ?_
        exact .dx () ⟨rfl, rfl, rfl, rfl, getA rfl (congrArg Value.bool (by clear hgo; rw [Bool.eq_iff_iff]; cases l <;> simp_all)), trivial⟩
    refine ES.condD rfl (fun hB => ?_) (fun hB => ?_)
    · obtain ⟨rfl, hne⟩ := hB
      obtain ⟨e, el, rfl⟩ : ∃ e el, l = e :: el := by
        cases l with
        | nil => exact absurd rfl hne
        | cons e el => exact ⟨e, el, rfl⟩
      rw [if_pos ⟨rfl, hne⟩] at hgo
      dsimp only [List.headD_cons, List.tail_cons] at hgo
      cases hfo : followB (⟨r1, k1, i1, j1⟩ :: ts) e z1 with
      | none => rw [hfo] at hgo; cases hgo
      | some nz =>
      obtain ⟨now2, z2⟩ := nz
      rw [hfo] at hgo
      dsimp only at hgo
      obtain ⟨lg, lo, rfl, _⟩ := y5 hne
      have hlc : el.length + 1 ≤ lcap := y6
      have htl := ends_rest y5 hlc
      have hkle : r1.kind ≠ 4 → k1 ≤ 1073741824 := ends_kle (t := ⟨r1, k1, i1, j1⟩) htf he hne ⟨ts, e, _, hfo⟩
      generalize hX : (if lcap = 1 then some ⟨lg, lo, none⟩ else (some (⟨lg, lo, none⟩ : Addr)).map (·.add (1 * 1))) = tad at htl
      refine .gs ?_; repeat constructor
      refine ES.draw (X := (Option Addr × Nat) × (Nat × Nat)) (fun x => [(0, Pv gs 0), (9, .slice (some ⟨x.2.1, 0, none⟩) (stk.length + 1) x.2.2), (10, Pv tg 0), (11, .slice (some ⟨lg, lo, none⟩) (el.length + 1) lcap)])
        (fun x => PRow x.1.1 x.1.2 z1 :: SB10 gs s st2 sp1 z1.length cap1 gm :: HA.memo gm 3 es2 :: PRow sp1 cap1 z1 :: HA.pack pool2 :: HA.row (.slice (some ⟨x.2.1, 0, none⟩) (stk.length + 1) x.2.2) 219 3 (stk.length + 1) (brsC stk ++ HBr.cells ⟨some ⟨tg, 0, none⟩, tad, lcap - 1, x.1.1, x.1.2, ⟨⟨r1, k1, i1, j1⟩ :: ts, el, z1⟩⟩) :: R)
        (SB10 gs s st2 sp1 z1.length cap1 gm :: PRow sp1 cap1 z1 :: []) mixed (.i (by repeat constructor)) ?_ (fun x => ?_)
      · refine .tk 0 rfl (RV.move rfl) ?_; refine .tk 1 rfl (RV.move rfl) ?_; refine .tk 2 rfl (RV.move rfl) ?_; refine .tk 3 rfl (RV.sliceLoG' (lo := 1) hX rfl rfl rfl rfl rfl (Nat.succ_le_succ (Nat.zero_le _)) hlc) ?_; refine .tk 4 rfl (RV.move rfl) ?_; refine .tk 5 rfl (RV.nilCheck rfl) ?_; refine .tk 6 rfl (RV.fieldAddr rfl rfl rfl rfl rfl rfl) ?_; refine .tk 7 rfl (RV.loadB rfl rfl rfl (by repeat constructor) rfl) ?_; refine .ld 8 ?_
        (refine EL.copyNil rfl rfl rfl rfl rfl rfl rfl rfl rfl (fun w hs => Rd.row hs (by repeat constructor) (by decide)) (spsC_len z1) (spsC_one z1) (by unfold maxLen; omega) (Nat.le_trans (Nat.mul_le_mul_right _ (show _ ≤ 100 by omega)) (by decide)) ?_; intro ap cp)
        refine .nx ?_; refine .tk 9 rfl (RV.buildS #[Pv tg 0, .slice tad el.length (lcap - 1), .slice ap z1.length cp] rfl rfl rfl rfl (by kernel_rfl)) ?_; refine .ld 10 ?_; (refine .b1 ?_; intro b61); refine .nx ?_; refine .ld 11 ?_
        (refine EL.append1 rfl rfl rfl rfl rfl rfl rfl rfl rfl (by repeat constructor) (by repeat constructor) (by first | (intro u hu; simp [Value.cells] at hu; subst hu; rfl) | exact all1 rfl) (by rfl) (by unfold maxLen; omega) (by first | omega | (show 1 * _ ≤ _; omega) | (show 8 * _ ≤ _; omega) | (show 16 * _ ≤ _; omega) | (show 24 * _ ≤ _; omega) | (show _ * 1 ≤ _; omega) | (show _ * 8 ≤ _; omega) | (show _ * 16 ≤ _; omega) | (show _ * 24 ≤ _; omega) | exact Nat.le_trans (Nat.mul_le_mul_right _ (show _ ≤ 1073741824 by omega)) (by decide)) ?_; intro a62 c62)
        refine .nx ?_; refine .tk 12 rfl (RV.assign rfl) ?_; refine .dn ?_
        exact .cy ((ap, cp), (a62, c62))
      obtain ⟨⟨ap, cp⟩, sg, sc⟩ := x
      dsimp only
      obtain ⟨xb, hxb⟩ : ∃ xb : HBr, xb = ⟨some ⟨tg, 0, none⟩, tad, lcap - 1, ap, cp, ⟨⟨r1, k1, i1, j1⟩ :: ts, el, z1⟩⟩ := ⟨_, rfl⟩
      rw [← hxb]
      refine ES.poolIn (A := PRow ap cp z1) (by repeat constructor) ?_
      have htk3 := List.mem_cons_of_mem (PRow ap cp z1) htk2
      have hch3 : ChainAt w0 B (PRow ap cp z1 :: pool2) (some ⟨tg, 0, none⟩) (⟨r1, k1, i1, j1⟩ :: ts) := ⟨tg, tgr, toff, tnx, rfl, htk3, htn, htf, htc2.mono (fun _ h => List.mem_cons_of_mem _ h)⟩
      have hE3 := y5.mono (fun _ h => h) (fun A h => List.mem_cons_of_mem (PRow ap cp z1) h)
      obtain ⟨_, _, hea, hE⟩ := hE3 hne
      cases hea
      have hfol := follow_ch gs gm s st2 sp1 cap1 z1 z2 (PRow ap cp z1 :: pool2) e (⟨r1, k1, i1, j1⟩ :: ts) now2 w0 B (some ⟨tg, 0, none⟩) hch3 (fun t ht hk4 => by cases ht; exact hkle hk4) hfo
      refine .gr ?_; (repeat constructor); refine .mv ?_; refine .mv ?_; refine .mv ?_; refine EL.indexAddrL (i := 0) rfl rfl rfl rfl rfl rfl rfl (Nat.zero_lt_succ _) ?_
      refine EL.ofRV (RV.loadEnds (q := 0) rfl rfl rfl (by repeat constructor) (by repeat constructor) hE rfl) rfl rfl rfl (by intro c h; cases h) ?_
      (refine EL.callMw rfl rfl rfl ent107 rfl hfol (by repeat constructor) ?_; rintro ⟨pool4, np, u1, u2⟩)
      refine .as_ ?_; refine .gr ?_; repeat constructor
      dsimp only
      have hxok : xb.Ok w0 B es2 pool4 z.length := by
        subst hxb
        exact ⟨hch3.mono u1, htl.mono (fun _ h => h) (fun A h => u1 _ (List.mem_cons_of_mem _ h)), by show el.length ≤ lcap - 1; omega, u1 _ List.mem_cons_self, hsmall, fun t ht hk4 => by cases ht; exact hkle hk4⟩
      have hxbb : xb.b = ⟨⟨r1, k1, i1, j1⟩ :: ts, el, z1⟩ := by rw [hxb]
      have hll : (stk ++ [xb]).length = stk.length + 1 := by simp
      exact PX.loop ⟨f, now2, stk ++ [xb], z2, np, sp1, cap1, es2, st2, pool4, some ⟨sg, 0, none⟩, sc⟩ ⟨by dsimp only; rw [stk_rev, hxbb]; exact hgo, y3, u2, fun y hy => by
          rcases List.mem_append.1 hy with hy | hy
          · exact (hstk2 y hy).mono (fun _ h => h) (fun A h => u1 _ (List.mem_cons_of_mem _ h))
          · rw [List.mem_singleton] at hy; subst hy; exact hxok, by dsimp only; omega, by dsimp only; rw [follow_len hfo]; exact hsmall, by dsimp only; rw [hll]; omega⟩ (Nat.lt_succ_self _)
        ⟨rfl, getA rfl (congrArg (fun n => Value.slice (some ⟨sg, 0, none⟩) n sc) hll.symm), rfl, trivial⟩ (by dsimp only; rw [hll, brs_app, brs_one]; exact (.i (by repeat constructor)))
    rw [if_neg hB] at hgo
    refine .gr ?_; repeat constructor
    refine ES.loop (σ := List HBr) (fun l => popB ((l.map HBr.b).reverse) = popB ((stk.map HBr.b).reverse) ∧ (∀ y ∈ l, y ∈ stk) ∧ l.length ≤ stk.length) (fun l => [(0, Pv gs 0), (9, .slice sad l.length scap)])
      (fun l => SB10 gs s st2 sp1 z1.length cap1 gm :: HA.memo gm 3 es2 :: PRow sp1 cap1 z1 :: HA.pack pool2 :: HA.row (.slice sad l.length scap) 219 3 l.length (brsC l) :: R) (fun l => l.length) stk ⟨rfl, fun _ h => h, Nat.le_refl _⟩ ⟨rfl, rfl, trivial⟩ (.i (by repeat constructor)) ?_
    rintro hb ⟨hp1, hp2, hp3⟩
    refine .gr ?_; (repeat constructor); refine .mv ?_; refine .lL ?_; refine .gt_ ?_; refine .gr ?_; repeat constructor
    refine ES.condD rfl (fun hpos => ?_) (fun hzero => ?_)
    rotate_left
    · obtain rfl : hb = [] := List.eq_nil_of_length_eq_zero (by omega)
      rw [← hp1] at hgo
      cases hgo
      refine .gr ?_; (repeat constructor); refine .gr ?_; (repeat constructor); refine .as_ ?_; refine .gr ?_; repeat constructor
      exact PX.ret rfl Tryz.results90 (.cons (.tmp rfl) .nil) (fun w hs => ⟨⟨es2, st2, sp1, cap1, z1, y3, by omega, hsmall, fun y hy => by cases hy⟩, rfl, hs.ent (.i (by repeat constructor))⟩)
    obtain ⟨init, tp, rfl⟩ := top_of (show 0 < hb.length by omega)
    have hln : (init ++ [tp]).length = init.length + 1 := by simp
    have htp := hstk2 tp (hp2 tp (by simp))
    refine ES.know (P := (∃ g, sad = some ⟨g, 0, none⟩) ∧ (init ++ [tp]).length ≤ scap) (fun w hs => ⟨(row_form (hs.all (HA.row (.slice sad (init ++ [tp]).length scap) 219 3 (init ++ [tp]).length (brsC (init ++ [tp]))) (by simp))).2.2.2.2 (by omega), (row_form (hs.all (HA.row (.slice sad (init ++ [tp]).length scap) 219 3 (init ++ [tp]).length (brsC (init ++ [tp]))) (by simp))).2.1⟩) ?_
    rintro ⟨⟨sg, rfl⟩, hcapn⟩
    obtain ⟨tpp, tea, tec, tsa, tsc, ⟨tts, tends, tspans⟩⟩ := tp
    have hcell := fun j v (h : (HBr.cells ⟨tpp, tea, tec, tsa, tsc, ⟨tts, tends, tspans⟩⟩)[j]? = some v) => (brs_top init ⟨tpp, tea, tec, tsa, tsc, ⟨tts, tends, tspans⟩⟩ j).trans h
    have hsub : Iv (((init ++ [(⟨tpp, tea, tec, tsa, tsc, ⟨tts, tends, tspans⟩⟩ : HBr)]).length - 1 : Nat) : Int) = Iv (init.length : Nat) := by rw [hln]; rfl
    refine .gr ?_; (repeat constructor); refine .mv ?_; refine .mv ?_; refine .lL ?_; refine EL.sub1 rfl rfl rfl rfl (by omega) (by omega) ?_
    (refine EL.rew (d := 75) (v' := Iv (init.length : Nat)) rfl hsub ?_; refine EL.indexAddrL (i := init.length) rfl rfl rfl rfl rfl rfl rfl (by omega) ?_)
    refine .as_ ?_; refine .gr ?_; (repeat constructor); refine .gr ?_; (repeat constructor); refine .mv ?_; refine .nc ?_; refine .fa ?_; refine EL.loadR rfl rfl rfl rfl rfl (by repeat constructor) (hcell 1 _ rfl) ?_; refine .lL ?_; refine .ei ?_; refine .gr ?_; repeat constructor
    refine ES.condD rfl (fun hE0 => ?_) (fun hE0 => ?_)
    · have hE1 : ((tends.length : Nat) : Int) = 0 := hE0
      obtain rfl : tends = [] := List.eq_nil_of_length_eq_zero (by omega)
      have hcutS : ∀ w, Sat w0 B (HA.row (.slice (some ⟨sg, 0, none⟩) (init ++ [(⟨tpp, tea, tec, tsa, tsc, ⟨tts, [], tspans⟩⟩ : HBr)]).length scap) 219 3 (init ++ [(⟨tpp, tea, tec, tsa, tsc, ⟨tts, [], tspans⟩⟩ : HBr)]).length (brsC (init ++ [⟨tpp, tea, tec, tsa, tsc, ⟨tts, [], tspans⟩⟩])) :: SB10 gs s st2 sp1 z1.length cap1 gm :: HA.memo gm 3 es2 :: PRow sp1 cap1 z1 :: HA.pack pool2 :: R) w →
          Sat w0 B (HA.row (.slice (some ⟨sg, 0, none⟩) init.length scap) 219 3 init.length (brsC init) :: SB10 gs s st2 sp1 z1.length cap1 gm :: HA.memo gm 3 es2 :: PRow sp1 cap1 z1 :: HA.pack pool2 :: R) w := fun w hs => by
        have h1 := Sat.cutRow (m := init.length) hs (by omega)
        rw [brs_cut] at h1
        exact h1
      refine .gr ?_; (repeat constructor); refine .mv ?_; refine .mv ?_; refine .lL ?_; refine EL.sub1 rfl rfl rfl rfl (by omega) (by omega) ?_
      (refine EL.rew (d := 86) (v' := Iv (init.length : Nat)) rfl hsub ?_; refine EL.ofRV (RV.sliceHi (hi := init.length) rfl rfl rfl rfl rfl (by omega)) rfl rfl rfl (by intro c h; cases h) ?_)
      (refine EL.imp (H' := HA.row (.slice (some ⟨sg, 0, none⟩) init.length scap) 219 3 init.length (brsC init) :: SB10 gs s st2 sp1 z1.length cap1 gm :: HA.memo gm 3 es2 :: PRow sp1 cap1 z1 :: HA.pack pool2 :: R) (fun w hs => hcutS w (hs.ent (.i (by repeat constructor)))) ?_; refine .as_ ?_)
      refine .gr ?_; repeat constructor
      exact .ly init ⟨(pop_dead rfl).symm.trans hp1, fun y hy => hp2 y (List.mem_append_left _ hy), by omega⟩ (by omega)
    obtain ⟨e, el, rfl⟩ : ∃ e el, tends = e :: el := by
      cases tends with
      | nil => exact absurd rfl hE0
      | cons e el => exact ⟨e, el, rfl⟩
    rw [← hp1, pop_top (by simp)] at hgo
    dsimp only [List.headD_cons, List.tail_cons] at hgo
    cases hfo : followB tts e tspans with
    | none => rw [hfo] at hgo; cases hgo
    | some nz =>
    obtain ⟨now2, z2⟩ := nz
    rw [hfo] at hgo
    dsimp only at hgo
    have hts := htp.chain
    have hte := htp.ends
    have htec : el.length + 1 ≤ tec := htp.ecap
    have htsp : PRow tsa tsc tspans ∈ pool2 := htp.spans
    have htsl : tspans.length = z.length := htp.small
    have htk := htp.kle
    dsimp only at hts hte htk
    obtain ⟨lg, lo, rfl, hE⟩ := hte (by simp)
    have htl := ends_rest hte htec
    generalize hX : (if tec = 1 then some ⟨lg, lo, none⟩ else (some (⟨lg, lo, none⟩ : Addr)).map (·.add (1 * 1))) = tad at htl
    have hfol := fun ap cp => follow_ch gs gm s st2 ap cp tspans z2 pool2 e tts now2 w0 B tpp hts htk hfo
    have hset : ∀ (x : HBr), x = ⟨tpp, some ⟨lg, lo, none⟩, tec, tsa, tsc, ⟨tts, e :: el, tspans⟩⟩ → (brsC (init ++ [x])).set (0 + init.length * 3 + 1) (.slice tad el.length (tec - 1)) = brsC (init ++ [⟨tpp, tad, tec - 1, tsa, tsc, ⟨tts, el, tspans⟩⟩]) := fun x hx => brs_set init x _ _ (by rw [hx]; rfl)
    have hbl := brs_len (init ++ [(⟨tpp, some ⟨lg, lo, none⟩, tec, tsa, tsc, ⟨tts, e :: el, tspans⟩⟩ : HBr)])
    have hcell2 := fun j v (h : (HBr.cells ⟨tpp, tad, tec - 1, tsa, tsc, ⟨tts, el, tspans⟩⟩)[j]? = some v) => (brs_top init ⟨tpp, tad, tec - 1, tsa, tsc, ⟨tts, el, tspans⟩⟩ j).trans h
    refine .gr ?_; (repeat constructor); refine .mv ?_; refine .nc ?_; refine .fa ?_; refine EL.loadR rfl rfl rfl rfl rfl (by repeat constructor) (hcell 1 _ rfl) ?_; refine EL.indexAddrL (i := 0) rfl rfl rfl rfl rfl rfl rfl (Nat.zero_lt_succ _) ?_
    refine EL.ofRV (RV.loadEnds (q := 0) rfl rfl rfl (by repeat constructor) (by repeat constructor) hE rfl) rfl rfl rfl (by intro c h; cases h) ?_
    refine .as_ ?_; refine .gr ?_; (repeat constructor); refine .gr ?_; (repeat constructor); refine .mv ?_; refine .mv ?_; refine .nc ?_; refine .fa ?_; refine EL.loadR rfl rfl rfl rfl rfl (by repeat constructor) (hcell 1 _ rfl) ?_
    refine EL.ofRV (RV.sliceLoG' (lo := 1) hX rfl rfl rfl rfl rfl (Nat.succ_le_succ (Nat.zero_le _)) htec) rfl rfl rfl (by intro c h; cases h) ?_
    refine .nc ?_; refine .fa ?_
    (refine EL.storeR rfl rfl rfl rfl rfl rfl (by repeat constructor) (by rw [hbl, hln]; show 0 + init.length * 3 + 1 < _; omega) ?_; refine EL.rowEq (v := .slice (some ⟨sg, 0, none⟩) (init ++ [(⟨tpp, some ⟨lg, lo, none⟩, tec, tsa, tsc, ⟨tts, e :: el, tspans⟩⟩ : HBr)]).length scap) (by repeat constructor) (hset _ rfl) ?_)
    refine .gr ?_; (repeat constructor); refine .gr ?_; (repeat constructor); refine .mv ?_; refine .mv ?_; refine .nc ?_; refine .fa ?_; refine EL.loadR rfl rfl rfl rfl rfl (by repeat constructor) (hcell2 2 _ rfl) ?_
    (refine EL.copyNil rfl rfl rfl rfl rfl rfl rfl rfl rfl (fun w hs => pool_rd hs (by repeat constructor) htsp) (spsC_len tspans) (spsC_one tspans) (show tspans.length ≤ maxLen by unfold maxLen; omega) (Nat.le_trans (Nat.mul_le_mul_right _ (show tspans.length ≤ 100 by omega)) (by decide)) ?_; intro ap cp)
    refine .nc ?_; refine .fa ?_; refine .sb ?_; refine .gr ?_; (repeat constructor); refine .gr ?_; (repeat constructor); refine .mv ?_; refine .mv ?_; refine .nc ?_; refine .fa ?_; refine EL.loadR rfl rfl rfl rfl rfl (by repeat constructor) (hcell2 0 _ rfl) ?_; refine .mv ?_
    (refine EL.callMw rfl rfl rfl ent107 rfl (hfol ap cp) (by repeat constructor) ?_; rintro ⟨pool4, np, u1, u2⟩)
    refine .as_ ?_; refine .gr ?_; repeat constructor
    dsimp only
    have hln2 : (init ++ [(⟨tpp, tad, tec - 1, tsa, tsc, ⟨tts, el, tspans⟩⟩ : HBr)]).length = init.length + 1 := by simp
    have hll : init.length + 1 ≤ stk.length := by omega
    exact PX.loop ⟨f, now2, init ++ [⟨tpp, tad, tec - 1, tsa, tsc, ⟨tts, el, tspans⟩⟩], z2, np, ap, cp, es2, st2, pool4, some ⟨sg, 0, none⟩, scap⟩ ⟨by dsimp only; rw [stk_rev]; exact hgo, y3, u2, fun y hy => by
        rcases List.mem_append.1 hy with hy | hy
        · exact (hstk2 y (hp2 y (List.mem_append_left _ hy))).mono (fun _ h => h) u1
        · rw [List.mem_singleton] at hy
          subst hy
          exact ⟨hts.mono u1, htl.mono (fun _ h => h) u1, by show el.length ≤ tec - 1; omega, u1 _ htsp, htsl, htk⟩, by dsimp only; omega, by dsimp only; rw [follow_len hfo]; exact htsl, by dsimp only; rw [hln2]; omega⟩ (Nat.lt_succ_self _)
      ⟨rfl, getA rfl (congrArg (fun n => Value.slice (some ⟨sg, 0, none⟩) n scap) (hln.trans hln2.symm)), rfl, trivial⟩ (by dsimp only; rw [hln2, ← hln]; exact (.i (by repeat constructor)))
structure FrS where
  m : Nat
  q : Nat
  es : List ME
  st : Nat
  sp : Option Addr
  cap : Nat
  z : List Spn
structure FrX (w0 : World) (B : Nat) (s : List UInt8) (res : Option (List Spn)) (q top : Nat) where
  es' : List ME
  st' : Nat
  sp : Option Addr
  cap : Nat
  z : List Spn
  ok : MemB w0 B s es'
  le : st' + q * (2 * floodC) ≤ top
  eq : ∀ y, res = some y → z = y
theorem from10_c (gs gm : Nat) (s : List UInt8) (hs : s.length ≤ 1024) (st F g q : Nat) (hg : g ≤ 9) (hq : q ≤ 16384) (top : Nat) (htop : top ≤ 576460752303423488) (hst : st + (q + 1) * (2 * floodC) ≤ top) (sp : Option Addr) (cap : Nat) (z : List Spn) (es : List ME) (r : RE) (i : Nat) (hi : i ≤ s.length) (w0 : World) (B gr off : Nat) (hn : NodeRd w0 B gr off r) (hf : r.fine) (hok : MemB w0 B s es)
    (ga : Nat) (x : AX (makeM [r]).1) (hcost : costL [r] + 1 ≤ 131072) (res : Option (List Spn)) (q' : Nat) (hfrom : fromB s F r g i (endsM (makeM [r]) s i 0).marks (s.length + 1 - i) q = some (res, q')) :
    MutAt Tryz.prog 74 #[Pv gs 0, Pv gr off, Pv ga 0, Iv (g : Nat), Iv (i : Nat)] [SB10 gs s st sp z.length cap gm, HA.memo gm 3 es, PRow sp cap z, AP ga x.1 (makeM [r]).2] (fun _ : FrX w0 B s res q' top => .bool res.isSome)
      (fun y => [SB10 gs s y.st' y.sp y.z.length y.cap gm, HA.memo gm 3 y.es', PRow y.sp y.cap y.z, AP ga x.1 (makeM [r]).2]) w0 B := by
  intro R w h
  replace h : Sat w0 B (SB10 gs s st sp z.length cap gm :: HA.memo gm 3 es :: PRow sp cap z :: AP ga x.1 (makeM [r]).2 :: R) w := h
  obtain ⟨hr, he⟩ := make_room [r] hcost
  rw [Nat.succ_mul] at hst
  have hec := ends_c gs s hs st (by omega) [.slice sp z.length cap, .map (some gm)] 164 ga (makeM [r]) x hr he i hi
  have hml : (endsM (makeM [r]) s i st).marks.length = s.length + 1 := flood_len hr.eo s (by show 0 < _; omega) hi _ _ _
  have hel : (endsM (makeM [r]) s i st).steps ≤ st + 17609365913600 := endsM_le hr hs i st
  rw [← endsM_st (makeM [r]) s i st] at hfrom
  generalize endsM (makeM [r]) s i st = FE at hfrom hec hml hel
  have hfc : floodC = 17609365913600 := rfl
  refine calls_of_ES TB Tryz.func74 rfl _ Tryz.ntmps74 rfl h ?_; refine .gr ?_; (repeat constructor); refine .as_ ?_; refine .gr ?_; (repeat constructor); refine .mv ?_; refine .nc ?_; refine .fa ?_; refine .mv ?_; refine .mv ?_; (refine EL.callM rfl rfl rfl ent40 rfl hec (by repeat constructor) ?_; intro ge); refine .as_ ?_; refine .gr ?_; (repeat constructor); refine .mv ?_; refine .nc ?_; refine .fa ?_; refine .fa ?_; refine .lb ?_; refine .lS ?_; refine .as_ ?_; refine .gr ?_; repeat constructor
  refine ES.loop (σ := FrS) (fun y => y.m ≤ s.length + 1 - i ∧ y.q ≤ 16384 ∧ fromB s F r g i FE.marks y.m y.q = some (res, q') ∧ MemB w0 B s y.es ∧ y.st + y.q * (2 * floodC) ≤ top) (fun y => [(0, Pv gs 0), (1, Pv gr off), (3, Iv (g : Nat)), (4, Iv (i : Nat)), (11, .slice (some ⟨ge, 0, none⟩) (s.length + 1) (s.length + 1)), (12, Iv ((i : Int) + (y.m : Int) - 1))])
    (fun y => SB10 gs s y.st y.sp y.z.length y.cap gm :: HA.memo gm 3 y.es :: PRow y.sp y.cap y.z :: BR ge (s.length + 1) FE.marks :: AP ga x.1 (makeM [r]).2 :: R) (fun y => y.m) ⟨s.length + 1 - i, q, es, FE.steps, sp, cap, z⟩ ⟨Nat.le_refl _, hq, hfrom, hok, by dsimp only; omega⟩ ⟨rfl, rfl, rfl, rfl, rfl, getA rfl (congrArg Iv (by dsimp only; omega)), trivial⟩ (.i (by repeat constructor)) ?_
  rintro ⟨m, q1, es1, st1, sp1, cap1, z1⟩ ⟨hm, hq1, hgo, hmem, hst1⟩
  dsimp only at hm hq1 hgo hmem hst1 ⊢
  refine .gr ?_; (repeat constructor); refine .mv ?_; refine .mv ?_; refine .gq ?_; refine .gr ?_; repeat constructor
  refine ES.condD rfl (fun hge => ?_) (fun hlt => ?_)
  rotate_left
  · obtain rfl : m = 0 := by omega
    rw [fromB] at hgo
    cases hgo
    refine .gr ?_; (repeat constructor); refine .gr ?_; (repeat constructor); refine .as_ ?_; refine .gr ?_; repeat constructor
    exact PX.ret rfl Tryz.results74 (.cons (.tmp rfl) .nil) (fun w hs => ⟨⟨es1, st1, sp1, cap1, z1, hmem, hst1, fun y hy => by cases hy⟩, rfl, hs.ent (.i (by repeat constructor))⟩)
  obtain ⟨m, rfl⟩ : ∃ m', m = m' + 1 := ⟨m - 1, by omega⟩
  have ej : (i : Int) + ((m + 1 : Nat) : Int) - 1 = ((i + m : Nat) : Int) := by omega
  rw [ej]
  rw [fromB] at hgo
  have hback : (((i + m : Nat) : Int) - 1) = (i : Int) + (m : Int) - 1 := by omega
  refine .gr ?_; (repeat constructor); refine .mv ?_; refine .mv ?_; refine .i1 ?_
  refine EL.ofRV (RV.loadRm (l := FE.marks) Value.bool false rfl rfl rfl (by repeat constructor) (by rw [hml]; omega)) rfl rfl rfl (by intro c h; cases h) ?_
  refine .nt ?_; refine .gr ?_; repeat constructor
  refine ES.cond rfl (fun hf0 => ?_) (fun hf0 => ?_)
  · rw [Bool.not_eq_true'] at hf0
    rw [if_neg (by rw [hf0]; simp)] at hgo
    refine .gr ?_; (repeat constructor); refine .gr ?_; (repeat constructor); refine .mv ?_; refine EL.sub_ ((i : Int) + (m : Int) - 1) rfl rfl rfl rfl ((wrap_i64 _ (by omega) (by omega)).trans (by omega)) ?_; refine .as_ ?_; refine .gr ?_; repeat constructor
    exact .ly ⟨m, q1, es1, st1, sp1, cap1, z1⟩ ⟨by dsimp only; omega, hq1, hgo, hmem, hst1⟩ (by dsimp only; omega)
  rw [Bool.not_eq_false'] at hf0
  rw [if_pos hf0] at hgo
  split at hgo
  · cases hgo
  rename_i hqF
  obtain ⟨q2, rfl⟩ : ∃ q2, q1 = q2 + F := ⟨q1 - F, by omega⟩
  rw [Nat.add_mul] at hst1
  rw [Nat.add_sub_cancel] at hgo
  cases hrun : runB s F [⟨r, 0, i, i + m⟩] [] (List.replicate (g + 1) (-1, -1)) with
  | none => rw [hrun] at hgo; cases hgo
  | some rs =>
  rw [hrun] at hgo
  have hlR : (List.replicate (g + 1) ((-1, -1) : Spn)).length = g + 1 := List.length_replicate
  refine .gr ?_; (repeat constructor); refine .mv ?_; refine .nc ?_; refine .fa ?_; refine .sb ?_; refine .gr ?_; (repeat constructor); refine .mv ?_; refine .a1 ?_; refine .mv ?_; refine .gr ?_; (repeat constructor); refine ES.nilRow 29 2 ?_
  have hsR : ∀ n, spsC (List.replicate n (-1, -1) ++ [(-1, -1)]) = spsC (List.replicate (n + 1) (-1, -1)) := fun n => by rw [List.replicate_succ']
  refine ES.loop (σ := SpSt) (fun y => y.i ≤ g + 1) (fun y => [(0, Pv gs 0), (1, Pv gr off), (3, Iv (g : Nat)), (4, Iv (i : Nat)), (11, .slice (some ⟨ge, 0, none⟩) (s.length + 1) (s.length + 1)), (12, Iv ((i + m : Nat) : Int)), (39, Iv ((g + 1 : Nat) : Int)), (40, Iv (y.i : Nat))])
    (fun y => SB10 gs s st1 y.ad y.i y.cap gm :: HA.row (.slice y.ad y.i y.cap) 29 2 y.i (spsC (List.replicate y.i (-1, -1))) :: HA.memo gm 3 es1 :: BR ge (s.length + 1) FE.marks :: AP ga x.1 (makeM [r]).2 :: R) (fun y => g + 1 - y.i) ⟨0, none, 0⟩ (Nat.zero_le _) ⟨rfl, rfl, rfl, rfl, rfl, rfl, rfl, rfl, trivial⟩ (.i (by repeat constructor)) ?_
  rintro ⟨n, nad, ncap⟩ hn1
  dsimp only at hn1 ⊢
  refine .gr ?_; (repeat constructor); refine .ls ?_; refine .gr ?_; repeat constructor
  refine ES.condD rfl (fun hlt => ?_) (fun hge2 => ?_)
  · refine .gr ?_; (repeat constructor); refine .mv ?_; refine .mv ?_; refine .nc ?_; refine .fa ?_; refine .lb ?_; refine EL.buildS #[Iv (-1), Iv (-1)] rfl rfl rfl rfl rfl (by kernel_rfl) rfl ?_; (refine .b1 ?_; intro b48)
    (refine EL.append1 rfl rfl rfl rfl rfl rfl rfl rfl rfl (by repeat constructor) (by repeat constructor) (by first | (intro u hu; simp [Value.cells] at hu; subst hu; rfl) | exact all1 rfl) (by rfl) (by unfold maxLen; omega) (by first | omega | (show 1 * _ ≤ _; omega) | (show 8 * _ ≤ _; omega) | (show 16 * _ ≤ _; omega) | (show 24 * _ ≤ _; omega) | (show _ * 1 ≤ _; omega) | (show _ * 8 ≤ _; omega) | (show _ * 16 ≤ _; omega) | (show _ * 24 ≤ _; omega) | exact Nat.le_trans (Nat.mul_le_mul_right _ (show _ ≤ 1073741824 by omega)) (by decide)) ?_; intro a49 c49)
    refine .nc ?_; refine .fa ?_; refine .sb ?_; refine .gr ?_; (repeat constructor); refine .a1 ?_; refine .mv ?_; refine .gr ?_; repeat constructor
    exact PX.loop ⟨n + 1, some ⟨a49, 0, none⟩, c49⟩ (by dsimp only; omega) (by dsimp only; omega) ⟨rfl, rfl, rfl, rfl, rfl, rfl, rfl, rfl, trivial⟩ (by dsimp only; rw [← hsR n, spsC_app]; exact (.i (by repeat constructor)))
  obtain rfl : n = g + 1 := by omega
  have hrc := run10_c gs gm s hs st1 F (by omega) (Nat.le_trans (Nat.le_trans (Nat.add_le_add_left (Nat.le_add_left _ _) _) hst1) htop) nad ncap (List.replicate (g + 1) (-1, -1)) (by rw [hlR]; omega) es1 r i (i + m) w0 B gr off hn hf hmem rs hrun
  refine ES.imp (H' := SB10 gs s st1 nad (List.replicate (g + 1) ((-1, -1) : Spn)).length ncap gm :: HA.memo gm 3 es1 :: PRow nad ncap (List.replicate (g + 1) (-1, -1)) :: BR ge (s.length + 1) FE.marks :: AP ga x.1 (makeM [r]).2 :: R) (fun w hs => by
    unfold SB10 PRow
    rw [hlR]
    exact hs.ent (.i (by repeat constructor))) ?_
  refine .gr ?_; (repeat constructor); refine .mv ?_; refine .mv ?_; refine .mv ?_; refine .mv ?_
  (refine EL.callMw rfl rfl rfl ent90 rfl hrc (by repeat constructor) ?_; rintro ⟨es2, st2, sp2, cap2, z2, y1, y2, y3, y4⟩)
  refine .gr ?_; repeat constructor
  cases rs with
  | none =>
    dsimp only at hgo ⊢
    refine ES.condF rfl ?_; refine .gr ?_; (repeat constructor); refine .gr ?_; (repeat constructor); refine .mv ?_; refine EL.sub_ ((i : Int) + (m : Int) - 1) rfl rfl rfl rfl ((wrap_i64 _ (by omega) (by omega)).trans (by omega)) ?_; refine .as_ ?_; refine .gr ?_; repeat constructor
    exact .ly ⟨m, q2, es2, st2, sp2, cap2, z2⟩ ⟨by dsimp only; omega, by dsimp only; omega, hgo, y1, by dsimp only; omega⟩ (by dsimp only; omega)
  | some zf =>
    obtain rfl : z2 = zf := y4 zf rfl
    dsimp only at hgo ⊢
    refine ES.condT rfl ?_
    split at hgo
    rotate_left
    · cases hgo
    rename_i hzl
    cases hgo
    have hsl := spsC_len z2
    have hput := spsC_set z2 0 hzl ((i : Int), ((i + m : Nat) : Int))
    refine ES.know (P := ∃ g, sp2 = some ⟨g, 0, none⟩) (fun w hs => (row_form (hs.all (PRow sp2 cap2 z2) (by simp))).2.2.2.2 (by omega)) ?_
    rintro ⟨spg, rfl⟩
    refine .gr ?_; (repeat constructor); refine .mv ?_; refine .nc ?_; refine .fa ?_; refine .lb ?_; refine .mv ?_; refine .mv ?_; refine EL.build2 rfl rfl rfl rfl rfl rfl rfl rfl rfl rfl ?_; refine EL.indexAddrL (i := 0) rfl rfl rfl rfl rfl rfl rfl hzl ?_
    (refine EL.storeRA (vs := spC ((i : Int), ((i + m : Nat) : Int))) rfl rfl rfl rfl rfl (by repeat constructor) (by rw [hsl]; show 0 + 0 * 2 + 2 ≤ _; omega) (all1 rfl) ?_; refine EL.rowEq (v := .slice (some ⟨spg, 0, none⟩) z2.length cap2) (by repeat constructor) hput ?_)
    refine .gr ?_; (repeat constructor); refine .gr ?_; (repeat constructor); refine .as_ ?_; refine .gr ?_; repeat constructor
    have hl2 : (z2.set 0 ((i : Int), ((i + m : Nat) : Int))).length = z2.length := List.length_set
    exact PX.ret rfl Tryz.results74 (.cons (.tmp rfl) .nil) (fun w hs => ⟨⟨es2, st2, some ⟨spg, 0, none⟩, cap2, z2.set 0 ((i : Int), ((i + m : Nat) : Int)), y1, by omega, fun y hy => Option.some.inj hy⟩, rfl, by
      unfold SB10 PRow
      dsimp only
      rw [hl2]
      exact hs.ent (.i (by repeat constructor))⟩)
theorem from_le {s : List UInt8} {F g i : Nat} {r : RE} {ends : List Bool} {x : Option (List Spn)} {q' : Nat} : ∀ (m q : Nat), fromB s F r g i ends m q = some (x, q') → q' ≤ q
  | 0, q, h => by rw [fromB] at h; cases h; exact Nat.le_refl _
  | m + 1, q, h => by
    rw [fromB] at h
    split at h
    · split at h
      · cases h
      · split at h
        · cases h
        · exact Nat.le_trans (from_le m _ h) (Nat.sub_le _ _)
        · split at h
          · cases h; exact Nat.sub_le _ _
          · cases h
    · exact from_le m q h
structure MaS where
  n : Nat
  i : Nat
  q : Nat
  es : List ME
  st : Nat
  sp : Option Addr
  cap : Nat
  z : List Spn
theorem backMatch_c (F : Nat) (t s : List UInt8) (a : Int) (m : MB10) (hm : backM F t s a = some m) (ht : t.length ≤ 4611686018427387904) (w : World) (hG : GR w w.heap.size) :
    Pure Tryz.prog 46 #[Sv t, Sv s, Iv a] (fun x : Option Addr × Nat => .tuple #[.slice x.1 m.spans.length x.2, .bool m.ok, Iv m.e]) (fun x => [PRow x.1 x.2 m.spans]) w := by
  have hpf := parse_fine t
  have hpc := fun w hG => parse_c t ht w hG
  have hof : ofM t = if (parseM t).e ≠ 0 then (Me.zero, (parseM t).e, (parseM t).at_) else (measM (parseM t).tree, 0, 0) := rfl
  have hmc := fun w hG => measOf_c t ht w hG
  have hwc : ∀ i : Nat, (parseM t).e = 0 → s.length ≤ 1024 → i ≤ s.length → waysM t s (i : Nat) = (countM s (parseM t).tree i, 0) := fun i h1 h2 h3 => by
    unfold waysM
    rw [if_neg (fun h => h h1), if_neg (by omega), if_neg (by omega), Int.toNat_natCast]
  have hws := fun (i : Nat) (hsl : s.length ≤ 1024) w hG => waysCount_c t s ht (Nat.le_trans hsl (by decide)) (i : Nat) w hG
  unfold backM at hm
  generalize ofM t = om at hof hmc
  generalize parseM t = p at hm hpf hpc hof hwc
  obtain ⟨tree, pe, pat⟩ := p
  dsimp only at hm hpf hpc hof hwc
  have hnil : ∀ {w0 w' : World} {B : Nat} {R : List HA}, Sat w0 B R w' → Sat w0 B [PRow none 0 []] w' := fun {w0 w' B R} h => (h.nilRow 29 2).ent (.i (by repeat constructor))
  refine calls_of_ES TB Tryz.func46 rfl _ Tryz.ntmps46 rfl (Sat.start w) ?_; refine .go ?_; (repeat constructor); refine .as_ ?_; refine .as_ ?_; refine .as_ ?_; refine .go ?_; (repeat constructor); refine .mv ?_; (refine EL.callXw rfl rfl rfl ent20 rfl (fun w hs => hpc w (GR.sat hG hs)) ?_; intro px); refine .mv ?_; refine .ex ?_; refine .ex ?_; (refine .al ?_; intro g9); (refine .al ?_; intro g10); refine .sa ?_; refine .sa ?_; refine .go ?_; (repeat constructor); refine .go ?_; (repeat constructor); refine .fa ?_; refine .lb ?_; refine .ni ?_; refine .as_ ?_; refine .go ?_; repeat constructor
  refine ES.condN rfl (fun hne => ?_) (fun he => ?_)
  · rw [if_pos hne] at hm
    cases hm
    refine .g0 ?_; repeat constructor
    refine ES.draw (X := Unit) (fun _ => [(6, .slice none 0 0), (7, .bool false), (8, Iv pe)]) (fun _ => []) (HA.blk g10 (.cells #[Iv pe, Iv (pat : Nat)] 33) :: []) mixed (.i (by repeat constructor)) ?_ (fun _ => ?_)
    · refine .tk 0 rfl (RV.fieldAddr rfl rfl rfl rfl rfl rfl) ?_; refine .tk 1 rfl (RV.loadB rfl rfl rfl (by repeat constructor) rfl) ?_; refine .tk 2 rfl (RV.assign rfl) ?_; refine .tk 3 rfl (RV.assign rfl) ?_; refine .tk 4 rfl (RV.assign rfl) ?_; refine .dn ?_
      exact .cy ()
    refine .go ?_; repeat constructor
    exact PX.ret rfl Tryz.results46 (.cons (.tmp rfl) (.cons (.tmp rfl) (.cons (.tmp rfl) .nil))) (fun w hs => ⟨(none, 0), rfl, hnil hs⟩)
  have he' : pe = 0 := he
  rw [if_neg (fun h => h he')] at hm hof
  subst hof
  refine .go ?_; (repeat constructor); refine .mv ?_; refine .lS ?_; refine .gt_ ?_; refine .as_ ?_; refine .go ?_; repeat constructor
  refine ES.condD rfl (fun hl => ?_) (fun hl => ?_)
  · rw [if_pos (by omega)] at hm
    cases hm
    refine .go ?_; (repeat constructor); refine .as_ ?_; refine .as_ ?_; refine .as_ ?_; refine .go ?_; repeat constructor
    exact PX.ret rfl Tryz.results46 (.cons (.tmp rfl) (.cons (.tmp rfl) (.cons (.tmp rfl) .nil))) (fun w hs => ⟨(none, 0), rfl, hnil hs⟩)
  rw [if_neg (by omega)] at hm
  have hs2 : s.length ≤ 1024 := by omega
  refine .go ?_; repeat constructor
  refine EL.cutX (X := Unit) (fun _ => [(0, Sv t), (1, Sv s), (2, Iv a), (9, Pv g9 0), (33, .bool (decide (a < 0 ∨ (s.length : Int) < a)))])
    (fun _ => HA.blk g9 (.cells (reCells tree (.slice px.ad tree.kids.length px.cap)).toArray 46) :: HA.forest px.fp [tree] (reCells tree (.slice px.ad tree.kids.length px.cap)) :: []) ?_ (fun _ => ?_)
  · refine .go ?_; (repeat constructor); refine .mv ?_; refine .ls ?_; refine .mv ?_
    first | refine EL.splitD (d := 36) rfl (fun hp36 => ?_) (fun hp36 => ?_) | refine EL.splitN (d := 36) rfl (fun hp36 => ?_) (fun hp36 => ?_) | refine EL.splitB (d := 36) rfl (fun hp36 => ?_) (fun hp36 => ?_)
    · refine .ps ?_; refine .ps ?_; refine .ps ?_; refine .ps ?_; refine .pt ?_; refine .as_ ?_
      exact .dx () ⟨rfl, rfl, rfl, rfl, getA rfl (congrArg Value.bool (by rw [Bool.eq_iff_iff]; simp only [decide_eq_true_eq, true_iff]; omega)), trivial⟩
    · refine .mv ?_; refine .mv ?_; refine .lS ?_; refine .gt_ ?_; refine .pf ?_; refine .as_ ?_
      exact .dx () ⟨rfl, rfl, rfl, rfl, getA rfl (congrArg Value.bool (by rw [Bool.eq_iff_iff]; simp only [decide_eq_true_eq, true_iff]; omega)), trivial⟩
  refine ES.condD rfl (fun hr => ?_) (fun hr => ?_)
  · rw [if_pos hr] at hm
    cases hm
    refine .go ?_; (repeat constructor); refine .as_ ?_; refine .as_ ?_; refine .as_ ?_; refine .go ?_; repeat constructor
    exact PX.ret rfl Tryz.results46 (.cons (.tmp rfl) (.cons (.tmp rfl) (.cons (.tmp rfl) .nil))) (fun w hs => ⟨(none, 0), rfl, hnil hs⟩)
  rw [if_neg hr] at hm
  split at hm
  · cases hm
  rename_i hgr
  obtain ⟨G, hGr⟩ : ∃ G : Nat, (measM tree).grp = (G : Int) := ⟨(measM tree).grp.toNat, by omega⟩
  have hG9 : G ≤ 9 := by omega
  have hcost : costL [tree] + 1 ≤ 131072 := by omega
  rw [hGr, Int.toNat_natCast] at hm
  obtain ⟨i, rfl⟩ : ∃ i : Nat, a = (i : Int) := ⟨a.toNat, by omega⟩
  have hi : i ≤ s.length := by omega
  rw [Int.toNat_natCast] at hm
  refine .go ?_; (repeat constructor); refine .mv ?_; refine EL.callPw rfl rfl rfl ent21 rfl (fun w hs => hmc w (GR.sat hG hs)) ?_; refine .mv ?_; refine .ex ?_; refine .ex ?_; (refine .al ?_; intro g11); (refine .al ?_; intro g12); refine .sa ?_; refine .sa ?_
  repeat (first | apply EL.nil | apply ES.seq | apply ES.skip)
  refine ES.rebase (fun w1 hw1 => ?_)
  have hG1 : GR w1 w1.heap.size := GR.sat hG hw1
  have hn := node_of hw1 (by repeat constructor) (by repeat constructor)
  have hrd11 := rd_blk hw1 (g := g11) (cs := (measM tree).cells) (e := 66) (by repeat constructor)
  have hn' := hn
  obtain ⟨ad, kcap, cs0, q1, q2, q3, q4⟩ := hn'
  have hrd9 := q1.rd
  obtain ⟨hr1, he1⟩ := make_room [tree] hcost
  have hgc : (measM tree).cells[1]? = some (Iv (G : Nat)) := by rw [← hGr]; rfl
  refine .go ?_; repeat constructor
  refine EL.loadOldA (j := 0) (vs := reCells tree (.slice ad tree.kids.length kcap)) rfl rfl rfl rfl rfl (by simp [reCells]) rfl hrd9 (fun i u hi => by rw [Nat.zero_add]; exact hi) ?_
  (refine .b1 ?_; intro b48)
  (refine EL.callXw rfl rfl rfl ent23 rfl (fun w hs => make_c [tree] (fun k hk => by rw [List.mem_singleton] at hk; subst hk; exact hpf) (by simp) hcost (some ⟨b48, 0, none⟩) 1 w (rowRd_one q2 q3 q4 w _ (hs.ent (H' := HA.row (.slice (some ⟨b48, 0, none⟩) 1 1) 46 9 1 (reCells tree (.slice ad tree.kids.length kcap)) :: []) (.i (by repeat constructor))))) ?_; intro mk)
  refine .as_ ?_; refine .go ?_; (repeat constructor); refine .go ?_; (repeat constructor); refine .mv ?_; refine EL.buildS #[Sv s, Iv 0] rfl rfl rfl rfl rfl (by kernel_rfl) rfl ?_; (refine EL.makeMap 3 rfl rfl ?_; intro gm); refine EL.buildS #[Sv s, Iv 0, .slice none 0 0, .map (some gm)] rfl rfl rfl rfl rfl (by kernel_rfl) rfl ?_; (refine .bx ?_; intro g54); refine .as_ ?_; refine .go ?_; (repeat constructor); refine .mv ?_; refine .as_ ?_; refine .go ?_; (repeat constructor); refine ES.nilRow 29 2 ?_
  have hsp : 0 + spendB * (2 * floodC) ≤ 576460752303423488 := by decide
  obtain ⟨top, htop, htop2⟩ : ∃ top, 0 + spendB * (2 * floodC) ≤ top ∧ top ≤ 576460752303423488 := ⟨_, Nat.le_refl _, hsp⟩
  have hq0 : spendB ≤ 16384 := by decide
  generalize spendB = q0 at hm htop hq0
  clear hsp
  refine ES.loop (σ := MaS) (fun y => y.n + y.i = s.length + 1 ∧ y.q ≤ 16384 ∧ matchB s F tree G y.n y.i y.q = some m ∧ MemB w1 w1.heap.size s y.es ∧ y.st + y.q * (2 * floodC) ≤ top) (fun y => [(0, Sv t), (1, Sv s), (9, Pv g9 0), (11, Pv g11 0), (13, Pv mk.1 0), (14, Pv g54 0), (15, Iv (y.i : Nat))])
    (fun y => SB10 g54 s y.st y.sp y.z.length y.cap gm :: HA.memo gm 3 y.es :: PRow y.sp y.cap y.z :: AP mk.1 mk.2.1 (makeM [tree]).2 :: []) (fun y => y.n) ⟨s.length + 1 - i, i, q0, [], 0, none, 0, []⟩ ⟨by dsimp only; omega, hq0, hm, fun m hm => by simp at hm, htop⟩ ⟨rfl, rfl, rfl, rfl, rfl, rfl, rfl, trivial⟩ (.i (by repeat constructor)) ?_
  rintro ⟨n, i, q, es, st, sp, cap, z⟩ ⟨hn1, hq1, hgo, hmem, hst⟩
  dsimp only at hn1 hq1 hgo hmem hst ⊢
  refine .go ?_; (repeat constructor); refine .mv ?_; refine .mv ?_; refine .lS ?_; refine .lq ?_; refine .go ?_; repeat constructor
  refine ES.condD rfl (fun hle => ?_) (fun hgt => ?_)
  rotate_left
  · obtain rfl : n = 0 := by omega
    rw [matchB] at hgo
    cases hgo
    refine .go ?_; (repeat constructor); refine .as_ ?_; refine .as_ ?_; refine .as_ ?_; refine .go ?_; repeat constructor
    exact PX.ret rfl Tryz.results46 (.cons (.tmp rfl) (.cons (.tmp rfl) (.cons (.tmp rfl) .nil))) (fun w hs => ⟨(none, 0), rfl, hnil (hw1.join hs)⟩)
  obtain ⟨n, rfl⟩ : ∃ n', n = n' + 1 := ⟨n - 1, by omega⟩
  rw [matchB] at hgo
  have hi2 : i ≤ s.length := by omega
  have hcnt := fun w hG => hws i hs2 w hG
  rw [hwc i he' hs2 hi2] at hcnt
  have hle : countM s tree i ≤ 4097 := by rw [count_exact]; exact cap_le _
  refine .go ?_; (repeat constructor); refine .mv ?_; refine .mv ?_; refine .mv ?_; refine EL.callPw rfl rfl rfl ent73 rfl (fun w hs => hcnt w (GR.sat hG1 hs)) ?_; refine .mv ?_; refine .ex ?_; refine .ex ?_; refine .as_ ?_; refine .as_ ?_; refine .go ?_; (repeat constructor); refine .go ?_; (repeat constructor); refine .mv ?_; refine .gt_ ?_; refine .go ?_; repeat constructor
  refine ES.condD rfl (fun hbig => ?_) (fun hnb => ?_)
  · rw [if_pos (by omega)] at hgo
    cases hgo
    refine .go ?_; (repeat constructor); refine .as_ ?_; refine .as_ ?_; refine .as_ ?_; refine .go ?_; repeat constructor
    exact PX.ret rfl Tryz.results46 (.cons (.tmp rfl) (.cons (.tmp rfl) (.cons (.tmp rfl) .nil))) (fun w hs => ⟨(none, 0), rfl, hnil (hw1.join hs)⟩)
  rw [if_neg (by omega)] at hgo
  refine .go ?_; repeat constructor
  by_cases hc0 : 0 < countM s tree i
  rotate_left
  · rw [if_neg hc0] at hgo
    refine .go ?_; (repeat constructor); refine .mv ?_; refine .gt_ ?_; refine .mv ?_; refine EL.rew (d := 73) (v' := .bool false) rfl ((by rw [decide_eq_false (by omega)])) ?_; refine .ps ?_; refine .ps ?_; refine .ps ?_; refine .ps ?_; refine .ps ?_; refine .ps ?_; refine .pf ?_; refine .go ?_; (repeat constructor); refine ES.condF rfl ?_; refine .go ?_; (repeat constructor); refine .go ?_; (repeat constructor); refine .mv ?_; refine .a1 ?_; refine .as_ ?_; refine .go ?_; repeat constructor
    exact .ly ⟨n, i + 1, q, es, st, sp, cap, z⟩ ⟨by dsimp only; omega, hq1, hgo, hmem, hst⟩ (by dsimp only; omega)
  rw [if_pos hc0] at hgo
  split at hgo
  · cases hgo
  rename_i hq00
  obtain ⟨q, rfl⟩ : ∃ q', q = q' + 1 := ⟨q - 1, by omega⟩
  rw [Nat.add_sub_cancel] at hgo
  cases hfr : fromB s F tree G i (endsM (makeM [tree]) s i 0).marks (s.length + 1 - i) q with
  | none => rw [hfr] at hgo; cases hgo
  | some rq =>
  obtain ⟨rs, q'⟩ := rq
  rw [hfr] at hgo
  have hfc := from10_c g54 gm s hs2 st F G q hG9 (by omega) top htop2 hst sp cap z es tree i hi2 w1 w1.heap.size g9 0 hn hpf hmem mk.1 mk.2 hcost rs q' hfr
  refine .go ?_; (repeat constructor); refine .mv ?_; refine .gt_ ?_; refine .mv ?_; refine EL.rew (d := 73) (v' := .bool true) rfl ((by rw [decide_eq_true (by omega)])) ?_; refine .mv ?_; refine .mv ?_; refine .fa ?_; refine EL.loadOld (j := 1) rfl rfl rfl rfl rfl hrd11 hgc ?_; refine .mv ?_
  (refine EL.callMw rfl rfl rfl ent74 rfl hfc (by repeat constructor) ?_; rintro ⟨es2, st2, sp2, cap2, z2, y1, y2, y3⟩)
  refine .pt ?_; refine .go ?_; repeat constructor
  cases rs with
  | none =>
    dsimp only at hgo ⊢
    refine ES.condF rfl ?_; refine .go ?_; (repeat constructor); refine .go ?_; (repeat constructor); refine .mv ?_; refine .a1 ?_; refine .as_ ?_; refine .go ?_; repeat constructor
    exact .ly ⟨n, i + 1, q', es2, st2, sp2, cap2, z2⟩ ⟨by dsimp only; omega, by have := from_le _ _ hfr; dsimp only; omega, hgo, y1, y2⟩ (by dsimp only; omega)
  | some zf =>
    obtain rfl : z2 = zf := y3 zf rfl
    dsimp only at hgo ⊢
    cases hgo
    refine ES.condT rfl ?_; refine .go ?_; (repeat constructor); refine .mv ?_; refine .nc ?_; refine .fa ?_; refine .lb ?_; refine .as_ ?_; refine .as_ ?_; refine .as_ ?_; refine .go ?_; repeat constructor
    exact PX.ret rfl Tryz.results46 (.cons (.tmp rfl) (.cons (.tmp rfl) (.cons (.tmp rfl) .nil))) (fun w hs => ⟨(sp2, cap2), rfl, (hw1.join hs).ent (.i (by repeat constructor))⟩)
end Go.Proofs.YthcbjbkheodejaaGreat
namespace Go.Proofs.YthcbjbkheodejaaGreat
open Go Go.RowKit Sl
set_option maxRecDepth 100000
set_option maxHeartbeats 8000000
attribute [local irreducible] ES EL PX wps
section
variable {C : Cx} {E : Env} {H : List HA} {d ty : Nat} {pos : String} {af : Array Edge} {gd : Option (Nat × Bool)} {x y : Operand}
end
theorem spsR_get : ∀ (l : List Spn) (i : Nat) (r : Spn), l[i]? = some r → ∀ j u, (spC r)[j]? = some u → (spsC l)[i * 2 + j]? = some u
  | [], i, r, h, _, _, _ => by simp at h
  | r' :: l, 0, r, h, j, u, hj => by
    simp only [List.getElem?_cons_zero, Option.some.injEq] at h
    subst h
    have hlt := (List.getElem?_eq_some_iff.1 hj).1
    rw [Nat.zero_mul, Nat.zero_add]
    show (spC r' ++ spsC l)[j]? = some u
    rw [List.getElem?_append_left hlt]; exact hj
  | r' :: l, i + 1, r, h, j, u, hj => by
    simp only [List.getElem?_cons_succ] at h
    have ih := spsR_get l i r h j u hj
    have hl : (spC r').length = 2 := rfl
    show (spC r' ++ spsC l)[(i + 1) * 2 + j]? = some u
    rw [List.getElem?_append_right (by omega), show (i + 1) * 2 + j - (spC r').length = i * 2 + j by omega]
    exact ih
theorem same08_r (xs : List Spn) (ad1 ad2 : Option Addr) (cap1 cap2 : Nat) (hlen : xs.length ≤ 4611686018427387904) (w : World) (h1 : Rd w w.heap.size ad1 (spsC xs)) (h2 : Rd w w.heap.size ad2 (spsC xs)) :
    Pure Tryz.prog 19 #[.slice ad1 xs.length cap1, .slice ad2 xs.length cap2] (fun _ : Unit => .bool true) (fun _ => []) w := by
  have hl := spsC_len xs
  refine calls_of_ES TB Tryz.func19 rfl _ Tryz.ntmps19 rfl (Sat.start w) ?_; refine .go ?_; (repeat constructor); refine .as_ ?_; refine .go ?_; (repeat constructor); refine .mv ?_; refine .lL ?_; refine .mv ?_; refine .lL ?_; refine .ni ?_; refine .go ?_; repeat constructor
  refine ES.condN rfl (fun h => absurd rfl h) (fun _ => ?_)
  refine .go ?_; (repeat constructor); refine .as_ ?_; refine .go ?_; (repeat constructor); refine ES.loop (σ := Nat) (fun i => i ≤ xs.length) (fun i => [(0, .slice ad1 xs.length cap1), (1, .slice ad2 xs.length cap2), (5, Iv (i : Nat))]) (fun _ => []) (fun i => xs.length - i) 0 (Nat.zero_le _) ⟨rfl, rfl, rfl, trivial⟩ (.i (by repeat constructor)) ?_
  intro i hi
  refine .go ?_; (repeat constructor); refine .mv ?_; refine .mv ?_; refine .lL ?_; refine .ls ?_; refine .go ?_; repeat constructor
  refine ES.condD rfl (fun hlt => ?_) (fun hge => ?_)
  · have hlt' : i < xs.length := by omega
    obtain ⟨p, hp⟩ : ∃ p, xs[i]? = some p := ⟨_, List.getElem?_eq_getElem hlt'⟩
    have hne : spsC xs ≠ [] := fun e => by rw [e] at hl; simp at hl; omega
    obtain ⟨g1, o1, rfl, _⟩ := h1 hne
    obtain ⟨g2, o2, rfl, _⟩ := h2 hne
    refine .g0 ?_; repeat constructor
    refine ES.draw (X := Unit) (fun _ => [(0, .slice (some ⟨g1, o1, none⟩) xs.length cap1), (1, .slice (some ⟨g2, o2, none⟩) xs.length cap2), (5, Iv (i : Nat)), (25, .bool false)]) (fun _ => []) [] mixed (.i (by repeat constructor)) ?_ (fun _ => ?_)
    · refine .tk 0 rfl (RV.move rfl) ?_; refine .tk 1 rfl (RV.move rfl) ?_; refine .tk 2 rfl (RV.indexAddrL rfl rfl rfl rfl rfl (by omega)) ?_; refine .tk 3 rfl (RV.loadOldA (j := i * 2) (vs := spC p) rfl rfl rfl rfl (by simp [spC]) h1 (spsR_get xs i p hp)) ?_; refine .tk 4 rfl (RV.move rfl) ?_; refine .tk 5 rfl (RV.move rfl) ?_; refine .tk 6 rfl (RV.indexAddrL rfl rfl rfl rfl rfl (by omega)) ?_; refine .tk 7 rfl (RV.loadOldA (j := i * 2) (vs := spC p) rfl rfl rfl rfl (by simp [spC]) h2 (spsR_get xs i p hp)) ?_; refine .tk 8 rfl (RV.neqAgg (b := true) rfl rfl eqg29 (fun w => (run_equal_st2 TB rfl rfl sth29 rfl rfl rfl rfl rfl rfl rfl rfl p.1 p.2 p.1 p.2 w).trans (by simp))) ?_; refine .dn ?_
      exact .cy ()
    refine ES.condF rfl ?_; refine .go ?_; (repeat constructor); refine .mv ?_; refine .a1 ?_; refine .as_ ?_; refine .go ?_; repeat constructor
    exact .ly (i + 1) (by omega) (by omega)
  refine .go ?_; (repeat constructor); refine .as_ ?_; refine .go ?_; repeat constructor
  exact PX.ret rfl Tryz.results19 (.cons (.tmp rfl) .nil) (fun w hs => ⟨(), rfl, hs.ent (.i (by repeat constructor))⟩)
end Go.Proofs.YthcbjbkheodejaaGreat
namespace Go.Proofs.YthcbjbkheodejaaGreat
open Go Go.RowKit Sl
set_option maxRecDepth 100000
set_option maxHeartbeats 8000000
attribute [local irreducible] ES EL PX wps
def mfn (me : Me) : Nat := if me.back = true then 27 else 26
abbrev mbC (g : Nat) (t : List UInt8) (me : Me) (st : Int) : Array Value := #[Sv t, Iv me.pos, Iv me.grp, Iv me.least, Iv me.most, .bool me.back, .bool me.bol, .bool me.eol, Iv st, .func (.func (mfn me)) #[Pv g 0] #[]]
abbrev MB (g : Nat) (t : List UInt8) (me : Me) (st : Int) : HA := HA.blk g (.cells (mbC g t me st) 84)
abbrev meOf (t : List UInt8) : Me := measM (parseM t).tree
theorem newBad_c (t : List UInt8) (he : (parseM t).e ≠ 0) (ht : t.length ≤ 4611686018427387904) (w : World) (hG : GR w w.heap.size) :
    Pure Tryz.prog 9 #[Sv t] (fun _ : Unit => .tuple #[.pointer none, .agg #[Iv (parseM t).e, Iv ((parseM t).at_ : Nat)]]) (fun _ => []) w := by
  have hpc := fun w hG => parse_c t ht w hG
  generalize parseM t = p at he hpc
  obtain ⟨tree, pe, pat⟩ := p
  dsimp only at he hpc
  refine calls_of_ES TB Tryz.func9 rfl _ Tryz.ntmps9 rfl (Sat.start w) ?_; refine .go ?_; (repeat constructor); refine .as_ ?_; (refine .al ?_; intro g3); refine .go ?_; (repeat constructor); refine .mv ?_; (refine EL.callXw rfl rfl rfl ent20 rfl (fun w hs => hpc w (GR.sat hG hs)) ?_; intro px); refine .mv ?_; refine .ex ?_; refine .ex ?_; (refine .al ?_; intro g4); (refine .al ?_; intro g5); refine .sa ?_; refine .sa ?_; refine .go ?_; (repeat constructor); refine .go ?_; (repeat constructor); refine .fa ?_; refine .lb ?_; refine .ni ?_; refine .go ?_; repeat constructor
  refine ES.condN rfl (fun hne => ?_) (fun h0 => ?_)
  · refine .g0 ?_; repeat constructor
    refine ES.draw (X := Unit) (fun _ => [(2, .pointer none), (3, Pv g3 0)]) (fun _ => HA.blk g3 (.cells #[Iv pe, Iv (pat : Nat)] 33) :: []) (HA.blk g5 (.cells #[Iv pe, Iv (pat : Nat)] 33) :: []) mixed (.i (by repeat constructor)) ?_ (fun _ => ?_)
    · refine .tk 0 rfl (RV.loadAggB rfl rfl rfl (by repeat constructor) rfl) ?_; refine .tk 1 rfl (RV.assign rfl) ?_; refine ED.last 2 rfl (by decide +kernel) (by decide +kernel) (by decide +kernel) ?_; refine .sa ?_; refine EL.endQ ?_
      exact .cy ()
    refine .go ?_; repeat constructor
    exact PX.ret rfl Tryz.results9 (.cons (.tmp rfl) (.cons (.blkA rfl rfl rfl (by repeat constructor) rfl) .nil)) (fun w hs => ⟨(), rfl, hs.ent (.i (by repeat constructor))⟩)
  · exact absurd h0 he
theorem newOk_c (t : List UInt8) (he : (parseM t).e = 0) (ht : t.length ≤ 4611686018427387904) (w : World) (hG : GR w w.heap.size) :
    Pure Tryz.prog 9 #[Sv t] (fun g : Nat => .tuple #[Pv g 0, .agg #[Iv 0, Iv 0]]) (fun g => [MB g t (meOf t) 0]) w := by
  have hpc := fun w hG => parse_c t ht w hG
  have hof : ofM t = (measM (parseM t).tree, 0, 0) := by unfold ofM; rw [if_neg (fun h => h he)]
  have hmc := fun w hG => measOf_c t ht w hG
  rw [hof] at hmc
  unfold meOf
  generalize parseM t = p at he hpc hmc
  obtain ⟨tree, pe, pat⟩ := p
  dsimp only at he hpc hmc ⊢
  subst he
  generalize measM tree = me at hmc
  refine calls_of_ES TB Tryz.func9 rfl _ Tryz.ntmps9 rfl (Sat.start w) ?_; refine .go ?_; (repeat constructor); refine .as_ ?_; (refine .al ?_; intro g3); refine .go ?_; (repeat constructor); refine .mv ?_; (refine EL.callXw rfl rfl rfl ent20 rfl (fun w hs => hpc w (GR.sat hG hs)) ?_; intro px); refine .mv ?_; refine .ex ?_; refine .ex ?_; (refine .al ?_; intro g4); (refine .al ?_; intro g5); refine .sa ?_; refine .sa ?_; refine .go ?_; (repeat constructor); refine .go ?_; (repeat constructor); refine .fa ?_; refine .lb ?_; refine .ni ?_; refine .go ?_; (repeat constructor); refine ES.condF rfl ?_; refine .go ?_; (repeat constructor); refine .mv ?_; refine EL.buildS #[Sv t, Iv 0, Iv 0, Iv 0, Iv 0, .bool false, .bool false, .bool false, Iv 0, .nilFunc] rfl rfl rfl rfl rfl (by kernel_rfl) rfl ?_; (refine .bx ?_; intro g18); refine .as_ ?_; refine .go ?_; (repeat constructor); refine .go ?_; (repeat constructor); refine .mv ?_; refine .mv ?_; refine EL.callPw rfl rfl rfl ent21 rfl (fun w hs => hmc w (GR.sat hG hs)) ?_; refine .mv ?_; refine .ex ?_; refine .ex ?_; refine .nc ?_; refine .fa ?_
  (refine EL.storeBA (vs := me.cells) rfl rfl rfl rfl rfl (by repeat constructor) (Nat.le_of_ble_eq_true rfl) (all1 rfl) ?_; refine EL.blkEq (g := g18) (o' := .cells #[Sv t, Iv me.pos, Iv me.grp, Iv me.least, Iv me.most, .bool me.back, .bool me.bol, .bool me.eol, Iv 0, .nilFunc] 84) (by repeat constructor) rfl ?_)
  refine .go ?_; (repeat constructor); refine .go ?_; (repeat constructor); refine .mv ?_; refine .mv ?_; refine EL.makeBound rfl rfl rfl ?_; refine .nc ?_; refine .fa ?_; refine .sb ?_; refine .go ?_; (repeat constructor); refine .mv ?_; refine .nc ?_; refine .fa ?_; refine .fa ?_; refine .lb ?_; refine .go ?_; repeat constructor
  refine ES.cutC (X := Unit) (fun _ => [(3, Pv g3 0), (6, Pv g18 0)]) (fun _ => MB g18 t me 0 :: HA.blk g3 (.cells #[Iv 0, Iv 0] 33) :: []) ?_ (fun _ => ?_)
  · refine ES.cond rfl (fun hb => ?_) (fun hb => ?_)
    · have hb' : me.back = true := hb
      have hm : mfn me = 27 := if_pos hb'
      unfold MB mbC
      rw [hm]
      refine .go ?_; (repeat constructor); refine .mv ?_; refine .mv ?_; refine EL.makeBound rfl rfl rfl ?_; refine .nc ?_; refine .fa ?_; refine .sb ?_; refine .go ?_; repeat constructor
      exact .cy ()
    · have hb' : me.back = false := hb
      have hm : mfn me = 26 := if_neg (by rw [hb']; simp)
      unfold MB mbC
      rw [hm]
      refine .go ?_; repeat constructor
      exact .cy ()
  refine .go ?_; (repeat constructor); refine .mv ?_; refine EL.buildZ rfl rfl rfl rfl rfl ?_; refine .as_ ?_; refine .sa ?_; refine .go ?_; repeat constructor
  exact PX.ret rfl Tryz.results9 (.cons (.tmp rfl) (.cons (.blkA rfl rfl rfl (by repeat constructor) rfl) .nil)) (fun w hs => ⟨g18, rfl, hs.ent (.i (by repeat constructor))⟩)
abbrev mrV (m : MR) (x : Option Addr × Nat) : Value := .tuple #[.slice x.1 m.spans.length x.2, .bool m.ok, Iv m.e]
abbrev McCt (f g : Nat) (t : List UInt8) (me : Me) (s : List UInt8) (a : Int) (m : MR) (w0 : World) (B : Nat) : Prop := ∀ st : Int,
  MutAt Tryz.prog f #[Pv g 0, Sv s, Iv a] [MB g t me st] (mrV m) (fun x => [PRow x.1 x.2 m.spans, MB g t me (w64 (st + (m.steps : Nat)))]) w0 B
theorem bySets_c (F g : Nat) (t : List UInt8) (ht : t.length ≤ 4611686018427387904) (me : Me) (s : List UInt8) (a : Int) (m : MR) (hm : setM F t s a = some m) (w0 : World) (B : Nat) (hG : GR w0 B) : McCt 26 g t me s a m w0 B := by
  intro st R w h
  replace h : Sat w0 B (MB g t me st :: R) w := h
  have hsc := fun w hG => setMatch_c F t s a m hm ht w hG
  refine calls_of_ES TB Tryz.func26 rfl _ Tryz.ntmps26 rfl h ?_; refine .go ?_; (repeat constructor); refine .as_ ?_; refine .as_ ?_; refine .as_ ?_; refine .go ?_; (repeat constructor); refine .mv ?_; refine .nc ?_; refine .fa ?_; refine .lb ?_; refine .mv ?_; refine .mv ?_; (refine EL.callXw rfl rfl rfl ent7 rfl (fun w hs => hsc w (GR.sat hG hs)) ?_; intro x); refine .mv ?_; refine .ex ?_; refine .ex ?_; refine .ex ?_; refine .ex ?_; refine .as_ ?_; refine .as_ ?_; refine .as_ ?_; refine .as_ ?_; refine .go ?_; (repeat constructor); refine .go ?_; (repeat constructor); refine .mv ?_; refine .nc ?_; refine .fa ?_; refine .lb ?_; refine .mv ?_; refine EL.add (w64 (st + (m.steps : Nat))) rfl rfl rfl rfl rfl ?_; refine .nc ?_; refine .fa ?_; refine .sb ?_; refine .go ?_; (repeat constructor); refine .mv ?_; refine .mv ?_; refine .mv ?_; refine .as_ ?_; refine .as_ ?_; refine .as_ ?_; refine .go ?_; repeat constructor
  exact PX.ret rfl Tryz.results26 (.cons (.tmp rfl) (.cons (.tmp rfl) (.cons (.tmp rfl) .nil))) (fun w hs => ⟨x, rfl, hs.ent (.i (by repeat constructor))⟩)
theorem match_c (g : Nat) (t : List UInt8) (me : Me) (s : List UInt8) (a : Int) (m : MR) (w0 : World) (B : Nat) (he : Enters Tryz.prog (mfn me)) (hc : McCt (mfn me) g t me s a m w0 B) : McCt 31 g t me s a m w0 B := by
  intro st R w h
  replace h : Sat w0 B (MB g t me st :: R) w := h
  refine calls_of_ES TB Tryz.func31 rfl _ Tryz.ntmps31 rfl h ?_; refine .go ?_; (repeat constructor); refine .as_ ?_; refine .as_ ?_; refine .as_ ?_; refine .go ?_; (repeat constructor); refine .mv ?_; refine EL.eqlPn rfl rfl rfl rfl rfl rfl ?_; refine .mv ?_
  refine EL.rew (d := 11) (v' := .bool false) rfl (by first | rfl | (decide) | (simp)) ?_
  refine .mv ?_; refine .nc ?_; refine .fa ?_; refine .lb ?_; refine EL.eqlFt rfl rfl rfl rfl rfl rfl ?_; refine .pf ?_; refine .go ?_; (repeat constructor); refine ES.condF rfl ?_; refine .go ?_; (repeat constructor); refine .mv ?_; refine .nc ?_; refine .fa ?_; refine .lb ?_; refine .mv ?_; refine .mv ?_; (refine EL.callB (bs := [Pv g 0]) (vs := [Sv s, Iv a]) rfl rfl rfl he rfl (hc st) (by repeat constructor) ?_; intro x); refine .ex ?_; refine .ex ?_; refine .ex ?_; refine .as_ ?_; refine .as_ ?_; refine .as_ ?_; refine .go ?_; repeat constructor
  exact PX.ret rfl Tryz.results31 (.cons (.tmp rfl) (.cons (.tmp rfl) (.cons (.tmp rfl) .nil))) (fun w hs => ⟨x, rfl, hs.ent (.i (by repeat constructor))⟩)
theorem matchSets_c (F g : Nat) (t : List UInt8) (ht : t.length ≤ 4611686018427387904) (me : Me) (hb : me.back = false) (s : List UInt8) (a : Int) (m : MR) (hm : setM F t s a = some m) (w0 : World) (B : Nat) (hG : GR w0 B) : McCt 31 g t me s a m w0 B := by
  have e : mfn me = 26 := if_neg (by rw [hb]; simp)
  exact match_c g t me s a m w0 B (by rw [e]; exact ent26) (by rw [e]; exact bySets_c F g t ht me s a m hm w0 B hG)
theorem byWays_c (F g : Nat) (t : List UInt8) (ht : t.length ≤ 4611686018427387904) (me : Me) (s : List UInt8) (a : Int) (mb : MB10) (hm : backM F t s a = some mb) (k : Nat) (hk : ∃ (p q : Nat) (rest : List Spn), mb.spans = ((p : Int), (q : Int)) :: rest ∧ p ≤ q ∧ q ≤ 1048576 ∧ mb.ok = true ∧ k = q - p) (w0 : World) (B : Nat) (hG : GR w0 B) : McCt 27 g t me s a ⟨mb.spans, mb.ok, k, mb.e⟩ w0 B := by
  intro st R w h
  replace h : Sat w0 B (MB g t me st :: R) w := h
  have hsc := fun w hG => backMatch_c F t s a mb hm ht w hG
  obtain ⟨spans, ok, e⟩ := mb
  dsimp only at hk hsc ⊢
  refine calls_of_ES TB Tryz.func27 rfl _ Tryz.ntmps27 rfl h ?_; refine .go ?_; (repeat constructor); refine .as_ ?_; refine .as_ ?_; refine .as_ ?_; refine .go ?_; (repeat constructor); refine .mv ?_; refine .nc ?_; refine .fa ?_; refine .lb ?_; refine .mv ?_; refine .mv ?_
  (refine EL.callXw rfl rfl rfl ent46 rfl (fun w hs => hsc w (GR.sat hG hs)) ?_; rintro ⟨xa, xc⟩)
  refine .mv ?_; refine .ex ?_; refine .ex ?_; refine .ex ?_; refine .as_ ?_; refine .as_ ?_; refine .as_ ?_; refine .go ?_; repeat constructor
  dsimp only
  obtain ⟨p, q, rest, rfl, hpq, hq, rfl, rfl⟩ := hk
  refine EL.know (P := ∃ g, xa = some ⟨g, 0, none⟩) (fun w hs => (row_form (hs.all (PRow xa xc (((p : Int), (q : Int)) :: rest)) (by simp))).2.2.2.2 (Nat.zero_lt_succ _)) ?_
  rintro ⟨xg, rfl⟩
  refine .go ?_; (repeat constructor); refine .mv ?_
  repeat (first | apply EL.nil | apply ES.seq | apply ES.skip)
  refine ES.condT rfl ?_; refine .g0 ?_; repeat constructor
  refine ES.draw (X := Unit) (fun _ => [(9, .slice (some ⟨xg, 0, none⟩) (rest.length + 1) xc), (10, .bool true), (11, Iv e)]) (fun _ => PRow (some ⟨xg, 0, none⟩) xc (((p : Int), (q : Int)) :: rest) :: MB g t me (w64 (st + ((q - p : Nat) : Int))) :: R) (PRow (some ⟨xg, 0, none⟩) xc (((p : Int), (q : Int)) :: rest) :: MB g t me st :: []) mixed (.i (by repeat constructor)) ?_ (fun _ => ?_)
  · refine .tk 0 rfl (RV.move rfl) ?_; refine .tk 1 rfl (RV.nilCheck rfl) ?_; refine .tk 2 rfl (RV.fieldAddr rfl rfl rfl rfl rfl rfl) ?_; refine .tk 3 rfl (RV.loadB rfl rfl rfl (by repeat constructor) rfl) ?_; refine .tk 4 rfl (RV.move rfl) ?_; refine .tk 5 rfl (RV.indexAddrL (i := 0) rfl rfl rfl rfl rfl (Nat.zero_lt_succ _)) ?_; refine .tk 6 rfl (RV.fieldAddr rfl rfl rfl rfl rfl rfl) ?_; refine .tk 7 rfl (RV.loadR (v := Iv (q : Nat)) rfl rfl rfl (by repeat constructor) rfl) ?_; refine .tk 8 rfl (RV.move rfl) ?_; refine .tk 9 rfl (RV.indexAddrL (i := 0) rfl rfl rfl rfl rfl (Nat.zero_lt_succ _)) ?_; refine .tk 10 rfl (RV.fieldAddr rfl rfl rfl rfl rfl rfl) ?_; refine .tk 11 rfl (RV.loadR (v := Iv (p : Nat)) rfl rfl rfl (by repeat constructor) rfl) ?_; refine .tk 12 rfl (RV.subN (m := q) (n := p) rfl rfl rfl hpq (by omega)) ?_; refine .tk 13 rfl (RV.add (w64 (st + ((q - p : Nat) : Int))) rfl rfl rfl) ?_; refine .tk 14 rfl (RV.nilCheck rfl) ?_; refine .tk 15 rfl (RV.fieldAddr rfl rfl rfl rfl rfl rfl) ?_; refine ED.last 16 rfl (by decide +kernel) (by decide +kernel) (by decide +kernel) ?_; refine .sb ?_; refine EL.endQ ?_
    exact .cy ()
  refine .go ?_; (repeat constructor); refine .mv ?_; refine .mv ?_; refine .mv ?_; refine .as_ ?_; refine .as_ ?_; refine .as_ ?_; refine .go ?_; repeat constructor
  exact PX.ret rfl Tryz.results27 (.cons (.tmp rfl) (.cons (.tmp rfl) (.cons (.tmp rfl) .nil))) (fun w hs => ⟨(some ⟨xg, 0, none⟩, xc), rfl, hs.ent (.i (by repeat constructor))⟩)
theorem matchWays_c (F g : Nat) (t : List UInt8) (ht : t.length ≤ 4611686018427387904) (me : Me) (hb : me.back = true) (s : List UInt8) (a : Int) (mb : MB10) (hm : backM F t s a = some mb) (k : Nat) (hk : ∃ (p q : Nat) (rest : List Spn), mb.spans = ((p : Int), (q : Int)) :: rest ∧ p ≤ q ∧ q ≤ 1048576 ∧ mb.ok = true ∧ k = q - p) (w0 : World) (B : Nat) (hG : GR w0 B) :
    McCt 31 g t me s a ⟨mb.spans, mb.ok, k, mb.e⟩ w0 B := by
  have e : mfn me = 27 := if_pos hb
  exact match_c g t me s a _ w0 B (by rw [e]; exact ent27) (by rw [e]; exact byWays_c F g t ht me s a mb hm k hk w0 B hG)
theorem groups_c (g : Nat) (t : List UInt8) (me : Me) (st : Int) (w0 : World) (B : Nat) : MutAt Tryz.prog 13 #[Pv g 0] [MB g t me st] (fun _ : Unit => Iv me.grp) (fun _ => [MB g t me st]) w0 B := by
  intro R w h
  replace h : Sat w0 B (MB g t me st :: R) w := h
  refine calls_of_ES TB Tryz.func13 rfl _ Tryz.ntmps13 rfl h ?_; refine .go ?_; (repeat constructor); refine .as_ ?_; refine .go ?_; (repeat constructor); refine .mv ?_; refine EL.eqlPn rfl rfl rfl rfl rfl rfl ?_; refine .go ?_; (repeat constructor); refine ES.condF rfl ?_; refine .go ?_; (repeat constructor); refine .mv ?_; refine .nc ?_; refine .fa ?_; refine .fa ?_; refine .lb ?_; refine .as_ ?_; refine .go ?_; repeat constructor
  exact PX.ret rfl Tryz.results13 (.cons (.tmp rfl) .nil) (fun w hs => ⟨(), rfl, hs.ent (.i (by repeat constructor))⟩)
theorem set_awake11 : (setM 60 [92, 40, 97, 92, 41, 42] [120, 97, 97] 1).map (fun m => (m.spans, m.ok, m.e)) = some ([(1, 3), (2, 3)], true, 0) := by decide +kernel
theorem me11a : (parseM [92, 40, 97, 92, 41, 42]).e = 0 ∧ (meOf [92, 40, 97, 92, 41, 42]).back = false ∧ (meOf [92, 40, 97, 92, 41, 42]).grp = 1 := by decide +kernel
theorem me11b : (parseM [92, 40, 46, 92, 41, 92, 49]).e = 0 ∧ (meOf [92, 40, 46, 92, 41, 92, 49]).back = true := by decide +kernel
theorem awake11_c (w : World) (hG : GR w w.heap.size) : Pure Tryz.prog 11 #[] (fun _ : Unit => .bool true) (fun _ => []) w := by
  obtain ⟨m, hm, hf⟩ := Option.map_eq_some_iff.1 set_awake11
  simp only [Prod.mk.injEq] at hf
  obtain ⟨f1, f2, f3⟩ := hf
  obtain ⟨mb, hmb, hfb⟩ := Option.map_eq_some_iff.1 back_awake2
  simp only [Prod.mk.injEq] at hfb
  obtain ⟨b1, b2, b3⟩ := hfb
  have n1 := fun w hG => newOk_c [92, 40, 97, 92, 41, 42] me11a.1 (by decide) w hG
  have n2 := fun w hG => newOk_c [92, 40, 46, 92, 41, 92, 49] me11b.1 (by decide) w hG
  have c1 := fun g w0 B hG => matchSets_c 60 g [92, 40, 97, 92, 41, 42] (by decide) (meOf [92, 40, 97, 92, 41, 42]) me11a.2.1 [120, 97, 97] 1 m hm w0 B hG 0
  have c2 := fun g w0 B hG => matchWays_c 60 g [92, 40, 46, 92, 41, 92, 49] (by decide) (meOf [92, 40, 46, 92, 41, 92, 49]) me11b.2 [97, 98, 99, 99, 100] 0 mb hmb 2 ⟨2, 4, [(2, 3)], b1, by decide, by decide, b2, rfl⟩ w0 B hG 0
  have cg := fun g w0 B => groups_c g [92, 40, 97, 92, 41, 42] (meOf [92, 40, 97, 92, 41, 42]) 0 w0 B
  rw [me11a.2.2] at cg
  obtain ⟨ms, mo, mst, me⟩ := m
  obtain ⟨bs, bo, be⟩ := mb
  dsimp only at f1 f2 f3 b1 b2 b3 c1 c2
  subst f1 f2 f3 b1 b2 b3
  generalize meOf [92, 40, 97, 92, 41, 42] = meA at n1 c1 cg
  generalize meOf [92, 40, 46, 92, 41, 92, 49] = meB at n2 c2
  refine calls_of_ES TB Tryz.func11 rfl _ Tryz.ntmps11 rfl (Sat.start w) ?_; refine .go ?_; (repeat constructor); refine .as_ ?_; refine .go ?_; (repeat constructor); (refine EL.callXw rfl rfl rfl ent9 rfl (fun w hs => n1 w (GR.sat hG hs)) ?_; intro ga); refine .mv ?_; refine .ex ?_; refine .ex ?_; (refine .al ?_; intro g2); refine .as_ ?_; refine .sa ?_; refine .go ?_; (repeat constructor); (refine EL.callXw rfl rfl rfl ent9 rfl (fun w hs => n2 w (GR.sat hG hs)) ?_; intro gb); refine .mv ?_; refine .ex ?_; refine .ex ?_; (refine .al ?_; intro g4); refine .as_ ?_; refine .sa ?_; refine .go ?_; (repeat constructor); refine .go ?_; (repeat constructor); refine .mv ?_; refine EL.eqlPn rfl rfl rfl rfl rfl rfl ?_; refine .mv ?_
  refine EL.rew (d := 21) (v' := .bool false) rfl (by first | rfl | (decide) | (simp)) ?_
  refine .mv ?_; refine EL.eqlPn rfl rfl rfl rfl rfl rfl ?_; refine .pf ?_; refine .mv ?_
  refine EL.rew (d := 25) (v' := .bool false) rfl (by first | rfl | (decide) | (simp)) ?_
  refine .fa ?_; refine .lb ?_; refine .ni ?_; refine .pf ?_; refine .mv ?_
  refine EL.rew (d := 30) (v' := .bool false) rfl (by first | rfl | (decide) | (simp)) ?_
  refine .fa ?_; refine .lb ?_; refine .ni ?_; refine .pf ?_; refine .mv ?_
  refine EL.rew (d := 35) (v' := .bool false) rfl (by first | rfl | (decide) | (simp)) ?_
  refine .mv ?_; (refine EL.callMw rfl rfl rfl ent13 rfl (cg ga w w.heap.size) (by repeat constructor) ?_; intro u); refine .ni ?_; refine .pf ?_; refine .go ?_; repeat constructor
  refine ES.condN rfl (fun h => absurd rfl h) (fun _ => ?_)
  refine .go ?_; (repeat constructor); refine .mv ?_
  (refine EL.callMw rfl rfl rfl ent31 rfl (c1 ga w w.heap.size hG) (by repeat constructor) ?_; rintro ⟨xa, xc⟩)
  refine .mv ?_; refine .ex ?_; refine .ex ?_; refine .ex ?_; refine .as_ ?_; refine .as_ ?_; refine .as_ ?_; refine .go ?_; (repeat constructor); refine .mv ?_
  (refine EL.callMw rfl rfl rfl ent31 rfl (c2 gb w w.heap.size hG) (by repeat constructor) ?_; rintro ⟨ya, yc⟩)
  refine .mv ?_; refine .ex ?_; refine .ex ?_; refine .ex ?_; refine .as_ ?_; refine .as_ ?_; refine .as_ ?_; refine .go ?_; (repeat constructor); refine .go ?_; (repeat constructor); refine .mv ?_; refine .mv ?_
  refine EL.rew (d := 53) (v' := .bool true) rfl (by first | rfl | (decide) | (simp)) ?_
  refine .mv ?_; refine .pt ?_; refine .mv ?_
  refine EL.rew (d := 56) (v' := .bool true) rfl (by first | rfl | (decide) | (simp)) ?_
  refine .mv ?_; refine .ei ?_; refine .pt ?_; refine .mv ?_
  refine EL.rew (d := 60) (v' := .bool true) rfl (by first | rfl | (decide) | (simp)) ?_
  refine .mv ?_; refine .ei ?_; refine .pt ?_; refine .mv ?_
  refine EL.rew (d := 64) (v' := .bool true) rfl (by first | rfl | (decide) | (simp)) ?_
  refine .mv ?_
  (apply EL.build2; exact rfl; exact rfl; exact rfl; exact rfl; exact rfl; exact rfl; exact rfl; exact rfl; exact rfl; exact rfl)
  (apply EL.build2; exact rfl; exact rfl; exact rfl; exact rfl; exact rfl; exact rfl; exact rfl; exact rfl; exact rfl; exact rfl)
  (refine EL.buildSliceC (spsC [(1, 3), (2, 3)]).toArray rfl rfl rfl rfl rfl rfl (by kernel_rfl) rfl rfl rfl rfl ?_; intro b68); refine EL.callPw rfl rfl rfl ent19 rfl (fun w hs => same08_r [(1, 3), (2, 3)] _ _ _ _ (by decide) w (Rd.row hs (by repeat constructor) (by decide)) (Rd.row hs (by repeat constructor) (by decide))) ?_; refine .pt ?_; refine .mv ?_
  refine EL.rew (d := 71) (v' := .bool true) rfl (by first | rfl | (decide) | (simp)) ?_
  refine .mv ?_
  (apply EL.build2; exact rfl; exact rfl; exact rfl; exact rfl; exact rfl; exact rfl; exact rfl; exact rfl; exact rfl; exact rfl)
  (apply EL.build2; exact rfl; exact rfl; exact rfl; exact rfl; exact rfl; exact rfl; exact rfl; exact rfl; exact rfl; exact rfl)
  (refine EL.buildSliceC (spsC [(2, 4), (2, 3)]).toArray rfl rfl rfl rfl rfl rfl (by kernel_rfl) rfl rfl rfl rfl ?_; intro b75); refine EL.callPw rfl rfl rfl ent19 rfl (fun w hs => same08_r [(2, 4), (2, 3)] _ _ _ _ (by decide) w (Rd.row hs (by repeat constructor) (by decide)) (Rd.row hs (by repeat constructor) (by decide))) ?_; refine .pt ?_; refine .as_ ?_; refine .go ?_; repeat constructor
  exact PX.ret rfl Tryz.results11 (.cons (.tmp rfl) .nil) (fun w hs => ⟨(), rfl, hs.ent (.nil _)⟩)
end Go.Proofs.YthcbjbkheodejaaGreat
namespace Go.Proofs.YthcbjbkheodejaaGreat
open Go Go.RowKit Sl
set_option maxRecDepth 100000
set_option maxHeartbeats 8000000
attribute [local irreducible] ES EL PX wps
attribute [local irreducible] fillS memGo
theorem rhas_c (s : BS) (k : Nat) (hk : k < 256) (w : World) : Pure Tryz.prog 110 #[Bs s, Iv k] (fun _ : Unit => .bool (hasS s k)) (fun _ => []) w := by
  refine calls_of_ES TB Tryz.func110 rfl _ Tryz.ntmps110 rfl (Sat.start w) ?_; refine .go ?_; (repeat constructor); (refine .bx ?_; intro g2); refine .as_ ?_; refine .go ?_; (repeat constructor); refine .mv ?_
  refine EL.ofRV (RV.quoU (n := 64) rfl rfl (by omega) (by simp only [kmax]; omega)) rfl rfl rfl (by intro c h; cases h) ?_
  refine EL.indexAddrA1 rfl rfl rfl rfl rfl rfl rfl rfl (by omega) ?_; refine EL.loadBS rfl rfl rfl rfl rfl (by repeat constructor) (by omega) ?_; refine .mv ?_; refine EL.remN (n := 64) rfl rfl rfl rfl (by omega) ?_
  refine EL.convN rfl rfl rfl rfl rfl rfl (by simp only [kmax]; omega) ?_
  refine EL.ofRV (RV.shrW rfl rfl rfl (by omega)) rfl rfl rfl (by intro c h; cases h) ?_
  refine EL.ofRV (RV.andW (b := 1) rfl rfl rfl rfl) rfl rfl rfl (by intro c h; cases h) ?_
  refine .ei ?_; refine .as_ ?_; refine .go ?_; repeat constructor
  exact PX.ret rfl Tryz.results110 (.cons (.tmp rfl) .nil) (fun w hs => ⟨(), rfl, hs.ent (.nil _)⟩)
theorem fillS_y (p : Nat → Bool) (i : Nat) (h : p i = true) : addS (fillS p i) i = fillS p (i + 1) := by rw [fillS, if_pos h]
theorem fillS_n (p : Nat → Bool) (i : Nat) (h : p i = false) : fillS p i = fillS p (i + 1) := by rw [fillS, if_neg (by rw [h]; simp)]
theorem fillS_0 (p : Nat → Bool) : zeroS.cells = (fillS p 0).cells := by rw [fillS]
theorem memGo_y (p : Nat → Bool) (i : Nat) (h : p i = true) : memGo p i ++ [UInt8.ofNat i] = memGo p (i + 1) := by rw [memGo, if_pos h]
theorem memGo_n (p : Nat → Bool) (i : Nat) (h : p i = false) : memGo p i = memGo p (i + 1) := by rw [memGo, if_neg (by rw [h]; simp)]
theorem memGo_0 (p : Nat → Bool) : memGo p 0 = [] := by rw [memGo]
theorem rmembers_c (s : BS) (w : World) : Pure Tryz.prog 137 #[Bs s] (fun x : Option Addr × Nat => .slice x.1 (membersM s).length x.2) (fun x => [HA.row (.slice x.1 (membersM s).length x.2) 5 1 (membersM s).length ((membersM s).map Uv)]) w := by
  refine calls_of_ES TB Tryz.func137 rfl _ Tryz.ntmps137 rfl (Sat.start w) ?_; refine .go ?_; (repeat constructor); (refine .bx ?_; intro g1); refine .as_ ?_; refine .go ?_; (repeat constructor); refine .as_ ?_; refine .go ?_; (repeat constructor); refine EL.nilRow 5 1 ?_; refine .go ?_; (repeat constructor); refine .as_ ?_; refine .go ?_; repeat constructor
  refine ES.loop (σ := Nat × Option Addr × Nat) (fun (i, _, _) => i ≤ 256) (fun (i, ad, cap) => [(1, Pv g1 0), (3, .slice ad (memGo (hasS s) i).length cap), (4, Iv i)]) (fun (i, ad, cap) => [SB g1 s, HA.row (.slice ad (memGo (hasS s) i).length cap) 5 1 (memGo (hasS s) i).length ((memGo (hasS s) i).map Uv)]) (fun (i, _, _) => 256 - i) (0, none, 0) (Nat.zero_le _) ⟨rfl, getA rfl (by rw [memGo_0]; rfl), rfl, trivial⟩ (by dsimp only; rw [memGo_0]; exact (.i (by repeat constructor))) ?_
  rintro ⟨i, ad, cap⟩ hi
  dsimp only at hi ⊢
  refine .go ?_; (repeat constructor); refine .mv ?_; refine .ls ?_; refine .go ?_; repeat constructor
  refine ES.condD rfl (fun hlt => ?_) (fun hge => ?_)
  · have hlt' : i < 256 := by omega
    have hle := memGo_le (hasS s) i
    have hk8 : (UInt8.ofNat i).toNat = i := by simp; omega
    refine .go ?_; (repeat constructor); refine .lg ?_; refine .mv ?_; refine EL.callP rfl rfl rfl ent110 rfl (rhas_c s i hlt') ?_; refine .go ?_; repeat constructor
    refine ES.cutC (X := Option Addr × Nat) (fun x => [(1, Pv g1 0), (3, .slice x.1 (memGo (hasS s) (i + 1)).length x.2), (4, Iv i)]) (fun x => [SB g1 s, HA.row (.slice x.1 (memGo (hasS s) (i + 1)).length x.2) 5 1 (memGo (hasS s) (i + 1)).length ((memGo (hasS s) (i + 1)).map Uv)]) ?_ (fun x => ?_)
    · refine ES.cond rfl (fun hb => ?_) (fun hb => ?_)
      · have hy := memGo_y (hasS s) i hb
        have e1 : (memGo (hasS s) i).length + 1 = (memGo (hasS s) (i + 1)).length := by rw [← hy]; simp
        have e2 : (memGo (hasS s) i).map Uv ++ [Uv (UInt8.ofNat i)] = (memGo (hasS s) (i + 1)).map Uv := by rw [← hy]; simp
        refine .go ?_; (repeat constructor); refine .mv ?_; refine .mv ?_
        refine EL.convI ((UInt8.ofNat i).toNat : Int) rfl rfl rfl rfl rfl rfl (by rw [hk8]; exact wrap_u8 _ hlt') ?_
        (refine .b1 ?_; intro b15)
        (refine EL.append1 rfl rfl rfl rfl rfl rfl rfl rfl rfl (by repeat constructor) (by repeat constructor) (by first | (intro u hu; simp [Value.cells] at hu; subst hu; rfl) | exact all1 rfl) (by rfl) (by unfold maxLen; omega) (by first | omega | (show 1 * _ ≤ _; omega) | (show 8 * _ ≤ _; omega) | (show 16 * _ ≤ _; omega) | (show 24 * _ ≤ _; omega) | (show _ * 1 ≤ _; omega) | (show _ * 8 ≤ _; omega) | (show _ * 16 ≤ _; omega) | (show _ * 24 ≤ _; omega) | exact Nat.le_trans (Nat.mul_le_mul_right _ (show _ ≤ 1073741824 by omega)) (by decide)) ?_; intro a16 c16)
        refine .as_ ?_; refine .go ?_; (repeat constructor); refine PX.cutX (some ⟨a16, 0, none⟩, c16) ⟨rfl, getA rfl (by rw [e1]), rfl, trivial⟩ ?_
        rw [← e1, ← e2]
        exact (.i (by repeat constructor))
      · rw [memGo_n (hasS s) i hb]
        refine .go ?_; repeat constructor
        exact .cy (ad, cap)
    obtain ⟨ad', cap'⟩ := x
    refine .go ?_; (repeat constructor); refine .mv ?_; refine .a1 ?_; refine .as_ ?_; refine .go ?_; repeat constructor
    exact .ly (i + 1, ad', cap') (by simp only; omega) (by simp only; omega)
  obtain rfl : i = 256 := by omega
  refine .go ?_; (repeat constructor); refine .mv ?_; refine .as_ ?_; refine .go ?_; repeat constructor
  exact PX.ret rfl Tryz.results137 (.cons (.tmp rfl) .nil) (fun w hs => ⟨(ad, cap), rfl, hs.ent (.i (by repeat constructor))⟩)
theorem rcount_c (s : BS) (w : World) : Pure Tryz.prog 134 #[Bs s] (fun _ : Unit => Iv ((membersM s).length : Nat)) (fun _ => []) w := by
  refine calls_of_ES TB Tryz.func134 rfl _ Tryz.ntmps134 rfl (Sat.start w) ?_; refine .go ?_; (repeat constructor); (refine .bx ?_; intro g1); refine .as_ ?_; refine .go ?_; (repeat constructor); refine .lg ?_
  (refine EL.callX rfl rfl rfl ent137 rfl (rmembers_c s) ?_; rintro ⟨ad, cap⟩)
  refine .lL ?_; refine .as_ ?_; refine .go ?_; repeat constructor
  exact PX.ret rfl Tryz.results134 (.cons (.tmp rfl) .nil) (fun w hs => ⟨(), rfl, hs.ent (.nil _)⟩)
end Go.Proofs.YthcbjbkheodejaaGreat
namespace Go.Proofs.YthcbjbkheodejaaGreat
open Go Go.RowKit Sl
set_option maxRecDepth 100000
set_option maxHeartbeats 8000000
attribute [local irreducible] ES EL PX wps
attribute [local irreducible] fillS memGo
end Go.Proofs.YthcbjbkheodejaaGreat
namespace Go.Proofs.YthcbjbkheodejaaGreat
open Go Go.RowKit Sl
set_option maxRecDepth 100000
set_option maxHeartbeats 8000000
attribute [local irreducible] ES EL PX wps
theorem has_of (k : Nat) (hk : k < 256) : ∀ (l : List UInt8) (s : BS), hasS (l.foldl (fun s b => addS s b.toNat) s) k = (hasS s k || l.any fun b => b.toNat == k)
  | [], s => by simp
  | b :: l, s => by
    rw [List.foldl_cons, has_of k hk l, has_add _ _ _ b.toNat_lt hk, List.any_cons, Bool.or_assoc]
    congr 2
    rw [Bool.eq_iff_iff]
    simp only [decide_eq_true_eq, beq_iff_eq]
    omega
theorem has_ofS (l : List UInt8) (k : Nat) (hk : k < 256) : hasS (ofS l) k = l.any fun b => b.toNat == k := by
  rw [ofS, has_of k hk, has_zero, Bool.false_or]
theorem memGo_nil (p : Nat → Bool) : ∀ n, (memGo p n).length = 0 ↔ ∀ k, k < n → p k = false
  | 0 => by simp [memGo]
  | n + 1 => by
    rw [memGo]
    have ih := memGo_nil p n
    split
    · rename_i h
      simp only [List.length_append, List.length_singleton]
      refine ⟨fun h => by omega, fun h2 => ?_⟩
      have := h2 n (by omega)
      rw [h] at this; cases this
    · rename_i h
      rw [ih]
      refine ⟨fun h2 k hk => ?_, fun h2 k hk => h2 k (by omega)⟩
      rcases Nat.lt_or_ge k n with h3 | h3
      · exact h2 k h3
      · obtain rfl : k = n := by omega
        simpa using h
theorem doc_known (l : List UInt8) (b : UInt8) (t : List UInt8) (hl : l ≠ nCntrl) (ht : textM l = b :: t) : docClassM l = (ofS (textM l), 0) := by
  have hne : ¬ (membersM (ofS (textM l))).length = 0 := fun h => by
    have h1 := (memGo_nil _ 256).1 h b.toNat b.toNat_lt
    rw [has_ofS _ _ b.toNat_lt, ht] at h1
    simp at h1
  simp only [docClassM]
  rw [if_neg hl, if_neg hne]
theorem class_known (l : List UInt8) (b : UInt8) (t : List UInt8) (hl : l ≠ nCntrl) (hok : okM l = true) (ht : textM l = b :: t) (h : ∀ k : Fin 256, ((textM l).any fun b => b.toNat == k.val) = isB l k.val) : classM l = docClassM l := by
  rw [doc_known l b t hl ht, classM, if_pos hok]
  exact congrArg (fun s : BS => (s, (0 : Int))) (fill_eq _ _ fun k hk => by rw [has_ofS _ _ hk]; exact h ⟨k, hk⟩)
theorem class_cntrl : classM nCntrl = docClassM nCntrl := by
  have h0 : okM nCntrl = true := by decide +kernel
  have h1 : docClassM nCntrl = (addS (spanM 0 31).1 127, 0) := by simp only [docClassM]; rw [if_pos trivial]
  rw [h1, classM, if_pos h0]
  refine congrArg (fun s : BS => (s, (0 : Int))) (fill_eq _ _ fun k hk => ?_)
  have h2 : (spanM 0 31).1 = fillS (fun b => decide ((0 : UInt8).toNat ≤ b) && decide (b ≤ (31 : UInt8).toNat)) 256 := rfl
  rw [has_add _ _ _ (by omega) hk, h2, has_fill _ _ hk 256 (Nat.le_refl _)]
  exact (by decide +kernel : ∀ k : Fin 256, (((decide ((0 : UInt8).toNat ≤ k.val) && decide (k.val ≤ (31 : UInt8).toNat)) && decide (k.val < 256)) || decide (k.val = 127)) = isB nCntrl k.val) ⟨k, hk⟩
theorem class_no (l : List UInt8) (h : l ∉ names12) : classM l = docClassM l := by
  have h0 : okM l = false := decide_eq_false h
  simp only [names12, List.mem_cons, List.not_mem_nil, or_false, not_or] at h
  obtain ⟨h1, h2, h3, h4, h5, h6, h7, h8, h9, h10, h11, h12⟩ := h
  have ht : textM l = [] := by simp only [textM, *, if_false]
  have hz : ofS [] = zeroS := rfl
  have hl : (membersM zeroS).length = 0 := (memGo_nil _ 256).2 fun k _ => has_zero k
  simp only [classM, docClassM, h0, h11, if_false, ht, hz, hl, if_true, Bool.false_eq_true]
theorem class_eq (l : List UInt8) : classM l = docClassM l := by
  by_cases h : l ∈ names12
  · simp only [names12, List.mem_cons, List.not_mem_nil, or_false] at h
    rcases h with rfl | rfl | rfl | rfl | rfl | rfl | rfl | rfl | rfl | rfl | rfl | rfl
    · exact class_known nAlpha 65 _ (by decide) (by decide +kernel) rfl (by decide +kernel)
    · exact class_known nDigit 48 _ (by decide) (by decide +kernel) rfl (by decide +kernel)
    · exact class_known nAlnum 65 _ (by decide) (by decide +kernel) rfl (by decide +kernel)
    · exact class_known nUpper 65 _ (by decide) (by decide +kernel) rfl (by decide +kernel)
    · exact class_known nLower 97 _ (by decide) (by decide +kernel) rfl (by decide +kernel)
    · exact class_known nSpace 32 _ (by decide) (by decide +kernel) rfl (by decide +kernel)
    · exact class_known nBlank 32 _ (by decide) (by decide +kernel) rfl (by decide +kernel)
    · exact class_known nGraph 33 _ (by decide) (by decide +kernel) rfl (by decide +kernel)
    · exact class_known nPrint 33 _ (by decide) (by decide +kernel) rfl (by decide +kernel)
    · exact class_known nPunct 33 _ (by decide) (by decide +kernel) rfl (by decide +kernel)
    · exact class_cntrl
    · exact class_known nXdigit 48 _ (by decide) (by decide +kernel) rfl (by decide +kernel)
  · exact class_no l h
attribute [local irreducible] fillS memGo
end Go.Proofs.YthcbjbkheodejaaGreat
namespace Go.Proofs.YthcbjbkheodejaaGreat
open Go Go.RowKit Sl
set_option maxRecDepth 100000
set_option maxHeartbeats 8000000
attribute [local irreducible] ES EL PX wps
attribute [local irreducible] fillS memGo
theorem with_c (s : BS) (k : Nat) (hk : k < 256) (w : World) : Pure Tryz.prog 111 #[Bs s, Iv k] (fun _ : Unit => Bs (addS s k)) (fun _ => []) w := by
  obtain ⟨x0, x1, x2, x3⟩ := s
  refine calls_of_ES TB Tryz.func111 rfl _ Tryz.ntmps111 rfl (Sat.start w) ?_; refine .go ?_; (repeat constructor); (refine .bx ?_; intro g2); (refine .al ?_; intro g4); refine .go ?_; (repeat constructor); refine .mv ?_
  refine EL.ofRV (RV.quoU (n := 64) rfl rfl (by omega) (by simp only [kmax]; omega)) rfl rfl rfl (by intro c h; cases h) ?_
  refine EL.indexAddrA1 rfl rfl rfl rfl rfl rfl rfl rfl (by omega) ?_; refine EL.loadBS rfl rfl rfl rfl rfl (by repeat constructor) (by omega) ?_; refine .mv ?_; refine EL.remN (n := 64) rfl rfl rfl rfl (by omega) ?_
  refine EL.convN rfl rfl rfl rfl rfl rfl (by simp only [kmax]; omega) ?_
  refine EL.ofRV (RV.shlW (a := 1) rfl rfl rfl (by omega)) rfl rfl rfl (by intro c h; cases h) ?_
  refine EL.ofRV (RV.orW rfl rfl rfl rfl) rfl rfl rfl (by intro c h; cases h) ?_
  refine EL.indexAddrA1 rfl rfl rfl rfl rfl rfl rfl rfl (by omega) ?_; refine EL.storeBS rfl rfl rfl rfl rfl (by repeat constructor) (by omega) ?_; refine .go ?_; (repeat constructor); refine .lg ?_; refine .sa ?_; refine .go ?_; repeat constructor
  exact PX.ret rfl Tryz.results111 (.cons (.blkA rfl rfl rfl (by repeat constructor) rfl) .nil) (fun w hs => ⟨(), rfl, hs.ent (.nil _)⟩)
theorem rof_c (l : List UInt8) (hl : l.length ≤ 140737488351232) (w : World) : Pure Tryz.prog 112 #[Sv l] (fun _ : Unit => Bs (ofS l)) (fun _ => []) w := by
  refine calls_of_ES TB Tryz.func112 rfl _ Tryz.ntmps112 rfl (Sat.start w) ?_; refine .go ?_; (repeat constructor); (refine .al ?_; intro g2); refine .go ?_; (repeat constructor); (refine .al ?_; intro g3); refine .go ?_; (repeat constructor); refine .as_ ?_; refine .go ?_; (repeat constructor); refine ES.loop (σ := Nat) (fun i => i ≤ l.length) (fun i => [(0, Sv l), (2, Pv g2 0), (3, Pv g3 0), (4, Iv i)]) (fun i => [SB g3 (ofS (l.take i)), SB g2 zeroS]) (fun i => l.length - i) 0 (Nat.zero_le _) ⟨rfl, rfl, rfl, rfl, trivial⟩ (.i (by repeat constructor)) ?_
  intro i hi
  refine .go ?_; (repeat constructor); refine .mv ?_; refine .mv ?_; refine .lS ?_; refine .ls ?_; refine .go ?_; repeat constructor
  refine ES.condD rfl (fun hlt => ?_) (fun hge => ?_)
  · have hlt' : i < l.length := by omega
    have hst := ofS_step l i hlt'
    have hb := (l.getD i 0).toNat_lt
    refine .g0 ?_; repeat constructor
    refine ES.draw (X := Unit) (fun _ => [(0, Sv l), (2, Pv g2 0), (3, Pv g3 0), (4, Iv i)]) (fun _ => [SB g3 (ofS (l.take (i + 1))), SB g2 zeroS]) [SB g3 (ofS (l.take i))] mixed (.i (by repeat constructor)) ?_ (fun _ => ?_)
    · rw [← hst]
      refine .tk 0 rfl (RV.loadAggB rfl rfl rfl (by repeat constructor) rfl) ?_; refine .tk 1 rfl (RV.move rfl) ?_; refine .tk 2 rfl (RV.move rfl) ?_; refine .tk 3 rfl (RV.indexSN rfl rfl rfl rfl (by omega)) ?_; refine .tk 4 rfl (RV.convN rfl rfl rfl rfl (le_big8 _ _)) ?_; refine .ld 5 ?_; refine EL.callP rfl rfl rfl ent111 rfl (with_c (ofS (l.take i)) (l.getD i 0).toNat hb) ?_; refine .nx ?_; refine ED.last 6 rfl (by decide +kernel) (by decide +kernel) (by decide +kernel) ?_; refine .sa ?_; refine EL.endQ ?_
      exact .cy ()
    refine .go ?_; (repeat constructor); refine .mv ?_; refine .a1 ?_; refine .as_ ?_; refine .go ?_; repeat constructor
    exact .ly (i + 1) (by omega) (by omega)
  obtain rfl : i = l.length := by omega
  rw [List.take_length]
  refine .go ?_; (repeat constructor); refine .lg ?_; refine .sa ?_; refine .go ?_; repeat constructor
  exact PX.ret rfl Tryz.results112 (.cons (.blkA rfl rfl rfl (by repeat constructor) rfl) .nil) (fun w hs => ⟨(), rfl, hs.ent (.nil _)⟩)
theorem rspan_c (lo hi : UInt8) (w : World) : Pure Tryz.prog 124 #[Uv lo, Uv hi] (fun _ : Unit => .tuple #[Bs (spanM lo hi).1, Iv (spanM lo hi).2]) (fun _ => []) w := by
  have hl := lo.toNat_lt
  have hh := hi.toNat_lt
  refine calls_of_ES TB Tryz.func124 rfl _ Tryz.ntmps124 rfl (Sat.start w) ?_; refine .go ?_; (repeat constructor); (refine .al ?_; intro g4); refine .as_ ?_; refine .go ?_; (repeat constructor); (refine .al ?_; intro g6); refine .go ?_; (repeat constructor); refine .mv ?_; refine .mv ?_; refine .ls ?_; refine .go ?_; repeat constructor
  refine ES.condD rfl (fun hlt => ?_) (fun hge => ?_)
  · have hm : spanM lo hi = (zeroS, 7) := by simp only [spanM]; rw [if_pos (by omega)]
    refine .go ?_; (repeat constructor); refine .lg ?_; refine .sa ?_; refine .as_ ?_; refine .go ?_; repeat constructor
    exact PX.ret rfl Tryz.results124 (.cons (.blkA rfl rfl rfl (by repeat constructor) rfl) (.cons (.tmp rfl) .nil)) (fun w hs => ⟨(), by rw [hm]; rfl, hs.ent (.nil _)⟩)
  obtain ⟨p, hp⟩ : ∃ p : Nat → Bool, p = fun b => decide (lo.toNat ≤ b) && decide (b ≤ hi.toNat) := ⟨_, rfl⟩
  have hm : spanM lo hi = (fillS p 256, 0) := by simp only [spanM]; rw [if_neg (by omega), hp]
  have hpi : ∀ i, p i = (decide (lo.toNat ≤ i) && decide (i ≤ hi.toNat)) := fun i => by rw [hp]
  refine .go ?_; (repeat constructor); refine .as_ ?_; refine .go ?_; repeat constructor
  refine ES.blkEq (g := g6) (o' := .cells (fillS p 0).cells 43) (by repeat constructor) (by rw [← fillS_0 p]; rfl) ?_
  refine ES.loop (σ := Nat) (fun i => i ≤ 256) (fun i => [(0, Uv lo), (1, Uv hi), (4, Pv g4 0), (6, Pv g6 0), (7, Iv i)]) (fun i => [SB g6 (fillS p i), SB g4 zeroS]) (fun i => 256 - i) 0 (by omega) ⟨rfl, rfl, rfl, rfl, rfl, trivial⟩ (.i (by repeat constructor)) ?_
  intro i hi256
  refine .go ?_; (repeat constructor); refine .mv ?_; refine .ls ?_; refine .go ?_; repeat constructor
  refine ES.condD rfl (fun hlt2 => ?_) (fun hge2 => ?_)
  · have hlt' : i < 256 := by omega
    refine .go ?_; (repeat constructor); refine EL.cut [(25, .bool (p i)), (0, Uv lo), (1, Uv hi), (4, Pv g4 0), (6, Pv g6 0), (7, Iv i)] [SB g6 (fillS p i), SB g4 zeroS] ?_ ?_
    · refine .go ?_; (repeat constructor); refine .mv ?_; refine .mv ?_; refine EL.convN rfl rfl rfl rfl rfl rfl (le_big8 _ _) ?_; refine .gq ?_; refine .mv ?_
      first | refine EL.splitD (d := 20) rfl (fun hp20 => ?_) (fun hp20 => ?_) | refine EL.splitN (d := 20) rfl (fun hp20 => ?_) (fun hp20 => ?_) | refine EL.splitB (d := 20) rfl (fun hp20 => ?_) (fun hp20 => ?_)
      · refine .mv ?_; refine .mv ?_; refine EL.convN rfl rfl rfl rfl rfl rfl (le_big8 _ _) ?_; refine .lq ?_; refine .pt ?_
        exact .kx ⟨getB rfl (by rw [hpi, Bool.eq_iff_iff]; simp only [Bool.and_eq_true, decide_eq_true_eq, Bool.false_eq_true, false_iff]; omega), rfl, rfl, rfl, rfl, rfl, trivial⟩
      · refine .ps ?_; refine .ps ?_; refine .ps ?_; refine .ps ?_; refine .pf ?_
        exact .kx ⟨getB rfl (by rw [hpi, Bool.eq_iff_iff]; simp only [Bool.and_eq_true, decide_eq_true_eq, Bool.false_eq_true, false_iff]; omega), rfl, rfl, rfl, rfl, rfl, trivial⟩
    refine ES.cutC (X := Unit) (fun _ => [(0, Uv lo), (1, Uv hi), (4, Pv g4 0), (6, Pv g6 0), (7, Iv i)]) (fun _ => [SB g6 (fillS p (i + 1)), SB g4 zeroS]) ?_ (fun _ => ?_)
    · refine ES.cond rfl (fun hb => ?_) (fun hb => ?_)
      · rw [← fillS_y p i hb]
        refine .go ?_; (repeat constructor); refine .lg ?_; refine .mv ?_; refine EL.callP rfl rfl rfl ent111 rfl (with_c (fillS p i) i hlt') ?_; refine .sa ?_; refine .go ?_; repeat constructor
        exact .cy ()
      · rw [fillS_n p i hb]
        refine .go ?_; repeat constructor
        exact .cy ()
    refine .go ?_; (repeat constructor); refine .mv ?_; refine .a1 ?_; refine .as_ ?_; refine .go ?_; repeat constructor
    exact .ly (i + 1) (by omega) (by omega)
  obtain rfl : i = 256 := by omega
  refine .go ?_; (repeat constructor); refine .lg ?_; refine .sa ?_; refine .as_ ?_; refine .go ?_; repeat constructor
  exact PX.ret rfl Tryz.results124 (.cons (.blkA rfl rfl rfl (by repeat constructor) rfl) (.cons (.tmp rfl) .nil)) (fun w hs => ⟨(), by rw [hm]; rfl, hs.ent (.nil _)⟩)
theorem rtext_c (l : List UInt8) (w : World) : Pure Tryz.prog 133 #[Sv l] (fun _ : Unit => Sv (textM l)) (fun _ => []) w := by
  refine calls_of_ES TB Tryz.func133 rfl _ Tryz.ntmps133 rfl (Sat.start w) ?_; refine .go ?_; (repeat constructor); refine .as_ ?_; refine .go ?_; (repeat constructor); refine .mv ?_; refine .go ?_; (repeat constructor); refine .eS ?_; refine .as_ ?_; refine .go ?_; repeat constructor
  refine ES.condD rfl (fun he0 => ?_) (fun hn0 => ?_)
  · have hm : textM l = textM nDigit := by rw [he0]
    refine .go ?_; (repeat constructor); refine .as_ ?_; refine .go ?_; repeat constructor
    exact PX.ret rfl Tryz.results133 (.cons (.tmp rfl) .nil) (fun w hs => ⟨(), by rw [hm]; rfl, hs.ent (.nil _)⟩)
  refine .go ?_; (repeat constructor); refine .eS ?_; refine .as_ ?_; refine .go ?_; repeat constructor
  refine ES.condD rfl (fun he1 => ?_) (fun hn1 => ?_)
  · have hm : textM l = textM nUpper := by rw [he1]
    refine .go ?_; (repeat constructor); refine .as_ ?_; refine .go ?_; repeat constructor
    exact PX.ret rfl Tryz.results133 (.cons (.tmp rfl) .nil) (fun w hs => ⟨(), by rw [hm]; rfl, hs.ent (.nil _)⟩)
  refine .go ?_; (repeat constructor); refine .eS ?_; refine .as_ ?_; refine .go ?_; repeat constructor
  refine ES.condD rfl (fun he2 => ?_) (fun hn2 => ?_)
  · have hm : textM l = textM nLower := by rw [he2]
    refine .go ?_; (repeat constructor); refine .as_ ?_; refine .go ?_; repeat constructor
    exact PX.ret rfl Tryz.results133 (.cons (.tmp rfl) .nil) (fun w hs => ⟨(), by rw [hm]; rfl, hs.ent (.nil _)⟩)
  refine .go ?_; (repeat constructor); refine .eS ?_; refine .as_ ?_; refine .go ?_; repeat constructor
  refine ES.condD rfl (fun he3 => ?_) (fun hn3 => ?_)
  · have hm : textM l = textM nAlpha := by rw [he3]
    refine .go ?_; (repeat constructor); refine .as_ ?_; refine .go ?_; repeat constructor
    exact PX.ret rfl Tryz.results133 (.cons (.tmp rfl) .nil) (fun w hs => ⟨(), by rw [hm]; rfl, hs.ent (.nil _)⟩)
  refine .go ?_; (repeat constructor); refine .eS ?_; refine .as_ ?_; refine .go ?_; repeat constructor
  refine ES.condD rfl (fun he4 => ?_) (fun hn4 => ?_)
  · have hm : textM l = textM nAlnum := by rw [he4]
    refine .go ?_; (repeat constructor); refine .as_ ?_; refine .go ?_; repeat constructor
    exact PX.ret rfl Tryz.results133 (.cons (.tmp rfl) .nil) (fun w hs => ⟨(), by rw [hm]; rfl, hs.ent (.nil _)⟩)
  refine .go ?_; (repeat constructor); refine .eS ?_; refine .as_ ?_; refine .go ?_; repeat constructor
  refine ES.condD rfl (fun he5 => ?_) (fun hn5 => ?_)
  · have hm : textM l = textM nXdigit := by rw [he5]
    refine .go ?_; (repeat constructor); refine .as_ ?_; refine .go ?_; repeat constructor
    exact PX.ret rfl Tryz.results133 (.cons (.tmp rfl) .nil) (fun w hs => ⟨(), by rw [hm]; rfl, hs.ent (.nil _)⟩)
  refine .go ?_; (repeat constructor); refine .eS ?_; refine .as_ ?_; refine .go ?_; repeat constructor
  refine ES.condD rfl (fun he6 => ?_) (fun hn6 => ?_)
  · have hm : textM l = textM nBlank := by rw [he6]
    refine .go ?_; (repeat constructor); refine .as_ ?_; refine .go ?_; repeat constructor
    exact PX.ret rfl Tryz.results133 (.cons (.tmp rfl) .nil) (fun w hs => ⟨(), by rw [hm]; rfl, hs.ent (.nil _)⟩)
  refine .go ?_; (repeat constructor); refine .eS ?_; refine .as_ ?_; refine .go ?_; repeat constructor
  refine ES.condD rfl (fun he7 => ?_) (fun hn7 => ?_)
  · have hm : textM l = textM nSpace := by rw [he7]
    refine .go ?_; (repeat constructor); refine .as_ ?_; refine .go ?_; repeat constructor
    exact PX.ret rfl Tryz.results133 (.cons (.tmp rfl) .nil) (fun w hs => ⟨(), by rw [hm]; rfl, hs.ent (.nil _)⟩)
  refine .go ?_; (repeat constructor); refine .eS ?_; refine .as_ ?_; refine .go ?_; repeat constructor
  refine ES.condD rfl (fun he8 => ?_) (fun hn8 => ?_)
  · have hm : textM l = textM nPunct := by rw [he8]
    refine .go ?_; (repeat constructor); refine .as_ ?_; refine .go ?_; repeat constructor
    exact PX.ret rfl Tryz.results133 (.cons (.tmp rfl) .nil) (fun w hs => ⟨(), by rw [hm]; rfl, hs.ent (.nil _)⟩)
  refine .go ?_; (repeat constructor); refine .eS ?_; refine .as_ ?_; refine .go ?_; repeat constructor
  refine ES.condD rfl (fun he9 => ?_) (fun hn9 => ?_)
  · have hm : textM l = textM nGraph := by rw [he9]
    refine .go ?_; (repeat constructor); refine .as_ ?_; refine .go ?_; repeat constructor
    exact PX.ret rfl Tryz.results133 (.cons (.tmp rfl) .nil) (fun w hs => ⟨(), by rw [hm]; rfl, hs.ent (.nil _)⟩)
  refine .go ?_; (repeat constructor); refine .eS ?_; refine .as_ ?_; refine .go ?_; repeat constructor
  refine ES.condD rfl (fun he10 => ?_) (fun hn10 => ?_)
  · have hm : textM l = textM nPrint := by rw [he10]
    refine .go ?_; (repeat constructor); refine .as_ ?_; refine .go ?_; repeat constructor
    exact PX.ret rfl Tryz.results133 (.cons (.tmp rfl) .nil) (fun w hs => ⟨(), by rw [hm]; rfl, hs.ent (.nil _)⟩)
  have hne : textM l = [] := by simp only [textM, *, if_false]
  refine .go ?_; (repeat constructor); refine .as_ ?_; refine .go ?_; repeat constructor
  exact PX.ret rfl Tryz.results133 (.cons (.tmp rfl) .nil) (fun w hs => ⟨(), by rw [hne]; rfl, hs.ent (.nil _)⟩)
theorem rclass_c (l : List UInt8) (w : World) : Pure Tryz.prog 129 #[Sv l] (fun _ : Unit => .tuple #[Bs (docClassM l).1, Iv (docClassM l).2]) (fun _ => []) w := by
  refine calls_of_ES TB Tryz.func129 rfl _ Tryz.ntmps129 rfl (Sat.start w) ?_; refine .go ?_; (repeat constructor); (refine .al ?_; intro g2); refine .as_ ?_; refine .go ?_; (repeat constructor); refine .mv ?_; refine .eS ?_; refine .go ?_; repeat constructor
  refine ES.condD rfl (fun he => ?_) (fun hn => ?_)
  · have hm : docClassM l = (addS (spanM 0 31).1 127, 0) := by simp only [docClassM]; rw [if_pos he]
    refine .go ?_; (repeat constructor); refine EL.callP rfl rfl rfl ent124 rfl (rspan_c 0 31) ?_; refine .mv ?_; refine .ex ?_; refine .ex ?_; (refine .al ?_; intro g4); refine .sa ?_; refine .as_ ?_; refine .go ?_; (repeat constructor); refine .lg ?_; refine EL.callP rfl rfl rfl ent111 rfl (with_c (spanM 0 31).1 127 (by omega)) ?_; refine .sa ?_; refine .as_ ?_; refine .go ?_; repeat constructor
    exact PX.ret rfl Tryz.results129 (.cons (.blkA rfl rfl rfl (by repeat constructor) rfl) (.cons (.tmp rfl) .nil)) (fun w hs => ⟨(), by rw [hm]; rfl, hs.ent (.nil _)⟩)
  refine .go ?_; (repeat constructor); refine .mv ?_; refine EL.callP rfl rfl rfl ent133 rfl (rtext_c l) ?_; refine EL.callP rfl rfl rfl ent112 rfl (rof_c (textM l) (textM_le l)) ?_; (refine .al ?_; intro g6); refine .sa ?_; refine .go ?_; (repeat constructor); refine .lg ?_; refine EL.callP rfl rfl rfl ent134 rfl (rcount_c (ofS (textM l))) ?_; refine .ei ?_; refine .go ?_; repeat constructor
  refine ES.condD rfl (fun h0 => ?_) (fun h0 => ?_)
  · have hm : docClassM l = (ofS (textM l), 8) := by simp only [docClassM]; rw [if_neg hn, if_pos (by omega)]
    refine .go ?_; (repeat constructor); refine .lg ?_; refine .sa ?_; refine .as_ ?_; refine .go ?_; repeat constructor
    exact PX.ret rfl Tryz.results129 (.cons (.blkA rfl rfl rfl (by repeat constructor) rfl) (.cons (.tmp rfl) .nil)) (fun w hs => ⟨(), by rw [hm]; rfl, hs.ent (.nil _)⟩)
  · have hm : docClassM l = (ofS (textM l), 0) := by simp only [docClassM]; rw [if_neg hn, if_neg (by omega)]
    refine .go ?_; (repeat constructor); refine .lg ?_; refine .sa ?_; refine .as_ ?_; refine .go ?_; repeat constructor
    exact PX.ret rfl Tryz.results129 (.cons (.blkA rfl rfl rfl (by repeat constructor) rfl) (.cons (.tmp rfl) .nil)) (fun w hs => ⟨(), by rw [hm]; rfl, hs.ent (.nil _)⟩)
theorem rnot_c (s : BS) (w : World) : Pure Tryz.prog 95 #[Bs s] (fun _ : Unit => Bs (notS s)) (fun _ => []) w := by
  obtain ⟨p, hp⟩ : ∃ p : Nat → Bool, p = fun b => !hasS s b := ⟨_, rfl⟩
  have hpi : ∀ i, p i = !hasS s i := fun i => by rw [hp]
  have hm : fillS p 256 = notS s := fill_eq p _ fun k hk => by rw [has_not, hpi]
  refine calls_of_ES TB Tryz.func95 rfl _ Tryz.ntmps95 rfl (Sat.start w) ?_; refine .go ?_; (repeat constructor); (refine .bx ?_; intro g1); (refine .al ?_; intro g2); refine .go ?_; (repeat constructor); (refine .al ?_; intro g3); refine .go ?_; (repeat constructor); refine .as_ ?_; refine .go ?_; repeat constructor
  refine ES.blkEq (g := g3) (o' := .cells (fillS p 0).cells 43) (by repeat constructor) (by rw [← fillS_0 p]; rfl) ?_
  refine ES.loop (σ := Nat) (fun i => i ≤ 256) (fun i => [(1, Pv g1 0), (2, Pv g2 0), (3, Pv g3 0), (4, Iv i)]) (fun i => [SB g3 (fillS p i), SB g2 zeroS, SB g1 s]) (fun i => 256 - i) 0 (by omega) ⟨rfl, rfl, rfl, rfl, trivial⟩ (.i (by repeat constructor)) ?_
  intro i hi
  refine .go ?_; (repeat constructor); refine .mv ?_; refine .ls ?_; refine .go ?_; repeat constructor
  refine ES.condD rfl (fun hlt => ?_) (fun hge => ?_)
  · have hlt' : i < 256 := by omega
    refine .go ?_; (repeat constructor); refine .lg ?_; refine .mv ?_; refine EL.callP rfl rfl rfl ent110 rfl (rhas_c s i hlt') ?_; refine .nt ?_; refine .go ?_; repeat constructor
    refine ES.cutC (X := Unit) (fun _ => [(1, Pv g1 0), (2, Pv g2 0), (3, Pv g3 0), (4, Iv i)]) (fun _ => [SB g3 (fillS p (i + 1)), SB g2 zeroS, SB g1 s]) ?_ (fun _ => ?_)
    · refine ES.cond rfl (fun hb => ?_) (fun hb => ?_)
      · rw [← fillS_y p i (by rw [hpi]; exact hb)]
        refine .go ?_; (repeat constructor); refine .lg ?_; refine .mv ?_; refine EL.callP rfl rfl rfl ent111 rfl (with_c (fillS p i) i hlt') ?_; refine .sa ?_; refine .go ?_; repeat constructor
        exact .cy ()
      · rw [fillS_n p i (by rw [hpi]; exact hb)]
        refine .go ?_; repeat constructor
        exact .cy ()
    refine .go ?_; (repeat constructor); refine .mv ?_; refine .a1 ?_; refine .as_ ?_; refine .go ?_; repeat constructor
    exact .ly (i + 1) (by omega) (by omega)
  obtain rfl : i = 256 := by omega
  rw [hm]
  refine .go ?_; (repeat constructor); refine .lg ?_; refine .sa ?_; refine .go ?_; repeat constructor
  exact PX.ret rfl Tryz.results95 (.cons (.blkA rfl rfl rfl (by repeat constructor) rfl) .nil) (fun w hs => ⟨(), rfl, hs.ent (.nil _)⟩)
theorem ror_c (s t : BS) (w : World) : Pure Tryz.prog 109 #[Bs s, Bs t] (fun _ : Unit => Bs (orS s t)) (fun _ => []) w := by
  obtain ⟨p, hp⟩ : ∃ p : Nat → Bool, p = fun b => hasS s b || hasS t b := ⟨_, rfl⟩
  have hpi : ∀ i, p i = (hasS s i || hasS t i) := fun i => by rw [hp]
  have hm : fillS p 256 = orS s t := fill_eq p _ fun k hk => by rw [has_or, hpi]
  refine calls_of_ES TB Tryz.func109 rfl _ Tryz.ntmps109 rfl (Sat.start w) ?_; refine .go ?_; (repeat constructor); (refine .bx ?_; intro g2); (refine .bx ?_; intro g3); (refine .al ?_; intro g4); refine .go ?_; (repeat constructor); (refine .al ?_; intro g5); refine .go ?_; (repeat constructor); refine .as_ ?_; refine .go ?_; repeat constructor
  refine ES.blkEq (g := g5) (o' := .cells (fillS p 0).cells 43) (by repeat constructor) (by rw [← fillS_0 p]; rfl) ?_
  refine ES.loop (σ := Nat) (fun i => i ≤ 256) (fun i => [(2, Pv g2 0), (3, Pv g3 0), (4, Pv g4 0), (5, Pv g5 0), (6, Iv i)]) (fun i => [SB g5 (fillS p i), SB g4 zeroS, SB g3 t, SB g2 s]) (fun i => 256 - i) 0 (by omega) ⟨rfl, rfl, rfl, rfl, rfl, trivial⟩ (.i (by repeat constructor)) ?_
  intro i hi
  refine .go ?_; (repeat constructor); refine .mv ?_; refine .ls ?_; refine .go ?_; repeat constructor
  refine ES.condD rfl (fun hlt => ?_) (fun hge => ?_)
  · have hlt' : i < 256 := by omega
    refine .go ?_; (repeat constructor); refine EL.cut [(18, .bool (p i)), (2, Pv g2 0), (3, Pv g3 0), (4, Pv g4 0), (5, Pv g5 0), (6, Iv i)] [SB g5 (fillS p i), SB g4 zeroS, SB g3 t, SB g2 s] ?_ ?_
    · refine .go ?_; (repeat constructor); refine .lg ?_; refine .mv ?_; refine EL.callP rfl rfl rfl ent110 rfl (rhas_c s i hlt') ?_; refine .mv ?_
      first | refine EL.splitD (d := 14) rfl (fun hp14 => ?_) (fun hp14 => ?_) | refine EL.splitN (d := 14) rfl (fun hp14 => ?_) (fun hp14 => ?_) | refine EL.splitB (d := 14) rfl (fun hp14 => ?_) (fun hp14 => ?_)
      · refine .ps ?_; refine .ps ?_; refine .ps ?_; refine .pt ?_
        exact .kx ⟨getB rfl (by rw [hpi]; first | (rw [show hasS s i = true from decide_eq_true hp14]; rfl) | (rw [show hasS s i = false from decide_eq_false hp14]; rfl)), rfl, rfl, rfl, rfl, rfl, trivial⟩
      · refine .lg ?_; refine .mv ?_; refine EL.callP rfl rfl rfl ent110 rfl (rhas_c t i hlt') ?_; refine .pf ?_
        exact .kx ⟨getB rfl (by rw [hpi]; first | (rw [show hasS s i = true from decide_eq_true hp14]; rfl) | (rw [show hasS s i = false from decide_eq_false hp14]; rfl)), rfl, rfl, rfl, rfl, rfl, trivial⟩
    refine ES.cutC (X := Unit) (fun _ => [(2, Pv g2 0), (3, Pv g3 0), (4, Pv g4 0), (5, Pv g5 0), (6, Iv i)]) (fun _ => [SB g5 (fillS p (i + 1)), SB g4 zeroS, SB g3 t, SB g2 s]) ?_ (fun _ => ?_)
    · refine ES.cond rfl (fun hb => ?_) (fun hb => ?_)
      · rw [← fillS_y p i hb]
        refine .go ?_; (repeat constructor); refine .lg ?_; refine .mv ?_; refine EL.callP rfl rfl rfl ent111 rfl (with_c (fillS p i) i hlt') ?_; refine .sa ?_; refine .go ?_; repeat constructor
        exact .cy ()
      · rw [fillS_n p i hb]
        refine .go ?_; repeat constructor
        exact .cy ()
    refine .go ?_; (repeat constructor); refine .mv ?_; refine .a1 ?_; refine .as_ ?_; refine .go ?_; repeat constructor
    exact .ly (i + 1) (by omega) (by omega)
  obtain rfl : i = 256 := by omega
  rw [hm]
  refine .go ?_; (repeat constructor); refine .lg ?_; refine .sa ?_; refine .go ?_; repeat constructor
  exact PX.ret rfl Tryz.results109 (.cons (.blkA rfl rfl rfl (by repeat constructor) rfl) .nil) (fun w hs => ⟨(), rfl, hs.ent (.nil _)⟩)
end Go.Proofs.YthcbjbkheodejaaGreat
namespace Go.Proofs.YthcbjbkheodejaaGreat
open Go Go.RowKit Sl
set_option maxRecDepth 100000
set_option maxHeartbeats 8000000
attribute [local irreducible] ES EL PX wps
def clM (t : List UInt8) (a : Nat) (m : UInt8) : Int := if Lib.index (t.drop a) [m, 93] < 0 then -1 else (a : Int) + Lib.index (t.drop a) [m, 93]
theorem pre2 {t : List UInt8} {i : Nat} (h : i + 1 < t.length) (m : UInt8) : [m, 93].isPrefixOf (t.drop i) = (decide (t.getD i 0 = m) && decide (t.getD (i + 1) 0 = 93)) := by
  rw [List.drop_eq_getElem_cons (show i < t.length by omega), List.drop_eq_getElem_cons h, List.getD_eq_getElem?_getD, List.getElem?_eq_getElem (show i < t.length by omega), List.getD_eq_getElem?_getD, List.getElem?_eq_getElem h, Bool.eq_iff_iff]
  simp only [List.isPrefixOf, Bool.and_true, Bool.and_eq_true, beq_iff_eq, decide_eq_true_eq, Option.getD_some]
  exact ⟨fun h => ⟨h.1.symm, h.2.symm⟩, fun h => ⟨h.1.symm, h.2.symm⟩⟩
theorem cl_hit {t : List UInt8} {i : Nat} {m : UInt8} (h : i + 1 < t.length) (h1 : t.getD i 0 = m) (h2 : t.getD (i + 1) 0 = 93) : clM t i m = i := by
  have hp := pre2 h m
  rw [h1, h2] at hp
  have hx : Lib.index (t.drop i) [m, 93] = 0 := by
    have hd := List.drop_eq_getElem_cons (show i < t.length by omega)
    rw [hd] at hp ⊢
    rw [Lib.index, hp]
    simp
  unfold clM
  rw [hx]
  simp
theorem cl_step {t : List UInt8} {i : Nat} {m : UInt8} (h : i + 1 < t.length) (hno : ¬ (t.getD i 0 = m ∧ t.getD (i + 1) 0 = 93)) : clM t i m = clM t (i + 1) m := by
  have hp := pre2 h m
  have hf : (decide (t.getD i 0 = m) && decide (t.getD (i + 1) 0 = 93)) = false := by
    cases hx : (decide (t.getD i 0 = m) && decide (t.getD (i + 1) 0 = 93)) with
    | false => rfl
    | true => rw [Bool.and_eq_true, decide_eq_true_eq, decide_eq_true_eq] at hx; exact absurd hx hno
  rw [hf] at hp
  have hge := Lib.index_ge (t.drop (i + 1)) [m, 93]
  have hd := List.drop_eq_getElem_cons (show i < t.length by omega)
  have hx : Lib.index (t.drop i) [m, 93] = if Lib.index (t.drop (i + 1)) [m, 93] = -1 then -1 else Lib.index (t.drop (i + 1)) [m, 93] + 1 := by
    rw [hd] at hp ⊢
    rw [Lib.index, hp]
    simp
  unfold clM
  rw [hx]
  by_cases h2 : Lib.index (t.drop (i + 1)) [m, 93] = -1
  · rw [if_pos h2, if_pos (by omega), if_pos (by omega)]
  · rw [if_neg h2, if_neg (by omega), if_neg (by omega)]
    push_cast
    omega
theorem cl_end {t : List UInt8} {i : Nat} {m : UInt8} (h : t.length ≤ i + 1) : clM t i m = -1 := by
  unfold clM
  rw [if_pos]
  rcases Int.lt_or_le (Lib.index (t.drop i) [m, 93]) 0 with h1 | h1
  · exact h1
  · have := Lib.index_room (t.drop i) [m, 93] h1
    simp only [List.length_drop, List.length_cons, List.length_nil] at this
    omega
theorem closes_c (t : List UInt8) (a : Nat) (m : UInt8) (ht : t.length ≤ 1073741824) (ha : a ≤ 2147483648) (w : World) : Pure Tryz.prog 128 #[Sv t, Iv (a : Nat), Uv m] (fun _ : Unit => Iv (clM t a m)) (fun _ => []) w := by
  refine calls_of_ES TB Tryz.func128 rfl _ Tryz.ntmps128 rfl (Sat.start w) ?_; refine .go ?_; (repeat constructor); refine .as_ ?_; refine .go ?_; (repeat constructor); refine .mv ?_; refine .as_ ?_; refine .go ?_; (repeat constructor); refine ES.loop (σ := Nat) (fun i => i ≤ max a t.length ∧ clM t i m = clM t a m) (fun i => [(0, Sv t), (2, Uv m), (7, Iv (i : Nat))]) (fun _ => []) (fun i => max a t.length - i) a ⟨by omega, rfl⟩ ⟨rfl, rfl, rfl, trivial⟩ (.i (by repeat constructor)) ?_
  rintro i ⟨hi, hc⟩
  refine .go ?_; (repeat constructor); refine .mv ?_; refine .a1 ?_; refine .mv ?_; refine .lS ?_; refine .ls ?_; refine .go ?_; repeat constructor
  refine ES.condD rfl (fun hlt => ?_) (fun hge => ?_)
  · have hlt' : i + 1 < t.length := by omega
    refine .go ?_; repeat constructor
    refine EL.cutX (X := Unit) (fun _ => [(0, Sv t), (2, Uv m), (7, Iv (i : Nat)), (27, .bool (decide (t.getD i 0 = m ∧ t.getD (i + 1) 0 = 93)))]) (fun _ => []) ?_ (fun _ => ?_)
    · have e1 : (((t.getD i 0).toNat : Int) = (m.toNat : Int)) ↔ t.getD i 0 = m := ⟨fun h => UInt8.toNat_inj.1 (by omega), fun h => by rw [h]⟩
      have e2 : (((t.getD (i + 1) 0).toNat : Int) = 93) ↔ t.getD (i + 1) 0 = 93 := ⟨fun h => UInt8.toNat_inj.1 (by show (t.getD (i + 1) 0).toNat = 93; omega), fun h => by rw [h]; rfl⟩
      refine .go ?_; (repeat constructor); refine .mv ?_; refine .mv ?_; refine .iS ?_; refine .mv ?_; refine .ei ?_; refine .mv ?_
      first | refine EL.splitD (d := 21) rfl (fun hp21 => ?_) (fun hp21 => ?_) | refine EL.splitN (d := 21) rfl (fun hp21 => ?_) (fun hp21 => ?_) | refine EL.splitB (d := 21) rfl (fun hp21 => ?_) (fun hp21 => ?_)
      · refine .mv ?_; refine .mv ?_; refine .a1 ?_; refine .iS ?_; refine .ei ?_; refine .pt ?_
        exact .dx () ⟨rfl, rfl, rfl, getA rfl (congrArg Value.bool (by rw [Bool.eq_iff_iff]; simp_all)), trivial⟩
      · refine .ps ?_; refine .ps ?_; refine .ps ?_; refine .ps ?_; refine .ps ?_; refine .pf ?_
        exact .dx () ⟨rfl, rfl, rfl, getA rfl (congrArg Value.bool (by rw [Bool.eq_iff_iff]; simp_all)), trivial⟩
    refine ES.condD rfl (fun hh => ?_) (fun hh => ?_)
    · refine .go ?_; (repeat constructor); refine .mv ?_; refine .as_ ?_; refine .go ?_; repeat constructor
      exact PX.ret rfl Tryz.results128 (.cons (.tmp rfl) .nil) (fun w hs => ⟨(), by rw [← hc, cl_hit hlt' hh.1 hh.2]; rfl, hs.ent (.nil _)⟩)
    · refine .go ?_; (repeat constructor); refine .mv ?_; refine .a1 ?_; refine .as_ ?_; refine .go ?_; repeat constructor
      exact .ly (i + 1) ⟨by omega, by rw [← cl_step hlt' hh]; exact hc⟩ (by omega)
  · refine .go ?_; (repeat constructor); refine .as_ ?_; refine .go ?_; repeat constructor
    exact PX.ret rfl Tryz.results128 (.cons (.tmp rfl) .nil) (fun w hs => ⟨(), by rw [← hc, cl_end (by omega)]; rfl, hs.ent (.nil _)⟩)
theorem dash3_c (t : List UInt8) (a : Nat) (ht : t.length ≤ 1073741824) (ha : a ≤ 2147483648) (w : World) : Pure Tryz.prog 123 #[Sv t, Iv (a : Nat)] (fun _ : Unit => .bool (dashM t a)) (fun _ => []) w := by
  refine calls_of_ES TB Tryz.func123 rfl _ Tryz.ntmps123 rfl (Sat.start w) ?_
  by_cases h1 : a < t.length ∧ ((t.getD a 0).toNat : Int) = 45
  · have e1 : ¬ (t.length : Int) ≤ (a : Int) := by omega
    refine .go ?_; (repeat constructor); refine .as_ ?_; refine .go ?_; (repeat constructor); refine .mv ?_; refine .mv ?_; refine .lS ?_; refine .gq ?_; refine .mv ?_; refine EL.rew (d := 9) (v' := .bool false) rfl (congrArg Value.bool (decide_eq_false (by omega))) ?_; refine .mv ?_; refine .mv ?_; refine .iS ?_; refine .ni ?_; refine .pf ?_; refine .go ?_; repeat constructor
    refine ES.condN rfl (fun h => absurd h1.2 h) (fun _ => ?_)
    refine .go ?_; repeat constructor
    refine EL.cutX (X := Unit) (fun _ => [(4, .bool (dashM t a))]) (fun _ => []) ?_ (fun _ => ?_)
    · refine .go ?_; (repeat constructor); refine .mv ?_; refine .a1 ?_; refine .mv ?_; refine .lS ?_; refine .ei ?_; refine .mv ?_
      first | refine EL.splitD (d := 20) rfl (fun hp20 => ?_) (fun hp20 => ?_) | refine EL.splitN (d := 20) rfl (fun hp20 => ?_) (fun hp20 => ?_) | refine EL.splitB (d := 20) rfl (fun hp20 => ?_) (fun hp20 => ?_)
      · refine .ps ?_; refine .ps ?_; refine .ps ?_; refine .ps ?_; refine .ps ?_; refine .pt ?_; refine .as_ ?_
        exact .dx () ⟨getA rfl (congrArg Value.bool (by unfold dashM; rw [Bool.eq_iff_iff]; simp_all <;> omega)), trivial⟩
      · refine .mv ?_; refine .mv ?_; refine .a1 ?_; refine .iS ?_; refine .ni ?_; refine .pf ?_; refine .as_ ?_
        exact .dx () ⟨getA rfl (congrArg Value.bool (by unfold dashM; rw [Bool.eq_iff_iff]; simp_all <;> omega)), trivial⟩
    refine .go ?_; repeat constructor
    exact PX.ret rfl Tryz.results123 (.cons (.tmp rfl) .nil) (fun w hs => ⟨(), rfl, hs.ent (.nil _)⟩)
  · have hd : dashM t a = false := by
      unfold dashM
      by_cases h2 : (a : Int) < (t.length : Int)
      · rw [decide_eq_false (p := ((t.getD a 0).toNat : Int) = 45) (fun e => h1 ⟨by omega, e⟩)]; simp
      · rw [decide_eq_false h2]; simp
    by_cases h2 : a < t.length
    · refine .go ?_; (repeat constructor); refine .as_ ?_; refine .go ?_; (repeat constructor); refine .mv ?_; refine .mv ?_; refine .lS ?_; refine .gq ?_; refine .mv ?_; refine EL.rew (d := 9) (v' := .bool false) rfl (congrArg Value.bool (decide_eq_false (by omega))) ?_; refine .mv ?_; refine .mv ?_; refine .iS ?_; refine .ni ?_; refine .pf ?_; refine .go ?_; repeat constructor
      refine ES.condN rfl (fun _ => ?_) (fun h => absurd ⟨h2, h⟩ h1)
      refine .go ?_; (repeat constructor); refine .as_ ?_; refine .go ?_; repeat constructor
      exact PX.ret rfl Tryz.results123 (.cons (.tmp rfl) .nil) (fun w hs => ⟨(), by rw [hd]; rfl, hs.ent (.nil _)⟩)
    · refine .go ?_; (repeat constructor); refine .as_ ?_; refine .go ?_; (repeat constructor); refine .mv ?_; refine .mv ?_; refine .lS ?_; refine .gq ?_; refine .mv ?_; refine EL.rew (d := 9) (v' := .bool true) rfl (congrArg Value.bool (decide_eq_true (by omega))) ?_; refine .ps ?_; refine .ps ?_; refine .ps ?_; refine .ps ?_; refine .pt ?_; refine .go ?_; (repeat constructor); refine ES.condT rfl ?_; refine .go ?_; (repeat constructor); refine .as_ ?_; refine .go ?_; repeat constructor
      exact PX.ret rfl Tryz.results123 (.cons (.tmp rfl) .nil) (fun w hs => ⟨(), by rw [hd]; rfl, hs.ent (.nil _)⟩)
def item3 (t : List UInt8) (a : Nat) : It :=
  if itC t a = true then ⟨ofS [t.getD a 0], t.getD a 0, true, a + 1, 0⟩
  else if clM t (a + 3) (t.getD (a + 1) 0) < 0 then ⟨zeroS, 0, false, 0, 6⟩
  else if t.getD (a + 1) 0 = 58 then ⟨(docClassM ((t.drop (a + 2)).take ((clM t (a + 3) (t.getD (a + 1) 0)).toNat - (a + 2)))).1, 0, false, (clM t (a + 3) (t.getD (a + 1) 0)).toNat + 2, (docClassM ((t.drop (a + 2)).take ((clM t (a + 3) (t.getD (a + 1) 0)).toNat - (a + 2)))).2⟩
  else if ((t.drop (a + 2)).take ((clM t (a + 3) (t.getD (a + 1) 0)).toNat - (a + 2))).length ≠ 1 then ⟨zeroS, 0, false, 0, 8⟩
  else ⟨ofS ((t.drop (a + 2)).take ((clM t (a + 3) (t.getD (a + 1) 0)).toNat - (a + 2))), ((t.drop (a + 2)).take ((clM t (a + 3) (t.getD (a + 1) 0)).toNat - (a + 2))).getD 0 0, decide (t.getD (a + 1) 0 = 46), (clM t (a + 3) (t.getD (a + 1) 0)).toNat + 2, 0⟩
theorem cl_nm (t : List UInt8) (a : Nat) : (clM t (a + 3) (t.getD (a + 1) 0) < 0 ↔ nmK t a < 0) ∧ (0 ≤ nmK t a → clM t (a + 3) (t.getD (a + 1) 0) = ((a + 3 : Nat) : Int) + nmK t a) := by
  unfold nmK
  by_cases h : a + 2 < t.length
  · rw [if_pos h]
    show (clM t (a + 3) _ < 0 ↔ Lib.index (t.drop (a + 3)) _ < 0) ∧ _
    unfold clM
    have hge := Lib.index_ge (t.drop (a + 3)) [t.getD (a + 1) 0, 93]
    show ((if Lib.index (t.drop (a + 3)) [t.getD (a + 1) 0, 93] < 0 then (-1 : Int) else ((a + 3 : Nat) : Int) + Lib.index (t.drop (a + 3)) [t.getD (a + 1) 0, 93]) < 0 ↔ Lib.index (t.drop (a + 3)) [t.getD (a + 1) 0, 93] < 0) ∧ (0 ≤ Lib.index (t.drop (a + 3)) [t.getD (a + 1) 0, 93] → (if Lib.index (t.drop (a + 3)) [t.getD (a + 1) 0, 93] < 0 then (-1 : Int) else ((a + 3 : Nat) : Int) + Lib.index (t.drop (a + 3)) [t.getD (a + 1) 0, 93]) = ((a + 3 : Nat) : Int) + Lib.index (t.drop (a + 3)) [t.getD (a + 1) 0, 93])
    split <;> constructor <;> omega
  · rw [if_neg h, cl_end (by omega)]
    constructor <;> omega
theorem item3_is (t : List UInt8) (a : Nat) : (item3 t a).e = (itemM t a).e ∧ ((itemM t a).e = 0 → item3 t a = itemM t a) := by
  obtain ⟨h1, h2⟩ := cl_nm t a
  unfold item3 itemM
  by_cases c0 : itC t a = true
  · rw [if_pos c0, if_pos c0]
    exact ⟨rfl, fun _ => rfl⟩
  rw [if_neg c0, if_neg c0]
  by_cases c1 : nmK t a < 0
  · have he : nmE t a = 6 := by unfold nmE; rw [if_pos c1]
    rw [if_pos (h1.2 c1), if_pos (by rw [he]; decide), he]
    exact ⟨rfl, fun h => absurd h (by show ¬ (6 : Int) = 0; decide)⟩
  have he : nmE t a = 0 := by unfold nmE; rw [if_neg c1]
  have hc := h2 (by omega)
  have hn : (t.drop (a + 2)).take ((clM t (a + 3) (t.getD (a + 1) 0)).toNat - (a + 2)) = nmN t a := by
    unfold nmN
    rw [if_neg c1, hc]
    congr 1
    omega
  have hx : (clM t (a + 3) (t.getD (a + 1) 0)).toNat + 2 = nmA t a := by
    unfold nmA
    rw [if_neg c1, hc]
    omega
  have hcl : ¬ clM t (a + 3) (t.getD (a + 1) 0) < 0 := fun h => c1 (h1.1 h)
  rw [if_neg hcl, if_neg (show ¬ nmE t a ≠ 0 by rw [he]; simp), hn, hx, class_eq]
  by_cases c2 : t.getD (a + 1) 0 = 58
  · rw [if_pos c2, if_pos c2]
    exact ⟨rfl, fun _ => rfl⟩
  rw [if_neg c2, if_neg c2]
  by_cases c3 : (nmN t a).length ≠ 1
  · rw [if_pos c3, if_pos c3]
    exact ⟨rfl, fun h => absurd h (by show ¬ (8 : Int) = 0; decide)⟩
  rw [if_neg c3, if_neg c3]
  exact ⟨rfl, fun _ => rfl⟩
def itCells (i : It) : List Value := [Wv i.set.a, Wv i.set.b, Wv i.set.c, Wv i.set.d, Uv i.b, .bool i.single, Iv (i.at_ : Nat), Iv i.e]
theorem itC_is (t : List UInt8) (a : Nat) : itC t a = (decide ((t.getD a 0).toNat ≠ 91) || (decide (t.length ≤ a + 1) || (decide ((t.getD (a + 1) 0).toNat ≠ 58) && decide ((t.getD (a + 1) 0).toNat ≠ 61) && decide ((t.getD (a + 1) 0).toNat ≠ 46)))) := by
  have hx : ∀ c : UInt8, idxB [46, 61, 58] c < 0 ↔ (c.toNat ≠ 58 ∧ c.toNat ≠ 61 ∧ c.toNat ≠ 46) := fun c => by
    have h := idxB_nonneg [46, 61, 58] c
    have e1 : (c = 46 ∨ c = 61 ∨ c = 58) ↔ (c.toNat = 46 ∨ c.toNat = 61 ∨ c.toNat = 58) := by
      constructor
      · rintro (h | h | h) <;> subst h <;> simp
      · rintro (h | h | h)
        · exact .inl (UInt8.toNat_inj.1 h)
        · exact .inr (.inl (UInt8.toNat_inj.1 h))
        · exact .inr (.inr (UInt8.toNat_inj.1 h))
    have h' : 0 ≤ idxB [46, 61, 58] c ↔ (c = 46 ∨ c = 61 ∨ c = 58) := by rw [h]; simp
    rw [e1] at h'
    omega
  unfold itC
  rw [Bool.eq_iff_iff]
  simp only [Bool.or_eq_true, Bool.and_eq_true, Bool.not_eq_true', decide_eq_true_eq, decide_eq_false_iff_not, hx]
  omega
theorem item3_c (t : List UInt8) (a : Nat) (ha : a < t.length) (ht : t.length ≤ 1073741824) (w : World) : Pure Tryz.prog 122 #[Sv t, Iv (a : Nat)] (fun _ : Unit => .agg (itCells (item3 t a)).toArray) (fun _ => []) w := by
  refine calls_of_ES TB Tryz.func122 rfl _ Tryz.ntmps122 rfl (Sat.start w) ?_; refine .go ?_; (repeat constructor); (refine .al ?_; intro g4); refine .go ?_; (repeat constructor); refine .mv ?_; refine .mv ?_; refine .iS ?_; refine .as_ ?_; refine .go ?_; repeat constructor
  refine EL.cutX (X := Unit) (fun _ => [(0, Sv t), (1, Iv (a : Nat)), (4, Pv g4 0), (5, Uv (t.getD a 0)), (43, .bool (itC t a))]) (fun _ => [HA.blk g4 (.cells (itCells ⟨zeroS, 0, false, 0, 0⟩).toArray 223)]) ?_ (fun _ => ?_)
  · refine .go ?_; (repeat constructor); refine .mv ?_; refine .ni ?_; refine .mv ?_
    first | refine EL.splitD (d := 16) rfl (fun hp16 => ?_) (fun hp16 => ?_) | refine EL.splitN (d := 16) rfl (fun hp16 => ?_) (fun hp16 => ?_) | refine EL.splitB (d := 16) rfl (fun hp16 => ?_) (fun hp16 => ?_)
    · refine .ps ?_; refine .ps ?_; refine .ps ?_; refine .ps ?_; refine .ps ?_; refine .pt ?_; refine .mv ?_; refine .ps ?_; refine .ps ?_; refine .ps ?_; refine .ps ?_; refine .ps ?_; refine .ps ?_; refine .ps ?_; refine .ps ?_; refine .ps ?_; refine .ps ?_; refine .ps ?_; refine .ps ?_; refine .ps ?_; refine .ps ?_; refine .ps ?_; refine .ps ?_; refine .ps ?_; refine .ps ?_; refine .ps ?_; refine .pt ?_
      exact .dx () ⟨rfl, rfl, rfl, rfl, getA rfl (congrArg Value.bool (by rw [itC_is, Bool.eq_iff_iff]; simp only [Bool.or_eq_true, Bool.and_eq_true, Bool.not_eq_true', decide_eq_true_eq, decide_eq_false_iff_not] at *; simp_all <;> omega)), trivial⟩
    · refine .mv ?_; refine .a1 ?_; refine .mv ?_; refine .lS ?_; refine .gq ?_; refine .pf ?_; refine .mv ?_
      first | refine EL.splitD (d := 23) rfl (fun hp23 => ?_) (fun hp23 => ?_) | refine EL.splitN (d := 23) rfl (fun hp23 => ?_) (fun hp23 => ?_) | refine EL.splitB (d := 23) rfl (fun hp23 => ?_) (fun hp23 => ?_)
      · refine .ps ?_; refine .ps ?_; refine .ps ?_; refine .ps ?_; refine .ps ?_; refine .ps ?_; refine .ps ?_; refine .ps ?_; refine .ps ?_; refine .ps ?_; refine .ps ?_; refine .ps ?_; refine .ps ?_; refine .ps ?_; refine .ps ?_; refine .ps ?_; refine .ps ?_; refine .ps ?_; refine .ps ?_; refine .pt ?_
        exact .dx () ⟨rfl, rfl, rfl, rfl, getA rfl (congrArg Value.bool (by rw [itC_is, Bool.eq_iff_iff]; simp only [Bool.or_eq_true, Bool.and_eq_true, Bool.not_eq_true', decide_eq_true_eq, decide_eq_false_iff_not] at *; simp_all <;> omega)), trivial⟩
      · refine .mv ?_; refine .mv ?_; refine .a1 ?_; refine .iS ?_; refine .ni ?_; refine .mv ?_
        first | refine EL.splitD (d := 29) rfl (fun hp29 => ?_) (fun hp29 => ?_) | refine EL.splitN (d := 29) rfl (fun hp29 => ?_) (fun hp29 => ?_) | refine EL.splitB (d := 29) rfl (fun hp29 => ?_) (fun hp29 => ?_)
        · refine .mv ?_; refine .mv ?_; refine .a1 ?_; refine .iS ?_; refine .ni ?_; refine .pt ?_; refine .mv ?_
          first | refine EL.splitD (d := 36) rfl (fun hp36 => ?_) (fun hp36 => ?_) | refine EL.splitN (d := 36) rfl (fun hp36 => ?_) (fun hp36 => ?_) | refine EL.splitB (d := 36) rfl (fun hp36 => ?_) (fun hp36 => ?_)
          · refine .mv ?_; refine .mv ?_; refine .a1 ?_; refine .iS ?_; refine .ni ?_; refine .pt ?_; refine .pf ?_
            exact .dx () ⟨rfl, rfl, rfl, rfl, getA rfl (congrArg Value.bool (by rw [itC_is, Bool.eq_iff_iff]; simp only [Bool.or_eq_true, Bool.and_eq_true, Bool.not_eq_true', decide_eq_true_eq, decide_eq_false_iff_not] at *; simp_all <;> omega)), trivial⟩
          · refine .ps ?_; refine .ps ?_; refine .ps ?_; refine .ps ?_; refine .ps ?_; refine .pf ?_; refine .pf ?_
            exact .dx () ⟨rfl, rfl, rfl, rfl, getA rfl (congrArg Value.bool (by rw [itC_is, Bool.eq_iff_iff]; simp only [Bool.or_eq_true, Bool.and_eq_true, Bool.not_eq_true', decide_eq_true_eq, decide_eq_false_iff_not] at *; simp_all <;> omega)), trivial⟩
        · refine .ps ?_; refine .ps ?_; refine .ps ?_; refine .ps ?_; refine .ps ?_; refine .pf ?_; refine .mv ?_; refine .ps ?_; refine .ps ?_; refine .ps ?_; refine .ps ?_; refine .ps ?_; refine .pf ?_; refine .pf ?_
          exact .dx () ⟨rfl, rfl, rfl, rfl, getA rfl (congrArg Value.bool (by rw [itC_is, Bool.eq_iff_iff]; simp only [Bool.or_eq_true, Bool.and_eq_true, Bool.not_eq_true', decide_eq_true_eq, decide_eq_false_iff_not] at *; simp_all <;> omega)), trivial⟩
  have hsl : (t.drop a).take (a + 1 - a) = [t.getD a 0] := by
    rw [show a + 1 - a = 1 by omega, List.drop_eq_getElem_cons ha, List.take_succ_cons, List.take_zero, List.getD_eq_getElem?_getD, List.getElem?_eq_getElem ha]
    rfl
  refine ES.cond rfl (fun hc => ?_) (fun hc => ?_)
  · have hi : item3 t a = ⟨ofS [t.getD a 0], t.getD a 0, true, a + 1, 0⟩ := by unfold item3; rw [if_pos hc]
    rw [hi]
    refine .go ?_; (repeat constructor); refine .mv ?_; refine .mv ?_; refine .mv ?_; refine .a1 ?_
    (refine EL.sliceS (m := a) (n := a + 1) rfl rfl rfl rfl rfl ⟨_, rfl⟩ ⟨_, rfl⟩ (by omega) (by omega) ?_; rw [hsl])
    refine EL.callP rfl rfl rfl ent112 rfl (rof_c [t.getD a 0] (by simp)) ?_; refine .mv ?_; refine .mv ?_; refine .a1 ?_; refine EL.buildS (itCells ⟨ofS [t.getD a 0], t.getD a 0, true, a + 1, 0⟩).toArray rfl rfl rfl rfl rfl (by kernel_rfl) rfl ?_; refine .sa ?_; refine .go ?_; repeat constructor
    exact PX.ret rfl Tryz.results122 (.cons (.blkA rfl rfl rfl (by repeat constructor) rfl) .nil) (fun w hs => ⟨(), rfl, hs.ent (.nil _)⟩)
  have hcn : ¬ itC t a = true := by rw [hc]; simp
  have hal : a + 1 < t.length := by
    rw [itC_is, Bool.or_eq_false_iff, Bool.or_eq_false_iff, decide_eq_false_iff_not, decide_eq_false_iff_not] at hc
    omega
  obtain ⟨hn1, hn2⟩ := cl_nm t a
  refine .go ?_; (repeat constructor); refine .mv ?_; refine .mv ?_; refine .a1 ?_; refine .iS ?_; refine .as_ ?_; refine .go ?_; (repeat constructor); refine .mv ?_; refine .mv ?_; refine EL.addN (n := 3) rfl rfl rfl rfl rfl (by omega) ?_; refine .mv ?_; refine EL.callP rfl rfl rfl ent128 rfl (closes_c t (a + 3) (t.getD (a + 1) 0) ht (by omega)) ?_; refine .as_ ?_; refine .go ?_; (repeat constructor); refine .mv ?_; refine .ls ?_; refine .go ?_; repeat constructor
  refine ES.condD rfl (fun hneg => ?_) (fun hpos => ?_)
  · have hi : item3 t a = ⟨zeroS, 0, false, 0, 6⟩ := by unfold item3; rw [if_neg hcn, if_pos hneg]
    rw [hi]
    refine .go ?_; (repeat constructor); refine EL.buildS (itCells ⟨zeroS, 0, false, 0, 6⟩).toArray rfl rfl rfl rfl rfl (by kernel_rfl) rfl ?_; refine .sa ?_; refine .go ?_; repeat constructor
    exact PX.ret rfl Tryz.results122 (.cons (.blkA rfl rfl rfl (by repeat constructor) rfl) .nil) (fun w hs => ⟨(), rfl, hs.ent (.nil _)⟩)
  obtain ⟨j, hj⟩ : ∃ j : Nat, nmK t a = j := ⟨(nmK t a).toNat, by have : ¬ nmK t a < 0 := fun h => hpos (hn1.2 h); omega⟩
  have hroom := nmK_room t a j hj
  have hk : clM t (a + 3) (t.getD (a + 1) 0) = ((a + 3 + j : Nat) : Int) := by rw [hn2 (by omega), hj]; omega
  obtain ⟨nm, hnm⟩ : ∃ nm, nm = (t.drop (a + 2)).take (a + 3 + j - (a + 2)) := ⟨_, rfl⟩
  have hnl : nm.length = j + 1 := by rw [hnm, List.length_take, List.length_drop]; omega
  rw [hk]
  have hi0 : item3 t a = if t.getD (a + 1) 0 = 58 then ⟨(docClassM nm).1, 0, false, a + 3 + j + 2, (docClassM nm).2⟩ else if nm.length ≠ 1 then ⟨zeroS, 0, false, 0, 8⟩ else ⟨ofS nm, nm.getD 0 0, decide (t.getD (a + 1) 0 = 46), a + 3 + j + 2, 0⟩ := by
    unfold item3
    rw [if_neg hcn, if_neg hpos, hk, Int.toNat_natCast, ← hnm]
  have hx58 : (((t.getD (a + 1) 0).toNat : Int) = 58) ↔ t.getD (a + 1) 0 = 58 := ⟨fun h => UInt8.toNat_inj.1 (by show (t.getD (a + 1) 0).toNat = 58; omega), fun h => by rw [h]; rfl⟩
  refine .go ?_; (repeat constructor); refine .mv ?_; refine .mv ?_; refine EL.addN (n := 2) rfl rfl rfl rfl rfl (by omega) ?_; refine .mv ?_
  (refine EL.sliceS (m := a + 2) (n := a + 3 + j) rfl rfl rfl rfl rfl ⟨_, rfl⟩ ⟨_, rfl⟩ (by omega) (by omega) ?_; rw [← hnm])
  refine .as_ ?_; refine .go ?_; (repeat constructor); refine .mv ?_; refine .ei ?_; refine .go ?_; repeat constructor
  refine ES.condD rfl (fun h58 => ?_) (fun h58 => ?_)
  · rw [hi0, if_pos (hx58.1 h58)]
    refine .go ?_; (repeat constructor); refine .mv ?_; refine EL.callP rfl rfl rfl ent129 rfl (rclass_c nm) ?_; refine .mv ?_; refine .ex ?_; refine .ex ?_; (refine .al ?_; intro g9); refine .sa ?_; refine .as_ ?_; refine .go ?_; (repeat constructor); refine .lg ?_; refine .mv ?_; refine EL.addN (n := 2) rfl rfl rfl rfl rfl (by omega) ?_; refine .mv ?_; refine EL.buildS (itCells ⟨(docClassM nm).1, 0, false, a + 3 + j + 2, (docClassM nm).2⟩).toArray rfl rfl rfl rfl rfl (by kernel_rfl) rfl ?_; refine .sa ?_; refine .go ?_; repeat constructor
    exact PX.ret rfl Tryz.results122 (.cons (.blkA rfl rfl rfl (by repeat constructor) rfl) .nil) (fun w hs => ⟨(), rfl, hs.ent (.nil _)⟩)
  rw [hi0, if_neg (fun h => h58 (hx58.2 h))]
  refine .go ?_; (repeat constructor); refine .mv ?_; refine .lS ?_; refine .ni ?_; refine .go ?_; repeat constructor
  refine ES.condN rfl (fun h1 => ?_) (fun h1 => ?_)
  · rw [if_pos (show nm.length ≠ 1 by omega)]
    refine .go ?_; (repeat constructor); refine EL.buildS (itCells ⟨zeroS, 0, false, 0, 8⟩).toArray rfl rfl rfl rfl rfl (by kernel_rfl) rfl ?_; refine .sa ?_; refine .go ?_; repeat constructor
    exact PX.ret rfl Tryz.results122 (.cons (.blkA rfl rfl rfl (by repeat constructor) rfl) .nil) (fun w hs => ⟨(), rfl, hs.ent (.nil _)⟩)
  rw [if_neg (show ¬ nm.length ≠ 1 by omega)]
  have e46 : decide (((t.getD (a + 1) 0).toNat : Int) = 46) = decide (t.getD (a + 1) 0 = 46) := by
    rw [decide_eq_decide]
    exact ⟨fun h => UInt8.toNat_inj.1 (by show (t.getD (a + 1) 0).toNat = 46; omega), fun h => by rw [h]; rfl⟩
  rw [← e46]
  refine .g0 ?_; repeat constructor
  refine ES.draw (X := Unit) (fun _ => [(4, Pv g4 0)]) (fun _ => [HA.blk g4 (.cells (itCells ⟨ofS nm, nm.getD 0 0, decide (((t.getD (a + 1) 0).toNat : Int) = 46), a + 3 + j + 2, 0⟩).toArray 223)]) [HA.blk g4 (.cells (itCells ⟨zeroS, 0, false, 0, 0⟩).toArray 223)] mixed (.i (by repeat constructor)) ?_ (fun _ => ?_)
  · refine .tk 0 rfl (RV.move rfl) ?_; refine .tk 2 rfl (RV.move rfl) ?_; refine .tk 3 rfl (RV.indexSN (i := 0) rfl rfl rfl rfl (by omega)) ?_; refine .tk 4 rfl (RV.move rfl) ?_; refine .tk 5 rfl (RV.eqlI rfl rfl) ?_; refine .tk 6 rfl (RV.move rfl) ?_; refine .tk 7 rfl (RV.addN (n := 2) rfl rfl rfl (by omega)) ?_; refine .ld 1 ?_
    (refine EL.callP rfl rfl rfl ent112 rfl (rof_c nm (by omega)) ?_)
    refine .nx ?_; refine ED.take 8 rfl (by decide +kernel) CutX.no_panic (by decide +kernel) rfl rfl rfl (RV.buildS (itCells ⟨ofS nm, nm.getD 0 0, decide (((t.getD (a + 1) 0).toNat : Int) = 46), a + 3 + j + 2, 0⟩).toArray rfl rfl rfl rfl (by kernel_rfl)) ?_; refine ED.last 9 rfl (by decide +kernel) (by decide +kernel) (by decide +kernel) ?_; refine .sa ?_; refine EL.endQ ?_
    exact .cy ()
  refine .go ?_; repeat constructor
  exact PX.ret rfl Tryz.results122 (.cons (.blkA rfl rfl rfl (by repeat constructor) rfl) .nil) (fun w hs => ⟨(), rfl, hs.ent (.nil _)⟩)
def rng3 (t : List UInt8) (a : Nat) : It :=
  if (item3 t a).e ≠ 0 ∨ dashM t (item3 t a).at_ = false then item3 t a
  else if (item3 t a).at_ + 1 = t.length then ⟨zeroS, 0, false, 0, 6⟩
  else if (item3 t a).single = false then ⟨zeroS, 0, false, 0, 7⟩
  else if (item3 t ((item3 t a).at_ + 1)).e ≠ 0 then item3 t ((item3 t a).at_ + 1)
  else if (item3 t ((item3 t a).at_ + 1)).single = false ∨ (item3 t ((item3 t a).at_ + 1)).b.toNat < (item3 t a).b.toNat ∨ dashM t (item3 t ((item3 t a).at_ + 1)).at_ = true then ⟨zeroS, 0, false, 0, 7⟩
  else ⟨(spanM (item3 t a).b (item3 t ((item3 t a).at_ + 1)).b).1, 0, false, (item3 t ((item3 t a).at_ + 1)).at_, 0⟩
theorem item3_at (t : List UInt8) (a : Nat) (h : a < t.length) (he : (item3 t a).e = 0) : a < (item3 t a).at_ ∧ (item3 t a).at_ ≤ t.length := by
  obtain ⟨h1, h2⟩ := item3_is t a
  rw [h1] at he
  have := item_at t a h
  rw [h2 he]
  exact ⟨this.2.2 he, this.2.1⟩
theorem rng3_is (t : List UInt8) (a : Nat) (h : a < t.length) : (rng3 t a).e = (spanT t a).e ∧ ((spanT t a).e = 0 → (rng3 t a).set = (spanT t a).set ∧ (rng3 t a).at_ = (spanT t a).at_) := by
  obtain ⟨h1, h2⟩ := item3_is t a
  have hat := item_at t a h
  have fin : ∀ (x : It) (y : Sp), rng3 t a = x → spanT t a = y → (x.e = y.e ∧ (y.e = 0 → x.set = y.set ∧ x.at_ = y.at_)) → (rng3 t a).e = (spanT t a).e ∧ ((spanT t a).e = 0 → (rng3 t a).set = (spanT t a).set ∧ (rng3 t a).at_ = (spanT t a).at_) := fun x y e1 e2 h => by rw [e1, e2]; exact h
  have hs := show spanT t a = _ by unfold spanT; rfl
  have hr := show rng3 t a = _ by unfold rng3; rfl
  dsimp only at hs
  by_cases c0 : ¬ (itemM t a).e = 0
  · rw [if_pos (.inl (by rw [h1]; exact c0))] at hr
    rw [if_pos (.inl c0)] at hs
    exact fin _ _ hr hs ⟨h1, fun he => absurd he c0⟩
  have c0 := Classical.not_not.1 c0
  have hlt := hat.2.2 c0
  rw [h2 c0] at hr
  generalize itemM t a = i at *
  by_cases c1 : dashM t i.at_ = false
  · rw [if_pos (.inr c1)] at hr hs
    exact fin _ _ hr hs ⟨rfl, fun _ => ⟨rfl, rfl⟩⟩
  have hd : dashM t i.at_ = true := by simpa using c1
  have hdl := dash_lt hd
  rw [if_neg (by rw [c0, hd]; simp)] at hr hs
  by_cases c2 : i.at_ + 1 = t.length
  · rw [if_pos c2] at hr
    rw [if_pos (by omega)] at hs
    exact fin _ _ hr hs ⟨rfl, fun he => absurd he (by show ¬ (6 : Int) = 0; decide)⟩
  rw [if_neg c2] at hr
  rw [if_neg (by omega)] at hs
  by_cases c3 : i.single = false
  · rw [if_pos c3] at hr hs
    exact fin _ _ hr hs ⟨rfl, fun he => absurd he (by show ¬ (7 : Int) = 0; decide)⟩
  rw [if_neg c3] at hr hs
  obtain ⟨g1, g2⟩ := item3_is t (i.at_ + 1)
  by_cases c4 : ¬ (itemM t (i.at_ + 1)).e = 0
  · rw [if_pos (by rw [g1]; exact c4)] at hr
    rw [if_pos c4] at hs
    exact fin _ _ hr hs ⟨g1, fun he => absurd he c4⟩
  have c4 := Classical.not_not.1 c4
  rw [g2 c4] at hr
  rw [if_neg (by rw [c4]; simp)] at hr hs
  generalize itemM t (i.at_ + 1) = j at *
  by_cases c5 : j.single = false
  · rw [if_pos (.inl c5)] at hr
    rw [if_pos c5] at hs
    exact fin _ _ hr hs ⟨rfl, fun he => absurd he (by show ¬ (7 : Int) = 0; decide)⟩
  rw [if_neg c5] at hs
  by_cases c6 : j.b.toNat < i.b.toNat
  · have hsp : (spanM i.b j.b).2 = 7 := by unfold spanM; rw [if_pos c6]
    rw [if_pos (.inr (.inl c6))] at hr
    rw [if_neg (by rw [hsp]; rintro ⟨h, _⟩; revert h; decide), hsp] at hs
    exact fin _ _ hr hs ⟨rfl, fun he => absurd he (by show ¬ (7 : Int) = 0; decide)⟩
  have hsp : (spanM i.b j.b).2 = 0 := by unfold spanM; rw [if_neg c6]
  by_cases c7 : dashM t j.at_ = true
  · rw [if_pos (.inr (.inr c7))] at hr
    rw [if_pos ⟨hsp, c7⟩] at hs
    exact fin _ _ hr hs ⟨rfl, fun he => absurd he (by show ¬ (7 : Int) = 0; decide)⟩
  rw [if_neg (by rintro (h | h | h) <;> first | exact c5 h | exact c6 h | exact c7 h)] at hr
  rw [if_neg (by rintro ⟨_, h⟩; exact c7 h), hsp] at hs
  exact fin _ _ hr hs ⟨rfl, fun _ => ⟨rfl, rfl⟩⟩
theorem rng3_c (t : List UInt8) (a : Nat) (ha : a < t.length) (ht : t.length ≤ 1073741824) (w : World) : Pure Tryz.prog 108 #[Sv t, Iv (a : Nat)] (fun _ : Unit => .agg (itCells (rng3 t a)).toArray) (fun _ => []) w := by
  have hic := item3_c t a ha ht
  have hia := item3_at t a ha
  have hrng : rng3 t a = if (item3 t a).e ≠ 0 ∨ dashM t (item3 t a).at_ = false then item3 t a
    else if (item3 t a).at_ + 1 = t.length then ⟨zeroS, 0, false, 0, 6⟩
    else if (item3 t a).single = false then ⟨zeroS, 0, false, 0, 7⟩
    else if (item3 t ((item3 t a).at_ + 1)).e ≠ 0 then item3 t ((item3 t a).at_ + 1)
    else if (item3 t ((item3 t a).at_ + 1)).single = false ∨ (item3 t ((item3 t a).at_ + 1)).b.toNat < (item3 t a).b.toNat ∨ dashM t (item3 t ((item3 t a).at_ + 1)).at_ = true then ⟨zeroS, 0, false, 0, 7⟩
    else ⟨(spanM (item3 t a).b (item3 t ((item3 t a).at_ + 1)).b).1, 0, false, (item3 t ((item3 t a).at_ + 1)).at_, 0⟩ := rfl
  generalize item3 t a = i at hic hia hrng
  refine calls_of_ES TB Tryz.func108 rfl _ Tryz.ntmps108 rfl (Sat.start w) ?_; refine .go ?_; (repeat constructor); (refine .al ?_; intro g4); refine .go ?_; (repeat constructor); refine .mv ?_; refine .mv ?_; refine EL.callP rfl rfl rfl ent122 rfl hic ?_; (refine .al ?_; intro g5); refine .sa ?_; refine .go ?_; repeat constructor
  refine EL.cutX (X := Unit) (fun _ => [(0, Sv t), (4, Pv g4 0), (5, Pv g5 0), (21, .bool (!decide (i.e = 0) || !dashM t i.at_))]) (fun _ => [HA.blk g5 (.cells (itCells i).toArray 223), HA.blk g4 (.cells (itCells ⟨zeroS, 0, false, 0, 0⟩).toArray 223)]) ?_ (fun _ => ?_)
  · by_cases he : i.e = 0
    · have hi2 := hia he
      refine .go ?_; (repeat constructor); refine .fa ?_; refine .lb ?_; refine .ni ?_; refine .mv ?_
      refine EL.rew (d := 15) (v' := .bool false) rfl (congrArg Value.bool (by rw [he]; rfl)) ?_
      refine .mv ?_; refine .fa ?_; refine .lb ?_; refine EL.callP rfl rfl rfl ent123 rfl (dash3_c t i.at_ ht (by omega)) ?_; refine .nt ?_; refine .pf ?_
      exact .dx () ⟨rfl, rfl, rfl, getA rfl (congrArg Value.bool (by rw [he]; simp)), trivial⟩
    · refine .go ?_; (repeat constructor); refine .fa ?_; refine .lb ?_; refine .ni ?_; refine .mv ?_; refine EL.rew (d := 15) (v' := .bool true) rfl (congrArg Value.bool (by simp [he])) ?_; refine .ps ?_; refine .ps ?_; refine .ps ?_; refine .ps ?_; refine .ps ?_; refine .pt ?_
      exact .dx () ⟨rfl, rfl, rfl, getA rfl (congrArg Value.bool (by simp [he])), trivial⟩
  refine ES.cond rfl (fun hc => ?_) (fun hc => ?_)
  · rw [if_pos (by
      rcases Bool.or_eq_true_iff.1 hc with h1 | h1
      · exact .inl (by simpa using h1)
      · exact .inr (by simpa using h1))] at hrng
    rw [hrng]
    refine .go ?_; (repeat constructor); refine .lg ?_; refine .sa ?_; refine .go ?_; repeat constructor
    exact PX.ret rfl Tryz.results108 (.cons (.blkA rfl rfl rfl (by repeat constructor) rfl) .nil) (fun w hs => ⟨(), rfl, hs.ent (.nil _)⟩)
  rw [Bool.or_eq_false_iff] at hc
  have he0 : i.e = 0 := by simpa using hc.1
  have hda : dashM t i.at_ = true := by simpa using hc.2
  have hdl := dash_lt hda
  rw [if_neg (by rw [he0, hda]; simp)] at hrng
  refine .go ?_; (repeat constructor); refine .fa ?_; refine .lb ?_; refine .a1 ?_; refine .mv ?_; refine .lS ?_; refine .ei ?_; refine .go ?_; repeat constructor
  refine ES.condD rfl (fun hend => ?_) (fun hend => ?_)
  · rw [if_pos (by omega)] at hrng
    rw [hrng]
    refine .go ?_; (repeat constructor); refine EL.buildS (itCells ⟨zeroS, 0, false, 0, 6⟩).toArray rfl rfl rfl rfl rfl (by kernel_rfl) rfl ?_; refine .sa ?_; refine .go ?_; repeat constructor
    exact PX.ret rfl Tryz.results108 (.cons (.blkA rfl rfl rfl (by repeat constructor) rfl) .nil) (fun w hs => ⟨(), rfl, hs.ent (.nil _)⟩)
  rw [if_neg (by omega)] at hrng
  refine .go ?_; (repeat constructor); refine .fa ?_; refine .lb ?_; refine .nt ?_; refine .go ?_; repeat constructor
  refine ES.cond rfl (fun hs1 => ?_) (fun hs1 => ?_)
  · rw [if_pos (by simpa using hs1)] at hrng
    rw [hrng]
    refine .go ?_; (repeat constructor); refine EL.buildS (itCells ⟨zeroS, 0, false, 0, 7⟩).toArray rfl rfl rfl rfl rfl (by kernel_rfl) rfl ?_; refine .sa ?_; refine .go ?_; repeat constructor
    exact PX.ret rfl Tryz.results108 (.cons (.blkA rfl rfl rfl (by repeat constructor) rfl) .nil) (fun w hs => ⟨(), rfl, hs.ent (.nil _)⟩)
  rw [if_neg (by simpa using hs1)] at hrng
  have hjc := item3_c t (i.at_ + 1) (by omega) ht
  have hja := item3_at t (i.at_ + 1) (by omega)
  generalize item3 t (i.at_ + 1) = j at hjc hja hrng
  refine .go ?_; (repeat constructor); refine .mv ?_; refine .fa ?_; refine .lb ?_; refine .a1 ?_; refine EL.callP rfl rfl rfl ent122 rfl hjc ?_; (refine .al ?_; intro g6); refine .sa ?_; refine .go ?_; (repeat constructor); refine .fa ?_; refine .lb ?_; refine .ni ?_; refine .go ?_; repeat constructor
  refine ES.condN rfl (fun hne => ?_) (fun heq => ?_)
  · rw [if_pos hne] at hrng
    rw [hrng]
    refine .go ?_; (repeat constructor); refine .lg ?_; refine .sa ?_; refine .go ?_; repeat constructor
    exact PX.ret rfl Tryz.results108 (.cons (.blkA rfl rfl rfl (by repeat constructor) rfl) .nil) (fun w hs => ⟨(), rfl, hs.ent (.nil _)⟩)
  have heq : j.e = 0 := heq
  have hj2 := hja heq
  rw [if_neg (by simpa using heq)] at hrng
  refine .go ?_; repeat constructor
  refine EL.cutX (X := Unit) (fun _ => [(4, Pv g4 0), (5, Pv g5 0), (6, Pv g6 0), (58, .bool (decide (j.single = false ∨ j.b.toNat < i.b.toNat ∨ dashM t j.at_ = true)))]) (fun _ => [HA.blk g6 (.cells (itCells j).toArray 223), HA.blk g5 (.cells (itCells i).toArray 223), HA.blk g4 (.cells (itCells ⟨zeroS, 0, false, 0, 0⟩).toArray 223)]) ?_ (fun _ => ?_)
  · refine .go ?_; (repeat constructor); refine .fa ?_; refine .lb ?_; refine .nt ?_; refine .mv ?_
    first | refine EL.splitD (d := 46) rfl (fun hp46 => ?_) (fun hp46 => ?_) | refine EL.splitN (d := 46) rfl (fun hp46 => ?_) (fun hp46 => ?_) | refine EL.splitB (d := 46) rfl (fun hp46 => ?_) (fun hp46 => ?_)
    · refine .ps ?_; refine .ps ?_; refine .ps ?_; refine .ps ?_; refine .ps ?_; refine .pt ?_; refine .mv ?_; refine .ps ?_; refine .ps ?_; refine .ps ?_; refine .ps ?_; refine .pt ?_
      exact .dx () ⟨rfl, rfl, rfl, getA rfl (congrArg Value.bool (by rw [Bool.eq_iff_iff]; simp_all <;> omega)), trivial⟩
    · refine .fa ?_; refine .lb ?_; refine .fa ?_; refine .lb ?_; refine .ls ?_; refine .pf ?_; refine .mv ?_
      first | refine EL.splitD (d := 53) rfl (fun hp53 => ?_) (fun hp53 => ?_) | refine EL.splitN (d := 53) rfl (fun hp53 => ?_) (fun hp53 => ?_) | refine EL.splitB (d := 53) rfl (fun hp53 => ?_) (fun hp53 => ?_)
      · refine .ps ?_; refine .ps ?_; refine .ps ?_; refine .ps ?_; refine .pt ?_
        exact .dx () ⟨rfl, rfl, rfl, getA rfl (congrArg Value.bool (by rw [Bool.eq_iff_iff]; simp_all <;> omega)), trivial⟩
      · refine .mv ?_; refine .fa ?_; refine .lb ?_; refine EL.callP rfl rfl rfl ent123 rfl (dash3_c t j.at_ ht (by omega)) ?_; refine .pf ?_
        exact .dx () ⟨rfl, rfl, rfl, getA rfl (congrArg Value.bool (by rw [Bool.eq_iff_iff]; simp_all <;> omega)), trivial⟩
  refine ES.condD rfl (fun hb => ?_) (fun hb => ?_)
  · rw [if_pos hb] at hrng
    rw [hrng]
    refine .go ?_; (repeat constructor); refine EL.buildS (itCells ⟨zeroS, 0, false, 0, 7⟩).toArray rfl rfl rfl rfl rfl (by kernel_rfl) rfl ?_; refine .sa ?_; refine .go ?_; repeat constructor
    exact PX.ret rfl Tryz.results108 (.cons (.blkA rfl rfl rfl (by repeat constructor) rfl) .nil) (fun w hs => ⟨(), rfl, hs.ent (.nil _)⟩)
  rw [if_neg hb] at hrng
  rw [hrng]
  have hspc := rspan_c i.b j.b
  generalize spanM i.b j.b = q at hspc
  obtain ⟨q1, q2⟩ := q
  refine .go ?_; (repeat constructor); refine .fa ?_; refine .lb ?_; refine .fa ?_; refine .lb ?_; refine EL.callP rfl rfl rfl ent124 rfl hspc ?_; refine .mv ?_; refine .ex ?_; refine .ex ?_; (refine .al ?_; intro g7); refine .sa ?_; refine .as_ ?_; refine .go ?_; (repeat constructor); refine .lg ?_; refine .fa ?_; refine .lb ?_; refine EL.buildS (itCells ⟨q1, 0, false, j.at_, 0⟩).toArray rfl rfl rfl rfl rfl (by kernel_rfl) rfl ?_; refine .sa ?_; refine .go ?_; repeat constructor
  exact PX.ret rfl Tryz.results108 (.cons (.blkA rfl rfl rfl (by repeat constructor) rfl) .nil) (fun w hs => ⟨(), rfl, hs.ent (.nil _)⟩)
theorem brdoc_c (t : List UInt8) (a : Nat) (ht : t.length ≤ 1073741824) (ha : a ≤ 1073741824) (w : World) :
    Pure Tryz.prog 93 #[Sv t, Iv (a : Nat)] (fun _ : Unit => .tuple #[Bs (brackM t a).set, Iv ((brackM t a).at_ : Nat), Iv (brackM t a).e]) (fun _ => []) w := by
  refine calls_of_ES TB Tryz.func93 rfl _ Tryz.ntmps93 rfl (Sat.start w) ?_; refine .go ?_; (repeat constructor); (refine .al ?_; intro g4); refine .as_ ?_; refine .as_ ?_; refine .go ?_; (repeat constructor); (refine .al ?_; intro g7); refine .go ?_; repeat constructor
  refine EL.cutX (X := Unit) (fun _ => [(0, Sv t), (1, Iv (a : Nat)), (4, Pv g4 0), (7, Pv g7 0), (24, .bool (brBad t a))]) (fun _ => [SB g7 zeroS, SB g4 zeroS]) ?_ (fun _ => ?_)
  · refine .go ?_; (repeat constructor); refine .mv ?_; refine .ls ?_; refine .mv ?_; refine EL.rew (d := 13) (v' := .bool false) rfl (congrArg Value.bool (decide_eq_false (by omega))) ?_; refine .mv ?_; refine .mv ?_; refine .lS ?_; refine .gq ?_; refine .pf ?_; refine .mv ?_
    first | refine EL.splitD (d := 19) rfl (fun hp19 => ?_) (fun hp19 => ?_) | refine EL.splitN (d := 19) rfl (fun hp19 => ?_) (fun hp19 => ?_) | refine EL.splitB (d := 19) rfl (fun hp19 => ?_) (fun hp19 => ?_)
    · refine .ps ?_; refine .ps ?_; refine .ps ?_; refine .ps ?_; refine .pt ?_
      exact .dx () ⟨rfl, rfl, rfl, rfl, getA rfl (congrArg Value.bool (by unfold brBad; simp_all <;> omega)), trivial⟩
    · refine .mv ?_; refine .mv ?_; refine .iS ?_; refine .ni ?_; refine .pf ?_
      exact .dx () ⟨rfl, rfl, rfl, rfl, getA rfl (congrArg Value.bool (by unfold brBad; simp_all <;> omega)), trivial⟩
  refine ES.cond rfl (fun hbad => ?_) (fun hok => ?_)
  · have hm : brackM t a = ⟨zeroS, 0, 1⟩ := by unfold brackM; rw [if_pos hbad]
    rw [hm]
    refine .go ?_; (repeat constructor); refine .lg ?_; refine .sa ?_; refine .as_ ?_; refine .as_ ?_; refine .go ?_; repeat constructor
    exact PX.ret rfl Tryz.results93 (.cons (.blkA rfl rfl rfl (by repeat constructor) rfl) (.cons (.tmp rfl) (.cons (.tmp rfl) .nil))) (fun w hs => ⟨(), rfl, hs.ent (.i (by repeat constructor))⟩)
  have hok2 := brBad_false hok
  obtain ⟨nt, hnt⟩ : ∃ nt, nt = brNot t a := ⟨_, rfl⟩
  refine .go ?_; (repeat constructor); refine .mv ?_; refine .a1 ?_; refine .as_ ?_; refine .go ?_; repeat constructor
  refine EL.cutX (X := Unit) (fun _ => [(0, Sv t), (1, Iv ((a + 1 : Nat) : Int)), (4, Pv g4 0), (7, Pv g7 0), (8, .bool nt)]) (fun _ => [SB g7 zeroS, SB g4 zeroS]) ?_ (fun _ => ?_)
  · refine .go ?_; (repeat constructor); refine .mv ?_; refine .mv ?_; refine .lS ?_; refine .ls ?_; refine .mv ?_
    first | refine EL.splitD (d := 32) rfl (fun hp32 => ?_) (fun hp32 => ?_) | refine EL.splitN (d := 32) rfl (fun hp32 => ?_) (fun hp32 => ?_) | refine EL.splitB (d := 32) rfl (fun hp32 => ?_) (fun hp32 => ?_)
    · refine .mv ?_; refine .mv ?_; refine .iS ?_; refine .ei ?_; refine .pt ?_; refine .as_ ?_
      exact .dx () ⟨rfl, rfl, rfl, rfl, getA rfl (congrArg Value.bool (by rw [hnt]; unfold brNot; simp_all <;> omega)), trivial⟩
    · refine .ps ?_; refine .ps ?_; refine .ps ?_; refine .ps ?_; refine .pf ?_; refine .as_ ?_
      exact .dx () ⟨rfl, rfl, rfl, rfl, getA rfl (congrArg Value.bool (by rw [hnt]; unfold brNot; simp_all <;> omega)), trivial⟩
  refine .go ?_; (repeat constructor); refine .mv ?_; refine .go ?_; repeat constructor
  refine ES.cutC (X := Unit) (fun _ => [(0, Sv t), (1, Iv ((if nt = true then a + 2 else a + 1 : Nat) : Int)), (4, Pv g4 0), (7, Pv g7 0), (8, .bool nt)]) (fun _ => [SB g7 zeroS, SB g4 zeroS]) ?_ (fun _ => ?_)
  · refine ES.cond rfl (fun hn => ?_) (fun hn => ?_)
    · rw [if_pos hn]
      refine .go ?_; (repeat constructor); refine .mv ?_; refine .a1 ?_; refine .as_ ?_; refine .go ?_; repeat constructor
      exact .cy ()
    · rw [if_neg (by rw [hn]; decide)]
      refine .go ?_; repeat constructor
      exact .cy ()
  have hm : brackM t a = brOut nt (brFrom t (if nt = true then a + 2 else a + 1)) := by
    unfold brackM brOut
    rw [if_neg (by rw [hok]; decide), ← hnt]
    split <;> rfl
  rw [hm]
  have hfrom : (if nt = true then a + 2 else a + 1) ≤ t.length := by
    split
    · rename_i hn
      rw [hnt] at hn
      have := brNot_true hn
      omega
    · omega
  generalize (if nt = true then a + 2 else a + 1) = from_ at hfrom ⊢
  obtain ⟨res, hres⟩ : ∃ res, res = brFrom t from_ := ⟨_, rfl⟩
  rw [← hres]
  refine .go ?_; (repeat constructor); refine .as_ ?_; refine .go ?_; repeat constructor
  refine ES.loop (σ := Nat × Nat × BS × Nat) (fun (a, n, s, m) => n ≤ a ∧ a ≤ t.length ∧ t.length + 1 ≤ m + a ∧ brGo t m a (decide (n = 0)) s = res) (fun (a, n, s, m) => [(0, Sv t), (1, Iv (a : Nat)), (4, Pv g4 0), (7, Pv g7 0), (8, .bool nt), (9, Iv (n : Nat))])
    (fun (a, n, s, m) => [SB g7 s, SB g4 zeroS]) (fun (a, n, s, m) => t.length + 1 - a) (from_, 0, zeroS, t.length + 1 - from_) ⟨Nat.zero_le _, hfrom, by omega, hres.symm⟩ ⟨rfl, rfl, rfl, rfl, rfl, rfl, trivial⟩ (.i (by repeat constructor)) ?_
  rintro ⟨a, n, s, m⟩ ⟨hna, hale, hn, hgo⟩
  dsimp only at hna hale hn hgo ⊢
  obtain ⟨m, rfl⟩ : ∃ k, m = k + 1 := ⟨m - 1, by omega⟩
  refine .go ?_; (repeat constructor); refine .mv ?_; refine .mv ?_; refine .lS ?_; refine .gq ?_; refine .go ?_; repeat constructor
  refine ES.condD rfl (fun hge => ?_) (fun hlt => ?_)
  · rw [brGo, if_pos (by omega)] at hgo
    rw [← hgo, brOut_bad nt 6 (by decide)]
    refine .go ?_; (repeat constructor); refine EL.buildZA rfl rfl rfl rfl rfl ?_; refine .sa ?_; refine .as_ ?_; refine .as_ ?_; refine .go ?_; repeat constructor
    exact PX.ret rfl Tryz.results93 (.cons (.blkA rfl rfl rfl (by repeat constructor) rfl) (.cons (.tmp rfl) (.cons (.tmp rfl) .nil))) (fun w hs => ⟨(), rfl, hs.ent (.i (by repeat constructor))⟩)
  have hlt' : a < t.length := by omega
  rw [brGo, if_neg (by omega)] at hgo
  refine .go ?_; repeat constructor
  refine EL.cutX (X := Unit) (fun _ => [(0, Sv t), (1, Iv (a : Nat)), (4, Pv g4 0), (7, Pv g7 0), (8, .bool nt), (9, Iv (n : Nat)), (55, .bool (brEnd t a (decide (n = 0))))]) (fun _ => [SB g7 s, SB g4 zeroS]) ?_ (fun _ => ?_)
  · refine .go ?_; (repeat constructor); refine .mv ?_; refine .gt_ ?_; refine .mv ?_
    first | refine EL.splitD (d := 50) rfl (fun hp50 => ?_) (fun hp50 => ?_) | refine EL.splitN (d := 50) rfl (fun hp50 => ?_) (fun hp50 => ?_) | refine EL.splitB (d := 50) rfl (fun hp50 => ?_) (fun hp50 => ?_)
    · refine .mv ?_; refine .mv ?_; refine .iS ?_; refine .ei ?_; refine .pt ?_
      exact .dx () ⟨rfl, rfl, rfl, rfl, rfl, rfl, getA rfl (congrArg Value.bool (by unfold brEnd; rw [Bool.eq_iff_iff]; simp_all <;> omega)), trivial⟩
    · refine .ps ?_; refine .ps ?_; refine .ps ?_; refine .ps ?_; refine .pf ?_
      exact .dx () ⟨rfl, rfl, rfl, rfl, rfl, rfl, getA rfl (congrArg Value.bool (by unfold brEnd; rw [Bool.eq_iff_iff]; simp_all <;> omega)), trivial⟩
  refine ES.cond rfl (fun hend => ?_) (fun hnend => ?_)
  · rw [if_pos hend] at hgo
    rw [← hgo]
    refine .go ?_; (repeat constructor); refine .mv ?_; refine .go ?_; repeat constructor
    cases nt
    · refine ES.condF rfl ?_; refine .go ?_; (repeat constructor); refine .lg ?_; refine .mv ?_; refine .a1 ?_; refine .sa ?_; refine .as_ ?_; refine .as_ ?_; refine .go ?_; repeat constructor
      exact PX.ret rfl Tryz.results93 (.cons (.blkA rfl rfl rfl (by repeat constructor) rfl) (.cons (.tmp rfl) (.cons (.tmp rfl) .nil))) (fun w hs => ⟨(), rfl, hs.ent (.i (by repeat constructor))⟩)
    · refine ES.condT rfl ?_; refine .go ?_; (repeat constructor); refine .lg ?_; refine EL.callP rfl rfl rfl ent95 rfl (rnot_c s) ?_; refine .sa ?_; refine .go ?_; (repeat constructor); refine .lg ?_; refine .mv ?_; refine .a1 ?_; refine .sa ?_; refine .as_ ?_; refine .as_ ?_; refine .go ?_; repeat constructor
      exact PX.ret rfl Tryz.results93 (.cons (.blkA rfl rfl rfl (by repeat constructor) rfl) (.cons (.tmp rfl) (.cons (.tmp rfl) .nil))) (fun w hs => ⟨(), rfl, hs.ent (.i (by repeat constructor))⟩)
  · rw [if_neg (by rw [hnend]; decide)] at hgo
    obtain ⟨r1, r2⟩ := rng3_is t a hlt'
    have hsa := span_at t a hlt'
    have hrc := rng3_c t a hlt' ht
    rw [← r1] at hgo
    refine .go ?_; (repeat constructor); refine .mv ?_; refine .mv ?_; refine EL.callP rfl rfl rfl ent108 rfl hrc ?_; (refine .al ?_; intro g10); refine .sa ?_; refine .go ?_; (repeat constructor); refine .fa ?_; refine .lb ?_; refine .ni ?_; refine .go ?_; repeat constructor
    refine ES.condN rfl (fun hne => ?_) (fun heq => ?_)
    · rw [if_pos hne] at hgo
      rw [← hgo, brOut_bad nt _ hne]
      refine .g0 ?_; repeat constructor
      refine ES.draw (X := Unit) (fun _ => [(4, Pv g4 0), (5, Iv 0), (6, Iv (rng3 t a).e)]) (fun _ => [SB g4 zeroS]) [HA.blk g10 (.cells (itCells (rng3 t a)).toArray 223)] mixed (.i (by repeat constructor)) ?_ (fun _ => ?_)
      · refine .tk 1 rfl (RV.fieldAddr rfl rfl rfl rfl rfl rfl) ?_; refine .tk 2 rfl (RV.loadB rfl rfl rfl (by repeat constructor) rfl) ?_; refine .ld 0 ?_; refine EL.buildZA rfl rfl rfl rfl rfl ?_; refine .nx ?_; refine .ld 3 ?_; refine .sa ?_; refine .nx ?_; refine .tk 4 rfl (RV.assign rfl) ?_; refine .tk 5 rfl (RV.assign rfl) ?_; refine .dn ?_
        exact .cy ()
      refine .go ?_; repeat constructor
      exact PX.ret rfl Tryz.results93 (.cons (.blkA rfl rfl rfl (by repeat constructor) rfl) (.cons (.tmp rfl) (.cons (.tmp rfl) .nil))) (fun w hs => ⟨(), rfl, hs.ent (.i (by repeat constructor))⟩)
    · have heq : (rng3 t a).e = 0 := heq
      have he2 : (spanT t a).e = 0 := by rw [← r1]; exact heq
      obtain ⟨q1, q2⟩ := r2 he2
      have q3 := hsa.2.2 he2
      rw [if_neg (by simpa using heq), ← q1, ← q2] at hgo
      rw [← q2] at q3 hsa
      generalize rng3 t a = i at *
      refine .go ?_; (repeat constructor); refine .lg ?_; refine .fa ?_
      refine EL.ofRV (RV.loadBA [Wv i.set.a, Wv i.set.b, Wv i.set.c, Wv i.set.d] rfl rfl rfl rfl (by repeat constructor) rfl) rfl rfl rfl (by intro c h; cases h) ?_
      refine EL.callP rfl rfl rfl ent109 rfl (ror_c s i.set) ?_; refine .sa ?_; refine .go ?_; (repeat constructor); refine .fa ?_; refine .lb ?_; refine .as_ ?_; refine .go ?_; (repeat constructor); refine .go ?_; (repeat constructor); refine .mv ?_; refine .a1 ?_; refine .as_ ?_; refine .go ?_; repeat constructor
      refine .ly (i.at_, n + 1, orS s i.set, m) ⟨by simp only; omega, hsa.2.1, by simp only; omega, by simp only; rw [decide_eq_false (by omega)]; exact hgo⟩ (by simp only; omega)
end Go.Proofs.YthcbjbkheodejaaGreat
namespace Go.Proofs.YthcbjbkheodejaaGreat
open Go Go.RowKit Sl
set_option maxRecDepth 100000
set_option maxHeartbeats 8000000
attribute [local irreducible] ES EL PX wps
mutual
def posR : RE → Nat
  | .cat ks => posL ks
  | .byte _ => 1
  | .bol => 0
  | .eol => 0
  | .group _ k => posR k
  | .rep lo hi k => posR k * timesM lo hi
  | .back _ => 1
def posL : List RE → Nat
  | [] => 0
  | k :: ks => posR k + posL ks
end
theorem posL_sum : ∀ ks : List RE, posL ks = (ks.map posR).sum
  | [] => rfl
  | k :: ks => by rw [posL, posL_sum ks, List.map_cons, List.sum_cons]
theorem posR_cat (ks : List RE) : posR (.cat ks) = (ks.map posR).sum := by rw [posR, posL_sum]
structure DR where
  at_ : Nat
  e : Int
  place : Nat
  groups : Nat
  closed : List Bool
  size : Int
def DR.fail (r : DR) (e : Int) (a : Nat) : DR := if r.e = 0 then { r with e := e, place := a } else r
def DR.grown (r : DR) (n : Int) (a : Nat) : DR := if 256 < r.size + n then DR.fail { r with size := r.size + n } 13 a else { r with size := r.size + n }
def DR.to (r : DR) (a : Nat) : DR := { r with at_ := a }
def see2 (t : List UInt8) (a : Nat) (x y : UInt8) : Bool := decide (a + 2 ≤ t.length) && decide ((t.drop a).take 2 = [x, y])
def dEsc (t : List UInt8) (r : DR) : RE × DR :=
  if r.at_ + 1 = t.length then (.cat [], r.fail 6 r.at_)
  else
    let b := t.getD (r.at_ + 1) 0
    let r1 := r.to (r.at_ + 2)
    if b.toNat = 110 then (.byte (ofS [10]), r1.grown 1 r.at_)
    else if 49 ≤ b.toNat ∧ b.toNat ≤ 57 then (.back (b.toNat - 48), (if r1.closed.getD (b.toNat - 48) false = true then r1 else r1.fail 11 r.at_).grown 1 r.at_)
    else if isAln b = true then (.byte (ofS [b]), (r1.fail 12 r.at_).grown 1 r.at_)
    else (.byte (ofS [b]), r1.grown 1 r.at_)
def dLeaf (t : List UInt8) (r : DR) (first : Bool) : RE × DR :=
  let b := t.getD r.at_ 0
  if see2 t r.at_ 92 123 = true ∨ see2 t r.at_ 92 125 = true then (.cat [], r.fail 9 r.at_)
  else if b.toNat = 92 then dEsc t r
  else if b.toNat = 91 then (if (brackM t r.at_).e ≠ 0 then (.cat [], r.fail (brackM t r.at_).e r.at_) else (.byte (brackM t r.at_).set, (r.to (brackM t r.at_).at_).grown 1 r.at_))
  else if b.toNat = 94 ∧ first = true then (.bol, r.to (r.at_ + 1))
  else if b.toNat = 36 ∧ (r.at_ + 1 = t.length ∨ see2 t (r.at_ + 1) 92 41 = true) then (.eol, r.to (r.at_ + 1))
  else if b.toNat = 46 then (.byte (notS zeroS), (r.to (r.at_ + 1)).grown 1 r.at_)
  else (.byte (ofS [b]), (r.to (r.at_ + 1)).grown 1 r.at_)
def ivA (t : List UInt8) (a : Nat) : Nat := (if (numM t a).2 < t.length ∧ t.getD (numM t a).2 0 = 44 then numM t ((numM t a).2 + 1) else numM t a).2
def dReps (t : List UInt8) : Nat → RE → DR → RE × DR
  | 0, p, r => (p, r)
  | n + 1, p, r =>
    if r.e ≠ 0 then (p, r)
    else if decide (r.at_ < t.length) && decide ((t.getD r.at_ 0).toNat = 42) then dReps t n (.rep 0 (-1) p) ((r.to (r.at_ + 1)).grown ((posR (.rep 0 (-1) p) : Int) - posR p) r.at_)
    else if see2 t r.at_ 92 123 = true then
      match ivM t (r.at_ + 2) with
      | none => (p, (r.to (ivA t (r.at_ + 2))).fail 9 r.at_)
      | some (lo, hi, a) => dReps t n (.rep lo hi p) ((r.to a).grown ((posR (.rep lo hi p) : Int) - posR p) r.at_)
    else (p, r)
def isAnch : RE → Bool
  | .bol => true
  | .eol => true
  | _ => false
def dRow (t : List UInt8) : Nat → Bool → Nat → List RE → DR → RE × DR
  | 0, _, _, ks, r => (.cat ks, r)
  | n + 1, in_, op, ks, r =>
    if r.e ≠ 0 then (.cat ks, r)
    else if r.at_ = t.length then (.cat ks, if in_ = true then r.fail 10 op else r)
    else if see2 t r.at_ 92 41 = true then (.cat ks, (if in_ = true then r else r.fail 10 r.at_).to (r.at_ + 2))
    else
      let x : RE × DR :=
        if see2 t r.at_ 92 40 = true then
          (if r.groups = 9 then (.cat [], r.fail 4 r.at_)
          else
            let y := dRow t n true r.at_ [] { r with groups := r.groups + 1, at_ := r.at_ + 2 }
            (.group (r.groups + 1) y.1, { y.2 with closed := y.2.closed.set (r.groups + 1) true }))
        else dLeaf t r (decide (ks = []))
      let z := if isAnch x.1 = true then x else dReps t t.length x.1 x.2
      dRow t n in_ op (ks ++ [z.1]) z.2
def dr0 : DR := ⟨0, 0, 0, 0, List.replicate 10 false, 0⟩
def docM (t : List UInt8) : Parsed :=
  if 512 < t.length then ⟨.cat [], 2, 0⟩
  else
    let x := dRow t (t.length + 1) false 0 [] dr0
    if x.2.e ≠ 0 then ⟨.cat [], x.2.e, x.2.place⟩ else ⟨x.1, 0, 0⟩
structure DRel (ks : List RE) (r : DR) (P : PS) : Prop where
  kids : P.top.kids = ks
  sizes : P.top.sizes = ks.map posR
  groups : P.groups = r.groups
  shut : P.shut = r.closed
  size : (P.size : Int) = r.size
  tot : P.top.sizes.sum + (P.rest.map Frame.tot).sum ≤ P.size
  e : r.e = 0
theorem fail_ok {r : DR} (h : r.e = 0) (e : Int) (a : Nat) : r.fail e a = { r with e := e, place := a } := if_pos h
theorem grown_two {r : DR} (h : r.e = 0) (n : Int) (a : Nat) : (growE (r.size + n).toNat = 0 ∧ r.grown n a = { r with size := r.size + n }) ∨ (growE (r.size + n).toNat = 13 ∧ r.grown n a = { r with size := r.size + n, e := 13, place := a }) := by
  unfold DR.grown growE
  by_cases hb : 256 < r.size + n
  · right
    rw [if_pos hb, if_pos (by omega)]
    exact ⟨rfl, fail_ok (r := { r with size := r.size + n }) h 13 a⟩
  · left
    rw [if_neg hb, if_neg (by omega)]
    exact ⟨rfl, rfl⟩
end Go.Proofs.YthcbjbkheodejaaGreat
namespace Go.Proofs.YthcbjbkheodejaaGreat
open Go Go.RowKit Sl
set_option maxRecDepth 100000
set_option maxHeartbeats 8000000
attribute [local irreducible] ES EL PX wps
theorem take2 {t : List UInt8} {a : Nat} (h : a + 2 ≤ t.length) : (t.drop a).take 2 = [t.getD a 0, t.getD (a + 1) 0] := by
  rw [List.drop_eq_getElem_cons (show a < t.length by omega), List.drop_eq_getElem_cons (show a + 1 < t.length by omega)]
  rw [List.take_succ_cons, List.take_succ_cons, List.take_zero, List.getD_eq_getElem?_getD, List.getElem?_eq_getElem (show a < t.length by omega), List.getD_eq_getElem?_getD, List.getElem?_eq_getElem (show a + 1 < t.length by omega)]
  rfl
theorem see2_iff (t : List UInt8) (a : Nat) (x y : UInt8) : see2 t a x y = true ↔ a + 2 ≤ t.length ∧ t.getD a 0 = x ∧ t.getD (a + 1) 0 = y := by
  unfold see2
  rw [Bool.and_eq_true, decide_eq_true_eq, decide_eq_true_eq]
  constructor
  · rintro ⟨h1, h2⟩
    rw [take2 h1] at h2
    simp only [List.cons.injEq, and_true] at h2
    exact ⟨h1, h2⟩
  · rintro ⟨h1, h2⟩
    rw [take2 h1, h2.1, h2.2]
    exact ⟨h1, rfl⟩
def pg (t : List UInt8) (m a : Nat) (f b : Bool) (P : PS) : Parsed := parseGo (toksGo t m a f b) P
theorem pg_end {t : List UInt8} {a : Nat} (h : t.length ≤ a) (m : Nat) (f b : Bool) (P : PS) : pg t m a f b P = endM P := by
  cases m with
  | zero => rfl
  | succ m => unfold pg; rw [toksGo, if_pos h]; rfl
theorem pg_bad {t : List UInt8} {m a a' : Nat} {f b : Bool} {e : Int} (h : a < t.length) (hk : readT t a f b = (badT a e, a')) (he : e ≠ 0) (P : PS) : pg t (m + 1) a f b P = ⟨.cat [], e, a⟩ := by
  unfold pg
  rw [toksGo, if_neg (by omega), hk]
  dsimp only
  rw [if_pos (show (badT a e).kind = 7 from rfl), parseGo, takeM_7 (show 7 ≤ (badT a e).kind from Nat.le_refl 7), if_pos (show (badT a e).e ≠ 0 from he)]
  rfl
theorem pg_tok {t : List UInt8} {m a a' : Nat} {f b : Bool} {k : Tok} (h : a < t.length) (hk : readT t a f b = (k, a')) (h7 : k.kind ≠ 7) (P : PS) :
    pg t (m + 1) a f b P = if (takeM P k).2 ≠ 0 then ⟨.cat [], (takeM P k).2, k.at_⟩ else pg t m a' (decide (k.kind = 3)) (decide (k.kind = 3) || decide (k.kind = 1)) (takeM P k).1 := by
  unfold pg
  rw [toksGo, if_neg (by omega), hk]
  dsimp only
  rw [if_neg h7, parseGo]
def isBol : RE → Bool
  | .bol => true
  | _ => false
def Aft (t : List UInt8) (m a : Nat) (f b : Bool) (P : PS) (ks : List RE) (x : RE × DR) : Prop :=
  (x.2.e ≠ 0 ∧ pg t m a f b P = ⟨.cat [], x.2.e, x.2.place⟩) ∨
  (x.2.e = 0 ∧ ∃ m' P', DRel (ks ++ [x.1]) x.2 P' ∧ P'.rest = P.rest ∧ P'.top.group = P.top.group ∧ P'.top.at_ = P.top.at_ ∧ t.length ≤ m' + x.2.at_ ∧ a < x.2.at_ ∧ x.2.at_ ≤ t.length ∧ pg t m a f b P = pg t m' x.2.at_ false (isBol x.1) P')
theorem put_rel {ks : List RE} {r : DR} {P : PS} (h : DRel ks r P) (p : RE) (n a : Nat) (hn : n = posR p) : DRel (ks ++ [p]) { r.to a with size := r.size + n } { P with top := P.top.put p n, size := P.size + n } := by
  refine ⟨?_, ?_, h.groups, h.shut, ?_, ?_, h.e⟩
  · show P.top.kids ++ [p] = _
    rw [h.kids]
  · show P.top.sizes ++ [n] = _
    rw [h.sizes, List.map_append, hn]
    rfl
  · show ((P.size + n : Nat) : Int) = r.size + n
    have := h.size
    omega
  · show (P.top.sizes ++ [n]).sum + (P.rest.map Frame.tot).sum ≤ P.size + n
    have := h.tot
    rw [List.sum_append, List.sum_singleton]
    omega
theorem leaf_one {t : List UInt8} {m a a' : Nat} {f b : Bool} {k : Tok} {ks : List RE} {r : DR} {P : PS} {p : RE} (h : DRel ks r P) (ha : r.at_ = a) (hlt : a < t.length) (hm : t.length ≤ m + a) (hk : readT t a f b = (k, a')) (hat : k.at_ = a) (h7 : k.kind ≠ 7) (h3 : k.kind ≠ 3) (h1 : k.kind ≠ 1)
    (hp : posR p = 1) (hb : isBol p = false) (ht : takeM P k = ({ P with top := P.top.put p 1, size := P.size + 1 }, growE (P.size + 1))) : Aft t m a f b P ks (p, (r.to a').grown 1 a) := by
  obtain ⟨m, rfl⟩ : ∃ n, m = n + 1 := ⟨m - 1, by omega⟩
  have hn := readT_at t a f b hlt (by rw [hk]; exact h7)
  rw [hk] at hn
  have hs : (r.size + 1).toNat = P.size + 1 := by have := h.size; omega
  have he : (r.to a').e = 0 := h.e
  rcases grown_two he 1 a with ⟨g1, g2⟩ | ⟨g1, g2⟩
  · right
    have g1' : growE (P.size + 1) = 0 := by rw [← hs]; exact g1
    rw [g2]
    refine ⟨h.e, m, { P with top := P.top.put p 1, size := P.size + 1 }, put_rel h p 1 a' hp.symm, rfl, rfl, rfl, by show t.length ≤ m + a'; omega, hn.1, hn.2, ?_⟩
    rw [pg_tok hlt hk h7 P, ht, g1', if_neg (by simp), decide_eq_false h3, decide_eq_false h1]
    show _ = pg t m a' false (isBol p) _
    rw [hb]
    rfl
  · left
    have g1' : growE (P.size + 1) = 13 := by rw [← hs]; exact g1
    rw [g2]
    refine ⟨by simp, ?_⟩
    rw [pg_tok hlt hk h7 P, ht, g1', if_pos (by simp), hat]
theorem bad_aft {t : List UInt8} {m a a' : Nat} {f b : Bool} {e : Int} {ks : List RE} {r : DR} {P : PS} {p : RE} (h : DRel ks r P) (hlt : a < t.length) (hm : t.length ≤ m + a) (hk : readT t a f b = (badT a e, a')) (he : e ≠ 0) : Aft t m a f b P ks (p, r.fail e a) := by
  obtain ⟨m, rfl⟩ : ∃ n, m = n + 1 := ⟨m - 1, by omega⟩
  left
  rw [fail_ok h.e]
  exact ⟨he, pg_bad hlt hk he P⟩
theorem to_fail {r : DR} (h : r.e = 0) (a' : Nat) (e : Int) (a : Nat) : ((r.to a').fail e a) = { r.to a' with e := e, place := a } := fail_ok (r := r.to a') h e a
theorem grown_bad {r : DR} (h : r.e ≠ 0) (n : Int) (a : Nat) : r.grown n a = { r with size := r.size + n } := by
  unfold DR.grown
  split
  · exact if_neg h
  · rfl
theorem esc_aft {t : List UInt8} {m a : Nat} {f b : Bool} {ks : List RE} {r : DR} {P : PS} (h : DRel ks r P) (ha : r.at_ = a) (hlt : a < t.length) (hm : t.length ≤ m + a) (hb : (t.getD a 0).toNat = 92)
    (hsh : see2 t a 92 41 = false) (hop : see2 t a 92 40 = false) (hiv : see2 t a 92 123 = false) (hiw : see2 t a 92 125 = false) : Aft t m a f b P ks (dEsc t r) := by
  have hr : readT t a f b = escT t a b := by unfold readT; rw [if_pos hb]
  have hb' : t.getD a 0 = 92 := UInt8.toNat_inj.1 hb
  unfold dEsc
  rw [ha]
  by_cases hl : a + 1 = t.length
  · rw [if_pos hl]
    exact bad_aft h hlt hm (by rw [hr, escT, if_pos hl]) (by decide)
  have hno : ∀ y : UInt8, see2 t a 92 y = false → (t.getD (a + 1) 0).toNat ≠ y.toNat := fun y hy e => by
    have := (see2_iff t a 92 y).2 ⟨by omega, hb', UInt8.toNat_inj.1 e⟩
    rw [hy] at this
    cases this
  have n1 : (t.getD (a + 1) 0).toNat ≠ 40 := hno 40 hop
  have n2 : (t.getD (a + 1) 0).toNat ≠ 41 := hno 41 hsh
  have n3 : (t.getD (a + 1) 0).toNat ≠ 123 := hno 123 hiv
  have n4 : (t.getD (a + 1) 0).toNat ≠ 125 := hno 125 hiw
  rw [if_neg hl]
  dsimp only
  by_cases c1 : (t.getD (a + 1) 0).toNat = 110
  · rw [if_pos c1]
    exact leaf_one h ha hlt hm (k := oneT a 10) (a' := a + 2) (by rw [hr, escT, if_neg hl]; dsimp only; rw [if_neg n1, if_neg n2, if_neg n3, if_neg n4, if_pos c1]) rfl (show (0 : Nat) ≠ 7 by decide) (show (0 : Nat) ≠ 3 by decide) (show (0 : Nat) ≠ 1 by decide) rfl rfl (takeM_0 rfl)
  · rw [if_neg c1]
    by_cases c2 : 49 ≤ (t.getD (a + 1) 0).toNat ∧ (t.getD (a + 1) 0).toNat ≤ 57
    · rw [if_pos c2]
      have hk : readT t a f b = (⟨6, a, zeroS, (((t.getD (a + 1) 0).toNat - 48 : Nat) : Int), 0, 0⟩, a + 2) := by rw [hr, escT, if_neg hl]; dsimp only; rw [if_neg n1, if_neg n2, if_neg n3, if_neg n4, if_neg c1, if_pos c2]
      by_cases hc : r.closed.getD ((t.getD (a + 1) 0).toNat - 48) false = true
      · have hc' : (r.to (a + 2)).closed.getD ((t.getD (a + 1) 0).toNat - 48) false = true := hc
        rw [if_pos hc']
        exact leaf_one h ha hlt hm hk rfl (show (6 : Nat) ≠ 7 by decide) (show (6 : Nat) ≠ 3 by decide) (show (6 : Nat) ≠ 1 by decide) rfl rfl (by
          rw [takeM_6 rfl]
          have : P.shut.getD ((((t.getD (a + 1) 0).toNat - 48 : Nat) : Int)).toNat false = true := by rw [h.shut]; exact hc
          rw [if_pos this]
          rfl)
      · have hc' : ¬ (r.to (a + 2)).closed.getD ((t.getD (a + 1) 0).toNat - 48) false = true := hc
        rw [if_neg hc', to_fail h.e, grown_bad (by simp)]
        obtain ⟨m, rfl⟩ : ∃ n, m = n + 1 := ⟨m - 1, by omega⟩
        left
        refine ⟨by simp, ?_⟩
        rw [pg_tok hlt hk (show (6 : Nat) ≠ 7 by decide) P, takeM_6 rfl]
        have : ¬ P.shut.getD ((((t.getD (a + 1) 0).toNat - 48 : Nat) : Int)).toNat false = true := by rw [h.shut]; exact hc
        rw [if_neg this, if_pos (by simp)]
    · rw [if_neg c2]
      by_cases c3 : isAln (t.getD (a + 1) 0) = true
      · rw [if_pos c3, to_fail h.e, grown_bad (by simp)]
        obtain ⟨m, rfl⟩ : ∃ n, m = n + 1 := ⟨m - 1, by omega⟩
        left
        refine ⟨by simp, ?_⟩
        exact pg_bad hlt (e := 12) (by rw [hr, escT, if_neg hl]; dsimp only; rw [if_neg n1, if_neg n2, if_neg n3, if_neg n4, if_neg c1, if_neg c2, if_pos c3]) (by decide) P
      · rw [if_neg c3]
        exact leaf_one h ha hlt hm (k := oneT a (t.getD (a + 1) 0)) (a' := a + 2) (by rw [hr, escT, if_neg hl]; dsimp only; rw [if_neg n1, if_neg n2, if_neg n3, if_neg n4, if_neg c1, if_neg c2, if_neg c3]) rfl (show (0 : Nat) ≠ 7 by decide) (show (0 : Nat) ≠ 3 by decide) (show (0 : Nat) ≠ 1 by decide) rfl rfl (takeM_0 rfl)
theorem leaf_anchor {t : List UInt8} {m a : Nat} {f b : Bool} {k : Tok} {ks : List RE} {r : DR} {P : PS} {p : RE} (h : DRel ks r P) (hlt : a < t.length) (hm : t.length ≤ m + a) (hk : readT t a f b = (k, a + 1)) (h7 : k.kind ≠ 7) (h3 : k.kind ≠ 3) (h1 : decide (k.kind = 1) = isBol p)
    (hp : posR p = 0) (ht : takeM P k = ({ P with top := P.top.put p 0 }, 0)) : Aft t m a f b P ks (p, r.to (a + 1)) := by
  obtain ⟨m, rfl⟩ : ∃ n, m = n + 1 := ⟨m - 1, by omega⟩
  right
  have hq := put_rel h p 0 (a + 1) hp.symm
  have e1 : { r.to (a + 1) with size := r.size + ((0 : Nat) : Int) } = r.to (a + 1) := by
    rw [show r.size + ((0 : Nat) : Int) = r.size by omega]
    rfl
  rw [e1] at hq
  refine ⟨h.e, m, { P with top := P.top.put p 0 }, hq, rfl, rfl, rfl, by show t.length ≤ m + (a + 1); omega, Nat.lt_succ_self a, hlt, ?_⟩
  rw [pg_tok hlt hk h7 P, ht, if_neg (by simp), decide_eq_false h3, h1]
  rfl
theorem leaf_aft {t : List UInt8} {m a : Nat} {b : Bool} {ks : List RE} {r : DR} {P : PS} (h : DRel ks r P) (ha : r.at_ = a) (hlt : a < t.length) (hm : t.length ≤ m + a)
    (hsh : see2 t a 92 41 = false) (hop : see2 t a 92 40 = false) (hbg : b = false → (t.getD a 0).toNat ≠ 42 ∧ see2 t a 92 123 = false) : Aft t m a (decide (ks = [])) b P ks (dLeaf t r (decide (ks = []))) := by
  unfold dLeaf
  rw [ha]
  dsimp only
  have hq : ∀ y : UInt8, see2 t a 92 y = true → a + 2 ≤ t.length ∧ (t.getD a 0).toNat = 92 ∧ (t.getD (a + 1) 0).toNat = y.toNat := fun y hy => by
    obtain ⟨h1, h2, h3⟩ := (see2_iff t a 92 y).1 hy
    rw [h2, h3]
    exact ⟨h1, rfl, rfl⟩
  by_cases c0 : see2 t a 92 123 = true ∨ see2 t a 92 125 = true
  · rw [if_pos c0]
    refine bad_aft h hlt hm (a' := a) ?_ (by decide)
    rcases c0 with c | c
    · obtain ⟨h1, h2, h3⟩ := hq 123 c
      have h3' : (t.getD (a + 1) 0).toNat = 123 := h3
      have hbt : b = true := by
        cases b with
        | true => rfl
        | false => rw [(hbg rfl).2] at c; cases c
      unfold readT escT
      rw [if_pos h2, if_neg (by omega)]
      dsimp only
      rw [if_neg (by omega), if_neg (by omega), if_pos h3', hbt]
      cases ivM t (a + 2) with
      | none => rfl
      | some x => rfl
    · obtain ⟨h1, h2, h3⟩ := hq 125 c
      have h3' : (t.getD (a + 1) 0).toNat = 125 := h3
      unfold readT escT
      rw [if_pos h2, if_neg (by omega)]
      dsimp only
      rw [if_neg (by omega), if_neg (by omega), if_neg (by omega), if_pos h3']
  rw [if_neg c0]
  have c1 : see2 t a 92 123 = false := by cases hx : see2 t a 92 123 with | false => rfl | true => exact absurd (.inl hx) c0
  have c2 : see2 t a 92 125 = false := by cases hx : see2 t a 92 125 with | false => rfl | true => exact absurd (.inr hx) c0
  by_cases h92 : (t.getD a 0).toNat = 92
  · rw [if_pos h92]
    exact esc_aft h ha hlt hm h92 hsh hop c1 c2
  rw [if_neg h92]
  by_cases h91 : (t.getD a 0).toNat = 91
  · rw [if_pos h91]
    by_cases he : (brackM t a).e ≠ 0
    · rw [if_pos he]
      exact bad_aft h hlt hm (a' := a) (by unfold readT; rw [if_neg h92, if_pos h91, if_pos he]) he
    · rw [if_neg he]
      exact leaf_one h ha hlt hm (k := byteT a (brackM t a).set) (by unfold readT; rw [if_neg h92, if_pos h91, if_neg he]) rfl (show (0 : Nat) ≠ 7 by decide) (show (0 : Nat) ≠ 3 by decide) (show (0 : Nat) ≠ 1 by decide) rfl rfl (takeM_0 rfl)
  rw [if_neg h91]
  by_cases h94 : (t.getD a 0).toNat = 94 ∧ decide (ks = []) = true
  · rw [if_pos h94]
    exact leaf_anchor h hlt hm (k := ⟨1, a, zeroS, 0, 0, 0⟩) (by unfold readT; rw [if_neg h92, if_neg h91, if_neg (by omega), if_neg (fun x => by omega), if_pos h94]) (show (1 : Nat) ≠ 7 by decide) (show (1 : Nat) ≠ 3 by decide) rfl rfl (takeM_1 rfl)
  rw [if_neg h94]
  have heol : eolM t a = true ↔ (a + 1 = t.length ∨ see2 t (a + 1) 92 41 = true) := by
    unfold eolM see2
    simp only [Bool.or_eq_true, Bool.and_eq_true, decide_eq_true_eq]
    constructor
    · rintro (h | h)
      · exact .inl h
      · exact .inr ⟨by omega, h.2⟩
    · rintro (h | h)
      · exact .inl h
      · exact .inr ⟨by omega, h.2⟩
  by_cases h36 : (t.getD a 0).toNat = 36 ∧ (a + 1 = t.length ∨ see2 t (a + 1) 92 41 = true)
  · rw [if_pos h36]
    exact leaf_anchor h hlt hm (k := ⟨2, a, zeroS, 0, 0, 0⟩) (by unfold readT; rw [if_neg h92, if_neg h91, if_neg (by omega), if_neg (fun x => by omega), if_neg (fun x => by omega), if_pos ⟨h36.1, heol.2 h36.2⟩]) (show (2 : Nat) ≠ 7 by decide) (show (2 : Nat) ≠ 3 by decide) rfl rfl (takeM_2 rfl)
  rw [if_neg h36]
  by_cases h46 : (t.getD a 0).toNat = 46
  · rw [if_pos h46]
    exact leaf_one h ha hlt hm (k := byteT a (notS zeroS)) (a' := a + 1) (by unfold readT; rw [if_neg h92, if_neg h91, if_pos h46]) rfl (show (0 : Nat) ≠ 7 by decide) (show (0 : Nat) ≠ 3 by decide) (show (0 : Nat) ≠ 1 by decide) rfl rfl (takeM_0 rfl)
  rw [if_neg h46]
  have hstar : ¬ ((t.getD a 0).toNat = 42 ∧ b = false) := fun x => (hbg x.2).1 x.1
  exact leaf_one h ha hlt hm (k := oneT a (t.getD a 0)) (a' := a + 1) (by unfold readT; rw [if_neg h92, if_neg h91, if_neg h46, if_neg hstar, if_neg h94, if_neg (fun x => h36 ⟨x.1, heol.1 x.2⟩)]) rfl (show (0 : Nat) ≠ 7 by decide) (show (0 : Nat) ≠ 3 by decide) (show (0 : Nat) ≠ 1 by decide) rfl rfl (takeM_0 rfl)
theorem reps_bad (t : List UInt8) (n : Nat) (p : RE) {r : DR} (h : r.e ≠ 0) : dReps t n p r = (p, r) := by
  cases n with
  | zero => rfl
  | succ n => rw [dReps, if_pos h]
theorem row_bad (t : List UInt8) (n : Nat) (i : Bool) (op : Nat) (ks : List RE) {r : DR} (h : r.e ≠ 0) : dRow t n i op ks r = (.cat ks, r) := by
  cases n with
  | zero => rfl
  | succ n => rw [dRow, if_pos h]
structure NoRep (t : List UInt8) (a : Nat) : Prop where
  star : a < t.length → (t.getD a 0).toNat ≠ 42
  iv : see2 t a 92 123 = false
def repS (P : PS) (lo : Nat) (hi : Int) : PS :=
  { P with top := { P.top with kids := P.top.kids.dropLast ++ [.rep lo hi (P.top.kids.getLastD .bol)], sizes := P.top.sizes.dropLast ++ [P.top.sizes.getLastD 0 * timesM lo hi] }, size := P.size - P.top.sizes.getLastD 0 + P.top.sizes.getLastD 0 * timesM lo hi }
theorem rep_rel {ks : List RE} {p : RE} {r : DR} {P : PS} (h : DRel (ks ++ [p]) r P) (lo : Nat) (hi : Int) (a : Nat) :
    DRel (ks ++ [.rep lo hi p]) { r.to a with size := r.size + ((posR (.rep lo hi p) : Int) - posR p) } (repS P lo hi) ∧ ((repS P lo hi).size : Int) = r.size + ((posR (.rep lo hi p) : Int) - posR p) := by
  have hl : P.top.sizes.getLastD 0 = posR p := by rw [h.sizes, List.map_append]; simp
  have hk : P.top.kids.getLastD .bol = p := by rw [h.kids]; simp
  have ht := h.tot
  rw [h.sizes, List.map_append, List.sum_append] at ht
  simp only [List.map_cons, List.map_nil, List.sum_singleton] at ht
  have hs := h.size
  have hsz : ((repS P lo hi).size : Int) = r.size + ((posR (.rep lo hi p) : Int) - posR p) := by
    show ((P.size - P.top.sizes.getLastD 0 + P.top.sizes.getLastD 0 * timesM lo hi : Nat) : Int) = _
    rw [hl, posR]
    omega
  refine ⟨⟨?_, ?_, h.groups, h.shut, hsz, ?_, h.e⟩, hsz⟩
  · show P.top.kids.dropLast ++ [_] = _
    rw [hk, h.kids]
    simp
  · show P.top.sizes.dropLast ++ [_] = _
    rw [hl, h.sizes, List.map_append, List.map_append]
    simp [posR]
  · show (P.top.sizes.dropLast ++ [P.top.sizes.getLastD 0 * timesM lo hi]).sum + (P.rest.map Frame.tot).sum ≤ P.size - P.top.sizes.getLastD 0 + P.top.sizes.getLastD 0 * timesM lo hi
    rw [hl, List.sum_append, List.sum_singleton, h.sizes, List.map_append]
    simp only [List.map_cons, List.map_nil, List.dropLast_concat]
    omega
def Beh (t : List UInt8) (m a : Nat) (f b : Bool) (P : PS) (ks : List RE) (x : RE × DR) : Prop :=
  (x.2.e ≠ 0 ∧ pg t m a f b P = ⟨.cat [], x.2.e, x.2.place⟩) ∨
  (x.2.e = 0 ∧ ∃ m' P', DRel (ks ++ [x.1]) x.2 P' ∧ P'.rest = P.rest ∧ P'.top.group = P.top.group ∧ P'.top.at_ = P.top.at_ ∧ t.length ≤ m' + x.2.at_ ∧ a ≤ x.2.at_ ∧ x.2.at_ ≤ t.length ∧ NoRep t x.2.at_ ∧ pg t m a f b P = pg t m' x.2.at_ false false P')
theorem reps_one {t : List UInt8} {m a a' lo : Nat} {hi : Int} {ks : List RE} {p : RE} {r : DR} {P : PS} (n : Nat) (ih : ∀ (p : RE) (r : DR) (P : PS) (m : Nat), DRel (ks ++ [p]) r P → r.at_ ≤ t.length → t.length ≤ m + r.at_ → t.length ≤ n + r.at_ → Beh t m r.at_ false false P ks (dReps t n p r))
    (h : DRel (ks ++ [p]) r P) (ha : r.at_ = a) (hlt : a < t.length) (hm : t.length ≤ m + a) (hn : t.length ≤ n + 1 + a) (hk : readT t a false false = (⟨5, a, zeroS, (lo : Int), hi, 0⟩, a')) :
    Beh t m a false false P ks (dReps t n (.rep lo hi p) ((r.to a').grown ((posR (.rep lo hi p) : Int) - posR p) a)) := by
  obtain ⟨m, rfl⟩ : ∃ n, m = n + 1 := ⟨m - 1, by omega⟩
  have hat := readT_at t a false false hlt (by rw [hk]; show (5 : Nat) ≠ 7; decide)
  rw [hk] at hat
  obtain ⟨hr, hs⟩ := rep_rel h lo hi a'
  have ht : takeM P ⟨5, a, zeroS, (lo : Int), hi, 0⟩ = (repS P lo hi, growE (repS P lo hi).size) := by
    rw [takeM_5 rfl]
    rfl
  have hs' : (r.size + ((posR (.rep lo hi p) : Int) - posR p)).toNat = (repS P lo hi).size := by omega
  have he : (r.to a').e = 0 := h.e
  have hst := pg_tok (m := m) hlt hk (show (5 : Nat) ≠ 7 by decide) P
  rw [ht] at hst
  rcases grown_two he ((posR (.rep lo hi p) : Int) - posR p) a with ⟨g1, g2⟩ | ⟨g1, g2⟩
  · have g1' : growE (repS P lo hi).size = 0 := by rw [← hs']; exact g1
    rw [g1', if_neg (by simp)] at hst
    rw [g2]
    have := ih (.rep lo hi p) _ _ m hr hat.2 (by show t.length ≤ m + a'; have := hat.1; omega) (by show t.length ≤ n + a'; have := hat.1; omega)
    rcases this with ⟨e1, e2⟩ | ⟨e1, m', P', e2, e3, e4, e5, e6, e7, e8, e9, e10⟩
    · exact .inl ⟨e1, hst.trans e2⟩
    · exact .inr ⟨e1, m', P', e2, e3, e4, e5, e6, Nat.le_trans (Nat.le_of_lt hat.1) e7, e8, e9, hst.trans e10⟩
  · have g1' : growE (repS P lo hi).size = 13 := by rw [← hs']; exact g1
    rw [g1', if_pos (by simp)] at hst
    rw [g2, reps_bad _ _ _ (by simp)]
    exact .inl ⟨by simp, hst⟩
theorem reps_aft {t : List UInt8} {ks : List RE} : ∀ (n : Nat) (p : RE) (r : DR) (P : PS) (m : Nat), DRel (ks ++ [p]) r P → r.at_ ≤ t.length → t.length ≤ m + r.at_ → t.length ≤ n + r.at_ → Beh t m r.at_ false false P ks (dReps t n p r)
  | 0, p, r, P, m, h, hat, hm, hn => by
    refine .inr ⟨h.e, m, P, h, rfl, rfl, rfl, hm, Nat.le_refl _, hat, ⟨fun hl => ?_, ?_⟩, rfl⟩
    · show _
      have hl' : r.at_ < t.length := hl
      omega
    · cases hx : see2 t r.at_ 92 123 with
      | false => exact hx
      | true => have := ((see2_iff ..).1 hx).1; omega
  | n + 1, p, r, P, m, h, hat, hm, hn => by
    rw [dReps, if_neg (by rw [h.e]; simp)]
    by_cases c1 : (decide (r.at_ < t.length) && decide ((t.getD r.at_ 0).toNat = 42)) = true
    · rw [if_pos c1]
      rw [Bool.and_eq_true, decide_eq_true_eq, decide_eq_true_eq] at c1
      exact reps_one (lo := 0) n (fun p r P m => reps_aft n p r P m) h rfl c1.1 hm hn (by unfold readT; rw [if_neg (by omega), if_neg (by omega), if_neg (by omega), if_pos ⟨c1.2, rfl⟩]; rfl)
    · rw [if_neg c1]
      by_cases c2 : see2 t r.at_ 92 123 = true
      · rw [if_pos c2]
        obtain ⟨h1, h2, h3⟩ := (see2_iff ..).1 c2
        have h2' : (t.getD r.at_ 0).toNat = 92 := by rw [h2]; rfl
        have h3' : (t.getD (r.at_ + 1) 0).toNat = 123 := by rw [h3]; rfl
        have hrd : readT t r.at_ false false = escT t r.at_ false := by unfold readT; rw [if_pos h2']
        cases hv : ivM t (r.at_ + 2) with
        | none =>
          obtain ⟨m, rfl⟩ : ∃ n, m = n + 1 := ⟨m - 1, by omega⟩
          dsimp only
          rw [to_fail h.e]
          refine .inl ⟨by simp, ?_⟩
          exact pg_bad (by omega) (e := 9) (a' := r.at_) (by rw [hrd, escT, if_neg (by omega)]; dsimp only; rw [if_neg (by omega), if_neg (by omega), if_pos h3', hv]) (by decide) P
        | some x =>
          obtain ⟨lo, hi, a'⟩ := x
          exact reps_one n (fun p r P m => reps_aft n p r P m) h rfl (by omega) hm hn (by rw [hrd, escT, if_neg (by omega)]; dsimp only; rw [if_neg (by omega), if_neg (by omega), if_pos h3', hv]; rfl)
      · rw [if_neg c2]
        refine .inr ⟨h.e, m, P, h, rfl, rfl, rfl, hm, Nat.le_refl _, hat, ⟨fun hl e => c1 ?_, by simpa using c2⟩, rfl⟩
        rw [Bool.and_eq_true, decide_eq_true_eq, decide_eq_true_eq]
        exact ⟨hl, e⟩
def closeS (P : PS) (fr : Frame) (rest : List Frame) : PS := { P with top := fr.put (.group P.top.group (.cat P.top.kids)) P.top.sizes.sum, rest := rest, shut := P.shut.set P.top.group true }
def RowD (t : List UInt8) (m a : Nat) (f b : Bool) (in_ : Bool) (P : PS) (x : RE × DR) : Prop :=
  (x.2.e ≠ 0 ∧ pg t m a f b P = ⟨.cat [], x.2.e, x.2.place⟩) ∨
  (x.2.e = 0 ∧ in_ = false ∧ pg t m a f b P = ⟨x.1, 0, 0⟩) ∨
  (x.2.e = 0 ∧ in_ = true ∧ ∃ ks' m' P', x.1 = .cat ks' ∧ DRel ks' x.2 P' ∧ P'.rest = P.rest ∧ P'.top.group = P.top.group ∧ t.length ≤ m' + x.2.at_ ∧ a + 2 ≤ x.2.at_ ∧ x.2.at_ ≤ t.length ∧
    ∀ fr rest, P.rest = fr :: rest → pg t m a f b P = pg t m' x.2.at_ false false (closeS P' fr rest))
theorem RowD.trans {t : List UInt8} {m a m' a' : Nat} {f b f' b' in_ : Bool} {P P' : PS} {x : RE × DR} (h : RowD t m' a' f' b' in_ P' x) (hp : pg t m a f b P = pg t m' a' f' b' P') (ha : a ≤ a') (hr : P'.rest = P.rest) (hg : P'.top.group = P.top.group) : RowD t m a f b in_ P x := by
  rcases h with ⟨h1, h2⟩ | ⟨h1, h2, h3⟩ | ⟨h1, h2, ks', m2, P2, h3, h4, h5, h6, h7, h8, h9, h10⟩
  · exact .inl ⟨h1, hp.trans h2⟩
  · exact .inr (.inl ⟨h1, h2, hp.trans h3⟩)
  · exact .inr (.inr ⟨h1, h2, ks', m2, P2, h3, h4, h5.trans hr, h6.trans hg, h7, by omega, h9, fun fr rest hf => hp.trans (h10 fr rest (hr.trans hf))⟩)
theorem close_rel {ks ks' : List RE} {r r' : DR} {P P' : PS} {a : Nat} (h : DRel ks r P) (h' : DRel ks' r' P') (g : Nat) (hg : P'.top.group = g) (hr : P'.rest = P.top :: P.rest) : DRel (ks ++ [.group g (.cat ks')]) { r' with closed := r'.closed.set g true } (closeS P' P.top P.rest) := by
  have ht := h'.tot
  rw [hr, List.map_cons, List.sum_cons] at ht
  have hs : P'.top.sizes.sum = posR (.group g (.cat ks')) := by rw [posR, posR_cat, h'.sizes]
  refine ⟨?_, ?_, h'.groups, ?_, h'.size, ?_, h'.e⟩
  · show P.top.kids ++ [_] = _
    rw [h.kids, hg, h'.kids]
  · show P.top.sizes ++ [_] = _
    rw [h.sizes, hs, List.map_append]
    rfl
  · show P'.shut.set P'.top.group true = _
    rw [hg, h'.shut]
  · show (P.top.sizes ++ [P'.top.sizes.sum]).sum + (P.rest.map Frame.tot).sum ≤ P'.size
    rw [List.sum_append, List.sum_singleton]
    have : P.top.tot = P.top.sizes.sum := rfl
    omega
theorem esc_eol (t : List UInt8) (r : DR) : (dEsc t r).1 ≠ .eol := by
  unfold dEsc
  dsimp only
  repeat (first | (split) | (intro h; cases h))
theorem leaf_eol (t : List UInt8) (r : DR) (f : Bool) (h : (dLeaf t r f).1 = .eol) : (dLeaf t r f).2.at_ = t.length ∨ see2 t (dLeaf t r f).2.at_ 92 41 = true := by
  unfold dLeaf at h ⊢
  dsimp only at h ⊢
  split at h <;> rename_i c1
  · cases h
  rw [if_neg c1]
  split at h <;> rename_i c2
  · exact absurd h (esc_eol t r)
  rw [if_neg c2]
  split at h <;> rename_i c3
  · split at h <;> cases h
  rw [if_neg c3]
  split at h <;> rename_i c4
  · cases h
  rw [if_neg c4]
  split at h <;> rename_i c5
  · rw [if_pos c5]
    exact c5.2
  rw [if_neg c5]
  split at h <;> cases h
theorem anch_is {p : RE} (h : isAnch p = true) : p = .bol ∨ p = .eol := by cases p <;> simp [isAnch] at h ⊢
theorem bol_no {p : RE} (h : isAnch p = false) : isBol p = false := by cases p <;> simp [isAnch, isBol] at h ⊢
def dPart (t : List UInt8) (n : Nat) (r : DR) (first : Bool) : RE × DR :=
  if see2 t r.at_ 92 40 = true then
    (if r.groups = 9 then (.cat [], r.fail 4 r.at_)
    else (.group (r.groups + 1) (dRow t n true r.at_ [] { r with groups := r.groups + 1, at_ := r.at_ + 2 }).1, { (dRow t n true r.at_ [] { r with groups := r.groups + 1, at_ := r.at_ + 2 }).2 with closed := (dRow t n true r.at_ [] { r with groups := r.groups + 1, at_ := r.at_ + 2 }).2.closed.set (r.groups + 1) true }))
  else dLeaf t r first
def dFull (t : List UInt8) (x : RE × DR) : RE × DR := if isAnch x.1 = true then x else dReps t t.length x.1 x.2
theorem dRow_step (t : List UInt8) (n : Nat) (in_ : Bool) (op : Nat) (ks : List RE) (r : DR) : dRow t (n + 1) in_ op ks r =
    if r.e ≠ 0 then (.cat ks, r)
    else if r.at_ = t.length then (.cat ks, if in_ = true then r.fail 10 op else r)
    else if see2 t r.at_ 92 41 = true then (.cat ks, (if in_ = true then r else r.fail 10 r.at_).to (r.at_ + 2))
    else dRow t n in_ op (ks ++ [(dFull t (dPart t n r (decide (ks = [])))).1]) (dFull t (dPart t n r (decide (ks = [])))).2 := by
  rw [dRow]
  rfl
theorem full_bad {t : List UInt8} {x : RE × DR} (h : x.2.e ≠ 0) : (dFull t x).2 = x.2 := by
  unfold dFull
  split
  · rfl
  · rw [reps_bad _ _ _ h]
abbrev RowIH (t : List UInt8) (n : Nat) : Prop := ∀ (in_ : Bool) (op : Nat) (ks : List RE) (r : DR) (P : PS) (m : Nat) (b : Bool), DRel ks r P → r.at_ ≤ t.length → t.length ≤ m + r.at_ → t.length < n + r.at_ → (b = false → NoRep t r.at_) →
  (in_ = true → P.rest ≠ [] ∧ P.top.at_ = op) → (in_ = false → P.rest = []) → RowD t m r.at_ (decide (ks = [])) b in_ P (dRow t n in_ op ks r)
theorem group_aft {t : List UInt8} {n m : Nat} {b : Bool} {ks : List RE} {r : DR} {P : PS} (ih : RowIH t n) (h : DRel ks r P) (hlt : r.at_ < t.length) (hm : t.length ≤ m + r.at_) (hn : t.length < n + 1 + r.at_) (hop : see2 t r.at_ 92 40 = true) : Aft t m r.at_ (decide (ks = [])) b P ks (dPart t n r (decide (ks = []))) := by
  obtain ⟨h1, h2, h3⟩ := (see2_iff ..).1 hop
  have h2' : (t.getD r.at_ 0).toNat = 92 := by rw [h2]; rfl
  have h3' : (t.getD (r.at_ + 1) 0).toNat = 40 := by rw [h3]; rfl
  have hk : readT t r.at_ (decide (ks = [])) b = (⟨3, r.at_, zeroS, 0, 0, 0⟩, r.at_ + 2) := by unfold readT; rw [if_pos h2', escT, if_neg (by omega)]; dsimp only; rw [if_pos h3']
  obtain ⟨m, rfl⟩ : ∃ n, m = n + 1 := ⟨m - 1, by omega⟩
  have hst := pg_tok (m := m) hlt hk (show (3 : Nat) ≠ 7 by decide) P
  rw [takeM_3 rfl] at hst
  unfold dPart
  rw [if_pos hop]
  by_cases h9 : r.groups = 9
  · rw [if_pos h9, fail_ok h.e]
    rw [if_pos (h.groups.trans h9), if_pos (by simp)] at hst
    exact .inl ⟨by simp, hst⟩
  rw [if_neg h9]
  rw [if_neg (fun e => h9 (h.groups.symm.trans e)), if_neg (by simp)] at hst
  have hrel : DRel [] { r with groups := r.groups + 1, at_ := r.at_ + 2 } { P with top := ⟨[], [], P.groups + 1, r.at_⟩, rest := P.top :: P.rest, groups := P.groups + 1 } := by
    refine ⟨rfl, rfl, ?_, h.shut, h.size, ?_, h.e⟩
    · show P.groups + 1 = r.groups + 1
      rw [h.groups]
    · show ([] : List Nat).sum + ((P.top :: P.rest).map Frame.tot).sum ≤ P.size
      have := h.tot
      rw [List.map_cons, List.sum_cons, List.sum_nil, Nat.zero_add]
      exact this
  have hrow := ih true r.at_ [] { r with groups := r.groups + 1, at_ := r.at_ + 2 } _ m true hrel h1 (by show t.length ≤ m + (r.at_ + 2); omega) (by show t.length < n + (r.at_ + 2); omega) (fun e => by cases e) (fun _ => ⟨by simp, rfl⟩) (fun e => by cases e)
  generalize dRow t n true r.at_ [] { r with groups := r.groups + 1, at_ := r.at_ + 2 } = y at hrow ⊢
  have hst' : pg t (m + 1) r.at_ (decide (ks = [])) b P = pg t m (r.at_ + 2) true true { P with top := ⟨[], [], P.groups + 1, r.at_⟩, rest := P.top :: P.rest, groups := P.groups + 1 } := hst
  have hrow' : RowD t m (r.at_ + 2) true true true { P with top := ⟨[], [], P.groups + 1, r.at_⟩, rest := P.top :: P.rest, groups := P.groups + 1 } y := hrow
  rcases hrow' with ⟨e1, e2⟩ | ⟨_, e2, _⟩ | ⟨e1, _, ks', m', P', e3, e4, e5, e6, e7, e8, e9, e10⟩
  · exact .inl ⟨e1, hst'.trans e2⟩
  · cases e2
  · have hg : P'.top.group = r.groups + 1 := e6.trans (by show P.groups + 1 = _; rw [h.groups])
    have hc := close_rel (a := 0) h e4 (r.groups + 1) hg e5
    rw [← e3] at hc
    refine .inr ⟨e1, m', closeS P' P.top P.rest, hc, rfl, rfl, rfl, e7, by show r.at_ < y.2.at_; omega, e9, ?_⟩
    exact hst'.trans (e10 P.top P.rest rfl)
theorem part_aft {t : List UInt8} {n m : Nat} {b : Bool} {ks : List RE} {r : DR} {P : PS} (ih : RowIH t n) (h : DRel ks r P) (hlt : r.at_ < t.length) (hm : t.length ≤ m + r.at_) (hn : t.length < n + 1 + r.at_) (hsh : see2 t r.at_ 92 41 = false) (hnr : b = false → NoRep t r.at_) :
    Aft t m r.at_ (decide (ks = [])) b P ks (dPart t n r (decide (ks = []))) ∧ ((dPart t n r (decide (ks = []))).1 = .eol → (dPart t n r (decide (ks = []))).2.at_ = t.length ∨ see2 t (dPart t n r (decide (ks = []))).2.at_ 92 41 = true) := by
  by_cases hop : see2 t r.at_ 92 40 = true
  · refine ⟨group_aft ih h hlt hm hn hop, fun he => ?_⟩
    unfold dPart at he
    rw [if_pos hop] at he
    split at he <;> cases he
  · have hd : dPart t n r (decide (ks = [])) = dLeaf t r (decide (ks = [])) := by unfold dPart; rw [if_neg hop]
    rw [hd]
    exact ⟨leaf_aft h rfl hlt hm hsh (by simpa using hop) (fun e => ⟨(hnr e).star hlt, (hnr e).iv⟩), leaf_eol t r _⟩
theorem norep_eol {t : List UInt8} {a : Nat} (h : a = t.length ∨ see2 t a 92 41 = true) : NoRep t a := by
  rcases h with h | h
  · refine ⟨fun hl => by omega, ?_⟩
    cases hx : see2 t a 92 123 with
    | false => rfl
    | true => have := ((see2_iff ..).1 hx).1; omega
  · obtain ⟨h1, h2, h3⟩ := (see2_iff ..).1 h
    refine ⟨fun _ => by rw [h2]; decide, ?_⟩
    cases hx : see2 t a 92 123 with
    | false => rfl
    | true =>
      have := ((see2_iff ..).1 hx).2.2
      rw [h3] at this
      exact absurd this (by decide)
theorem row_aft {t : List UInt8} : ∀ n, RowIH t n
  | 0 => fun in_ op ks r P m b h hat hm hn => by omega
  | n + 1 => fun in_ op ks r P m b h hat hm hn hnr hin hout => by
    have ih := row_aft (t := t) n
    rw [dRow_step, if_neg (by rw [h.e]; simp)]
    by_cases hend : r.at_ = t.length
    · rw [if_pos hend]
      have hp := pg_end (show t.length ≤ r.at_ by omega) m (decide (ks = [])) b P
      cases in_ with
      | false =>
        refine .inr (.inl ⟨h.e, rfl, hp.trans ?_⟩)
        unfold endM
        rw [hout rfl, h.kids]
      | true =>
        obtain ⟨h1, h2⟩ := hin rfl
        rw [if_pos rfl, fail_ok h.e]
        refine .inl ⟨by simp, hp.trans ?_⟩
        unfold endM
        cases hr : P.rest with
        | nil => exact absurd hr h1
        | cons f fs => dsimp only; rw [h2]
    rw [if_neg hend]
    have hlt : r.at_ < t.length := by omega
    by_cases hsh : see2 t r.at_ 92 41 = true
    · rw [if_pos hsh]
      obtain ⟨h1, h2, h3⟩ := (see2_iff ..).1 hsh
      have h2' : (t.getD r.at_ 0).toNat = 92 := by rw [h2]; rfl
      have h3' : (t.getD (r.at_ + 1) 0).toNat = 41 := by rw [h3]; rfl
      have hk : readT t r.at_ (decide (ks = [])) b = (⟨4, r.at_, zeroS, 0, 0, 0⟩, r.at_ + 2) := by unfold readT; rw [if_pos h2', escT, if_neg (by omega)]; dsimp only; rw [if_neg (by omega), if_pos h3']
      obtain ⟨m, rfl⟩ : ∃ n, m = n + 1 := ⟨m - 1, by omega⟩
      have hst := pg_tok (m := m) hlt hk (show (4 : Nat) ≠ 7 by decide) P
      rw [takeM_4 rfl] at hst
      cases in_ with
      | false =>
        rw [hout rfl] at hst
        dsimp only at hst
        rw [if_pos (by simp)] at hst
        rw [if_neg (by simp), fail_ok h.e]
        exact .inl ⟨by show (10 : Int) ≠ 0; decide, hst⟩
      | true =>
        rw [if_pos rfl]
        refine .inr (.inr ⟨h.e, rfl, ks, m, P, rfl, ⟨h.kids, h.sizes, h.groups, h.shut, h.size, h.tot, h.e⟩, rfl, rfl, by show t.length ≤ m + (r.at_ + 2); omega, Nat.le_refl _, h1, fun fr rest hr => ?_⟩)
        rw [hr] at hst
        dsimp only at hst
        rw [if_neg (by simp)] at hst
        exact hst
    rw [if_neg hsh]
    have hsh' : see2 t r.at_ 92 41 = false := by simpa using hsh
    obtain ⟨hA, hE⟩ := part_aft (b := b) ih h hlt hm (by omega) hsh' hnr
    generalize dPart t n r (decide (ks = [])) = x at hA hE ⊢
    rcases hA with ⟨e1, e2⟩ | ⟨e1, m', P', e2, e3, e4, e5, e6, e7, e8, e9⟩
    · rw [full_bad e1, row_bad _ _ _ _ _ e1]
      exact .inl ⟨e1, e2⟩
    · have hd : decide (ks ++ [x.1] = []) = false := by simp
      have hinn : in_ = true → P'.rest ≠ [] ∧ P'.top.at_ = op := fun e => ⟨by rw [e3]; exact (hin e).1, e5.trans (hin e).2⟩
      have hon : in_ = false → P'.rest = [] := fun e => e3.trans (hout e)
      cases ha : isAnch x.1 with
      | true =>
        have hf : dFull t x = x := by unfold dFull; rw [if_pos ha]
        rw [hf]
        have := ih in_ op (ks ++ [x.1]) x.2 P' m' (isBol x.1) e2 e8 e6 (by omega) (fun hb => by
          rcases anch_is ha with e | e
          · rw [e] at hb; cases hb
          · exact norep_eol (hE e)) hinn hon
        rw [hd] at this
        exact this.trans e9 (by omega) e3 e4
      | false =>
        have hf : dFull t x = dReps t t.length x.1 x.2 := by unfold dFull; rw [if_neg (by rw [ha]; simp)]
        rw [hf]
        rw [bol_no ha] at e9
        rcases reps_aft t.length x.1 x.2 P' m' e2 e8 e6 (by omega) with ⟨f1, f2⟩ | ⟨f1, m2, P2, f2, f3, f4, f5, f6, f7, f8, f9, f10⟩
        · rw [row_bad _ _ _ _ _ f1]
          exact .inl ⟨f1, e9.trans f2⟩
        · have := ih in_ op _ _ P2 m2 false f2 f8 f6 (by omega) (fun _ => f9) (fun e => ⟨by rw [f3]; exact (hinn e).1, f5.trans (hinn e).2⟩) (fun e => f3.trans (hon e))
          have hd2 : decide (ks ++ [(dReps t t.length x.1 x.2).1] = []) = false := by simp
          rw [hd2] at this
          exact this.trans (e9.trans f10) (by omega) (f3.trans e3) (f4.trans e4)
theorem doc_is (t : List UInt8) : docM t = parseM t := by
  unfold docM parseM
  by_cases h : 512 < t.length
  · rw [if_pos h, if_pos h]
  rw [if_neg h, if_neg h]
  have h0 : DRel [] dr0 ps0 := ⟨rfl, rfl, rfl, rfl, rfl, by decide, rfl⟩
  have hr := row_aft (t := t) (t.length + 1) false 0 [] dr0 ps0 t.length true h0 (Nat.zero_le _) (by show t.length ≤ t.length + 0; omega) (by show t.length < t.length + 1 + 0; omega) (fun e => by cases e) (fun e => by cases e) (fun _ => rfl)
  have hpg : parseGo (toksM t) ps0 = pg t t.length 0 true true ps0 := rfl
  dsimp only
  rw [hpg]
  rcases hr with ⟨e1, e2⟩ | ⟨e1, _, e2⟩ | ⟨_, e2, _⟩
  · rw [if_pos e1]
    exact e2.symm
  · rw [if_neg (by rw [e1]; simp)]
    exact e2.symm
  · cases e2
end Go.Proofs.YthcbjbkheodejaaGreat
