/- Texts of this claim, bundled. -/
import Derived.Test.YtblpgpgbnlhjlaaZo6
namespace Go.Proofs.Ytblpgpgbnlhjlaa
open Go Go.RowKit Sl
set_option maxRecDepth 100000
set_option maxHeartbeats 8000000
set_option linter.unusedVariables false
set_option linter.unusedSimpArgs false
attribute [local irreducible] ES EL PX wps
structure HBr where
  p : Option Addr
  ea : Option Addr
  ec : Nat
  sa : Option Addr
  sc : Nat
  b : Br
def HBr.cells (x : HBr) : List Value := [.pointer x.p, .slice x.ea x.b.ends.length x.ec, .slice x.sa x.b.spans.length x.sc]
def brsC (l : List HBr) : List Value := l.flatMap HBr.cells
theorem brs_app (l l' : List HBr) : brsC (l ++ l') = brsC l ++ brsC l' := by simp [brsC]
theorem brs_one (x : HBr) : brsC [x] = x.cells := by simp [brsC]
theorem brs_len : ∀ l : List HBr, (brsC l).length = l.length * 3
  | [] => rfl
  | x :: l => by
    have := brs_len l
    show (x.cells ++ brsC l).length = _
    rw [List.length_append, this, List.length_cons]
    show 3 + _ = _
    omega
theorem brs_top (l : List HBr) (x : HBr) (j : Nat) : (brsC (l ++ [x]))[0 + l.length * 3 + j]? = x.cells[j]? := by
  rw [Nat.zero_add, brs_app, brs_one, List.getElem?_append_right (by rw [brs_len]; omega), brs_len, Nat.add_sub_cancel_left]
theorem brs_cut (l : List HBr) (x : HBr) : (brsC (l ++ [x])).take (l.length * 3) = brsC l := by
  rw [brs_app, ← brs_len, List.take_left]
theorem brs_set (l : List HBr) (x y : HBr) (v : Value) (h : x.cells.set 1 v = y.cells) : (brsC (l ++ [x])).set (0 + l.length * 3 + 1) v = brsC (l ++ [y]) := by
  rw [Nat.zero_add, brs_app, brs_app, brs_one, brs_one, List.set_append_right _ _ (by rw [brs_len]; omega), brs_len, Nat.add_sub_cancel_left, h]
structure HBr.Ok (w0 : World) (B : Nat) (es : List ME) (pool : List HA) (zl : Nat) (x : HBr) : Prop where
  chain : ChainAt w0 B pool x.p x.b.ts
  ends : EndsAt es pool x.ea x.b.ends
  ecap : x.b.ends.length ≤ x.ec
  spans : PRow x.sa x.sc x.b.spans ∈ pool
  small : x.b.spans.length = zl
  kle : ∀ t, x.b.ts.head? = some t → t.r.kind ≠ 4 → t.k ≤ 1073741824
theorem HBr.Ok.mono {w0 : World} {B : Nat} {es es' : List ME} {pool pool' : List HA} {zl : Nat} {x : HBr} (h : x.Ok w0 B es pool zl) (he : ∀ m ∈ es, m ∈ es') (hp : ∀ A ∈ pool, A ∈ pool') : x.Ok w0 B es' pool' zl :=
  ⟨h.chain.mono hp, h.ends.mono he hp, h.ecap, hp _ h.spans, h.small, h.kle⟩
theorem follow_len {l now : List Tk} {e : Nat} {z z' : List Spn} (h : followB l e z = some (now, z')) : z'.length = z.length := by
  cases l with
  | nil => cases h
  | cons t ts =>
    obtain ⟨r, k, i, j⟩ := t
    rw [followB] at h
    cases r <;> dsimp only at h
    · split at h
      · cases h; rfl
      · cases h
    · cases h
    · cases h
    · cases h
    · split at h
      · cases h; simp
      · cases h
    · cases h; rfl
    · cases h
theorem ends_kle {s : List UInt8} {t : Tk} {z : List Spn} {l : List Nat} (hf : t.r.fine) (h : endsB s t z = some (l, true)) (hl : l ≠ []) (hfo : ∃ ts e x, followB (t :: ts) e z = some x) (hk : t.r.kind ≠ 4) : t.k ≤ 1073741824 := by
  obtain ⟨r, k, i, j⟩ := t
  obtain ⟨ts, e, x, hx⟩ := hfo
  rw [endsB] at h
  rw [followB] at hx
  split at h
  rotate_left
  · cases h
  cases r <;> dsimp only at h hx hf hk ⊢
  · split at hx
    · rename_i y hy
      have := (List.getElem?_eq_some_iff.1 hy).1
      have := hf.1
      omega
    · cases hx
  · cases hx
  · cases hx
  · cases hx
  · exact absurd rfl hk
  · split at h
    · cases h; exact absurd rfl hl
    · split at h
      · rename_i h2; have := h2.1; omega
      · cases h
  · cases hx
theorem spsC_one (l : List Spn) : ∀ u ∈ spsC l, u.oneCell' = true := fun u hu => by
  obtain ⟨p, _, hp⟩ := List.mem_flatMap.1 hu
  simp only [spC, List.mem_cons, List.not_mem_nil, or_false] at hp
  rcases hp with rfl | rfl <;> rfl
theorem ends_rest {es : List ME} {pool : List HA} {g off e cap : Nat} {l : List Nat} (h : EndsAt es pool (some ⟨g, off, none⟩) (e :: l)) (hc : l.length + 1 ≤ cap) : EndsAt es pool (if cap = 1 then some ⟨g, off, none⟩ else (some (⟨g, off, none⟩ : Addr)).map (·.add (1 * 1))) l := by
  by_cases h1 : cap = 1
  · obtain rfl : l = [] := List.eq_nil_of_length_eq_zero (by omega)
    exact EndsAt.nil _ _ _
  · rw [if_neg h1]
    exact h.tail
theorem top_of {l : List HBr} (h : 0 < l.length) : ∃ init top, l = init ++ [top] := ⟨l.dropLast, l.getLast (by intro e; subst e; simp at h), (List.dropLast_concat_getLast _).symm⟩
theorem pop_dead {init : List HBr} {x : HBr} (h : x.b.ends = []) : popB (((init ++ [x]).map HBr.b).reverse) = popB ((init.map HBr.b).reverse) := by
  rw [List.map_append, List.map_cons, List.map_nil, List.reverse_append, List.reverse_singleton, List.singleton_append, popB, if_pos h]
theorem pop_top {init : List HBr} {x : HBr} (h : x.b.ends ≠ []) : popB (((init ++ [x]).map HBr.b).reverse) = some (x.b, (init.map HBr.b).reverse) := by
  rw [List.map_append, List.map_cons, List.map_nil, List.reverse_append, List.reverse_singleton, List.singleton_append, popB, if_neg h]
theorem stk_rev (init : List HBr) (x : HBr) : ((init ++ [x]).map HBr.b).reverse = x.b :: (init.map HBr.b).reverse := by
  rw [List.map_append, List.map_cons, List.map_nil, List.reverse_append, List.reverse_singleton, List.singleton_append]
structure RnS where
  f : Nat
  now : List Tk
  stk : List HBr
  z : List Spn
  p : Option Addr
  sp : Option Addr
  cap : Nat
  es : List ME
  st : Nat
  pool : List HA
  sad : Option Addr
  scap : Nat
structure RnOk (w0 : World) (B : Nat) (s : List UInt8) (res : Option (List Spn)) (F zl top : Nat) (x : RnS) : Prop where
  run : runB s x.f x.now (x.stk.map HBr.b).reverse x.z = some res
  mem : MemB w0 B s x.es
  chain : ChainAt w0 B x.pool x.p x.now
  stk : ∀ y ∈ x.stk, y.Ok w0 B x.es x.pool zl
  steps : x.st + x.f * (2 * floodC) ≤ top
  small : x.z.length = zl
  high : x.stk.length + x.f ≤ F
structure RnX (w0 : World) (B : Nat) (s : List UInt8) (res : Option (List Spn)) (zl top : Nat) where
  es' : List ME
  st' : Nat
  sp : Option Addr
  cap : Nat
  z : List Spn
  ok : MemB w0 B s es'
  le : st' ≤ top
  len : z.length = zl
  eq : ∀ y, res = some y → z = y
theorem run10_c (gs gm : Nat) (s : List UInt8) (hs : s.length ≤ 1024) (st F : Nat) (hF : F ≤ 16384) (hst : st + F * (2 * floodC) ≤ 576460752303423488) (sp : Option Addr) (cap : Nat) (z : List Spn) (hz : z.length ≤ 100) (es : List ME) (r : RE) (i j : Nat) (w0 : World) (B gr off : Nat) (hn : NodeRd w0 B gr off r) (hf : r.fine) (hok : MemB w0 B s es)
    (res : Option (List Spn)) (hrun : runB s F [⟨r, 0, i, j⟩] [] z = some res) :
    MutAt Try.prog 69 #[Pv gs 0, Pv gr off, Iv (i : Nat), Iv (j : Nat)] [SB10 gs s st sp z.length cap gm, HA.memo gm 3 es, PRow sp cap z] (fun _ : RnX w0 B s res z.length (st + F * (2 * floodC)) => .bool res.isSome)
      (fun x => [SB10 gs s x.st' x.sp x.z.length x.cap gm, HA.memo gm 3 x.es', PRow x.sp x.cap x.z]) w0 B := by
  intro R w h
  replace h : Sat w0 B (SB10 gs s st sp z.length cap gm :: HA.memo gm 3 es :: PRow sp cap z :: R) w := h
  refine calls_of_ES TB Try.func69 rfl _ Try.ntmps69 rfl h ?_
  refine .gr ?_; repeat constructor
  refine EL.assign rfl rfl rfl ?_
  refine .gr ?_; repeat constructor
  refine EL.assign rfl rfl rfl ?_
  refine .gr ?_; repeat constructor
  refine EL.move rfl rfl rfl ?_
  refine EL.move rfl rfl rfl ?_
  refine EL.move rfl rfl rfl ?_
  refine EL.buildS #[Pv gr off, Iv 0, Iv (i : Nat), Iv (j : Nat), .pointer none] rfl rfl rfl rfl rfl (by kernel_rfl) rfl ?_
  (refine EL.box rfl rfl rfl ?_; intro g20)
  refine EL.assign rfl rfl rfl ?_
  refine .gr ?_; repeat constructor
  refine ES.pack0 ?_
  refine ES.poolIn (A := TkB g20 gr off 0 i j none) (by repeat constructor) ?_
  refine ES.nilRow 203 3 ?_
  refine ES.loop (σ := RnS) (RnOk w0 B s res F z.length (st + F * (2 * floodC))) (fun x => [(0, Pv gs 0), (9, .slice x.sad x.stk.length x.scap), (10, .pointer x.p)])
    (fun x => SB10 gs s x.st x.sp x.z.length x.cap gm :: HA.memo gm 3 x.es :: PRow x.sp x.cap x.z :: HA.pack x.pool :: HA.row (.slice x.sad x.stk.length x.scap) 203 3 x.stk.length (brsC x.stk) :: R) (fun x => x.f)
    ⟨F, [⟨r, 0, i, j⟩], [], z, some ⟨g20, 0, none⟩, sp, cap, es, st, [TkB g20 gr off 0 i j none], none, 0⟩ ⟨hrun, hok, ⟨g20, gr, off, none, rfl, List.mem_cons_self, hn, hf, rfl⟩, fun y hy => by simp at hy, Nat.le_refl _, rfl, by simp⟩ ⟨rfl, rfl, rfl, trivial⟩ (.i (by repeat constructor)) ?_
  rintro ⟨f, now, stk, z1, p, sp1, cap1, es1, st1, pool, sad, scap⟩ ⟨hgo, hmem, hch, hstk, hsteps, hsmall, hhigh⟩
  dsimp only at hgo hmem hch hstk hsteps hsmall hhigh ⊢
  obtain ⟨f, rfl⟩ : ∃ f', f = f' + 1 := by
    cases f with
    | zero => rw [runB] at hgo; cases hgo
    | succ f => exact ⟨f, rfl⟩
  have hst1 : st1 + 2 * floodC + f * (2 * floodC) ≤ st + F * (2 * floodC) := by rw [Nat.succ_mul] at hsteps; omega
  cases now with
  | nil =>
    have hp : p = none := hch
    subst hp
    rw [runB] at hgo
    cases hgo
    refine .gr ?_; repeat constructor
    refine EL.move rfl rfl rfl ?_
    refine EL.neqPn rfl rfl rfl rfl rfl rfl ?_
    refine .gr ?_; repeat constructor
    refine ES.condF rfl ?_
    refine .gr ?_; repeat constructor
    refine .gr ?_; repeat constructor
    refine EL.assign rfl rfl rfl ?_
    refine .gr ?_; repeat constructor
    exact PX.ret rfl Try.results69 (.cons (.tmp rfl) .nil) (fun w hs => ⟨⟨es1, st1, sp1, cap1, z1, hmem, by omega, hsmall, fun y hy => Option.some.inj hy⟩, rfl, hs.ent (.i (by repeat constructor))⟩)
  | cons t ts =>
    obtain ⟨r1, k1, i1, j1⟩ := t
    obtain ⟨tg, tgr, toff, tnx, rfl, htk, htn, htf, htc⟩ := hch
    dsimp only at htk htn htf
    refine .gr ?_; repeat constructor
    refine EL.move rfl rfl rfl ?_
    refine EL.neqPn rfl rfl rfl rfl rfl rfl ?_
    refine .gr ?_; repeat constructor
    refine ES.condT rfl ?_
    rw [runB] at hgo
    cases he : endsB s ⟨r1, k1, i1, j1⟩ z1 with
    | none => rw [he] at hgo; cases hgo
    | some lo =>
    obtain ⟨l, ok⟩ := lo
    rw [he] at hgo
    dsimp only at hgo
    have hends := ends10_c gs gm s hs st1 (by omega) sp1 cap1 z1 es1 pool r1 k1 i1 j1 w0 B tg tgr toff tnx htk htn htf hmem l ok he
    refine .gr ?_; repeat constructor
    refine EL.move rfl rfl rfl ?_
    refine EL.move rfl rfl rfl ?_
    (refine EL.callMw rfl rfl rfl ent94 rfl hends (by repeat constructor) ?_; rintro ⟨es2, st2, pool2, lad, lcap, y1, y2, y3, y4, y5, y6⟩)
    refine EL.move rfl rfl rfl ?_
    refine EL.extract rfl rfl rfl rfl ?_
    refine EL.extract rfl rfl rfl rfl ?_
    refine EL.assign rfl rfl rfl ?_
    refine EL.assign rfl rfl rfl ?_
    refine .gr ?_; repeat constructor
    dsimp only
    have htk2 := y2 _ htk
    have hstk2 : ∀ y ∈ stk, y.Ok w0 B es2 pool2 z.length := fun y hy => (hstk y hy).mono y1 y2
    have htc2 := htc.mono y2
    refine EL.cutX (X := Unit) (fun _ => [(0, Pv gs 0), (9, .slice sad stk.length scap), (10, Pv tg 0), (11, .slice lad l.length lcap), (12, .bool ok), (13, .bool (decide (ok = true ∧ l = [] ∧ needsB ⟨r1, k1, i1, j1⟩ = false)))])
      (fun _ => SB10 gs s st2 sp1 z1.length cap1 gm :: HA.memo gm 3 es2 :: PRow sp1 cap1 z1 :: HA.pack pool2 :: HA.row (.slice sad stk.length scap) 203 3 stk.length (brsC stk) :: R) ?_ (fun _ => ?_)
    · refine .gr ?_; repeat constructor
      refine EL.move rfl rfl rfl ?_
      refine EL.move rfl rfl rfl ?_
      first | refine EL.splitD (d := 30) rfl (fun hp30 => ?_) (fun hp30 => ?_) | refine EL.splitN (d := 30) rfl (fun hp30 => ?_) (fun hp30 => ?_) | refine EL.splitB (d := 30) rfl (fun hp30 => ?_) (fun hp30 => ?_)
      · refine EL.move rfl rfl rfl ?_
        refine EL.lenL rfl rfl rfl rfl rfl ?_
        refine EL.eqlI rfl rfl rfl rfl ?_
        refine EL.pickT rfl rfl rfl rfl ?_
        refine EL.move rfl rfl rfl ?_
        first | refine EL.splitD (d := 35) rfl (fun hp35 => ?_) (fun hp35 => ?_) | refine EL.splitN (d := 35) rfl (fun hp35 => ?_) (fun hp35 => ?_) | refine EL.splitB (d := 35) rfl (fun hp35 => ?_) (fun hp35 => ?_)
        · refine EL.move rfl rfl rfl ?_
          refine EL.callPw rfl rfl rfl ent95 rfl (fun w hs => needs_c r1 k1 i1 j1 htf tg tgr toff tnx w (pool_rdB hs (by repeat constructor) htk2) (NodeRd.sat htn hs)) ?_
          refine EL.not rfl rfl rfl ?_
          refine EL.pickT rfl rfl rfl rfl ?_
          refine EL.assign rfl rfl rfl ?_
          exact EL.endX () ⟨rfl, rfl, rfl, rfl, rfl, getA rfl (congrArg Value.bool (by rw [Bool.eq_iff_iff]; simp only [decide_eq_true_eq, ← List.length_eq_zero_iff] at *; first | (simp_all; done) | (simp_all; omega))), trivial⟩ (.i (by repeat constructor))
        · refine EL.pass rfl rfl rfl ?_
          refine EL.pass rfl rfl rfl ?_
          refine EL.pass rfl rfl rfl ?_
          refine EL.pickF rfl rfl rfl rfl ?_
          refine EL.assign rfl rfl rfl ?_
          exact EL.endX () ⟨rfl, rfl, rfl, rfl, rfl, getA rfl (congrArg Value.bool (by rw [Bool.eq_iff_iff]; simp only [decide_eq_true_eq, ← List.length_eq_zero_iff] at *; first | (simp_all; done) | (simp_all; omega))), trivial⟩ (.i (by repeat constructor))
      · refine EL.pass rfl rfl rfl ?_
        refine EL.pass rfl rfl rfl ?_
        refine EL.pass rfl rfl rfl ?_
        refine EL.pickF rfl rfl rfl rfl ?_
        refine EL.move rfl rfl rfl ?_
        refine EL.pass rfl rfl rfl ?_
        refine EL.pass rfl rfl rfl ?_
        refine EL.pass rfl rfl rfl ?_
        refine EL.pickF rfl rfl rfl rfl ?_
        refine EL.assign rfl rfl rfl ?_
        exact EL.endX () ⟨rfl, rfl, rfl, rfl, rfl, getA rfl (congrArg Value.bool (by rw [Bool.eq_iff_iff]; simp only [decide_eq_true_eq, ← List.length_eq_zero_iff] at *; first | (simp_all; done) | (simp_all; omega))), trivial⟩ (.i (by repeat constructor))
    refine .gr ?_; repeat constructor
    refine EL.move rfl rfl rfl ?_
    refine .gr ?_; repeat constructor
    refine ES.condD rfl (fun hA => ?_) (fun hA => ?_)
    · rw [if_pos hA] at hgo
      refine .gr ?_; repeat constructor
      refine EL.move rfl rfl rfl ?_
      refine EL.nilCheck rfl rfl rfl ?_
      refine EL.fieldAddr rfl rfl rfl rfl rfl rfl rfl rfl ?_
      refine EL.loadPool rfl rfl rfl rfl rfl (by repeat constructor) htk2 rfl ?_
      refine EL.assign rfl rfl rfl ?_
      refine .gr ?_; repeat constructor
      exact PX.loop ⟨f, ts, stk, z1, tnx, sp1, cap1, es2, st2, pool2, sad, scap⟩ ⟨hgo, y3, htc2, hstk2, by dsimp only; omega, hsmall, by dsimp only; omega⟩ (Nat.lt_succ_self _) ⟨rfl, rfl, rfl, trivial⟩ (.i (by repeat constructor))
    rw [if_neg hA] at hgo
    refine .gr ?_; repeat constructor
    refine EL.cutX (X := Unit) (fun _ => [(0, Pv gs 0), (9, .slice sad stk.length scap), (10, Pv tg 0), (11, .slice lad l.length lcap), (50, .bool (decide (ok = true ∧ l ≠ [])))])
      (fun _ => SB10 gs s st2 sp1 z1.length cap1 gm :: HA.memo gm 3 es2 :: PRow sp1 cap1 z1 :: HA.pack pool2 :: HA.row (.slice sad stk.length scap) 203 3 stk.length (brsC stk) :: R) ?_ (fun _ => ?_)
    · refine .gr ?_; repeat constructor
      refine EL.move rfl rfl rfl ?_
      refine EL.move rfl rfl rfl ?_
      first | refine EL.splitD (d := 46) rfl (fun hp46 => ?_) (fun hp46 => ?_) | refine EL.splitN (d := 46) rfl (fun hp46 => ?_) (fun hp46 => ?_) | refine EL.splitB (d := 46) rfl (fun hp46 => ?_) (fun hp46 => ?_)
      · refine EL.move rfl rfl rfl ?_
        refine EL.lenL rfl rfl rfl rfl rfl ?_
        refine EL.gtr rfl rfl rfl rfl ?_
        refine EL.pickT rfl rfl rfl rfl ?_
        exact EL.endX () ⟨rfl, rfl, rfl, rfl, getA rfl (congrArg Value.bool (by clear hgo; rw [Bool.eq_iff_iff]; cases l <;> simp_all)), trivial⟩ (.i (by repeat constructor))
      · refine EL.pass rfl rfl rfl ?_
        refine EL.pass rfl rfl rfl ?_
        refine EL.pass rfl rfl rfl ?_
        refine EL.pickF rfl rfl rfl rfl ?_
        exact EL.endX () ⟨rfl, rfl, rfl, rfl, getA rfl (congrArg Value.bool (by clear hgo; rw [Bool.eq_iff_iff]; cases l <;> simp_all)), trivial⟩ (.i (by repeat constructor))
    refine ES.condD rfl (fun hB => ?_) (fun hB => ?_)
    · obtain ⟨rfl, hne⟩ := hB
      obtain ⟨e, el, rfl⟩ : ∃ e el, l = e :: el := by
        cases l with
        | nil => exact absurd rfl hne
        | cons e el => exact ⟨e, el, rfl⟩
      rw [if_pos ⟨rfl, hne⟩] at hgo
      dsimp only [List.headD_cons, List.tail_cons] at hgo
      cases hfo : followB (⟨r1, k1, i1, j1⟩ :: ts) e z1 with
      | none => rw [hfo] at hgo; cases hgo
      | some nz =>
      obtain ⟨now2, z2⟩ := nz
      rw [hfo] at hgo
      dsimp only at hgo
      obtain ⟨lg, lo, rfl, _⟩ := y5 hne
      have hlc : el.length + 1 ≤ lcap := y6
      have htl := ends_rest y5 hlc
      have hkle : r1.kind ≠ 4 → k1 ≤ 1073741824 := ends_kle (t := ⟨r1, k1, i1, j1⟩) htf he hne ⟨ts, e, _, hfo⟩
      generalize hX : (if lcap = 1 then some ⟨lg, lo, none⟩ else (some (⟨lg, lo, none⟩ : Addr)).map (·.add (1 * 1))) = tad at htl
      refine .gs ?_; repeat constructor
      refine ES.draw (X := (Option Addr × Nat) × (Nat × Nat)) (fun x => [(0, Pv gs 0), (9, .slice (some ⟨x.2.1, 0, none⟩) (stk.length + 1) x.2.2), (10, Pv tg 0), (11, .slice (some ⟨lg, lo, none⟩) (el.length + 1) lcap)])
        (fun x => PRow x.1.1 x.1.2 z1 :: SB10 gs s st2 sp1 z1.length cap1 gm :: HA.memo gm 3 es2 :: PRow sp1 cap1 z1 :: HA.pack pool2 :: HA.row (.slice (some ⟨x.2.1, 0, none⟩) (stk.length + 1) x.2.2) 203 3 (stk.length + 1) (brsC stk ++ HBr.cells ⟨some ⟨tg, 0, none⟩, tad, lcap - 1, x.1.1, x.1.2, ⟨⟨r1, k1, i1, j1⟩ :: ts, el, z1⟩⟩) :: R)
        (SB10 gs s st2 sp1 z1.length cap1 gm :: PRow sp1 cap1 z1 :: []) mixed (.i (by repeat constructor)) ?_ (fun x => ?_)
      · refine ED.take 0 rfl (by decide +kernel) CutX.no_panic (by decide +kernel) rfl rfl rfl (RV.move rfl) ?_
        refine ED.take 1 rfl (by decide +kernel) CutX.no_panic (by decide +kernel) rfl rfl rfl (RV.move rfl) ?_
        refine ED.take 2 rfl (by decide +kernel) CutX.no_panic (by decide +kernel) rfl rfl rfl (RV.move rfl) ?_
        refine ED.take 3 rfl (by decide +kernel) CutX.no_panic (by decide +kernel) rfl rfl rfl (RV.sliceLoG' (lo := 1) hX rfl rfl rfl rfl rfl (Nat.succ_le_succ (Nat.zero_le _)) hlc) ?_
        refine ED.take 4 rfl (by decide +kernel) CutX.no_panic (by decide +kernel) rfl rfl rfl (RV.move rfl) ?_
        refine ED.take 5 rfl (by decide +kernel) CutX.no_panic (by decide +kernel) rfl rfl rfl (RV.nilCheck rfl) ?_
        refine ED.take 6 rfl (by decide +kernel) CutX.no_panic (by decide +kernel) rfl rfl rfl (RV.fieldAddr rfl rfl rfl rfl rfl rfl) ?_
        refine ED.take 7 rfl (by decide +kernel) CutX.no_panic (by decide +kernel) rfl rfl rfl (RV.loadB rfl rfl rfl (by repeat constructor) rfl) ?_
        refine ED.loud 8 rfl (by decide +kernel) ?_
        (refine EL.copyNil rfl rfl rfl rfl rfl rfl rfl rfl rfl (fun w hs => Rd.row hs (by repeat constructor) (by decide)) (spsC_len z1) (spsC_one z1) (by unfold maxLen; omega) (Nat.le_trans (Nat.mul_le_mul_right _ (show _ ≤ 100 by omega)) (by decide)) ?_; intro ap cp)
        refine ED.next (.i (by repeat constructor)) ?_
        refine ED.take 9 rfl (by decide +kernel) CutX.no_panic (by decide +kernel) rfl rfl rfl (RV.buildS #[Pv tg 0, .slice tad el.length (lcap - 1), .slice ap z1.length cp] rfl rfl rfl rfl (by kernel_rfl)) ?_
        refine ED.loud 10 rfl (by decide +kernel) ?_
        (refine EL.buildSlice1 rfl rfl rfl rfl rfl rfl rfl rfl rfl rfl ?_; intro b61)
        refine ED.next (.i (by repeat constructor)) ?_
        refine ED.loud 11 rfl (by decide +kernel) ?_
        (refine EL.append1 rfl rfl rfl rfl rfl rfl rfl rfl rfl (by repeat constructor) (by repeat constructor) (by first | (intro u hu; simp [Value.cells] at hu; subst hu; rfl) | exact all1 rfl) (by rfl) (by unfold maxLen; omega) (by first | omega | (show 1 * _ ≤ _; omega) | (show 8 * _ ≤ _; omega) | (show 16 * _ ≤ _; omega) | (show 24 * _ ≤ _; omega) | (show _ * 1 ≤ _; omega) | (show _ * 8 ≤ _; omega) | (show _ * 16 ≤ _; omega) | (show _ * 24 ≤ _; omega) | exact Nat.le_trans (Nat.mul_le_mul_right _ (show _ ≤ 1073741824 by omega)) (by decide)) ?_; intro a62 c62)
        refine ED.next (.i (by repeat constructor)) ?_
        refine ED.take 12 rfl (by decide +kernel) CutX.no_panic (by decide +kernel) rfl rfl rfl (RV.assign rfl) ?_
        refine ED.done (by decide +kernel) ?_
        exact PX.cutX ((ap, cp), (a62, c62)) ⟨rfl, rfl, rfl, rfl, trivial⟩ (.i (by repeat constructor))
      obtain ⟨⟨ap, cp⟩, sg, sc⟩ := x
      dsimp only
      obtain ⟨xb, hxb⟩ : ∃ xb : HBr, xb = ⟨some ⟨tg, 0, none⟩, tad, lcap - 1, ap, cp, ⟨⟨r1, k1, i1, j1⟩ :: ts, el, z1⟩⟩ := ⟨_, rfl⟩
      rw [← hxb]
      refine ES.poolIn (A := PRow ap cp z1) (by repeat constructor) ?_
      have htk3 := List.mem_cons_of_mem (PRow ap cp z1) htk2
      have hch3 : ChainAt w0 B (PRow ap cp z1 :: pool2) (some ⟨tg, 0, none⟩) (⟨r1, k1, i1, j1⟩ :: ts) := ⟨tg, tgr, toff, tnx, rfl, htk3, htn, htf, htc2.mono (fun _ h => List.mem_cons_of_mem _ h)⟩
      have hE3 := y5.mono (fun _ h => h) (fun A h => List.mem_cons_of_mem (PRow ap cp z1) h)
      obtain ⟨_, _, hea, hE⟩ := hE3 hne
      cases hea
      have hfol := follow_ch gs gm s st2 sp1 cap1 z1 z2 (PRow ap cp z1 :: pool2) e (⟨r1, k1, i1, j1⟩ :: ts) now2 w0 B (some ⟨tg, 0, none⟩) hch3 (fun t ht hk4 => by cases ht; exact hkle hk4) hfo
      refine .gr ?_; repeat constructor
      refine EL.move rfl rfl rfl ?_
      refine EL.move rfl rfl rfl ?_
      refine EL.move rfl rfl rfl ?_
      refine EL.indexAddrL (i := 0) rfl rfl rfl rfl rfl rfl rfl (Nat.zero_lt_succ _) ?_
      refine EL.ofRV (RV.loadEnds (q := 0) rfl rfl rfl (by repeat constructor) (by repeat constructor) hE rfl) rfl rfl rfl (by intro c h; cases h) ?_
      (refine EL.callMw rfl rfl rfl ent96 rfl hfol (by repeat constructor) ?_; rintro ⟨pool4, np, u1, u2⟩)
      refine EL.assign rfl rfl rfl ?_
      refine .gr ?_; repeat constructor
      dsimp only
      have hxok : xb.Ok w0 B es2 pool4 z.length := by
        subst hxb
        exact ⟨hch3.mono u1, htl.mono (fun _ h => h) (fun A h => u1 _ (List.mem_cons_of_mem _ h)), by show el.length ≤ lcap - 1; omega, u1 _ List.mem_cons_self, hsmall, fun t ht hk4 => by cases ht; exact hkle hk4⟩
      have hxbb : xb.b = ⟨⟨r1, k1, i1, j1⟩ :: ts, el, z1⟩ := by rw [hxb]
      have hll : (stk ++ [xb]).length = stk.length + 1 := by simp
      exact PX.loop ⟨f, now2, stk ++ [xb], z2, np, sp1, cap1, es2, st2, pool4, some ⟨sg, 0, none⟩, sc⟩ ⟨by dsimp only; rw [stk_rev, hxbb]; exact hgo, y3, u2, fun y hy => by
          rcases List.mem_append.1 hy with hy | hy
          · exact (hstk2 y hy).mono (fun _ h => h) (fun A h => u1 _ (List.mem_cons_of_mem _ h))
          · rw [List.mem_singleton] at hy; subst hy; exact hxok, by dsimp only; omega, by dsimp only; rw [follow_len hfo]; exact hsmall, by dsimp only; rw [hll]; omega⟩ (Nat.lt_succ_self _)
        ⟨rfl, getA rfl (congrArg (fun n => Value.slice (some ⟨sg, 0, none⟩) n sc) hll.symm), rfl, trivial⟩ (by dsimp only; rw [hll, brs_app, brs_one]; exact (.i (by repeat constructor)))
    rw [if_neg hB] at hgo
    refine .gr ?_; repeat constructor
    refine ES.loop (σ := List HBr) (fun l => popB ((l.map HBr.b).reverse) = popB ((stk.map HBr.b).reverse) ∧ (∀ y ∈ l, y ∈ stk) ∧ l.length ≤ stk.length) (fun l => [(0, Pv gs 0), (9, .slice sad l.length scap)])
      (fun l => SB10 gs s st2 sp1 z1.length cap1 gm :: HA.memo gm 3 es2 :: PRow sp1 cap1 z1 :: HA.pack pool2 :: HA.row (.slice sad l.length scap) 203 3 l.length (brsC l) :: R) (fun l => l.length) stk ⟨rfl, fun _ h => h, Nat.le_refl _⟩ ⟨rfl, rfl, trivial⟩ (.i (by repeat constructor)) ?_
    rintro hb ⟨hp1, hp2, hp3⟩
    refine .gr ?_; repeat constructor
    refine EL.move rfl rfl rfl ?_
    refine EL.lenL rfl rfl rfl rfl rfl ?_
    refine EL.gtr rfl rfl rfl rfl ?_
    refine .gr ?_; repeat constructor
    refine ES.condD rfl (fun hpos => ?_) (fun hzero => ?_)
    rotate_left
    · obtain rfl : hb = [] := List.eq_nil_of_length_eq_zero (by omega)
      rw [← hp1] at hgo
      cases hgo
      refine .gr ?_; repeat constructor
      refine .gr ?_; repeat constructor
      refine EL.assign rfl rfl rfl ?_
      refine .gr ?_; repeat constructor
      exact PX.ret rfl Try.results69 (.cons (.tmp rfl) .nil) (fun w hs => ⟨⟨es2, st2, sp1, cap1, z1, y3, by omega, hsmall, fun y hy => by cases hy⟩, rfl, hs.ent (.i (by repeat constructor))⟩)
    obtain ⟨init, tp, rfl⟩ := top_of (show 0 < hb.length by omega)
    have hln : (init ++ [tp]).length = init.length + 1 := by simp
    have htp := hstk2 tp (hp2 tp (by simp))
    refine ES.know (P := (∃ g, sad = some ⟨g, 0, none⟩) ∧ (init ++ [tp]).length ≤ scap) (fun w hs => ⟨(row_form (hs.all (HA.row (.slice sad (init ++ [tp]).length scap) 203 3 (init ++ [tp]).length (brsC (init ++ [tp]))) (by simp))).2.2.2.2 (by omega), (row_form (hs.all (HA.row (.slice sad (init ++ [tp]).length scap) 203 3 (init ++ [tp]).length (brsC (init ++ [tp]))) (by simp))).2.1⟩) ?_
    rintro ⟨⟨sg, rfl⟩, hcapn⟩
    obtain ⟨tpp, tea, tec, tsa, tsc, ⟨tts, tends, tspans⟩⟩ := tp
    have hcell := fun j v (h : (HBr.cells ⟨tpp, tea, tec, tsa, tsc, ⟨tts, tends, tspans⟩⟩)[j]? = some v) => (brs_top init ⟨tpp, tea, tec, tsa, tsc, ⟨tts, tends, tspans⟩⟩ j).trans h
    have hsub : Iv (((init ++ [(⟨tpp, tea, tec, tsa, tsc, ⟨tts, tends, tspans⟩⟩ : HBr)]).length - 1 : Nat) : Int) = Iv (init.length : Nat) := by rw [hln]; rfl
    refine .gr ?_; repeat constructor
    refine EL.move rfl rfl rfl ?_
    refine EL.move rfl rfl rfl ?_
    refine EL.lenL rfl rfl rfl rfl rfl ?_
    refine EL.sub1 rfl rfl rfl rfl (by omega) (by omega) ?_
    (refine EL.rew (d := 75) (v' := Iv (init.length : Nat)) rfl hsub ?_; refine EL.indexAddrL (i := init.length) rfl rfl rfl rfl rfl rfl rfl (by omega) ?_)
    refine EL.assign rfl rfl rfl ?_
    refine .gr ?_; repeat constructor
    refine .gr ?_; repeat constructor
    refine EL.move rfl rfl rfl ?_
    refine EL.nilCheck rfl rfl rfl ?_
    refine EL.fieldAddr rfl rfl rfl rfl rfl rfl rfl rfl ?_
    refine EL.loadR rfl rfl rfl rfl rfl (by repeat constructor) (hcell 1 _ rfl) ?_
    refine EL.lenL rfl rfl rfl rfl rfl ?_
    refine EL.eqlI rfl rfl rfl rfl ?_
    refine .gr ?_; repeat constructor
    refine ES.condD rfl (fun hE0 => ?_) (fun hE0 => ?_)
    · have hE1 : ((tends.length : Nat) : Int) = 0 := hE0
      obtain rfl : tends = [] := List.eq_nil_of_length_eq_zero (by omega)
      have hcutS : ∀ w, Sat w0 B (HA.row (.slice (some ⟨sg, 0, none⟩) (init ++ [(⟨tpp, tea, tec, tsa, tsc, ⟨tts, [], tspans⟩⟩ : HBr)]).length scap) 203 3 (init ++ [(⟨tpp, tea, tec, tsa, tsc, ⟨tts, [], tspans⟩⟩ : HBr)]).length (brsC (init ++ [⟨tpp, tea, tec, tsa, tsc, ⟨tts, [], tspans⟩⟩])) :: SB10 gs s st2 sp1 z1.length cap1 gm :: HA.memo gm 3 es2 :: PRow sp1 cap1 z1 :: HA.pack pool2 :: R) w →
          Sat w0 B (HA.row (.slice (some ⟨sg, 0, none⟩) init.length scap) 203 3 init.length (brsC init) :: SB10 gs s st2 sp1 z1.length cap1 gm :: HA.memo gm 3 es2 :: PRow sp1 cap1 z1 :: HA.pack pool2 :: R) w := fun w hs => by
        have h1 := Sat.cutRow (m := init.length) hs (by omega)
        rw [brs_cut] at h1
        exact h1
      refine .gr ?_; repeat constructor
      refine EL.move rfl rfl rfl ?_
      refine EL.move rfl rfl rfl ?_
      refine EL.lenL rfl rfl rfl rfl rfl ?_
      refine EL.sub1 rfl rfl rfl rfl (by omega) (by omega) ?_
      (refine EL.rew (d := 86) (v' := Iv (init.length : Nat)) rfl hsub ?_; refine EL.ofRV (RV.sliceHi (hi := init.length) rfl rfl rfl rfl rfl (by omega)) rfl rfl rfl (by intro c h; cases h) ?_)
      (refine EL.imp (H' := HA.row (.slice (some ⟨sg, 0, none⟩) init.length scap) 203 3 init.length (brsC init) :: SB10 gs s st2 sp1 z1.length cap1 gm :: HA.memo gm 3 es2 :: PRow sp1 cap1 z1 :: HA.pack pool2 :: R) (fun w hs => hcutS w (hs.ent (.i (by repeat constructor)))) ?_; refine EL.assign rfl rfl rfl ?_)
      refine .gr ?_; repeat constructor
      exact PX.loop init ⟨(pop_dead rfl).symm.trans hp1, fun y hy => hp2 y (List.mem_append_left _ hy), by omega⟩ (by omega) ⟨rfl, rfl, trivial⟩ (.i (by repeat constructor))
    obtain ⟨e, el, rfl⟩ : ∃ e el, tends = e :: el := by
      cases tends with
      | nil => exact absurd rfl hE0
      | cons e el => exact ⟨e, el, rfl⟩
    rw [← hp1, pop_top (by simp)] at hgo
    dsimp only [List.headD_cons, List.tail_cons] at hgo
    cases hfo : followB tts e tspans with
    | none => rw [hfo] at hgo; cases hgo
    | some nz =>
    obtain ⟨now2, z2⟩ := nz
    rw [hfo] at hgo
    dsimp only at hgo
    have hts := htp.chain
    have hte := htp.ends
    have htec : el.length + 1 ≤ tec := htp.ecap
    have htsp : PRow tsa tsc tspans ∈ pool2 := htp.spans
    have htsl : tspans.length = z.length := htp.small
    have htk := htp.kle
    dsimp only at hts hte htk
    obtain ⟨lg, lo, rfl, hE⟩ := hte (by simp)
    have htl := ends_rest hte htec
    generalize hX : (if tec = 1 then some ⟨lg, lo, none⟩ else (some (⟨lg, lo, none⟩ : Addr)).map (·.add (1 * 1))) = tad at htl
    have hfol := fun ap cp => follow_ch gs gm s st2 ap cp tspans z2 pool2 e tts now2 w0 B tpp hts htk hfo
    have hset : ∀ (x : HBr), x = ⟨tpp, some ⟨lg, lo, none⟩, tec, tsa, tsc, ⟨tts, e :: el, tspans⟩⟩ → (brsC (init ++ [x])).set (0 + init.length * 3 + 1) (.slice tad el.length (tec - 1)) = brsC (init ++ [⟨tpp, tad, tec - 1, tsa, tsc, ⟨tts, el, tspans⟩⟩]) := fun x hx => brs_set init x _ _ (by rw [hx]; rfl)
    have hbl := brs_len (init ++ [(⟨tpp, some ⟨lg, lo, none⟩, tec, tsa, tsc, ⟨tts, e :: el, tspans⟩⟩ : HBr)])
    have hcell2 := fun j v (h : (HBr.cells ⟨tpp, tad, tec - 1, tsa, tsc, ⟨tts, el, tspans⟩⟩)[j]? = some v) => (brs_top init ⟨tpp, tad, tec - 1, tsa, tsc, ⟨tts, el, tspans⟩⟩ j).trans h
    refine .gr ?_; repeat constructor
    refine EL.move rfl rfl rfl ?_
    refine EL.nilCheck rfl rfl rfl ?_
    refine EL.fieldAddr rfl rfl rfl rfl rfl rfl rfl rfl ?_
    refine EL.loadR rfl rfl rfl rfl rfl (by repeat constructor) (hcell 1 _ rfl) ?_
    refine EL.indexAddrL (i := 0) rfl rfl rfl rfl rfl rfl rfl (Nat.zero_lt_succ _) ?_
    refine EL.ofRV (RV.loadEnds (q := 0) rfl rfl rfl (by repeat constructor) (by repeat constructor) hE rfl) rfl rfl rfl (by intro c h; cases h) ?_
    refine EL.assign rfl rfl rfl ?_
    refine .gr ?_; repeat constructor
    refine .gr ?_; repeat constructor
    refine EL.move rfl rfl rfl ?_
    refine EL.move rfl rfl rfl ?_
    refine EL.nilCheck rfl rfl rfl ?_
    refine EL.fieldAddr rfl rfl rfl rfl rfl rfl rfl rfl ?_
    refine EL.loadR rfl rfl rfl rfl rfl (by repeat constructor) (hcell 1 _ rfl) ?_
    refine EL.ofRV (RV.sliceLoG' (lo := 1) hX rfl rfl rfl rfl rfl (Nat.succ_le_succ (Nat.zero_le _)) htec) rfl rfl rfl (by intro c h; cases h) ?_
    refine EL.nilCheck rfl rfl rfl ?_
    refine EL.fieldAddr rfl rfl rfl rfl rfl rfl rfl rfl ?_
    (refine EL.storeR rfl rfl rfl rfl rfl rfl (by repeat constructor) (by rw [hbl, hln]; show 0 + init.length * 3 + 1 < _; omega) ?_; refine EL.rowEq (v := .slice (some ⟨sg, 0, none⟩) (init ++ [(⟨tpp, some ⟨lg, lo, none⟩, tec, tsa, tsc, ⟨tts, e :: el, tspans⟩⟩ : HBr)]).length scap) (by repeat constructor) (hset _ rfl) ?_)
    refine .gr ?_; repeat constructor
    refine .gr ?_; repeat constructor
    refine EL.move rfl rfl rfl ?_
    refine EL.move rfl rfl rfl ?_
    refine EL.nilCheck rfl rfl rfl ?_
    refine EL.fieldAddr rfl rfl rfl rfl rfl rfl rfl rfl ?_
    refine EL.loadR rfl rfl rfl rfl rfl (by repeat constructor) (hcell2 2 _ rfl) ?_
    (refine EL.copyNil rfl rfl rfl rfl rfl rfl rfl rfl rfl (fun w hs => pool_rd hs (by repeat constructor) htsp) (spsC_len tspans) (spsC_one tspans) (show tspans.length ≤ maxLen by unfold maxLen; omega) (Nat.le_trans (Nat.mul_le_mul_right _ (show tspans.length ≤ 100 by omega)) (by decide)) ?_; intro ap cp)
    refine EL.nilCheck rfl rfl rfl ?_
    refine EL.fieldAddr rfl rfl rfl rfl rfl rfl rfl rfl ?_
    (apply EL.storeB; exact rfl; exact rfl; exact rfl; exact rfl; exact rfl; exact rfl; (case p => repeat constructor); exact (by first | decide | exact Nat.le_of_ble_eq_true rfl | simp))
    refine .gr ?_; repeat constructor
    refine .gr ?_; repeat constructor
    refine EL.move rfl rfl rfl ?_
    refine EL.move rfl rfl rfl ?_
    refine EL.nilCheck rfl rfl rfl ?_
    refine EL.fieldAddr rfl rfl rfl rfl rfl rfl rfl rfl ?_
    refine EL.loadR rfl rfl rfl rfl rfl (by repeat constructor) (hcell2 0 _ rfl) ?_
    refine EL.move rfl rfl rfl ?_
    (refine EL.callMw rfl rfl rfl ent96 rfl (hfol ap cp) (by repeat constructor) ?_; rintro ⟨pool4, np, u1, u2⟩)
    refine EL.assign rfl rfl rfl ?_
    refine .gr ?_; repeat constructor
    dsimp only
    have hln2 : (init ++ [(⟨tpp, tad, tec - 1, tsa, tsc, ⟨tts, el, tspans⟩⟩ : HBr)]).length = init.length + 1 := by simp
    have hll : init.length + 1 ≤ stk.length := by omega
    exact PX.loop ⟨f, now2, init ++ [⟨tpp, tad, tec - 1, tsa, tsc, ⟨tts, el, tspans⟩⟩], z2, np, ap, cp, es2, st2, pool4, some ⟨sg, 0, none⟩, scap⟩ ⟨by dsimp only; rw [stk_rev]; exact hgo, y3, u2, fun y hy => by
        rcases List.mem_append.1 hy with hy | hy
        · exact (hstk2 y (hp2 y (List.mem_append_left _ hy))).mono (fun _ h => h) u1
        · rw [List.mem_singleton] at hy
          subst hy
          exact ⟨hts.mono u1, htl.mono (fun _ h => h) u1, by show el.length ≤ tec - 1; omega, u1 _ htsp, htsl, htk⟩, by dsimp only; omega, by dsimp only; rw [follow_len hfo]; exact htsl, by dsimp only; rw [hln2]; omega⟩ (Nat.lt_succ_self _)
      ⟨rfl, getA rfl (congrArg (fun n => Value.slice (some ⟨sg, 0, none⟩) n scap) (hln.trans hln2.symm)), rfl, trivial⟩ (by dsimp only; rw [hln2, ← hln]; exact (.i (by repeat constructor)))
end Go.Proofs.Ytblpgpgbnlhjlaa
namespace Go.Proofs.Ytblpgpgbnlhjlaa
open Go Go.RowKit Sl
set_option maxRecDepth 100000
set_option maxHeartbeats 8000000
set_option linter.unusedVariables false
set_option linter.unusedSimpArgs false
attribute [local irreducible] ES EL PX wps
structure FrS where
  m : Nat
  q : Nat
  es : List ME
  st : Nat
  sp : Option Addr
  cap : Nat
  z : List Spn
structure FrX (w0 : World) (B : Nat) (s : List UInt8) (res : Option (List Spn)) (q top : Nat) where
  es' : List ME
  st' : Nat
  sp : Option Addr
  cap : Nat
  z : List Spn
  ok : MemB w0 B s es'
  le : st' + q * (2 * floodC) ≤ top
  eq : ∀ y, res = some y → z = y
theorem from10_c (gs gm : Nat) (s : List UInt8) (hs : s.length ≤ 1024) (st F g q : Nat) (hg : g ≤ 9) (hq : q ≤ 16384) (top : Nat) (htop : top ≤ 576460752303423488) (hst : st + (q + 1) * (2 * floodC) ≤ top) (sp : Option Addr) (cap : Nat) (z : List Spn) (es : List ME) (r : RE) (i : Nat) (hi : i ≤ s.length) (w0 : World) (B gr off : Nat) (hn : NodeRd w0 B gr off r) (hf : r.fine) (hok : MemB w0 B s es)
    (ga : Nat) (x : AX (makeM [r]).1) (hcost : costL [r] + 1 ≤ 131072) (res : Option (List Spn)) (q' : Nat) (hfrom : fromB s F r g i (endsM (makeM [r]) s i 0).marks (s.length + 1 - i) q = some (res, q')) :
    MutAt Try.prog 46 #[Pv gs 0, Pv gr off, Pv ga 0, Iv (g : Nat), Iv (i : Nat)] [SB10 gs s st sp z.length cap gm, HA.memo gm 3 es, PRow sp cap z, AP ga x.1 (makeM [r]).2] (fun _ : FrX w0 B s res q' top => .bool res.isSome)
      (fun y => [SB10 gs s y.st' y.sp y.z.length y.cap gm, HA.memo gm 3 y.es', PRow y.sp y.cap y.z, AP ga x.1 (makeM [r]).2]) w0 B := by
  intro R w h
  replace h : Sat w0 B (SB10 gs s st sp z.length cap gm :: HA.memo gm 3 es :: PRow sp cap z :: AP ga x.1 (makeM [r]).2 :: R) w := h
  obtain ⟨hr, he⟩ := make_room [r] hcost
  rw [Nat.succ_mul] at hst
  have hec := ends_c gs s hs st (by omega) [.slice sp z.length cap, .map (some gm)] 109 ga (makeM [r]) x hr he i hi
  have hml : (endsM (makeM [r]) s i st).marks.length = s.length + 1 := flood_len hr.eo s (by show 0 < _; omega) hi _ _ _
  have hel : (endsM (makeM [r]) s i st).steps ≤ st + 17609365913600 := endsM_le hr hs i st
  rw [← endsM_st (makeM [r]) s i st] at hfrom
  generalize endsM (makeM [r]) s i st = FE at hfrom hec hml hel
  have hfc : floodC = 17609365913600 := rfl
  refine calls_of_ES TB Try.func46 rfl _ Try.ntmps46 rfl h ?_
  refine .gr ?_; repeat constructor
  refine EL.assign rfl rfl rfl ?_
  refine .gr ?_; repeat constructor
  refine EL.move rfl rfl rfl ?_
  refine EL.nilCheck rfl rfl rfl ?_
  refine EL.fieldAddr rfl rfl rfl rfl rfl rfl rfl rfl ?_
  refine EL.move rfl rfl rfl ?_
  refine EL.move rfl rfl rfl ?_
  (refine EL.callM rfl rfl rfl ent64 rfl hec (by repeat constructor) ?_; intro ge)
  refine EL.assign rfl rfl rfl ?_
  refine .gr ?_; repeat constructor
  refine EL.move rfl rfl rfl ?_
  refine EL.nilCheck rfl rfl rfl ?_
  refine EL.fieldAddr rfl rfl rfl rfl rfl rfl rfl rfl ?_
  refine EL.fieldAddr rfl rfl rfl rfl rfl rfl rfl rfl ?_
  (apply EL.loadB; exact rfl; exact rfl; exact rfl; exact rfl; exact rfl; (case hm => repeat constructor); exact rfl)
  refine EL.lenS rfl rfl rfl rfl rfl ?_
  refine EL.assign rfl rfl rfl ?_
  refine .gr ?_; repeat constructor
  refine ES.loop (σ := FrS) (fun y => y.m ≤ s.length + 1 - i ∧ y.q ≤ 16384 ∧ fromB s F r g i FE.marks y.m y.q = some (res, q') ∧ MemB w0 B s y.es ∧ y.st + y.q * (2 * floodC) ≤ top) (fun y => [(0, Pv gs 0), (1, Pv gr off), (3, Iv (g : Nat)), (4, Iv (i : Nat)), (11, .slice (some ⟨ge, 0, none⟩) (s.length + 1) (s.length + 1)), (12, Iv ((i : Int) + (y.m : Int) - 1))])
    (fun y => SB10 gs s y.st y.sp y.z.length y.cap gm :: HA.memo gm 3 y.es :: PRow y.sp y.cap y.z :: BR ge (s.length + 1) FE.marks :: AP ga x.1 (makeM [r]).2 :: R) (fun y => y.m) ⟨s.length + 1 - i, q, es, FE.steps, sp, cap, z⟩ ⟨Nat.le_refl _, hq, hfrom, hok, by dsimp only; omega⟩ ⟨rfl, rfl, rfl, rfl, rfl, getA rfl (congrArg Iv (by dsimp only; omega)), trivial⟩ (.i (by repeat constructor)) ?_
  rintro ⟨m, q1, es1, st1, sp1, cap1, z1⟩ ⟨hm, hq1, hgo, hmem, hst1⟩
  dsimp only at hm hq1 hgo hmem hst1 ⊢
  refine .gr ?_; repeat constructor
  refine EL.move rfl rfl rfl ?_
  refine EL.move rfl rfl rfl ?_
  refine EL.geq rfl rfl rfl rfl ?_
  refine .gr ?_; repeat constructor
  refine ES.condD rfl (fun hge => ?_) (fun hlt => ?_)
  rotate_left
  · obtain rfl : m = 0 := by omega
    rw [fromB] at hgo
    cases hgo
    refine .gr ?_; repeat constructor
    refine .gr ?_; repeat constructor
    refine EL.assign rfl rfl rfl ?_
    refine .gr ?_; repeat constructor
    exact PX.ret rfl Try.results46 (.cons (.tmp rfl) .nil) (fun w hs => ⟨⟨es1, st1, sp1, cap1, z1, hmem, hst1, fun y hy => by cases hy⟩, rfl, hs.ent (.i (by repeat constructor))⟩)
  obtain ⟨m, rfl⟩ : ∃ m', m = m' + 1 := ⟨m - 1, by omega⟩
  have ej : (i : Int) + ((m + 1 : Nat) : Int) - 1 = ((i + m : Nat) : Int) := by omega
  rw [ej]
  rw [fromB] at hgo
  have hback : (((i + m : Nat) : Int) - 1) = (i : Int) + (m : Int) - 1 := by omega
  refine .gr ?_; repeat constructor
  refine EL.move rfl rfl rfl ?_
  refine EL.move rfl rfl rfl ?_
  refine EL.indexAddrL1 rfl rfl rfl rfl rfl rfl rfl rfl (by omega) ?_
  refine EL.ofRV (RV.loadRm (l := FE.marks) Value.bool false rfl rfl rfl (by repeat constructor) (by rw [hml]; omega)) rfl rfl rfl (by intro c h; cases h) ?_
  refine EL.not rfl rfl rfl ?_
  refine .gr ?_; repeat constructor
  refine ES.cond rfl (fun hf0 => ?_) (fun hf0 => ?_)
  · rw [Bool.not_eq_true'] at hf0
    rw [if_neg (by rw [hf0]; simp)] at hgo
    refine .gr ?_; repeat constructor
    refine .gr ?_; repeat constructor
    refine EL.move rfl rfl rfl ?_
    refine EL.sub_ ((i : Int) + (m : Int) - 1) rfl rfl rfl rfl ((wrap_i64 _ (by omega) (by omega)).trans (by omega)) ?_
    refine EL.assign rfl rfl rfl ?_
    refine .gr ?_; repeat constructor
    exact PX.loop ⟨m, q1, es1, st1, sp1, cap1, z1⟩ ⟨by dsimp only; omega, hq1, hgo, hmem, hst1⟩ (by dsimp only; omega) ⟨rfl, rfl, rfl, rfl, rfl, rfl, trivial⟩ (.i (by repeat constructor))
  rw [Bool.not_eq_false'] at hf0
  rw [if_pos hf0] at hgo
  split at hgo
  · cases hgo
  rename_i hqF
  obtain ⟨q2, rfl⟩ : ∃ q2, q1 = q2 + F := ⟨q1 - F, by omega⟩
  rw [Nat.add_mul] at hst1
  rw [Nat.add_sub_cancel] at hgo
  cases hrun : runB s F [⟨r, 0, i, i + m⟩] [] (List.replicate (g + 1) (-1, -1)) with
  | none => rw [hrun] at hgo; cases hgo
  | some rs =>
  rw [hrun] at hgo
  have hlR : (List.replicate (g + 1) ((-1, -1) : Spn)).length = g + 1 := List.length_replicate
  refine .gr ?_; repeat constructor
  refine EL.move rfl rfl rfl ?_
  refine EL.nilCheck rfl rfl rfl ?_
  refine EL.fieldAddr rfl rfl rfl rfl rfl rfl rfl rfl ?_
  (apply EL.storeB; exact rfl; exact rfl; exact rfl; exact rfl; exact rfl; exact rfl; (case p => repeat constructor); exact (by first | decide | exact Nat.le_of_ble_eq_true rfl | simp))
  refine .gr ?_; repeat constructor
  refine EL.move rfl rfl rfl ?_
  refine EL.add1 rfl rfl rfl rfl (by omega) ?_
  refine EL.move rfl rfl rfl ?_
  refine .gr ?_; repeat constructor
  refine ES.nilRow 33 2 ?_
  have hsR : ∀ n, spsC (List.replicate n (-1, -1) ++ [(-1, -1)]) = spsC (List.replicate (n + 1) (-1, -1)) := fun n => by rw [List.replicate_succ']
  refine ES.loop (σ := SpSt) (fun y => y.i ≤ g + 1) (fun y => [(0, Pv gs 0), (1, Pv gr off), (3, Iv (g : Nat)), (4, Iv (i : Nat)), (11, .slice (some ⟨ge, 0, none⟩) (s.length + 1) (s.length + 1)), (12, Iv ((i + m : Nat) : Int)), (39, Iv ((g + 1 : Nat) : Int)), (40, Iv (y.i : Nat))])
    (fun y => SB10 gs s st1 y.ad y.i y.cap gm :: HA.row (.slice y.ad y.i y.cap) 33 2 y.i (spsC (List.replicate y.i (-1, -1))) :: HA.memo gm 3 es1 :: BR ge (s.length + 1) FE.marks :: AP ga x.1 (makeM [r]).2 :: R) (fun y => g + 1 - y.i) ⟨0, none, 0⟩ (Nat.zero_le _) ⟨rfl, rfl, rfl, rfl, rfl, rfl, rfl, rfl, trivial⟩ (.i (by repeat constructor)) ?_
  rintro ⟨n, nad, ncap⟩ hn1
  dsimp only at hn1 ⊢
  refine .gr ?_; repeat constructor
  refine EL.lss rfl rfl rfl rfl ?_
  refine .gr ?_; repeat constructor
  refine ES.condD rfl (fun hlt => ?_) (fun hge2 => ?_)
  · refine .gr ?_; repeat constructor
    refine EL.move rfl rfl rfl ?_
    refine EL.move rfl rfl rfl ?_
    refine EL.nilCheck rfl rfl rfl ?_
    refine EL.fieldAddr rfl rfl rfl rfl rfl rfl rfl rfl ?_
    (apply EL.loadB; exact rfl; exact rfl; exact rfl; exact rfl; exact rfl; (case hm => repeat constructor); exact rfl)
    refine EL.buildS #[Iv (-1), Iv (-1)] rfl rfl rfl rfl rfl (by kernel_rfl) rfl ?_
    (refine EL.buildSlice1 rfl rfl rfl rfl rfl rfl rfl rfl rfl rfl ?_; intro b48)
    (refine EL.append1 rfl rfl rfl rfl rfl rfl rfl rfl rfl (by repeat constructor) (by repeat constructor) (by first | (intro u hu; simp [Value.cells] at hu; subst hu; rfl) | exact all1 rfl) (by rfl) (by unfold maxLen; omega) (by first | omega | (show 1 * _ ≤ _; omega) | (show 8 * _ ≤ _; omega) | (show 16 * _ ≤ _; omega) | (show 24 * _ ≤ _; omega) | (show _ * 1 ≤ _; omega) | (show _ * 8 ≤ _; omega) | (show _ * 16 ≤ _; omega) | (show _ * 24 ≤ _; omega) | exact Nat.le_trans (Nat.mul_le_mul_right _ (show _ ≤ 1073741824 by omega)) (by decide)) ?_; intro a49 c49)
    refine EL.nilCheck rfl rfl rfl ?_
    refine EL.fieldAddr rfl rfl rfl rfl rfl rfl rfl rfl ?_
    (apply EL.storeB; exact rfl; exact rfl; exact rfl; exact rfl; exact rfl; exact rfl; (case p => repeat constructor); exact (by first | decide | exact Nat.le_of_ble_eq_true rfl | simp))
    refine .gr ?_; repeat constructor
    refine EL.add1 rfl rfl rfl rfl (by omega) ?_
    refine EL.move rfl rfl rfl ?_
    refine .gr ?_; repeat constructor
    exact PX.loop ⟨n + 1, some ⟨a49, 0, none⟩, c49⟩ (by dsimp only; omega) (by dsimp only; omega) ⟨rfl, rfl, rfl, rfl, rfl, rfl, rfl, rfl, trivial⟩ (by dsimp only; rw [← hsR n, spsC_app]; exact (.i (by repeat constructor)))
  obtain rfl : n = g + 1 := by omega
  have hrc := run10_c gs gm s hs st1 F (by omega) (Nat.le_trans (Nat.le_trans (Nat.add_le_add_left (Nat.le_add_left _ _) _) hst1) htop) nad ncap (List.replicate (g + 1) (-1, -1)) (by rw [hlR]; omega) es1 r i (i + m) w0 B gr off hn hf hmem rs hrun
  refine ES.imp (H' := SB10 gs s st1 nad (List.replicate (g + 1) ((-1, -1) : Spn)).length ncap gm :: HA.memo gm 3 es1 :: PRow nad ncap (List.replicate (g + 1) (-1, -1)) :: BR ge (s.length + 1) FE.marks :: AP ga x.1 (makeM [r]).2 :: R) (fun w hs => by
    unfold SB10 PRow
    rw [hlR]
    exact hs.ent (.i (by repeat constructor))) ?_
  refine .gr ?_; repeat constructor
  refine EL.move rfl rfl rfl ?_
  refine EL.move rfl rfl rfl ?_
  refine EL.move rfl rfl rfl ?_
  refine EL.move rfl rfl rfl ?_
  (refine EL.callMw rfl rfl rfl ent69 rfl hrc (by repeat constructor) ?_; rintro ⟨es2, st2, sp2, cap2, z2, y1, y2, y3, y4⟩)
  refine .gr ?_; repeat constructor
  cases rs with
  | none =>
    dsimp only at hgo ⊢
    refine ES.condF rfl ?_
    refine .gr ?_; repeat constructor
    refine .gr ?_; repeat constructor
    refine EL.move rfl rfl rfl ?_
    refine EL.sub_ ((i : Int) + (m : Int) - 1) rfl rfl rfl rfl ((wrap_i64 _ (by omega) (by omega)).trans (by omega)) ?_
    refine EL.assign rfl rfl rfl ?_
    refine .gr ?_; repeat constructor
    exact PX.loop ⟨m, q2, es2, st2, sp2, cap2, z2⟩ ⟨by dsimp only; omega, by dsimp only; omega, hgo, y1, by dsimp only; omega⟩ (by dsimp only; omega) ⟨rfl, rfl, rfl, rfl, rfl, rfl, trivial⟩ (.i (by repeat constructor))
  | some zf =>
    obtain rfl : z2 = zf := y4 zf rfl
    dsimp only at hgo ⊢
    refine ES.condT rfl ?_
    split at hgo
    rotate_left
    · cases hgo
    rename_i hzl
    cases hgo
    have hsl := spsC_len z2
    have hput := spsC_set z2 0 hzl ((i : Int), ((i + m : Nat) : Int))
    refine ES.know (P := ∃ g, sp2 = some ⟨g, 0, none⟩) (fun w hs => (row_form (hs.all (PRow sp2 cap2 z2) (by simp))).2.2.2.2 (by omega)) ?_
    rintro ⟨spg, rfl⟩
    refine .gr ?_; repeat constructor
    refine EL.move rfl rfl rfl ?_
    refine EL.nilCheck rfl rfl rfl ?_
    refine EL.fieldAddr rfl rfl rfl rfl rfl rfl rfl rfl ?_
    (apply EL.loadB; exact rfl; exact rfl; exact rfl; exact rfl; exact rfl; (case hm => repeat constructor); exact rfl)
    refine EL.move rfl rfl rfl ?_
    refine EL.move rfl rfl rfl ?_
    refine EL.build2 rfl rfl rfl rfl rfl rfl rfl rfl rfl rfl ?_
    refine EL.indexAddrL (i := 0) rfl rfl rfl rfl rfl rfl rfl hzl ?_
    (refine EL.storeRA (vs := spC ((i : Int), ((i + m : Nat) : Int))) rfl rfl rfl rfl rfl (by repeat constructor) (by rw [hsl]; show 0 + 0 * 2 + 2 ≤ _; omega) (all1 rfl) ?_; refine EL.rowEq (v := .slice (some ⟨spg, 0, none⟩) z2.length cap2) (by repeat constructor) hput ?_)
    refine .gr ?_; repeat constructor
    refine .gr ?_; repeat constructor
    refine EL.assign rfl rfl rfl ?_
    refine .gr ?_; repeat constructor
    have hl2 : (z2.set 0 ((i : Int), ((i + m : Nat) : Int))).length = z2.length := List.length_set
    exact PX.ret rfl Try.results46 (.cons (.tmp rfl) .nil) (fun w hs => ⟨⟨es2, st2, some ⟨spg, 0, none⟩, cap2, z2.set 0 ((i : Int), ((i + m : Nat) : Int)), y1, by omega, fun y hy => Option.some.inj hy⟩, rfl, by
      unfold SB10 PRow
      dsimp only
      rw [hl2]
      exact hs.ent (.i (by repeat constructor))⟩)
end Go.Proofs.Ytblpgpgbnlhjlaa
namespace Go.Proofs.Ytblpgpgbnlhjlaa
open Go Go.RowKit Sl
set_option maxRecDepth 100000
set_option maxHeartbeats 8000000
set_option linter.unusedVariables false
set_option linter.unusedSimpArgs false
attribute [local irreducible] ES EL PX wps
theorem from_le {s : List UInt8} {F g i : Nat} {r : RE} {ends : List Bool} {x : Option (List Spn)} {q' : Nat} : ∀ (m q : Nat), fromB s F r g i ends m q = some (x, q') → q' ≤ q
  | 0, q, h => by rw [fromB] at h; cases h; exact Nat.le_refl _
  | m + 1, q, h => by
    rw [fromB] at h
    split at h
    · split at h
      · cases h
      · split at h
        · cases h
        · exact Nat.le_trans (from_le m _ h) (Nat.sub_le _ _)
        · split at h
          · cases h; exact Nat.sub_le _ _
          · cases h
    · exact from_le m q h
structure MaS where
  n : Nat
  i : Nat
  q : Nat
  es : List ME
  st : Nat
  sp : Option Addr
  cap : Nat
  z : List Spn
theorem backMatch_c (F : Nat) (t s : List UInt8) (a : Int) (m : MB10) (hm : backM F t s a = some m) (ht : t.length ≤ 4611686018427387904) (w : World) (hG : GR w w.heap.size) :
    Pure Try.prog 21 #[Sv t, Sv s, Iv a] (fun x : Option Addr × Nat => .tuple #[.slice x.1 m.spans.length x.2, .bool m.ok, Iv m.e]) (fun x => [PRow x.1 x.2 m.spans]) w := by
  have hpf := parse_fine t
  have hpc := fun w hG => parse_c t ht w hG
  have hof : ofM t = if (parseM t).e ≠ 0 then (Me.zero, (parseM t).e, (parseM t).at_) else (measM (parseM t).tree, 0, 0) := rfl
  have hmc := fun w hG => measOf_c t ht w hG
  have hwc : ∀ i : Nat, (parseM t).e = 0 → s.length ≤ 1024 → i ≤ s.length → waysM t s (i : Nat) = (countM s (parseM t).tree i, 0) := fun i h1 h2 h3 => by
    unfold waysM
    rw [if_neg (fun h => h h1), if_neg (by omega), if_neg (by omega), Int.toNat_natCast]
  have hws := fun (i : Nat) (hsl : s.length ≤ 1024) w hG => waysCount_c t s ht (Nat.le_trans hsl (by decide)) (i : Nat) w hG
  unfold backM at hm
  generalize ofM t = om at hof hmc
  generalize parseM t = p at hm hpf hpc hof hwc
  obtain ⟨tree, pe, pat⟩ := p
  dsimp only at hm hpf hpc hof hwc
  have hnil : ∀ {w0 w' : World} {B : Nat} {R : List HA}, Sat w0 B R w' → Sat w0 B [PRow none 0 []] w' := fun {w0 w' B R} h => (h.nilRow 33 2).ent (.i (by repeat constructor))
  refine calls_of_ES TB Try.func21 rfl _ Try.ntmps21 rfl (Sat.start w) ?_
  refine .go ?_; repeat constructor
  refine EL.assign rfl rfl rfl ?_
  refine EL.assign rfl rfl rfl ?_
  refine EL.assign rfl rfl rfl ?_
  refine .go ?_; repeat constructor
  refine EL.move rfl rfl rfl ?_
  (refine EL.callXw rfl rfl rfl ent40 rfl (fun w hs => hpc w (GR.sat hG hs)) ?_; intro px)
  refine EL.move rfl rfl rfl ?_
  refine EL.extract rfl rfl rfl rfl ?_
  refine EL.extract rfl rfl rfl rfl ?_
  (refine EL.alloc rfl rfl rfl ?_; intro g9)
  (refine EL.alloc rfl rfl rfl ?_; intro g10)
  (apply EL.storeAll; exact rfl; exact rfl; exact rfl; exact rfl; exact rfl; (case p => repeat constructor); exact rfl; (case h1 => exact (by first | rfl | exact all1 rfl | (intro u hu; simp only [List.mem_cons, List.not_mem_nil, or_false] at hu; rcases hu with rfl | rfl | rfl | rfl <;> rfl) | (intro u hu; simp at hu; rcases hu with rfl | rfl | rfl | rfl <;> rfl) | (intro u hu; simp at hu; rcases hu with rfl | rfl | rfl <;> rfl) | (intro u hu; simp at hu; rcases hu with rfl | rfl <;> rfl) | (intro u hu; simp at hu; obtain ⟨_, _, rfl⟩ := hu; rfl))))
  (apply EL.storeAll; exact rfl; exact rfl; exact rfl; exact rfl; exact rfl; (case p => repeat constructor); exact rfl; (case h1 => exact (by first | rfl | exact all1 rfl | (intro u hu; simp only [List.mem_cons, List.not_mem_nil, or_false] at hu; rcases hu with rfl | rfl | rfl | rfl <;> rfl) | (intro u hu; simp at hu; rcases hu with rfl | rfl | rfl | rfl <;> rfl) | (intro u hu; simp at hu; rcases hu with rfl | rfl | rfl <;> rfl) | (intro u hu; simp at hu; rcases hu with rfl | rfl <;> rfl) | (intro u hu; simp at hu; obtain ⟨_, _, rfl⟩ := hu; rfl))))
  refine .go ?_; repeat constructor
  refine .go ?_; repeat constructor
  refine EL.fieldAddr rfl rfl rfl rfl rfl rfl rfl rfl ?_
  (apply EL.loadB; exact rfl; exact rfl; exact rfl; exact rfl; exact rfl; (case hm => repeat constructor); exact rfl)
  refine EL.neqI rfl rfl rfl rfl ?_
  refine EL.assign rfl rfl rfl ?_
  refine .go ?_; repeat constructor
  refine ES.condN rfl (fun hne => ?_) (fun he => ?_)
  · rw [if_pos hne] at hm
    cases hm
    refine .g0 ?_; repeat constructor
    refine ES.draw (X := Unit) (fun _ => [(6, .slice none 0 0), (7, .bool false), (8, Iv pe)]) (fun _ => []) (HA.blk g10 (.cells #[Iv pe, Iv (pat : Nat)] 67) :: []) mixed (.i (by repeat constructor)) ?_ (fun _ => ?_)
    · refine ED.take 0 rfl (by decide +kernel) CutX.no_panic (by decide +kernel) rfl rfl rfl (RV.fieldAddr rfl rfl rfl rfl rfl rfl) ?_
      refine ED.take 1 rfl (by decide +kernel) CutX.no_panic (by decide +kernel) rfl rfl rfl (RV.loadB rfl rfl rfl (by repeat constructor) rfl) ?_
      refine ED.take 2 rfl (by decide +kernel) CutX.no_panic (by decide +kernel) rfl rfl rfl (RV.assign rfl) ?_
      refine ED.take 3 rfl (by decide +kernel) CutX.no_panic (by decide +kernel) rfl rfl rfl (RV.assign rfl) ?_
      refine ED.take 4 rfl (by decide +kernel) CutX.no_panic (by decide +kernel) rfl rfl rfl (RV.assign rfl) ?_
      refine ED.done (by decide +kernel) ?_
      exact PX.cutX () ⟨rfl, rfl, rfl, trivial⟩ (.i (by repeat constructor))
    refine .go ?_; repeat constructor
    exact PX.ret rfl Try.results21 (.cons (.tmp rfl) (.cons (.tmp rfl) (.cons (.tmp rfl) .nil))) (fun w hs => ⟨(none, 0), rfl, hnil hs⟩)
  have he' : pe = 0 := he
  rw [if_neg (fun h => h he')] at hm hof
  subst hof
  refine .go ?_; repeat constructor
  refine EL.move rfl rfl rfl ?_
  refine EL.lenS rfl rfl rfl rfl rfl ?_
  refine EL.gtr rfl rfl rfl rfl ?_
  refine EL.assign rfl rfl rfl ?_
  refine .go ?_; repeat constructor
  refine ES.condD rfl (fun hl => ?_) (fun hl => ?_)
  · rw [if_pos (by omega)] at hm
    cases hm
    refine .go ?_; repeat constructor
    refine EL.assign rfl rfl rfl ?_
    refine EL.assign rfl rfl rfl ?_
    refine EL.assign rfl rfl rfl ?_
    refine .go ?_; repeat constructor
    exact PX.ret rfl Try.results21 (.cons (.tmp rfl) (.cons (.tmp rfl) (.cons (.tmp rfl) .nil))) (fun w hs => ⟨(none, 0), rfl, hnil hs⟩)
  rw [if_neg (by omega)] at hm
  have hs2 : s.length ≤ 1024 := by omega
  refine .go ?_; repeat constructor
  refine EL.cutX (X := Unit) (fun _ => [(0, Sv t), (1, Sv s), (2, Iv a), (9, Pv g9 0), (33, .bool (decide (a < 0 ∨ (s.length : Int) < a)))])
    (fun _ => HA.blk g9 (.cells (reCells tree (.slice px.ad tree.kids.length px.cap)).toArray 82) :: HA.forest px.fp [tree] (reCells tree (.slice px.ad tree.kids.length px.cap)) :: []) ?_ (fun _ => ?_)
  · refine .go ?_; repeat constructor
    refine EL.move rfl rfl rfl ?_
    refine EL.lss rfl rfl rfl rfl ?_
    refine EL.move rfl rfl rfl ?_
    first | refine EL.splitD (d := 36) rfl (fun hp36 => ?_) (fun hp36 => ?_) | refine EL.splitN (d := 36) rfl (fun hp36 => ?_) (fun hp36 => ?_) | refine EL.splitB (d := 36) rfl (fun hp36 => ?_) (fun hp36 => ?_)
    · refine EL.pass rfl rfl rfl ?_
      refine EL.pass rfl rfl rfl ?_
      refine EL.pass rfl rfl rfl ?_
      refine EL.pass rfl rfl rfl ?_
      refine EL.pickT rfl rfl rfl rfl ?_
      refine EL.assign rfl rfl rfl ?_
      exact EL.endX () ⟨rfl, rfl, rfl, rfl, getA rfl (congrArg Value.bool (by rw [Bool.eq_iff_iff]; simp only [decide_eq_true_eq, true_iff]; omega)), trivial⟩ (.i (by repeat constructor))
    · refine EL.move rfl rfl rfl ?_
      refine EL.move rfl rfl rfl ?_
      refine EL.lenS rfl rfl rfl rfl rfl ?_
      refine EL.gtr rfl rfl rfl rfl ?_
      refine EL.pickF rfl rfl rfl rfl ?_
      refine EL.assign rfl rfl rfl ?_
      exact EL.endX () ⟨rfl, rfl, rfl, rfl, getA rfl (congrArg Value.bool (by rw [Bool.eq_iff_iff]; simp only [decide_eq_true_eq, true_iff]; omega)), trivial⟩ (.i (by repeat constructor))
  refine ES.condD rfl (fun hr => ?_) (fun hr => ?_)
  · rw [if_pos hr] at hm
    cases hm
    refine .go ?_; repeat constructor
    refine EL.assign rfl rfl rfl ?_
    refine EL.assign rfl rfl rfl ?_
    refine EL.assign rfl rfl rfl ?_
    refine .go ?_; repeat constructor
    exact PX.ret rfl Try.results21 (.cons (.tmp rfl) (.cons (.tmp rfl) (.cons (.tmp rfl) .nil))) (fun w hs => ⟨(none, 0), rfl, hnil hs⟩)
  rw [if_neg hr] at hm
  split at hm
  · cases hm
  rename_i hgr
  obtain ⟨G, hGr⟩ : ∃ G : Nat, (measM tree).grp = (G : Int) := ⟨(measM tree).grp.toNat, by omega⟩
  have hG9 : G ≤ 9 := by omega
  have hcost : costL [tree] + 1 ≤ 131072 := by omega
  rw [hGr, Int.toNat_natCast] at hm
  obtain ⟨i, rfl⟩ : ∃ i : Nat, a = (i : Int) := ⟨a.toNat, by omega⟩
  have hi : i ≤ s.length := by omega
  rw [Int.toNat_natCast] at hm
  refine .go ?_; repeat constructor
  refine EL.move rfl rfl rfl ?_
  refine EL.callPw rfl rfl rfl ent42 rfl (fun w hs => hmc w (GR.sat hG hs)) ?_
  refine EL.move rfl rfl rfl ?_
  refine EL.extract rfl rfl rfl rfl ?_
  refine EL.extract rfl rfl rfl rfl ?_
  (refine EL.alloc rfl rfl rfl ?_; intro g11)
  (refine EL.alloc rfl rfl rfl ?_; intro g12)
  (apply EL.storeAll; exact rfl; exact rfl; exact rfl; exact rfl; exact rfl; (case p => repeat constructor); exact rfl; (case h1 => exact (by first | rfl | exact all1 rfl | (intro u hu; simp only [List.mem_cons, List.not_mem_nil, or_false] at hu; rcases hu with rfl | rfl | rfl | rfl <;> rfl) | (intro u hu; simp at hu; rcases hu with rfl | rfl | rfl | rfl <;> rfl) | (intro u hu; simp at hu; rcases hu with rfl | rfl | rfl <;> rfl) | (intro u hu; simp at hu; rcases hu with rfl | rfl <;> rfl) | (intro u hu; simp at hu; obtain ⟨_, _, rfl⟩ := hu; rfl))))
  (apply EL.storeAll; exact rfl; exact rfl; exact rfl; exact rfl; exact rfl; (case p => repeat constructor); exact rfl; (case h1 => exact (by first | rfl | exact all1 rfl | (intro u hu; simp only [List.mem_cons, List.not_mem_nil, or_false] at hu; rcases hu with rfl | rfl | rfl | rfl <;> rfl) | (intro u hu; simp at hu; rcases hu with rfl | rfl | rfl | rfl <;> rfl) | (intro u hu; simp at hu; rcases hu with rfl | rfl | rfl <;> rfl) | (intro u hu; simp at hu; rcases hu with rfl | rfl <;> rfl) | (intro u hu; simp at hu; obtain ⟨_, _, rfl⟩ := hu; rfl))))
  repeat (first | apply EL.nil | apply ES.seq | apply ES.skip)
  refine ES.rebase (fun w1 hw1 => ?_)
  have hG1 : GR w1 w1.heap.size := GR.sat hG hw1
  have hn := node_of hw1 (by repeat constructor) (by repeat constructor)
  have hrd11 := rd_blk hw1 (g := g11) (cs := (measM tree).cells) (e := 93) (by repeat constructor)
  have hn' := hn
  obtain ⟨ad, kcap, cs0, q1, q2, q3, q4⟩ := hn'
  have hrd9 := q1.rd
  obtain ⟨hr1, he1⟩ := make_room [tree] hcost
  have hgc : (measM tree).cells[1]? = some (Iv (G : Nat)) := by rw [← hGr]; rfl
  refine .go ?_; repeat constructor
  refine EL.loadOldA (j := 0) (vs := reCells tree (.slice ad tree.kids.length kcap)) rfl rfl rfl rfl rfl (by simp [reCells]) rfl hrd9 (fun i u hi => by rw [Nat.zero_add]; exact hi) ?_
  (refine EL.buildSlice1 rfl rfl rfl rfl rfl rfl rfl rfl rfl rfl ?_; intro b48)
  (refine EL.callXw rfl rfl rfl ent44 rfl (fun w hs => make_c [tree] (fun k hk => by rw [List.mem_singleton] at hk; subst hk; exact hpf) (by simp) hcost (some ⟨b48, 0, none⟩) 1 w (rowRd_one q2 q3 q4 w _ (hs.ent (H' := HA.row (.slice (some ⟨b48, 0, none⟩) 1 1) 82 9 1 (reCells tree (.slice ad tree.kids.length kcap)) :: []) (.i (by repeat constructor))))) ?_; intro mk)
  refine EL.assign rfl rfl rfl ?_
  refine .go ?_; repeat constructor
  refine .go ?_; repeat constructor
  refine EL.move rfl rfl rfl ?_
  refine EL.buildS #[Sv s, Iv 0] rfl rfl rfl rfl rfl (by kernel_rfl) rfl ?_
  (refine EL.makeMap 3 rfl rfl ?_; intro gm)
  refine EL.buildS #[Sv s, Iv 0, .slice none 0 0, .map (some gm)] rfl rfl rfl rfl rfl (by kernel_rfl) rfl ?_
  (refine EL.box rfl rfl rfl ?_; intro g54)
  refine EL.assign rfl rfl rfl ?_
  refine .go ?_; repeat constructor
  refine EL.move rfl rfl rfl ?_
  refine EL.assign rfl rfl rfl ?_
  refine .go ?_; repeat constructor
  refine ES.nilRow 33 2 ?_
  have hsp : 0 + spendB * (2 * floodC) ≤ 576460752303423488 := by decide
  obtain ⟨top, htop, htop2⟩ : ∃ top, 0 + spendB * (2 * floodC) ≤ top ∧ top ≤ 576460752303423488 := ⟨_, Nat.le_refl _, hsp⟩
  have hq0 : spendB ≤ 16384 := by decide
  generalize spendB = q0 at hm htop hq0
  clear hsp
  refine ES.loop (σ := MaS) (fun y => y.n + y.i = s.length + 1 ∧ y.q ≤ 16384 ∧ matchB s F tree G y.n y.i y.q = some m ∧ MemB w1 w1.heap.size s y.es ∧ y.st + y.q * (2 * floodC) ≤ top) (fun y => [(0, Sv t), (1, Sv s), (9, Pv g9 0), (11, Pv g11 0), (13, Pv mk.1 0), (14, Pv g54 0), (15, Iv (y.i : Nat))])
    (fun y => SB10 g54 s y.st y.sp y.z.length y.cap gm :: HA.memo gm 3 y.es :: PRow y.sp y.cap y.z :: AP mk.1 mk.2.1 (makeM [tree]).2 :: []) (fun y => y.n) ⟨s.length + 1 - i, i, q0, [], 0, none, 0, []⟩ ⟨by dsimp only; omega, hq0, hm, fun m hm => by simp at hm, htop⟩ ⟨rfl, rfl, rfl, rfl, rfl, rfl, rfl, trivial⟩ (.i (by repeat constructor)) ?_
  rintro ⟨n, i, q, es, st, sp, cap, z⟩ ⟨hn1, hq1, hgo, hmem, hst⟩
  dsimp only at hn1 hq1 hgo hmem hst ⊢
  refine .go ?_; repeat constructor
  refine EL.move rfl rfl rfl ?_
  refine EL.move rfl rfl rfl ?_
  refine EL.lenS rfl rfl rfl rfl rfl ?_
  refine EL.leq rfl rfl rfl rfl ?_
  refine .go ?_; repeat constructor
  refine ES.condD rfl (fun hle => ?_) (fun hgt => ?_)
  rotate_left
  · obtain rfl : n = 0 := by omega
    rw [matchB] at hgo
    cases hgo
    refine .go ?_; repeat constructor
    refine EL.assign rfl rfl rfl ?_
    refine EL.assign rfl rfl rfl ?_
    refine EL.assign rfl rfl rfl ?_
    refine .go ?_; repeat constructor
    exact PX.ret rfl Try.results21 (.cons (.tmp rfl) (.cons (.tmp rfl) (.cons (.tmp rfl) .nil))) (fun w hs => ⟨(none, 0), rfl, hnil (hw1.join hs)⟩)
  obtain ⟨n, rfl⟩ : ∃ n', n = n' + 1 := ⟨n - 1, by omega⟩
  rw [matchB] at hgo
  have hi2 : i ≤ s.length := by omega
  have hcnt := fun w hG => hws i hs2 w hG
  rw [hwc i he' hs2 hi2] at hcnt
  have hle : countM s tree i ≤ 4097 := by rw [count_exact]; exact cap_le _
  refine .go ?_; repeat constructor
  refine EL.move rfl rfl rfl ?_
  refine EL.move rfl rfl rfl ?_
  refine EL.move rfl rfl rfl ?_
  refine EL.callPw rfl rfl rfl ent16 rfl (fun w hs => hcnt w (GR.sat hG1 hs)) ?_
  refine EL.move rfl rfl rfl ?_
  refine EL.extract rfl rfl rfl rfl ?_
  refine EL.extract rfl rfl rfl rfl ?_
  refine EL.assign rfl rfl rfl ?_
  refine EL.assign rfl rfl rfl ?_
  refine .go ?_; repeat constructor
  refine .go ?_; repeat constructor
  refine EL.move rfl rfl rfl ?_
  refine EL.gtr rfl rfl rfl rfl ?_
  refine .go ?_; repeat constructor
  refine ES.condD rfl (fun hbig => ?_) (fun hnb => ?_)
  · rw [if_pos (by omega)] at hgo
    cases hgo
    refine .go ?_; repeat constructor
    refine EL.assign rfl rfl rfl ?_
    refine EL.assign rfl rfl rfl ?_
    refine EL.assign rfl rfl rfl ?_
    refine .go ?_; repeat constructor
    exact PX.ret rfl Try.results21 (.cons (.tmp rfl) (.cons (.tmp rfl) (.cons (.tmp rfl) .nil))) (fun w hs => ⟨(none, 0), rfl, hnil (hw1.join hs)⟩)
  rw [if_neg (by omega)] at hgo
  refine .go ?_; repeat constructor
  by_cases hc0 : 0 < countM s tree i
  rotate_left
  · rw [if_neg hc0] at hgo
    refine .go ?_; repeat constructor
    refine EL.move rfl rfl rfl ?_
    refine EL.gtr rfl rfl rfl rfl ?_
    refine EL.move rfl rfl rfl ?_
    refine EL.rew (d := 73) (v' := .bool false) rfl ((by rw [decide_eq_false (by omega)])) ?_
    refine EL.pass rfl rfl rfl ?_
    refine EL.pass rfl rfl rfl ?_
    refine EL.pass rfl rfl rfl ?_
    refine EL.pass rfl rfl rfl ?_
    refine EL.pass rfl rfl rfl ?_
    refine EL.pass rfl rfl rfl ?_
    refine EL.pickF rfl rfl rfl rfl ?_
    refine .go ?_; repeat constructor
    refine ES.condF rfl ?_
    refine .go ?_; repeat constructor
    refine .go ?_; repeat constructor
    refine EL.move rfl rfl rfl ?_
    refine EL.add1 rfl rfl rfl rfl (by omega) ?_
    refine EL.assign rfl rfl rfl ?_
    refine .go ?_; repeat constructor
    exact PX.loop ⟨n, i + 1, q, es, st, sp, cap, z⟩ ⟨by dsimp only; omega, hq1, hgo, hmem, hst⟩ (by dsimp only; omega) ⟨rfl, rfl, rfl, rfl, rfl, rfl, rfl, trivial⟩ (.i (by repeat constructor))
  rw [if_pos hc0] at hgo
  split at hgo
  · cases hgo
  rename_i hq00
  obtain ⟨q, rfl⟩ : ∃ q', q = q' + 1 := ⟨q - 1, by omega⟩
  rw [Nat.add_sub_cancel] at hgo
  cases hfr : fromB s F tree G i (endsM (makeM [tree]) s i 0).marks (s.length + 1 - i) q with
  | none => rw [hfr] at hgo; cases hgo
  | some rq =>
  obtain ⟨rs, q'⟩ := rq
  rw [hfr] at hgo
  have hfc := from10_c g54 gm s hs2 st F G q hG9 (by omega) top htop2 hst sp cap z es tree i hi2 w1 w1.heap.size g9 0 hn hpf hmem mk.1 mk.2 hcost rs q' hfr
  refine .go ?_; repeat constructor
  refine EL.move rfl rfl rfl ?_
  refine EL.gtr rfl rfl rfl rfl ?_
  refine EL.move rfl rfl rfl ?_
  refine EL.rew (d := 73) (v' := .bool true) rfl ((by rw [decide_eq_true (by omega)])) ?_
  refine EL.move rfl rfl rfl ?_
  refine EL.move rfl rfl rfl ?_
  refine EL.fieldAddr rfl rfl rfl rfl rfl rfl rfl rfl ?_
  refine EL.loadOld (j := 1) rfl rfl rfl rfl rfl hrd11 hgc ?_
  refine EL.move rfl rfl rfl ?_
  (refine EL.callMw rfl rfl rfl ent46 rfl hfc (by repeat constructor) ?_; rintro ⟨es2, st2, sp2, cap2, z2, y1, y2, y3⟩)
  refine EL.pickT rfl rfl rfl rfl ?_
  refine .go ?_; repeat constructor
  cases rs with
  | none =>
    dsimp only at hgo ⊢
    refine ES.condF rfl ?_
    refine .go ?_; repeat constructor
    refine .go ?_; repeat constructor
    refine EL.move rfl rfl rfl ?_
    refine EL.add1 rfl rfl rfl rfl (by omega) ?_
    refine EL.assign rfl rfl rfl ?_
    refine .go ?_; repeat constructor
    exact PX.loop ⟨n, i + 1, q', es2, st2, sp2, cap2, z2⟩ ⟨by dsimp only; omega, by have := from_le _ _ hfr; dsimp only; omega, hgo, y1, y2⟩ (by dsimp only; omega) ⟨rfl, rfl, rfl, rfl, rfl, rfl, rfl, trivial⟩ (.i (by repeat constructor))
  | some zf =>
    obtain rfl : z2 = zf := y3 zf rfl
    dsimp only at hgo ⊢
    cases hgo
    refine ES.condT rfl ?_
    refine .go ?_; repeat constructor
    refine EL.move rfl rfl rfl ?_
    refine EL.nilCheck rfl rfl rfl ?_
    refine EL.fieldAddr rfl rfl rfl rfl rfl rfl rfl rfl ?_
    (apply EL.loadB; exact rfl; exact rfl; exact rfl; exact rfl; exact rfl; (case hm => repeat constructor); exact rfl)
    refine EL.assign rfl rfl rfl ?_
    refine EL.assign rfl rfl rfl ?_
    refine EL.assign rfl rfl rfl ?_
    refine .go ?_; repeat constructor
    exact PX.ret rfl Try.results21 (.cons (.tmp rfl) (.cons (.tmp rfl) (.cons (.tmp rfl) .nil))) (fun w hs => ⟨(sp2, cap2), rfl, (hw1.join hs).ent (.i (by repeat constructor))⟩)
end Go.Proofs.Ytblpgpgbnlhjlaa
namespace Go.Proofs.Ytblpgpgbnlhjlaa
open Go Go.RowKit Sl
set_option maxRecDepth 100000
set_option maxHeartbeats 8000000
set_option linter.unusedVariables false
set_option linter.unusedSimpArgs false
attribute [local irreducible] ES EL PX wps
section
variable {C : Cx} {E : Env} {H : List HA} {d ty : Nat} {pos : String} {af : Array Edge} {gd : Option (Nat × Bool)} {x y : Operand}
theorem RV.minNat {m n : Nat} {tys : Array TypeId} (hx : E.ev x = some (Iv (m : Nat))) (hy : E.ev y = some (Iv (n : Nat))) : RunV C E H ⟨some d, .call { callee := .builtin .min, args := #[x, y], argTypes := tys }, ty, pos, af, gd⟩ (Iv ((min m n : Nat) : Int)) := by
  have h : RunV C E H ⟨some d, .call { callee := .builtin .min, args := #[x, y], argTypes := tys }, ty, pos, af, gd⟩ (Iv (min (m : Int) (n : Int))) := RV.minI hx hy
  rwa [show min (m : Int) (n : Int) = ((min m n : Nat) : Int) by omega] at h
end
theorem spsR_get : ∀ (l : List Spn) (i : Nat) (r : Spn), l[i]? = some r → ∀ j u, (spC r)[j]? = some u → (spsC l)[i * 2 + j]? = some u
  | [], i, r, h, _, _, _ => by simp at h
  | r' :: l, 0, r, h, j, u, hj => by
    simp only [List.getElem?_cons_zero, Option.some.injEq] at h
    subst h
    have hlt := (List.getElem?_eq_some_iff.1 hj).1
    rw [Nat.zero_mul, Nat.zero_add]
    show (spC r' ++ spsC l)[j]? = some u
    rw [List.getElem?_append_left hlt]; exact hj
  | r' :: l, i + 1, r, h, j, u, hj => by
    simp only [List.getElem?_cons_succ] at h
    have ih := spsR_get l i r h j u hj
    have hl : (spC r').length = 2 := rfl
    show (spC r' ++ spsC l)[(i + 1) * 2 + j]? = some u
    rw [List.getElem?_append_right (by omega), show (i + 1) * 2 + j - (spC r').length = i * 2 + j by omega]
    exact ih
theorem same08_r (xs : List Spn) (ad1 ad2 : Option Addr) (cap1 cap2 : Nat) (hlen : xs.length ≤ 4611686018427387904) (w : World) (h1 : Rd w w.heap.size ad1 (spsC xs)) (h2 : Rd w w.heap.size ad2 (spsC xs)) :
    Pure Try.prog 19 #[.slice ad1 xs.length cap1, .slice ad2 xs.length cap2] (fun _ : Unit => .bool true) (fun _ => []) w := by
  have hl := spsC_len xs
  refine calls_of_ES TB Try.func19 rfl _ Try.ntmps19 rfl (Sat.start w) ?_
  refine .go ?_; repeat constructor
  refine EL.assign rfl rfl rfl ?_
  refine .go ?_; repeat constructor
  refine EL.move rfl rfl rfl ?_
  refine EL.lenL rfl rfl rfl rfl rfl ?_
  refine EL.move rfl rfl rfl ?_
  refine EL.lenL rfl rfl rfl rfl rfl ?_
  refine EL.neqI rfl rfl rfl rfl ?_
  refine .go ?_; repeat constructor
  refine ES.condN rfl (fun h => absurd rfl h) (fun _ => ?_)
  refine .go ?_; repeat constructor
  refine EL.assign rfl rfl rfl ?_
  refine .go ?_; repeat constructor
  refine ES.loop (σ := Nat) (fun i => i ≤ xs.length) (fun i => [(0, .slice ad1 xs.length cap1), (1, .slice ad2 xs.length cap2), (5, Iv (i : Nat))]) (fun _ => []) (fun i => xs.length - i) 0 (Nat.zero_le _) ⟨rfl, rfl, rfl, trivial⟩ (.i (by repeat constructor)) ?_
  intro i hi
  refine .go ?_; repeat constructor
  refine EL.move rfl rfl rfl ?_
  refine EL.move rfl rfl rfl ?_
  refine EL.lenL rfl rfl rfl rfl rfl ?_
  refine EL.lss rfl rfl rfl rfl ?_
  refine .go ?_; repeat constructor
  refine ES.condD rfl (fun hlt => ?_) (fun hge => ?_)
  · have hlt' : i < xs.length := by omega
    obtain ⟨p, hp⟩ : ∃ p, xs[i]? = some p := ⟨_, List.getElem?_eq_getElem hlt'⟩
    have hne : spsC xs ≠ [] := fun e => by rw [e] at hl; simp at hl; omega
    obtain ⟨g1, o1, rfl, _⟩ := h1 hne
    obtain ⟨g2, o2, rfl, _⟩ := h2 hne
    refine .g0 ?_; repeat constructor
    refine ES.draw (X := Unit) (fun _ => [(0, .slice (some ⟨g1, o1, none⟩) xs.length cap1), (1, .slice (some ⟨g2, o2, none⟩) xs.length cap2), (5, Iv (i : Nat)), (25, .bool false)]) (fun _ => []) [] mixed (.i (by repeat constructor)) ?_ (fun _ => ?_)
    · refine ED.take 0 rfl (by decide +kernel) CutX.no_panic (by decide +kernel) rfl rfl rfl (RV.move rfl) ?_
      refine ED.take 1 rfl (by decide +kernel) CutX.no_panic (by decide +kernel) rfl rfl rfl (RV.move rfl) ?_
      refine ED.take 2 rfl (by decide +kernel) CutX.no_panic (by decide +kernel) rfl rfl rfl (RV.indexAddrL rfl rfl rfl rfl rfl (by omega)) ?_
      refine ED.take 3 rfl (by decide +kernel) CutX.no_panic (by decide +kernel) rfl rfl rfl (RV.loadOldA (j := i * 2) (vs := spC p) rfl rfl rfl rfl (by simp [spC]) h1 (spsR_get xs i p hp)) ?_
      refine ED.take 4 rfl (by decide +kernel) CutX.no_panic (by decide +kernel) rfl rfl rfl (RV.move rfl) ?_
      refine ED.take 5 rfl (by decide +kernel) CutX.no_panic (by decide +kernel) rfl rfl rfl (RV.move rfl) ?_
      refine ED.take 6 rfl (by decide +kernel) CutX.no_panic (by decide +kernel) rfl rfl rfl (RV.indexAddrL rfl rfl rfl rfl rfl (by omega)) ?_
      refine ED.take 7 rfl (by decide +kernel) CutX.no_panic (by decide +kernel) rfl rfl rfl (RV.loadOldA (j := i * 2) (vs := spC p) rfl rfl rfl rfl (by simp [spC]) h2 (spsR_get xs i p hp)) ?_
      refine ED.take 8 rfl (by decide +kernel) CutX.no_panic (by decide +kernel) rfl rfl rfl (RV.neqAgg (b := true) rfl rfl eqg33 (fun w => (run_equal_st2 TB rfl rfl sth33 rfl rfl rfl rfl rfl rfl rfl rfl p.1 p.2 p.1 p.2 w).trans (by simp))) ?_
      refine ED.done (by decide +kernel) ?_
      exact PX.cutX () ⟨rfl, rfl, rfl, rfl, trivial⟩ (.i (by repeat constructor))
    refine ES.condF rfl ?_
    refine .go ?_; repeat constructor
    refine EL.move rfl rfl rfl ?_
    refine EL.add1 rfl rfl rfl rfl (by omega) ?_
    refine EL.assign rfl rfl rfl ?_
    refine .go ?_; repeat constructor
    exact PX.loop (i + 1) (by omega) (by omega) ⟨rfl, rfl, rfl, trivial⟩ (.i (by repeat constructor))
  refine .go ?_; repeat constructor
  refine EL.assign rfl rfl rfl ?_
  refine .go ?_; repeat constructor
  exact PX.ret rfl Try.results19 (.cons (.tmp rfl) .nil) (fun w hs => ⟨(), rfl, hs.ent (.i (by repeat constructor))⟩)
theorem awake10_c (w : World) (hG : GR w w.heap.size) : Pure Try.prog 20 #[] (fun _ : Unit => .bool true) (fun _ => []) w := by
  obtain ⟨m, hm, hf⟩ := Option.map_eq_some_iff.1 back_awake
  simp only [Prod.mk.injEq] at hf
  obtain ⟨f1, f2, f3⟩ := hf
  have hc := fun w hG => backMatch_c 60 [92, 40, 97, 42, 92, 41, 98, 92, 49] [97, 97, 98, 97, 97] 0 m hm (by decide) w hG
  rw [f1, f2, f3] at hc
  refine calls_of_ES TB Try.func20 rfl _ Try.ntmps20 rfl (Sat.start w) ?_
  refine .go ?_; repeat constructor
  refine EL.assign rfl rfl rfl ?_
  refine .go ?_; repeat constructor
  (refine EL.callXw rfl rfl rfl ent21 rfl (fun w hs => hc w (GR.sat hG hs)) ?_; intro x1)
  refine EL.move rfl rfl rfl ?_
  refine EL.extract rfl rfl rfl rfl ?_
  refine EL.extract rfl rfl rfl rfl ?_
  refine EL.extract rfl rfl rfl rfl ?_
  refine EL.assign rfl rfl rfl ?_
  refine EL.assign rfl rfl rfl ?_
  refine EL.assign rfl rfl rfl ?_
  refine .go ?_; repeat constructor
  refine .go ?_; repeat constructor
  refine EL.move rfl rfl rfl ?_
  refine EL.eqlI rfl rfl rfl rfl ?_
  refine EL.move rfl rfl rfl ?_
  refine EL.rew (d := 11) (v' := .bool true) rfl (by first | rfl | (decide) | (simp)) ?_
  refine EL.move rfl rfl rfl ?_
  refine EL.pickT rfl rfl rfl rfl ?_
  refine EL.move rfl rfl rfl ?_
  refine EL.rew (d := 14) (v' := .bool true) rfl (by first | rfl | (decide) | (simp)) ?_
  refine EL.move rfl rfl rfl ?_
  (apply EL.build2; exact rfl; exact rfl; exact rfl; exact rfl; exact rfl; exact rfl; exact rfl; exact rfl; exact rfl; exact rfl)
  (apply EL.build2; exact rfl; exact rfl; exact rfl; exact rfl; exact rfl; exact rfl; exact rfl; exact rfl; exact rfl; exact rfl)
  (refine EL.buildSliceC (spsC [(0, 5), (0, 2)]).toArray rfl rfl rfl rfl rfl rfl (by kernel_rfl) rfl rfl rfl rfl ?_; intro b18)
  refine EL.callPw rfl rfl rfl ent19 rfl (fun w hs => same08_r [(0, 5), (0, 2)] _ _ _ _ (by decide) w (Rd.row hs (by repeat constructor) (by decide)) (Rd.row hs (by repeat constructor) (by decide))) ?_
  refine EL.pickT rfl rfl rfl rfl ?_
  refine EL.assign rfl rfl rfl ?_
  refine .go ?_; repeat constructor
  exact PX.ret rfl Try.results20 (.cons (.tmp rfl) .nil) (fun w hs => ⟨(), rfl, hs.ent (.nil _)⟩)
theorem cut0 (l : List UInt8) (n : Nat) : (l.drop 0).take (n - 0) = l.take n := by rw [List.drop_zero, Nat.sub_zero]
end Go.Proofs.Ytblpgpgbnlhjlaa
namespace Go.Proofs.Ytblpgpgbnlhjlaa.Sl
open Go Go.RowKit Go.ChangeShapes Go.WideShapes Go.ChangeAt
set_option linter.unusedVariables false
set_option linter.unusedSimpArgs false
def rowedB (P : Program) (ts : List TypeId) : Bool := ts.all fun t => P.readableRec t && decide (t < P.types.size)
theorem trodAll_below {H : Type} {enc : TypeId × Value → H} {P : Program} (hl : laidOutB P = true) {W W' : World} (hb : Below W.heap.size W W') :
    ∀ {ts : List TypeId} {vs : List Value} {ds : List (DataW H)} {ps : List MemPlace}, rowedB P ts = true → (∀ x ∈ ps, x.block < W.heap.size) → DataW.TrodAll enc P W 0 (fun _ => true) true ts vs ds ps → DataW.TrodAll enc P W' 0 (fun b => decide (b < W.heap.size)) true ts vs ds ps
  | [], [], [], _, _, _, h => h
  | t :: ts, v :: vs, d :: ds, ps, hr, hlt, h => by
    obtain ⟨p, q, h1, h2, rfl⟩ := h
    simp only [rowedB, List.all_cons, Bool.and_eq_true, decide_eq_true_eq] at hr
    exact ⟨p, q, Below.trod hl hr.1.1 hr.1.2 h1 hb (fun x hx => hlt x (by simp [hx])), trodAll_below hl hb (by simpa [rowedB] using hr.2) (fun x hx => hlt x (by simp [hx])) h2, rfl⟩
theorem law_true {H : Type} {enc : TypeId × Value → H} {P : Program} (hl : laidOutB P = true) {f : Func} {tb : TypeId} {s : ChangeSpec} {W W' : World} {args : Array Value} {ds gs : List (DataW H)} {before : List MemPlace}
    (hres : f.resultTypes = #[tb]) (hu : P.underlying tb = some .bool) (hts : rowedB P f.params.toList = true) (hv : varsRowed P s.vars = true) (apart : Bool)
    (hR : (s.fn H (ds ++ gs)).results = [.lit (.bool true)]) (hA : (s.fn H (ds ++ gs)).args = ds) (hV : (s.fn H (ds ++ gs)).vars = gs)
    (hW : DataW.Whole enc P f.params.toList s.vars apart W args.toList ds gs before) (hb : Below W.heap.size W W') : s.post enc P f apart true false false W args (.bool true) W' := by
  have hlt := hW.lt
  have hW' := hW
  obtain ⟨p, q, h1, h2, rfl, h4, h5⟩ := hW
  refine ⟨ds, gs, p ++ q, [], p, q, hW', ?_, ?_, ?_, hb.frame _, fun h => by cases h⟩
  · rw [hres, hR]
    exact trodAll_mk1 (shut_bool hu true)
  · rw [hA]
    exact trodAll_below hl hb hts (fun x hx => hlt x (by simp [hx])) h1
  · rw [hV]
    exact Below.trodVars hl hb hv h2
theorem open_sv {H : Type} {enc : TypeId × Value → H} {P : Program} {w : World} {base : Nat} {sp : Nat → Bool} {held : Bool} {r : Reach} {b0 : Nat} {t : TypeId} {v : Value} {d : DataW H} {ps : List MemPlace} (ht : P.underlying t = some .string) (hval : Value.okWide P w r b0 t v) (hd : DataW.Trod enc P w base sp held t v d ps) :
    ∃ l : List UInt8, v = Sv l ∧ d = .lit (.string l) := by
  obtain ⟨s, rfl, rfl, _, _⟩ := ChangeMaps.open_string ht hval hd
  exact ⟨s.data.toList, Sv_eta s, rfl⟩
theorem w_str {H : Type} {P : Program} {t : TypeId} {l : List UInt8} : DataW.weights (H := H) P t (.lit (.string l)) = [l.length] := by simp [DataW.weights]
theorem w_int {H : Type} {P : Program} {t : TypeId} {k : IntKind} {n : Int} : DataW.weights (H := H) P t (.lit (.int k n)) = [] := by simp [DataW.weights]
end Go.Proofs.Ytblpgpgbnlhjlaa.Sl
namespace Go.Proofs.Ytblpgpgbnlhjlaa
theorem own : Go.ownKnob Try.prog.godebug = none := by kernel_rfl
theorem laidOut : Go.laidOutB Try.prog = true := by kernel_rfl
end Go.Proofs.Ytblpgpgbnlhjlaa
namespace Go.Proofs.Ytblpgpgbnlhjlaa
open Go Go.RowKit Sl
set_option maxRecDepth 100000
set_option maxHeartbeats 8000000
set_option linter.unusedVariables false
set_option linter.unusedSimpArgs false
attribute [local irreducible] ES EL PX wps
def livB (st : List Br) : List Br := st.filter fun b => !b.ends.isEmpty
theorem liv_dead {b : Br} {st : List Br} (h : b.ends = []) : livB (b :: st) = livB st := by
  unfold livB
  rw [List.filter_cons, if_neg (by simp [h])]
theorem liv_live {b : Br} {st : List Br} (h : b.ends ≠ []) : livB (b :: st) = b :: livB st := by
  unfold livB
  rw [List.filter_cons, if_pos (by simpa using h)]
theorem pop_none : ∀ {st : List Br}, livB st = [] → popB st = none
  | [], _ => rfl
  | b :: st, h => by
    by_cases e : b.ends = []
    · rw [liv_dead e] at h
      rw [popB, if_pos e, pop_none h]
    · rw [liv_live e] at h; cases h
theorem pop_some : ∀ {st : List Br} {b : Br} {r : List Br}, livB st = b :: r → ∃ st', popB st = some (b, st') ∧ livB st' = r
  | [], _, _, h => by cases h
  | x :: st, b, r, h => by
    by_cases e : x.ends = []
    · rw [liv_dead e] at h
      rw [popB, if_pos e]
      exact pop_some h
    · rw [liv_live e] at h
      injection h with h1 h2
      subst h1
      exact ⟨st, by rw [popB, if_neg e], h2⟩
theorem run_live (s : List UInt8) : ∀ (f : Nat) (ts : List Tk) (st st' : List Br) (z : List Spn), livB st = livB st' → runB s f ts st z = runB s f ts st' z
  | 0, _, _, _, _, _ => rfl
  | f + 1, [], _, _, _, _ => rfl
  | f + 1, t :: ts, st, st', z, h => by
    have hcons : ∀ b : Br, livB (b :: st) = livB (b :: st') := fun b => by
      by_cases e : b.ends = []
      · rw [liv_dead e, liv_dead e, h]
      · rw [liv_live e, liv_live e, h]
    rw [runB, runB]
    cases endsB s t z with
    | none => rfl
    | some x =>
      obtain ⟨es, ok⟩ := x
      dsimp only
      split
      · exact run_live s f ts st st' z h
      · split
        · cases followB (t :: ts) (es.headD 0) z with
          | none => rfl
          | some y => exact run_live s f _ _ _ _ (hcons _)
        · cases hl : livB st with
          | nil => rw [pop_none hl, pop_none (by rw [← h]; exact hl)]
          | cons b r =>
            obtain ⟨s1, e1, e2⟩ := pop_some hl
            obtain ⟨s2, e3, e4⟩ := pop_some (st := st') (by rw [← h]; exact hl)
            rw [e1, e3]
            dsimp only
            cases followB b.ts (b.ends.headD 0) b.spans with
            | none => rfl
            | some y =>
              refine run_live s f _ _ _ _ ?_
              by_cases e : b.ends.tail = []
              · rw [liv_dead (by exact e), liv_dead (by exact e), e2, e4]
              · rw [liv_live (by exact e), liv_live (by exact e), e2, e4]
section steps
variable {s : List UInt8} {t : Tk} {ts now : List Tk} {st : List Br} {z z' : List Spn} {f : Nat}
theorem run_next (h : endsB s t z = some ([], true)) (hn : needsB t = false) : runB s (f + 1) (t :: ts) st z = runB s f ts st z := by
  rw [runB, h]
  simp [hn]
theorem run_pick {e : Nat} {es : List Nat} (h : endsB s t z = some (e :: es, true)) (hf : followB (t :: ts) e z = some (now, z')) : runB s (f + 1) (t :: ts) st z = runB s f now (⟨t :: ts, es, z⟩ :: st) z' := by
  rw [runB, h]
  simp [hf]
theorem run_only {e : Nat} (h : endsB s t z = some ([e], true)) (hf : followB (t :: ts) e z = some (now, z')) : runB s (f + 1) (t :: ts) st z = runB s f now st z' := by
  rw [run_pick h hf]
  exact run_live s f _ _ _ _ (liv_dead rfl)
theorem run_fail (h : endsB s t z = some ([], false)) (hl : livB st = []) : runB s (f + 1) (t :: ts) st z = some none := by
  rw [runB, h]
  simp [pop_none hl]
theorem run_back {b : Br} {r : List Br} (h : endsB s t z = some ([], false)) (hl : livB st = b :: r) (hf : followB b.ts (b.ends.headD 0) b.spans = some (now, z')) : runB s (f + 1) (t :: ts) st z = runB s f now (⟨b.ts, b.ends.tail, b.spans⟩ :: r) z' := by
  obtain ⟨st', e1, e2⟩ := pop_some hl
  rw [runB, h]
  simp only [Bool.false_eq_true, false_and, if_false, e1, hf]
  refine run_live s f _ _ _ _ ?_
  have hr : livB r = r := by
    rw [← e2]
    unfold livB
    rw [List.filter_filter]
    simp
  by_cases e : b.ends.tail = []
  · rw [liv_dead (by exact e), liv_dead (by exact e), e2, hr]
  · rw [liv_live (by exact e), liv_live (by exact e), e2, hr]
end steps
section kinds
variable {s : List UInt8} {ts : List Tk} {st : List Br} {z : List Spn} {f k i j : Nat}
theorem run_byte {S : BS} (h : i ≤ j ∧ j ≤ s.length) : runB s (f + 1) (⟨.byte S, k, i, j⟩ :: ts) st z = runB s f ts st z := run_next (by rw [endsB, if_pos h]) rfl
theorem run_bol (h : i ≤ j ∧ j ≤ s.length) : runB s (f + 1) (⟨.bol, k, i, j⟩ :: ts) st z = runB s f ts st z := run_next (by rw [endsB, if_pos h]) rfl
theorem run_eol (h : i ≤ j ∧ j ≤ s.length) : runB s (f + 1) (⟨.eol, k, i, j⟩ :: ts) st z = runB s f ts st z := run_next (by rw [endsB, if_pos h]) rfl
theorem run_group {n : Nat} {x : RE} (h : i ≤ j ∧ j ≤ s.length) (hn : n < z.length) : runB s (f + 1) (⟨.group n x, k, i, j⟩ :: ts) st z = runB s f (⟨x, 0, i, j⟩ :: ts) st (z.set n ((i : Int), (j : Int))) :=
  run_only (e := j) (by rw [endsB, if_pos h]) (by rw [followB]; dsimp only; rw [if_pos hn])
theorem run_done {ks : List RE} (h : i ≤ j ∧ j ≤ s.length) (hk : k = ks.length) : runB s (f + 1) (⟨.cat ks, k, i, j⟩ :: ts) st z = runB s f ts st z :=
  run_next (by rw [endsB, if_pos h]; dsimp only; rw [if_pos hk]) (by simp [needsB, hk])
theorem run_last {ks : List RE} {x : RE} (h : i ≤ j ∧ j ≤ s.length) (hk : k + 1 = ks.length) (hx : ks[k]? = some x) : runB s (f + 1) (⟨.cat ks, k, i, j⟩ :: ts) st z = runB s f (⟨x, 0, i, j⟩ :: ⟨.cat ks, k + 1, j, j⟩ :: ts) st z :=
  run_only (e := j) (by rw [endsB, if_pos h]; dsimp only; rw [if_neg (by omega), if_pos hk]) (by rw [followB]; dsimp only; rw [hx])
theorem run_one {x : RE} (h : i ≤ j ∧ j ≤ s.length) : runB s (f + 1) (⟨.cat [x], 0, i, j⟩ :: ts) st z = runB s f (⟨x, 0, i, j⟩ :: ⟨.cat [x], 1, j, j⟩ :: ts) st z := run_last h rfl rfl
theorem ends_cat {ks : List RE} (h : i ≤ j ∧ j ≤ s.length) (hk : k + 1 < ks.length) (hc : costB (.cat ks) k = true) : endsB s ⟨.cat ks, k, i, j⟩ z = some (splL s ((ks.drop k).take 1) (ks.drop (k + 1)) i j 0, true) := by
  rw [endsB, if_pos h]; dsimp only; rw [if_neg (by omega), if_neg (by omega), if_pos ⟨by omega, hc⟩]; rfl
theorem run_split {ks : List RE} {x : RE} {e : Nat} {es : List Nat} (h : i ≤ j ∧ j ≤ s.length) (hk : k + 1 < ks.length) (hc : costB (.cat ks) k = true) (hx : ks[k]? = some x) (hl : splL s ((ks.drop k).take 1) (ks.drop (k + 1)) i j 0 = e :: es) :
    runB s (f + 1) (⟨.cat ks, k, i, j⟩ :: ts) st z = runB s f (⟨x, 0, i, e⟩ :: ⟨.cat ks, k + 1, e, j⟩ :: ts) (⟨⟨.cat ks, k, i, j⟩ :: ts, es, z⟩ :: st) z :=
  run_pick (by rw [ends_cat h hk hc, hl]) (by rw [followB]; dsimp only; rw [hx])
theorem run_cut {ks : List RE} {x : RE} {e : Nat} (h : i ≤ j ∧ j ≤ s.length) (hk : k + 1 < ks.length) (hc : costB (.cat ks) k = true) (hx : ks[k]? = some x) (hl : splL s ((ks.drop k).take 1) (ks.drop (k + 1)) i j 0 = [e]) :
    runB s (f + 1) (⟨.cat ks, k, i, j⟩ :: ts) st z = runB s f (⟨x, 0, i, e⟩ :: ⟨.cat ks, k + 1, e, j⟩ :: ts) st z := by
  rw [run_split h hk hc hx hl]
  exact run_live s f _ _ _ _ (liv_dead rfl)
end kinds
theorem filter_dn {p q : Nat → Bool} (i : Nat) : ∀ n, (∀ x, i ≤ x → x < i + n → p x = q x) → (dnL i n).filter p = (dnL i n).filter q
  | 0, _ => rfl
  | n + 1, h => by
    rw [dnL, List.filter_cons, List.filter_cons, h (i + n) (by omega) (by omega), filter_dn i n (fun x h1 h2 => h x h1 (by omega))]
theorem spl_filter {s : List UInt8} {hd tl : List RE} {i j : Nat} (h1 : costL hd + 1 ≤ 131072) (h2 : costL tl + 1 ≤ 131072) (hi : i ≤ s.length) (hj : j ≤ s.length) (P : Nat → Bool) (h : ∀ p, i ≤ p → p ≤ j → ((HitL s hd i p ∧ HitL s tl p j) ↔ P p = true)) :
    splL s hd tl i j 0 = (dnL i (j + 1 - i)).filter P := by
  unfold splL
  refine filter_dn i _ (fun p hp1 hp2 => ?_)
  have hE := ends_iff h1 s (i := i) (j := p) 0 hi (by omega)
  have hS := starts_iff h2 s (i := p) (j := j) (splE s hd i 0).steps (by omega) hj
  rw [Bool.eq_iff_iff, Bool.and_eq_true]
  exact (and_congr hE hS).trans (h p hp1 (by omega))
theorem filter_none {P : Nat → Bool} (i : Nat) : ∀ n, (∀ x, i ≤ x → x < i + n → P x = false) → (dnL i n).filter P = []
  | 0, _ => rfl
  | n + 1, h => by rw [dnL, List.filter_cons, if_neg (by rw [h (i + n) (by omega) (by omega)]; simp), filter_none i n (fun x h1 h2 => h x h1 (by omega))]
theorem filter_one {P : Nat → Bool} (i e : Nat) : ∀ n, i ≤ e → e < i + n → (∀ x, i ≤ x → x < i + n → (P x = true ↔ x = e)) → (dnL i n).filter P = [e]
  | 0, h1, h2, _ => by omega
  | n + 1, h1, h2, h => by
    rw [dnL, List.filter_cons]
    by_cases he : e = i + n
    · subst he
      rw [if_pos ((h (i + n) (by omega) (by omega)).2 rfl), filter_none i n (fun x h3 h4 => by
        rw [Bool.eq_false_iff]; intro hx; have := (h x h3 (by omega)).1 hx; omega)]
    · rw [if_neg (fun hx => he ((h (i + n) (by omega) (by omega)).1 hx).symm)]
      exact filter_one i e n h1 (by omega) (fun x h3 h4 => h x h3 (by omega))
theorem spl_one {s : List UInt8} {hd tl : List RE} {i j e : Nat} (h1 : costL hd + 1 ≤ 131072) (h2 : costL tl + 1 ≤ 131072) (he : i ≤ e) (hej : e ≤ j) (hj : j ≤ s.length) (h : ∀ p, i ≤ p → p ≤ j → ((HitL s hd i p ∧ HitL s tl p j) ↔ p = e)) : splL s hd tl i j 0 = [e] := by
  rw [spl_filter h1 h2 (by omega) hj (fun p => decide (p = e)) (fun p h3 h4 => (h p h3 h4).trans decide_eq_true_iff.symm)]
  exact filter_one i e _ he (by omega) (fun x _ _ => decide_eq_true_iff)
theorem filter_all (i : Nat) : ∀ n, (dnL i n).filter (fun _ => true) = dnL i n
  | 0 => rfl
  | n + 1 => by rw [dnL, List.filter_cons, if_pos rfl, filter_all i n]
theorem spl_all {s : List UInt8} {hd tl : List RE} {i j : Nat} (h1 : costL hd + 1 ≤ 131072) (h2 : costL tl + 1 ≤ 131072) (hi : i ≤ s.length) (hj : j ≤ s.length) (h : ∀ p, i ≤ p → p ≤ j → (HitL s hd i p ∧ HitL s tl p j)) : splL s hd tl i j 0 = dnL i (j + 1 - i) := by
  rw [spl_filter h1 h2 hi hj (fun _ => true) (fun p h3 h4 => ⟨fun _ => rfl, fun _ => h p h3 h4⟩), filter_all]
theorem run_gbyte {s : List UInt8} {S : BS} {ts : List Tk} {st : List Br} {z : List Spn} {f n i j : Nat} (hij : i ≤ j) (hj : j ≤ s.length) (hn : n < z.length) :
    runB s (f + 4) (⟨.group n (.cat [.byte S]), 0, i, j⟩ :: ts) st z = runB s f ts st (z.set n ((i : Int), (j : Int))) := by
  rw [run_group ⟨hij, hj⟩ hn, run_one ⟨hij, hj⟩, run_byte ⟨hij, hj⟩, run_done ⟨Nat.le_refl _, hj⟩ (by rfl)]
theorem ends_back {s : List UInt8} {z : List Spn} {k n i j a b : Nat} (h : i ≤ j ∧ j ≤ s.length) (hz : z[n]? = some ((a : Int), (b : Int))) (hab : a ≤ b) (hb : b ≤ s.length) : endsB s ⟨.back n, k, i, j⟩ z = some ([], decide ((s.take b).drop a = (s.take j).drop i)) := by
  rw [endsB, if_pos h]
  simp only [hz]
  rw [if_neg (by omega), if_pos ⟨by omega, by omega⟩]
  simp
theorem run_backOk {s : List UInt8} {ts : List Tk} {st : List Br} {z : List Spn} {f k n i j a b : Nat} (h : i ≤ j ∧ j ≤ s.length) (hz : z[n]? = some ((a : Int), (b : Int))) (hab : a ≤ b) (hb : b ≤ s.length) (he : (s.take b).drop a = (s.take j).drop i) :
    runB s (f + 1) (⟨.back n, k, i, j⟩ :: ts) st z = runB s f ts st z := run_next (by rw [ends_back h hz hab hb, decide_eq_true he]) rfl
end Go.Proofs.Ytblpgpgbnlhjlaa
namespace Go.Proofs.Ytblpgpgbnlhjlaa
open Go Go.RowKit Sl
set_option maxRecDepth 100000
set_option maxHeartbeats 8000000
set_option linter.unusedVariables false
set_option linter.unusedSimpArgs false
attribute [local irreducible] ES EL PX wps
def stepT (f : Nat → Row) (v : Row) (more : Bool) (q p : Nat) : Nat := if more = true ∧ q = p then 0 else v p * f p q
theorem thr_succ (f : Nat → Row) (v : Row) (more : Bool) (q m : Nat) : thrGo id f v more q (m + 1) = thrGo id f v more q m + stepT f v more q m := by
  rw [thrGo]
  unfold stepT
  by_cases h1 : more = true ∧ q = m
  · rw [if_pos (.inr h1), if_pos h1]; rfl
  · rw [if_neg h1]
    by_cases h2 : v m = 0
    · rw [if_pos (.inl h2), h2, Nat.zero_mul]; rfl
    · rw [if_neg (by rintro (h | h); exact h2 h; exact h1 h)]; rfl
theorem thr_congr (f g : Nat → Row) (u v : Row) (more : Bool) (q : Nat) : ∀ m, (∀ p, p < m → u p = v p ∧ f p q = g p q) → thrGo id f u more q m = thrGo id g v more q m
  | 0, _ => rfl
  | m + 1, h => by
    rw [thr_succ, thr_succ, thr_congr f g u v more q m (fun p hp => h p (by omega))]
    unfold stepT
    rw [(h m (by omega)).1, (h m (by omega)).2]
theorem thr_unit (f : Nat → Row) (a q : Nat) : ∀ m, thrGo id f (unitR a) false q m = if a < m then f a q else 0
  | 0 => rfl
  | m + 1 => by
    rw [thr_succ, thr_unit f a q m]
    have hs : stepT f (unitR a) false q m = unitR a m * f m q := if_neg (by simp)
    rw [hs]
    unfold unitR
    by_cases h : m = a
    · subst h; rw [if_neg (Nat.lt_irrefl m), if_pos rfl, if_pos (Nat.lt_succ_self m)]; omega
    · rw [if_neg h]
      by_cases h2 : a < m
      · rw [if_pos h2, if_pos (show a < m + 1 by omega)]; omega
      · rw [if_neg h2, if_neg (show ¬ a < m + 1 by omega)]; omega
theorem thr_ones (n : Nat) (f : Nat → Row) (v : Row) (more : Bool) (q : Nat) (hq : q ≤ n) (hf : ∀ p, p ≤ n → f p q = if p ≤ q then 1 else 0) : ∀ m, m ≤ n + 1 → thrGo id f v more q m = sumGo id v (min m (if more = true then q else q + 1))
  | 0, _ => by rw [Nat.zero_min]; rfl
  | m + 1, hm => by
    rw [thr_succ, thr_ones n f v more q hq hf m (by omega)]
    unfold stepT
    rw [hf m (by omega)]
    cases more with
    | true =>
      simp only [true_and, if_true]
      by_cases h : q = m
      · subst h; rw [if_pos rfl, show min (q + 1) q = min q q by omega]; omega
      · rw [if_neg h]
        by_cases h2 : m ≤ q
        · rw [if_pos h2, show min (m + 1) q = m + 1 by omega, show min m q = m by omega, sumGo]; simp
        · rw [if_neg h2, show min (m + 1) q = min m q by omega]; simp
    | false =>
      simp only [Bool.false_eq_true, false_and, if_false]
      by_cases h2 : m ≤ q
      · rw [if_pos h2, show min (m + 1) (q + 1) = m + 1 by omega, show min m (q + 1) = m by omega, sumGo]; simp
      · rw [if_neg h2, show min (m + 1) (q + 1) = min m (q + 1) by omega]; simp
theorem sum_congr {u v : Row} : ∀ m, (∀ q, q < m → u q = v q) → sumGo id u m = sumGo id v m
  | 0, _ => rfl
  | m + 1, h => by rw [sumGo, sumGo, sum_congr m (fun q hq => h q (by omega)), h m (by omega)]
theorem row_group (s : List UInt8) (g : Nat) (k : RE) (p q : Nat) (hp : p ≤ s.length) : rowE s (.group g k) p q = rowE s k p q := by
  show rowR id s (.group g k) p q = _
  rw [rowR]
  unfold thrR
  rw [thr_unit, if_pos (by omega)]
theorem row_cat1 (s : List UInt8) (k : RE) (p q : Nat) (hp : p ≤ s.length) : rowE s (.cat [k]) p q = rowE s k p q := by
  show rowR id s (.cat [k]) p q = _
  rw [rowR, catR, catR]
  unfold thrR
  rw [thr_unit, if_pos (by omega)]
end Go.Proofs.Ytblpgpgbnlhjlaa
namespace Go.Proofs.Ytblpgpgbnlhjlaa
open Go Go.RowKit Sl
set_option maxRecDepth 100000
set_option maxHeartbeats 8000000
set_option linter.unusedVariables false
set_option linter.unusedSimpArgs false
attribute [local irreducible] ES EL PX wps
theorem from_skip {s : List UInt8} {F g i q : Nat} {r : RE} {ends : List Bool} : ∀ m, (∀ p, i ≤ p → p < i + m → ends.getD p false = false) → fromB s F r g i ends m q = some (none, q)
  | 0, _ => rfl
  | m + 1, h => by
    rw [fromB, if_neg (by rw [h (i + m) (by omega) (by omega)]; simp)]
    exact from_skip m (fun p h1 h2 => h p h1 (by omega))
theorem from_one {s : List UInt8} {F g i q j : Nat} {r : RE} {ends : List Bool} {x : Option (List Spn)} (hq : F ≤ q) (hrun : runB s F [⟨r, 0, i, j⟩] [] (List.replicate (g + 1) (-1, -1)) = some x) (hx : ∀ z, x = some z → 0 < z.length) : ∀ m, i ≤ j → j < i + m → (∀ p, i ≤ p → p < i + m → (ends.getD p false = true ↔ p = j)) →
    fromB s F r g i ends m q = some (x.map fun z => z.set 0 ((i : Int), (j : Int)), q - F)
  | 0, h1, h2, _ => by omega
  | m + 1, h1, h2, h => by
    rw [fromB]
    by_cases hj : j = i + m
    · subst hj
      rw [if_pos ((h (i + m) h1 h2).2 rfl), if_neg (by omega), hrun]
      cases x with
      | none =>
        exact from_skip m (fun p h3 h4 => by
          rw [Bool.eq_false_iff]; intro hp; have := (h p h3 (by omega)).1 hp; omega)
      | some z =>
        dsimp only
        rw [if_pos (hx z rfl)]; rfl
    · rw [if_neg (fun hp => hj ((h (i + m) (by omega) (by omega)).1 hp).symm)]
      exact from_one hq hrun hx m h1 (by omega) (fun p h3 h4 => h p h3 (by omega))
theorem match_zero {s : List UInt8} {F g q : Nat} {r : RE} : ∀ n i, (∀ p, i ≤ p → p < i + n → countM s r p = 0) → matchB s F r g n i q = some ⟨[], false, 0⟩
  | 0, _, _ => rfl
  | n + 1, i, h => by
    have h0 := h i (Nat.le_refl _) (by omega)
    rw [matchB, if_neg (by omega), if_neg (by omega)]
    exact match_zero n (i + 1) (fun p h1 h2 => h p (by omega) (by omega))
theorem match_skip {s : List UInt8} {F g q : Nat} {r : RE} : ∀ d n i, (∀ p, i ≤ p → p < i + d → countM s r p = 0) → matchB s F r g (n + d) i q = matchB s F r g n (i + d) q
  | 0, _, _, _ => rfl
  | d + 1, n, i, h => by
    have h0 := h i (Nat.le_refl _) (by omega)
    rw [show n + (d + 1) = (n + d) + 1 by omega, matchB, if_neg (by omega), if_neg (by omega), match_skip d n (i + 1) (fun p h1 h2 => h p (by omega) (by omega)), show i + 1 + d = i + (d + 1) by omega]
def mbO (i j : Nat) : Option (List Spn) → MB10
  | some z => ⟨z.set 0 ((i : Int), (j : Int)), true, 0⟩
  | none => ⟨[], false, 0⟩
theorem back_at {t s : List UInt8} {F g i j : Nat} {T : RE} {x : Option (List Spn)} (hp : parseM t = ⟨T, 0, 0⟩) (hs : s.length ≤ 1024) (hg : (measM T).grp = (g : Nat)) (hg9 : g ≤ 9) (hc : costL [T] + 1 ≤ 131072) (hij : i ≤ j) (hj : j ≤ s.length) (h1 : 0 < countM s T i) (h2 : countM s T i ≤ 4096)
    (h0 : ∀ p, p ≠ i → p ≤ s.length → countM s T p = 0) (hit : ∀ p, p ≤ s.length → (HitL s [T] i p ↔ p = j)) (hF : F ≤ 15999) (hrun : runB s F [⟨T, 0, i, j⟩] [] (List.replicate (g + 1) (-1, -1)) = some x) (hx : ∀ z, x = some z → 0 < z.length) :
    backM F t s 0 = some (mbO i j x) := by
  unfold backM
  rw [hp]
  dsimp only
  rw [if_neg (by simp), if_neg (by omega), if_neg (by omega), if_neg (by rw [hg]; omega), hg, Int.toNat_natCast, show ((0 : Int).toNat) = 0 from rfl, show s.length + 1 - 0 = (s.length - i + 1) + i by omega,
    match_skip i (s.length - i + 1) 0 (fun p h3 h4 => h0 p (by omega) (by omega)), Nat.zero_add, matchB, if_neg (by omega), if_pos h1, if_neg (by decide)]
  rw [from_one (j := j) (x := x) (by unfold spendB; omega) hrun hx _ hij (by omega) (fun p h3 h4 => (ends_iff hc s 0 (by omega) (by omega)).trans (hit p (by omega)))]
  cases x with
  | some z => rfl
  | none => exact match_zero _ _ (fun p h3 h4 => h0 p (by omega) (by omega))
theorem back_none {t s : List UInt8} {g : Nat} {T : RE} (F : Nat) (hp : parseM t = ⟨T, 0, 0⟩) (hs : s.length ≤ 1024) (hg : (measM T).grp = (g : Nat)) (hg9 : g ≤ 9) (hc : costL [T] + 1 ≤ 131072) (h0 : ∀ p, p ≤ s.length → countM s T p = 0) : backM F t s 0 = some ⟨[], false, 0⟩ := by
  unfold backM
  rw [hp]
  dsimp only
  rw [if_neg (by simp), if_neg (by omega), if_neg (by omega), if_neg (by rw [hg]; omega)]
  exact match_zero _ _ (fun p h3 h4 => h0 p (by rw [show ((0 : Int).toNat) = 0 from rfl] at h4; omega))
theorem thrE_zero (n : Nat) (f : Nat → Row) (v : Row) (more : Bool) (hv : ∀ p, p ≤ n → v p = 0) (q : Nat) : ∀ m, m ≤ n + 1 → thrGo id f v more q m = 0
  | 0, _ => rfl
  | m + 1, hm => by
    rw [thr_succ, thrE_zero n f v more hv q m (by omega)]
    unfold stepT
    rw [hv m (by omega)]; simp
theorem catE_zero (s : List UInt8) : ∀ (ks : List RE) (v : Row), (∀ p, p ≤ s.length → v p = 0) → ∀ q, q ≤ s.length → catR id s ks v q = 0
  | [], v, h, q, hq => by rw [catR]; exact h q hq
  | k :: ks, v, h, q, hq => by
    rw [catR]
    exact catE_zero s ks _ (fun p _ => thrE_zero s.length _ v false h p _ (Nat.le_refl _)) q hq
theorem cat_congr (s : List UInt8) : ∀ (ks : List RE) (u v : Row), (∀ p, p ≤ s.length → u p = v p) → ∀ q, q ≤ s.length → catR id s ks u q = catR id s ks v q
  | [], u, v, h, q, hq => by rw [catR, catR]; exact h q hq
  | k :: ks, u, v, h, q, hq => by
    rw [catR, catR]
    exact cat_congr s ks _ _ (fun p hp => thr_congr _ _ _ _ _ _ _ (fun r hr => ⟨h r (by omega), rfl⟩)) q hq
theorem row_catE (s : List UInt8) (ks : List RE) (a q : Nat) : rowE s (.cat ks) a q = catR id s ks (unitR a) q := by
  show rowR id s (.cat ks) a q = _
  rw [rowR]
theorem count_E (s : List UInt8) (r : RE) (a : Nat) : countM s r a = capW (sumGo id (rowE s r a) (s.length + 1)) := by
  rw [count_exact]; rfl
theorem sum_zero {v : Row} : ∀ m, (∀ q, q < m → v q = 0) → sumGo id v m = 0
  | 0, _ => rfl
  | m + 1, h => by rw [sumGo, sum_zero m (fun q hq => h q (by omega)), h m (by omega)]; rfl
theorem thr_at (n : Nat) (f : Nat → Row) (v : Row) (a q : Nat) (ha : a ≤ n) (hv : ∀ p, p ≤ n → p ≠ a → v p = 0) : thrR id n f v false q = v a * f a q := by
  have h : ∀ m, m ≤ n + 1 → thrGo id f v false q m = if a < m then v a * f a q else 0 := by
    intro m
    induction m with
    | zero => intro _; rfl
    | succ m ih =>
      intro hm
      rw [thr_succ, ih (by omega)]
      have hs : stepT f v false q m = v m * f m q := if_neg (by simp)
      rw [hs]
      by_cases hma : m = a
      · subst hma; rw [if_neg (Nat.lt_irrefl m), if_pos (Nat.lt_succ_self m)]; omega
      · rw [hv m (by omega) hma, Nat.zero_mul]
        by_cases h2 : a < m
        · rw [if_pos h2, if_pos (by omega)]; rfl
        · rw [if_neg h2, if_neg (by omega)]
  unfold thrR
  rw [h (n + 1) (Nat.le_refl _), if_pos (by omega)]
theorem cat_at (s : List UInt8) (k : RE) (ks : List RE) (v : Row) (a q : Nat) (ha : a ≤ s.length) (hv : ∀ p, p ≤ s.length → p ≠ a → v p = 0) (hq : q ≤ s.length) : catR id s (k :: ks) v q = catR id s ks (fun p => v a * rowE s k a p) q := by
  rw [catR]
  exact cat_congr s ks _ _ (fun p hp => thr_at s.length _ v a p ha hv) q hq
theorem unit_ne {a p : Nat} (h : p ≠ a) : unitR a p = 0 := if_neg h
theorem row_bol (s : List UInt8) (a q : Nat) : rowE s .bol a q = if a = 0 ∧ q = a then 1 else 0 := by show rowR id s .bol a q = _; rw [rowR]
theorem row_eol (s : List UInt8) (a q : Nat) : rowE s .eol a q = if a = s.length ∧ q = a then 1 else 0 := by show rowR id s .eol a q = _; rw [rowR]
theorem row_back (s : List UInt8) (n a q : Nat) : rowE s (.back n) a q = if a ≤ q then 1 else 0 := by show rowR id s (.back n) a q = _; rw [rowR]
theorem row_byte (s : List UInt8) (S : BS) (a q : Nat) : rowE s (.byte S) a q = if a < s.length ∧ hasS S (s.getD a 0).toNat = true ∧ q = a + 1 then 1 else 0 := by show rowR id s (.byte S) a q = _; rw [rowR]
theorem count_lead {s : List UInt8} {k : RE} {ks : List RE} {a : Nat} (ha : a ≤ s.length) (h : ∀ q, q ≤ s.length → rowE s k a q = 0) : countM s (.cat (k :: ks)) a = 0 := by
  rw [count_E, sum_zero _ (fun q hq => ?_)]
  · rfl
  · rw [row_catE, cat_at s k ks _ a q ha (fun p _ hp => unit_ne hp) (by omega)]
    exact catE_zero s ks _ (fun p hp => by rw [h p hp, Nat.mul_zero]) q (by omega)
end Go.Proofs.Ytblpgpgbnlhjlaa
namespace Go.Proofs.Ytblpgpgbnlhjlaa
open Go Go.RowKit Sl
set_option maxRecDepth 100000
set_option maxHeartbeats 8000000
set_option linter.unusedVariables false
set_option linter.unusedSimpArgs false
attribute [local irreducible] ES EL PX wps
abbrev AL : BS := notS zeroS
theorem has_al (d : UInt8) : hasS AL d.toNat = true := by
  have h : ∀ d : Fin 256, hasS AL d.val = true := by decide +kernel
  exact h ⟨d.toNat, d.toNat_lt⟩
theorem at_al {s : List UInt8} {k : Nat} (h : k < s.length) : At s AL k := ⟨h, has_al _⟩
theorem hit_back {s : List UInt8} {n i j : Nat} (hi : i ≤ s.length) : Hit s (.back n) i j ↔ i ≤ j ∧ j ≤ s.length := by
  rw [Hit]
  constructor
  · rintro (h | ⟨h1, h2⟩)
    · subst h; exact ⟨Nat.le_refl _, hi⟩
    · exact ⟨by omega, h2⟩
  · rintro ⟨h1, h2⟩
    omega
theorem hit_eol {s : List UInt8} {i j : Nat} : Hit s .eol i j ↔ i = s.length ∧ j = i := by rw [Hit]
theorem hit_bol {s : List UInt8} {i j : Nat} : Hit s .bol i j ↔ i = 0 ∧ j = i := by rw [Hit]
theorem cost_b {ks : List RE} {k : Nat} (h : costB (.cat ks) k = true) : costL ((ks.drop k).take 1) + 1 ≤ 131072 ∧ costL (ks.drop (k + 1)) + 1 ≤ 131072 := by
  simpa [costB] using h
theorem thr_to (n : Nat) (f : Nat → Row) (v : Row) (a q : Nat) (ha : a ≤ n) (hv : ∀ p, p ≤ n → p ≠ a → f p q = 0) : thrR id n f v false q = v a * f a q := by
  have h : ∀ m, m ≤ n + 1 → thrGo id f v false q m = if a < m then v a * f a q else 0 := by
    intro m
    induction m with
    | zero => intro _; rfl
    | succ m ih =>
      intro hm
      rw [thr_succ, ih (by omega)]
      have hs : stepT f v false q m = v m * f m q := if_neg (by simp)
      rw [hs]
      by_cases hma : m = a
      · subst hma; rw [if_neg (Nat.lt_irrefl m), if_pos (Nat.lt_succ_self m)]; omega
      · rw [hv m (by omega) hma, Nat.mul_zero]
        by_cases h2 : a < m
        · rw [if_pos h2, if_pos (by omega)]; rfl
        · rw [if_neg h2, if_neg (by omega)]
  unfold thrR
  rw [h (n + 1) (Nat.le_refl _), if_pos (by omega)]
theorem sum_at {v : Row} {a : Nat} : ∀ m, (∀ q, q < m → q ≠ a → v q = 0) → sumGo id v m = if a < m then v a else 0
  | 0, _ => rfl
  | m + 1, h => by
    rw [sumGo, sum_at m (fun q hq => h q (by omega))]
    by_cases hma : m = a
    · subst hma; rw [if_neg (Nat.lt_irrefl m), if_pos (Nat.lt_succ_self m)]; simp
    · rw [h m (by omega) hma]
      by_cases h2 : a < m
      · rw [if_pos h2, if_pos (by omega)]; rfl
      · rw [if_neg h2, if_neg (by omega)]; rfl
theorem unit_self (a : Nat) : unitR a a = 1 := if_pos rfl
theorem back_sum (s : List UInt8) (n : Nat) (v : Row) (q : Nat) (hq : q ≤ s.length) : thrR id s.length (rowE s (.back n)) v false q = sumGo id v (q + 1) := by
  unfold thrR
  rw [thr_ones s.length _ v false q hq (fun p _ => row_back s n p q) (s.length + 1) (Nat.le_refl _)]
  rw [if_neg (by decide), show min (s.length + 1) (q + 1) = q + 1 by omega]
theorem eol_sum (s : List UInt8) (v : Row) : sumGo id (thrR id s.length (rowE s .eol) v false) (s.length + 1) = v s.length := by
  rw [sum_at (a := s.length) _ (fun q hq hne => by
    rw [thr_to s.length _ v s.length q (Nat.le_refl _) (fun p _ hp => by rw [row_eol, if_neg (by omega)]), row_eol, if_neg (by omega), Nat.mul_zero]), if_pos (by omega),
    thr_to s.length _ v s.length s.length (Nat.le_refl _) (fun p _ hp => by rw [row_eol, if_neg (by omega)]), row_eol, if_pos ⟨rfl, rfl⟩, Nat.mul_one]
end Go.Proofs.Ytblpgpgbnlhjlaa
namespace Go.Proofs.Ytblpgpgbnlhjlaa
open Go Go.RowKit Sl
set_option maxRecDepth 100000
set_option maxHeartbeats 8000000
set_option linter.unusedVariables false
set_option linter.unusedSimpArgs false
attribute [local irreducible] ES EL PX wps
abbrev GB (n : Nat) : RE := .group n (.cat [.byte AL])
abbrev tuT : RE := .cat [.bol, GB 1, GB 2, .byte AL, .back 2, .back 1, .eol]
abbrev tuText : List UInt8 := [94, 92, 40, 46, 92, 41, 92, 40, 46, 92, 41, 46, 92, 50, 92, 49, 36]
theorem tu_parse : parseM tuText = ⟨tuT, 0, 0⟩ := by kernel_rfl
theorem cost_tu : costB tuT 0 = true ∧ costB tuT 1 = true ∧ costB tuT 2 = true ∧ costB tuT 3 = true ∧ costB tuT 4 = true ∧ costB tuT 5 = true ∧ costL [tuT] + 1 ≤ 131072 := by decide +kernel
section tu
variable {s : List UInt8}
theorem hit_al {i j : Nat} : Hit s (.byte AL) i j ↔ i < s.length ∧ j = i + 1 := by
  rw [hit_byte]
  exact ⟨fun h => ⟨h.1.1, h.2⟩, fun h => ⟨at_al h.1, h.2⟩⟩
theorem hit_gb {n i j : Nat} : Hit s (GB n) i j ↔ i < s.length ∧ j = i + 1 := by rw [hit_group, hit_al]
theorem tu_t6 {n p j : Nat} (hp : p ≤ s.length) : HitL s [.back n, .eol] p j ↔ j = s.length := by
  rw [hitL_two]
  constructor
  · rintro ⟨m, h1, h2⟩
    obtain ⟨h3, h4⟩ := hit_eol.1 (hitL_one.1 h2)
    omega
  · rintro rfl
    exact ⟨s.length, (hit_back hp).2 ⟨hp, Nat.le_refl _⟩, hitL_one.2 (hit_eol.2 ⟨rfl, rfl⟩)⟩
theorem tu_t5 {n m p j : Nat} (hp : p ≤ s.length) : HitL s [.back n, .back m, .eol] p j ↔ j = s.length := by
  rw [hitL_two]
  constructor
  · rintro ⟨q, h1, h2⟩
    exact (tu_t6 ((hit_back hp).1 h1).2).1 h2
  · rintro rfl
    exact ⟨s.length, (hit_back hp).2 ⟨hp, Nat.le_refl _⟩, (tu_t6 (Nat.le_refl _)).2 rfl⟩
theorem tu_t4 {p j : Nat} : HitL s [.byte AL, .back 2, .back 1, .eol] p j ↔ p < s.length ∧ j = s.length := by
  rw [hitL_two]
  constructor
  · rintro ⟨q, h1, h2⟩
    obtain ⟨h3, rfl⟩ := hit_al.1 h1
    exact ⟨h3, (tu_t5 (by omega)).1 h2⟩
  · rintro ⟨h1, rfl⟩
    exact ⟨p + 1, hit_al.2 ⟨h1, rfl⟩, (tu_t5 (by omega)).2 rfl⟩
theorem tu_t3 {p j : Nat} : HitL s [GB 2, .byte AL, .back 2, .back 1, .eol] p j ↔ p + 1 < s.length ∧ j = s.length := by
  rw [hitL_two]
  constructor
  · rintro ⟨q, h1, h2⟩
    obtain ⟨h3, rfl⟩ := hit_gb.1 h1
    exact tu_t4.1 h2
  · rintro ⟨h1, rfl⟩
    exact ⟨p + 1, hit_gb.2 ⟨by omega, rfl⟩, tu_t4.2 ⟨h1, rfl⟩⟩
theorem tu_t2 {p j : Nat} : HitL s [GB 1, GB 2, .byte AL, .back 2, .back 1, .eol] p j ↔ p + 2 < s.length ∧ j = s.length := by
  rw [hitL_two]
  constructor
  · rintro ⟨q, h1, h2⟩
    obtain ⟨h3, rfl⟩ := hit_gb.1 h1
    obtain ⟨h4, h5⟩ := tu_t3.1 h2
    exact ⟨by omega, h5⟩
  · rintro ⟨h1, rfl⟩
    exact ⟨p + 1, hit_gb.2 ⟨by omega, rfl⟩, tu_t3.2 ⟨by omega, rfl⟩⟩
theorem tu_hit (hn : 3 ≤ s.length) {j : Nat} : HitL s [tuT] 0 j ↔ j = s.length := by
  rw [hitL_one, hit_cat, hitL_two]
  constructor
  · rintro ⟨q, h1, h2⟩
    obtain ⟨_, rfl⟩ := hit_bol.1 h1
    exact (tu_t2.1 h2).2
  · rintro rfl
    exact ⟨0, hit_bol.2 ⟨rfl, rfl⟩, tu_t2.2 ⟨by omega, rfl⟩⟩
theorem cut_one {a : Nat} (h : a < s.length) : (s.take (a + 1)).drop a = [s.getD a 0] := by
  rw [List.drop_take, show a + 1 - a = 1 by omega, List.drop_eq_getElem_cons h, List.take_succ_cons, List.take_zero, List.getD_eq_getElem?_getD, List.getElem?_eq_getElem h]
  rfl
theorem cut_len {a b : Nat} (hb : b ≤ s.length) : ((s.take b).drop a).length = b - a := by
  rw [List.length_drop, List.length_take, Nat.min_eq_left hb]
theorem dnL_three (e : Nat) (h : 3 < e) : dnL 3 (e - 3) = (e - 1) :: dnL 3 (e - 1 - 3) := by
  rw [show e - 3 = (e - 4) + 1 by omega, dnL, show 3 + (e - 4) = e - 1 by omega, show e - 1 - 3 = e - 4 by omega]
abbrev tuOk (s : List UInt8) : Prop := s.length = 5 ∧ s.getD 0 0 = s.getD 4 0 ∧ s.getD 1 0 = s.getD 3 0
abbrev tuZ : List Spn := [(-1, -1), (0, 1), (1, 2)]
theorem tu_try (hn : 3 ≤ s.length) (e : Nat) : ∀ f, 3 ≤ e → e ≤ s.length → 20 * e + 20 ≤ f →
    runB s f (⟨.back 2, 0, 3, e⟩ :: ⟨tuT, 5, e, s.length⟩ :: []) [⟨[⟨tuT, 4, 3, s.length⟩], dnL 3 (e - 3), tuZ⟩] tuZ = some (if 4 ≤ e ∧ tuOk s then some tuZ else none) := by
  induction e using Nat.strongRecOn with
  | _ e ih =>
    intro f h3 he hf
    have hback : ∀ (ts : List Tk) (k i j n f' : Nat), 3 < e → 20 * (e - 1) + 20 ≤ f' → endsB s ⟨.back n, k, i, j⟩ tuZ = some ([], false) → ¬ (4 ≤ e ∧ tuOk s ∧ e = 4) →
        runB s (f' + 1) (⟨.back n, k, i, j⟩ :: ts) [⟨[⟨tuT, 4, 3, s.length⟩], dnL 3 (e - 3), tuZ⟩] tuZ = some (if 4 ≤ e ∧ tuOk s then some tuZ else none) := fun ts k i j n f' h4 hf' hend hno => by
      have hl : livB [⟨[⟨tuT, 4, 3, s.length⟩], dnL 3 (e - 3), tuZ⟩] = [⟨[⟨tuT, 4, 3, s.length⟩], (e - 1) :: dnL 3 (e - 1 - 3), tuZ⟩] := by
        rw [dnL_three e h4, liv_live (by simp)]
        rfl
      rw [run_back (now := ⟨.back 2, 0, 3, e - 1⟩ :: ⟨tuT, 5, e - 1, s.length⟩ :: []) (z' := tuZ) hend hl rfl]
      refine (ih (e - 1) (by omega) f' (by omega) (by omega) (by omega)).trans ?_
      congr 1
      by_cases h5 : e = 4
      · rw [if_neg (by omega), if_neg (fun x => hno ⟨x.1, x.2, h5⟩)]
      · by_cases ht : tuOk s
        · rw [if_pos ⟨by omega, ht⟩, if_pos ⟨by omega, ht⟩]
        · rw [if_neg (fun x => ht x.2), if_neg (fun x => ht x.2)]
    obtain ⟨f, rfl⟩ : ∃ f', f = f' + 1 := ⟨f - 1, by omega⟩
    have hend2 : endsB s ⟨.back 2, 0, 3, e⟩ tuZ = some ([], decide ((s.take 2).drop 1 = (s.take e).drop 3)) := ends_back (a := 1) (b := 2) ⟨h3, he⟩ rfl (by omega) (by omega)
    have h12 := cut_one (s := s) (a := 1) (by omega)
    by_cases h33 : e = 3
    · subst h33
      rw [decide_eq_false (fun hh => by
        have := congrArg List.length hh
        rw [cut_len (by omega), cut_len (by omega)] at this
        omega)] at hend2
      rw [run_fail hend2 (liv_dead rfl), if_neg (by omega)]
    by_cases hc : (s.take 2).drop 1 = (s.take e).drop 3
    · have h4 : e = 4 := by
        have := congrArg List.length hc
        rw [cut_len (by omega), cut_len he] at this
        omega
      subst h4
      have h34 := cut_one (s := s) (a := 3) (by omega)
      rw [h12, h34] at hc
      have hc1 : s.getD 1 0 = s.getD 3 0 := by simpa using hc
      obtain ⟨f, rfl⟩ : ∃ f', f = f' + 1 + 1 + 1 + 1 + 1 + 1 := ⟨f - 6, by omega⟩
      have s5 : splL s (([RE.bol, GB 1, GB 2, .byte AL, .back 2, .back 1, .eol].drop 5).take 1) ([RE.bol, GB 1, GB 2, .byte AL, .back 2, .back 1, .eol].drop 6) 4 s.length 0 = [s.length] :=
        spl_one (cost_b cost_tu.2.2.2.2.2.1).1 (cost_b cost_tu.2.2.2.2.2.1).2 he (Nat.le_refl _) (Nat.le_refl _) (fun p h1 h2 => by
          show (HitL s [.back 1] 4 p ∧ HitL s [.eol] p s.length) ↔ _
          rw [hitL_one, hitL_one, hit_back he, hit_eol]
          omega)
      have hend1 : endsB s ⟨.back 1, 0, 4, s.length⟩ tuZ = some ([], decide ((s.take 1).drop 0 = (s.take s.length).drop 4)) := ends_back (a := 0) (b := 1) ⟨he, Nat.le_refl _⟩ rfl (by omega) (by omega)
      have h01 := cut_one (s := s) (a := 0) (by omega)
      rw [run_backOk (a := 1) (b := 2) ⟨h3, he⟩ rfl (by omega) (by omega) (by rw [h12, h34]; exact hc), run_cut ⟨he, Nat.le_refl _⟩ (by decide) cost_tu.2.2.2.2.2.1 rfl s5]
      by_cases hd : (s.take 1).drop 0 = (s.take s.length).drop 4
      · have h5 : s.length = 5 := by
          have := congrArg List.length hd
          rw [cut_len (by omega), cut_len (Nat.le_refl _)] at this
          omega
        have h45 := cut_one (s := s) (a := 4) (by omega)
        have hd0 := hd
        rw [h01, h5, h45] at hd
        have hc0 : s.getD 0 0 = s.getD 4 0 := by simpa using hd
        rw [run_backOk (a := 0) (b := 1) ⟨he, Nat.le_refl _⟩ rfl (by omega) (by omega) hd0, run_last ⟨Nat.le_refl _, Nat.le_refl _⟩ (by rfl) (by rfl), run_eol ⟨Nat.le_refl _, Nat.le_refl _⟩, run_done ⟨Nat.le_refl _, Nat.le_refl _⟩ (by rfl), runB, if_pos ⟨Nat.le_refl _, h5, hc0, hc1⟩]
      · rw [decide_eq_false hd] at hend1
        have hno : ¬ (4 ≤ 4 ∧ tuOk s ∧ 4 = 4) := fun ⟨_, ⟨h5, h6, _⟩, _⟩ => hd (by
          have h45 := cut_one (s := s) (a := 4) (by omega)
          rw [h01, h5, h45, h6])
        exact hback _ _ _ _ _ _ (by omega) (by omega) hend1 hno
    · rw [decide_eq_false hc] at hend2
      have hno : ¬ (4 ≤ e ∧ tuOk s ∧ e = 4) := fun ⟨_, ⟨_, _, h6⟩, h4⟩ => hc (by
        subst h4
        have h34 := cut_one (s := s) (a := 3) (by omega)
        rw [h12, h34, h6])
      exact hback _ _ _ _ _ _ (by omega) (by omega) hend2 hno
theorem tu_run (hn : 3 ≤ s.length) (h7 : s.length ≤ 7) {f : Nat} (hf : 500 ≤ f) : runB s f [⟨tuT, 0, 0, s.length⟩] [] [(-1, -1), (-1, -1), (-1, -1)] = some (if tuOk s then some tuZ else none) := by
  obtain ⟨f, rfl⟩ : ∃ f', f = f' + 1 + 1 + 1 + 4 + 1 + 4 + 1 + 1 + 1 := ⟨f - 15, by omega⟩
  have s0 : splL s (([RE.bol, GB 1, GB 2, .byte AL, .back 2, .back 1, .eol].drop 0).take 1) ([RE.bol, GB 1, GB 2, .byte AL, .back 2, .back 1, .eol].drop 1) 0 s.length 0 = [0] :=
    spl_one (cost_b cost_tu.1).1 (cost_b cost_tu.1).2 (Nat.le_refl _) (Nat.zero_le _) (Nat.le_refl _) (fun p _ _ => by
      show (HitL s [.bol] 0 p ∧ HitL s [GB 1, GB 2, .byte AL, .back 2, .back 1, .eol] p s.length) ↔ _
      rw [hitL_one, hit_bol]
      constructor
      · exact fun h => h.1.2
      · rintro rfl; exact ⟨⟨rfl, rfl⟩, tu_t2.2 ⟨by omega, rfl⟩⟩)
  have s1 : splL s (([RE.bol, GB 1, GB 2, .byte AL, .back 2, .back 1, .eol].drop 1).take 1) ([RE.bol, GB 1, GB 2, .byte AL, .back 2, .back 1, .eol].drop 2) 0 s.length 0 = [1] :=
    spl_one (cost_b cost_tu.2.1).1 (cost_b cost_tu.2.1).2 (by omega) (by omega) (Nat.le_refl _) (fun p _ _ => by
      show (HitL s [GB 1] 0 p ∧ HitL s [GB 2, .byte AL, .back 2, .back 1, .eol] p s.length) ↔ _
      rw [hitL_one, hit_gb, tu_t3]
      omega)
  have s2 : splL s (([RE.bol, GB 1, GB 2, .byte AL, .back 2, .back 1, .eol].drop 2).take 1) ([RE.bol, GB 1, GB 2, .byte AL, .back 2, .back 1, .eol].drop 3) 1 s.length 0 = [2] :=
    spl_one (cost_b cost_tu.2.2.1).1 (cost_b cost_tu.2.2.1).2 (by omega) (by omega) (Nat.le_refl _) (fun p _ _ => by
      show (HitL s [GB 2] 1 p ∧ HitL s [.byte AL, .back 2, .back 1, .eol] p s.length) ↔ _
      rw [hitL_one, hit_gb, tu_t4]
      omega)
  have s3 : splL s (([RE.bol, GB 1, GB 2, .byte AL, .back 2, .back 1, .eol].drop 3).take 1) ([RE.bol, GB 1, GB 2, .byte AL, .back 2, .back 1, .eol].drop 4) 2 s.length 0 = [3] :=
    spl_one (cost_b cost_tu.2.2.2.1).1 (cost_b cost_tu.2.2.2.1).2 (by omega) (by omega) (Nat.le_refl _) (fun p _ h2 => by
      show (HitL s [.byte AL] 2 p ∧ HitL s [.back 2, .back 1, .eol] p s.length) ↔ _
      rw [hitL_one, hit_al, tu_t5 h2]
      omega)
  have s4 : splL s (([RE.bol, GB 1, GB 2, .byte AL, .back 2, .back 1, .eol].drop 4).take 1) ([RE.bol, GB 1, GB 2, .byte AL, .back 2, .back 1, .eol].drop 5) 3 s.length 0 = s.length :: dnL 3 (s.length - 3) := by
    rw [spl_all (cost_b cost_tu.2.2.2.2.1).1 (cost_b cost_tu.2.2.2.2.1).2 hn (Nat.le_refl _) (fun p h1 h2 => by
      show HitL s [.back 2] 3 p ∧ HitL s [.back 1, .eol] p s.length
      exact ⟨hitL_one.2 ((hit_back hn).2 ⟨h1, h2⟩), (tu_t6 h2).2 rfl⟩), show s.length + 1 - 3 = (s.length - 3) + 1 by omega, dnL, show 3 + (s.length - 3) = s.length by omega]
  rw [run_cut ⟨Nat.zero_le _, Nat.le_refl _⟩ (by decide) cost_tu.1 rfl s0, run_bol ⟨Nat.le_refl _, Nat.zero_le _⟩, run_cut ⟨Nat.zero_le _, Nat.le_refl _⟩ (by decide) cost_tu.2.1 rfl s1, run_gbyte (by omega) (by omega) (by decide),
    run_cut ⟨by omega, Nat.le_refl _⟩ (by decide) cost_tu.2.2.1 rfl s2, run_gbyte (by omega) (by omega) (by decide), run_cut ⟨by omega, Nat.le_refl _⟩ (by decide) cost_tu.2.2.2.1 rfl s3, run_byte ⟨by omega, by omega⟩, run_split ⟨hn, Nat.le_refl _⟩ (by decide) cost_tu.2.2.2.2.1 rfl s4]
  refine (tu_try hn s.length f hn (Nat.le_refl _) (by omega)).trans ?_
  by_cases ht : tuOk s
  · rw [if_pos ⟨by have := ht.1; omega, ht⟩, if_pos ht]
  · rw [if_neg (fun x => ht x.2), if_neg ht]
theorem row_al {a q : Nat} (ha : a < s.length) : rowE s (.byte AL) a q = unitR (a + 1) q := by
  rw [row_byte]
  unfold unitR
  by_cases h : q = a + 1
  · rw [if_pos ⟨ha, has_al _, h⟩, if_pos h]
  · rw [if_neg (fun x => h x.2.2), if_neg h]
theorem row_gb {n a q : Nat} (ha : a < s.length) : rowE s (GB n) a q = unitR (a + 1) q := by
  rw [row_group _ _ _ _ _ (by omega), row_cat1 _ _ _ _ (by omega), row_al ha]
theorem row_al0 {a q : Nat} (ha : ¬ a < s.length) : rowE s (.byte AL) a q = 0 := by rw [row_byte, if_neg (fun x => ha x.1)]
theorem row_gb0 {n a q : Nat} (ha : ¬ a < s.length) (hl : a ≤ s.length) : rowE s (GB n) a q = 0 := by
  rw [row_group _ _ _ _ _ hl, row_cat1 _ _ _ _ hl, row_al0 ha]
theorem cat_next {k : RE} {ks : List RE} {a b : Nat} (ha : a ≤ s.length) (hk : ∀ p, p ≤ s.length → rowE s k a p = unitR b p) {q : Nat} (hq : q ≤ s.length) : catR id s (k :: ks) (unitR a) q = catR id s ks (unitR b) q := by
  rw [cat_at s k ks _ a q ha (fun p _ hp => unit_ne hp) hq]
  exact cat_congr s ks _ _ (fun p hp => by rw [hk p hp, unit_self, Nat.one_mul]) q hq
theorem cat_dead {k : RE} {ks : List RE} {a : Nat} (ha : a ≤ s.length) (hk : ∀ p, p ≤ s.length → rowE s k a p = 0) {q : Nat} (hq : q ≤ s.length) : catR id s (k :: ks) (unitR a) q = 0 := by
  rw [cat_at s k ks _ a q ha (fun p _ hp => unit_ne hp) hq]
  exact catE_zero s ks _ (fun p hp => by rw [hk p hp, Nat.mul_zero]) q hq
theorem tu_bol {q : Nat} (hq : q ≤ s.length) : rowE s tuT 0 q = catR id s [GB 1, GB 2, .byte AL, .back 2, .back 1, .eol] (unitR 0) q := by
  rw [row_catE]
  exact cat_next (Nat.zero_le _) (fun p _ => by rw [row_bol]; unfold unitR; by_cases h : p = 0 <;> simp [h]) hq
theorem tu_short (h : s.length < 3) : countM s tuT 0 = 0 := by
  rw [count_E, sum_zero _ (fun q hq => ?_)]
  · rfl
  have hq' : q ≤ s.length := by omega
  rw [tu_bol hq']
  by_cases h0 : 0 < s.length
  · rw [cat_next (b := 1) (Nat.zero_le _) (fun p _ => row_gb h0) hq']
    by_cases h1 : 1 < s.length
    · rw [cat_next (b := 2) (by omega) (fun p _ => row_gb h1) hq']
      exact cat_dead (by omega) (fun p _ => row_al0 (by omega)) hq'
    · exact cat_dead (by omega) (fun p _ => row_gb0 h1 (by omega)) hq'
  · exact cat_dead (Nat.zero_le _) (fun p _ => row_gb0 h0 (Nat.zero_le _)) hq'
theorem sum_from (a : Nat) : ∀ m, sumGo id (fun q => if a ≤ q then 1 else 0) m = m - a
  | 0 => by simp [sumGo]
  | m + 1 => by
    rw [sumGo, sum_from a m]
    simp only [id]
    split <;> omega
theorem tu_count (h : 3 ≤ s.length) : countM s tuT 0 = capW (s.length - 2) := by
  rw [count_E]
  congr 1
  have hv : ∀ q, q ≤ s.length → rowE s tuT 0 q = thrR id s.length (rowE s .eol) (fun q => q + 1 - 3) false q := fun q hq => by
    rw [tu_bol hq, cat_next (b := 1) (Nat.zero_le _) (fun p _ => row_gb (by omega)) hq, cat_next (b := 2) (by omega) (fun p _ => row_gb (by omega)) hq, cat_next (b := 3) (by omega) (fun p _ => row_al (by omega)) hq,
      cat_at s (.back 2) _ _ 3 q h (fun p _ hp => unit_ne hp) hq, catR,
      cat_congr s [.eol] _ (fun q => q + 1 - 3) (fun p hp => (back_sum s 1 _ p hp).trans ((sum_congr _ (fun r hr => by rw [unit_self, Nat.one_mul, row_back])).trans (sum_from 3 (p + 1)))) q hq, catR, catR]
  rw [sum_congr _ (fun q hq => hv q (by omega)), eol_sum]
  omega
theorem tu_lead {p : Nat} (h0 : p ≠ 0) (hp : p ≤ s.length) : countM s tuT p = 0 := count_lead hp (fun q _ => by rw [row_bol, if_neg (by omega)])
theorem tu_back (h7 : s.length ≤ 7) : backM 500 tuText s 0 = some (if tuOk s then ⟨[(0, 5), (0, 1), (1, 2)], true, 0⟩ else ⟨[], false, 0⟩) := by
  by_cases hn : 3 ≤ s.length
  · have hcnt : countM s tuT 0 = s.length - 2 := by rw [tu_count hn]; unfold capW; omega
    rw [back_at (g := 2) (i := 0) (j := s.length) tu_parse (by omega) (by decide +kernel) (by decide) cost_tu.2.2.2.2.2.2 (Nat.zero_le _) (Nat.le_refl _) (by omega) (by omega) (fun p h1 h2 => tu_lead h1 h2) (fun p _ => tu_hit hn) (by decide) (tu_run hn h7 (Nat.le_refl _)) (fun z hz => by
      split at hz
      · cases hz; decide
      · cases hz)]
    by_cases ht : tuOk s
    · rw [if_pos ht, if_pos ht]
      simp only [ht.1]
      rfl
    · rw [if_neg ht, if_neg ht]
      rfl
  · rw [back_none 500 (g := 2) tu_parse (by omega) (by decide +kernel) (by decide) cost_tu.2.2.2.2.2.2 (fun p hp => by
      by_cases h0 : p = 0
      · subst h0; exact tu_short (by omega)
      · exact tu_lead h0 hp), if_neg (fun h => by have := h.1; omega)]
end tu
end Go.Proofs.Ytblpgpgbnlhjlaa
