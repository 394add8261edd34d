/- Texts of this claim, bundled. -/
import Derived.Test.YthcbjbkheodejaaGreatZg5
set_option linter.unusedVariables false
set_option linter.unusedSimpArgs false
namespace Go.Proofs.YthcbjbkheodejaaGreat
open Go Go.RowKit Sl
set_option maxRecDepth 100000
set_option maxHeartbeats 8000000
attribute [local irreducible] ES EL PX wps
theorem grown_at (r : DR) (n : Int) (a : Nat) : (r.grown n a).at_ = r.at_ := by
  unfold DR.grown DR.fail
  dsimp only
  repeat (first | rfl | split)
theorem grown_closed (r : DR) (n : Int) (a : Nat) : (r.grown n a).closed = r.closed := by
  unfold DR.grown DR.fail
  dsimp only
  repeat (first | rfl | split)
structure RpSt where
  p : RE
  r : DR
  x : PX0
  m : Nat
structure RpI (t : List UInt8) (fin : RE × DR) (z : RpSt) : Prop where
  shut : z.r.closed.length = 10
  at_ : z.r.e = 0 → z.r.at_ ≤ t.length ∧ t.length ≤ z.m + z.r.at_
  ok : z.r.e = 0 → z.p.pok ∧ (posR z.p : Int) ≤ z.r.size ∧ z.r.size ≤ 256
  go : dReps t z.m z.p z.r = fin
theorem RpI.step {t : List UInt8} {fin : RE × DR} {p : RE} {x : PX0} {a a2 pl gr m lo : Nat} {hi sz : Int} {sh : List Bool} (hsh : sh.length = 10) (hpok : p.pok) (hpz : (posR p : Int) ≤ sz) (hsz : sz ≤ 256) (hl : lo ≤ 255) (hh : hi ≤ 255) (h1 : a < a2) (h2 : a2 ≤ t.length) (hm : t.length ≤ m + a2)
    (hgo : dReps t m (.rep lo hi p) (DR.grown ⟨a2, 0, pl, gr, sh, sz⟩ ((posR (.rep lo hi p) : Int) - posR p) a) = fin) : RpI t fin ⟨.rep lo hi p, DR.grown ⟨a2, 0, pl, gr, sh, sz⟩ ((posR (.rep lo hi p) : Int) - posR p) a, x, m⟩ := by
  refine ⟨by rw [grown_closed]; exact hsh, fun _ => by rw [grown_at]; exact ⟨h2, hm⟩, fun he => ?_, hgo⟩
  dsimp only at he ⊢
  obtain ⟨g1, g2⟩ := grown_ok (r := ⟨a2, 0, pl, gr, sh, sz⟩) rfl he
  rw [g2]
  dsimp only at g1 ⊢
  obtain ⟨p1, p2⟩ := rep_pok hpok (by omega) hl hh
  exact ⟨p1, by omega, g1⟩
theorem dreps_c (g : Nat) (t : List UInt8) (r : DR) (p : RE) (x : PX0) (n : Nat) (ht : t.length ≤ 1073741824) (hI : RpI t (dReps t n p r) ⟨p, r, x, n⟩) :
    TM 78 #[Pv g 0, .agg (RCl p x).toArray] g t r [HA.forest x.fp [p] (RCl p x)] (dReps t n p r) := by
  intro w0 B R w h
  replace h : Sat w0 B (DRB g t r :: HA.forest x.fp [p] (RCl p x) :: R) w := h
  generalize dReps t n p r = fin at hI ⊢
  refine calls_of_ES TB Tryz.func78 rfl _ Tryz.ntmps78 rfl h ?_; refine .go ?_; (repeat constructor); (refine .bx ?_; intro g3); (refine .al ?_; intro g4); refine .go ?_; repeat constructor
  refine ES.loop (σ := RpSt) (fun z => RpI t fin z) (fun z => [(0, Pv g 0), (3, Pv g3 0), (4, Pv g4 0)])
    (fun z => DRB g t z.r :: HA.blk g3 (.cells (RCl z.p z.x).toArray 46) :: HA.forest z.x.fp [z.p] (RCl z.p z.x) :: ZB g4 :: R) (fun z => t.length - z.r.at_) ⟨p, r, x, n⟩ hI ⟨rfl, rfl, rfl, trivial⟩ (.i (by repeat constructor)) ?_
  rintro ⟨p, ⟨a, e0, pl, gr, sh, sz⟩, x, m⟩ ⟨hsh, hat, hok, hgo⟩
  dsimp only at hsh hat hok hgo ⊢
  refine ES.imp (H' := RB g t a e0 pl gr (CT sh sz) :: HA.blk g3 (.cells (RCl p x).toArray 46) :: HA.forest x.fp [p] (RCl p x) :: ZB g4 :: R) (fun w hs => hs) ?_; refine .go ?_; (repeat constructor); refine .mv ?_; refine .nc ?_; refine .fa ?_; refine .lb ?_; refine .ei ?_; refine .go ?_; repeat constructor
  refine ES.condD rfl (fun he => ?_) (fun hne => ?_)
  rotate_left
  · rw [reps_bad _ _ _ (show (⟨a, e0, pl, gr, sh, sz⟩ : DR).e ≠ 0 from hne)] at hgo
    rw [← hgo]
    refine .go ?_; repeat constructor
    refine EL.ofRV (RV.loadBA (RCl p x) rfl rfl rfl rfl (by repeat constructor) rfl) rfl rfl rfl (by intro c h; cases h) ?_
    refine .sa ?_; refine .go ?_; repeat constructor
    exact PX.ret rfl Tryz.results78 (.cons (.blkA rfl rfl rfl (by repeat constructor) rfl) .nil) (fun w hs => ⟨x, rfl, hs.ent (.i (by repeat constructor))⟩)
  have he : e0 = 0 := he
  subst he
  obtain ⟨hpok, hpz, hsz⟩ := hok rfl
  obtain ⟨hat, hfu⟩ := hat rfl
  have hs1 := dsee_c g t a 0 pl gr (CT sh sz) [42] ht (by omega) (by simp)
  have hs2 := dsee_c g t a 0 pl gr (CT sh sz) [92, 123] ht (by omega) (by simp)
  rw [see_one] at hs1
  rw [see2_is] at hs2
  refine .go ?_; (repeat constructor); refine .mv ?_; refine .nc ?_; refine .fa ?_; refine .lb ?_; refine .as_ ?_; refine .go ?_; (repeat constructor); refine .as_ ?_; refine .as_ ?_; refine .go ?_; (repeat constructor); refine .mv ?_; refine EL.callM1 rfl rfl rfl ent76 rfl hs1 (by repeat constructor) ?_; refine .as_ ?_; refine .go ?_; repeat constructor
  refine ES.condD rfl (fun hst => ?_) (fun hst => ?_)
  · obtain ⟨k, rfl⟩ : ∃ k, m = k + 1 := ⟨m - 1, by omega⟩
    rw [dReps, if_neg (by simp), if_pos (by rw [Bool.and_eq_true, decide_eq_true_eq, decide_eq_true_eq]; exact ⟨hst.1, by rw [hst.2]; rfl⟩)] at hgo
    obtain ⟨p1, p2⟩ := rep_pok (lo := 0) (hi := (-1)) hpok (by omega) (by omega) (by omega)
    have hpc1 := fun (w' : World) (hk : KidsRd w' w'.heap.size p.kids x.ad) => dpos_c p hpok x.ad x.cap w' hk
    have hpc2 := fun (b : Nat) (w' : World) (hk : KidsRd w' w'.heap.size (RE.rep 0 (-1) p).kids (some ⟨b, 0, none⟩)) => dpos_c (.rep 0 (-1) p) p1 (some ⟨b, 0, none⟩) 1 w' hk
    have hgr := dgrown_c g t ⟨a + 1, 0, pl, gr, sh, sz⟩ ((posR (.rep 0 (-1) p) : Int) - posR p) a hsh (by simp only; omega) (by simp only; omega)
    refine .go ?_; (repeat constructor); refine .mv ?_; refine .nc ?_; refine .fa ?_; refine .lb ?_; refine .a1 ?_; refine .nc ?_; refine .fa ?_
    (refine EL.storeB rfl rfl rfl rfl rfl rfl (by repeat constructor) (by simp) ?_; refine EL.blkEq (g := g) (by repeat constructor) (congrArg (fun a => Obj.cells a 127 (0, 0)) (rd_set1 _ _ _ _ _ _ _)) ?_)
    refine .go ?_; (repeat constructor); refine .go ?_; repeat constructor
    refine EL.ofRV (RV.loadBA (RCl p x) rfl rfl rfl rfl (by repeat constructor) rfl) rfl rfl rfl (by intro c h; cases h) ?_
    refine EL.callPw rfl rfl rfl ent70 rfl (fun w' hs => hpc1 w' (kids_of hs (by repeat constructor))) ?_; refine .as_ ?_; refine .go ?_; (repeat constructor); refine .mv ?_; refine .mv ?_
    refine EL.ofRV (RV.loadBA (RCl p x) rfl rfl rfl rfl (by repeat constructor) rfl) rfl rfl rfl (by intro c h; cases h) ?_
    (refine .b1 ?_; intro b57); refine EL.buildS (reCells (.rep 0 (-1) p) (.slice (some ⟨b57, 0, none⟩) 1 1)).toArray rfl rfl rfl rfl rfl (by kernel_rfl) rfl ?_; refine .sa ?_; refine .go ?_; (repeat constructor); refine EL.imp (H' := RB g t (a + 1) 0 pl gr (CT sh sz) :: HA.blk g3 (.cells (RCl (.rep 0 (-1) p) ⟨some ⟨b57, 0, none⟩, 1, b57 :: x.fp⟩).toArray 46) :: HA.forest (b57 :: x.fp) [.rep 0 (-1) p] (RCl (.rep 0 (-1) p) ⟨some ⟨b57, 0, none⟩, 1, b57 :: x.fp⟩) :: ZB g4 :: R) (fun w hs => ?_) ?_
    · have h1 := Sat.seal (ks := [p]) (.rep 0 (-1) p) rfl (hs.ent (H' := HA.row (.slice (some ⟨b57, 0, none⟩) 1 1) 46 9 1 (RCl p x) :: HA.forest x.fp [p] (RCl p x) :: RB g t (a + 1) 0 pl gr (CT sh sz) :: HA.blk g3 (.cells (RCl (.rep 0 (-1) p) ⟨some ⟨b57, 0, none⟩, 1, b57 :: x.fp⟩).toArray 46) :: ZB g4 :: R) (.i (by repeat constructor)))
      exact h1.ent (.i (by repeat constructor))
    refine .go ?_; (repeat constructor); refine .mv ?_
    refine EL.ofRV (RV.loadBA (RCl (.rep 0 (-1) p) ⟨some ⟨b57, 0, none⟩, 1, b57 :: x.fp⟩) rfl rfl rfl rfl (by repeat constructor) rfl) rfl rfl rfl (by intro c h; cases h) ?_
    refine EL.callPw rfl rfl rfl ent70 rfl (fun w' hs => hpc2 b57 w' (kids_of (fp := b57 :: x.fp) (cap := 1) hs (by repeat constructor))) ?_; refine .mv ?_; refine EL.sub_ ((posR (.rep 0 (-1) p) : Int) - posR p) rfl rfl rfl rfl (wrap_i64 _ (by omega) (by omega)) ?_; refine .mv ?_; refine EL.callM1 rfl rfl rfl ent94 rfl hgr (by repeat constructor) ?_; refine .go ?_; repeat constructor
    exact .ly (σ := RpSt) ⟨.rep 0 (-1) p, DR.grown ⟨a + 1, 0, pl, gr, sh, sz⟩ ((posR (.rep 0 (-1) p) : Int) - posR p) a, ⟨some ⟨b57, 0, none⟩, 1, b57 :: x.fp⟩, k⟩ (RpI.step hsh hpok hpz hsz (by omega) (by omega) (by omega) (by omega) (by omega) hgo) (by rw [grown_at]; simp only; omega)
  · refine .go ?_; (repeat constructor); refine .mv ?_; refine EL.callM1 rfl rfl rfl ent76 rfl hs2 (by repeat constructor) ?_; refine .as_ ?_; refine .go ?_; repeat constructor
    have hst2 : ¬ (decide (a < t.length) && decide ((t.getD a 0).toNat = 42)) = true := by
      rw [Bool.and_eq_true, decide_eq_true_eq, decide_eq_true_eq]
      rintro ⟨h1, h2⟩
      exact hst ⟨h1, UInt8.toNat_inj.1 h2⟩
    refine ES.cond rfl (fun hiv => ?_) (fun hiv => ?_)
    · have h2 := ((see2_iff ..).1 hiv).1
      obtain ⟨k, rfl⟩ : ∃ k, m = k + 1 := ⟨m - 1, by omega⟩
      have hdi := diva_c g t (a + 2) 0 pl gr (CT sh sz) ht h2
      have hie : ivE t (a + 2) = match ivM t (a + 2) with
        | none => ivA t (a + 2)
        | some (_, _, n) => n := rfl
      rw [dReps, if_neg (by simp), if_neg hst2, if_pos hiv] at hgo
      dsimp only at hgo
      cases hv : ivM t (a + 2) with
      | none =>
        rw [hv] at hdi hie hgo
        dsimp only at hie hgo
        rw [hie] at hdi
        rw [← hgo]
        have hff := dfail_r g t ⟨ivA t (a + 2), 0, pl, gr, sh, sz⟩ 9 a
        refine .go ?_; (repeat constructor); refine .mv ?_; refine .nc ?_; refine .fa ?_; refine .lb ?_; refine EL.addN (n := 2) rfl rfl rfl rfl rfl (by omega) ?_; refine .nc ?_; refine .fa ?_
        (refine EL.storeB rfl rfl rfl rfl rfl rfl (by repeat constructor) (by simp) ?_; refine EL.blkEq (g := g) (by repeat constructor) (congrArg (fun a => Obj.cells a 127 (0, 0)) (rd_set1 _ _ _ _ _ _ _)) ?_)
        refine .go ?_; (repeat constructor); refine .as_ ?_; refine .go ?_; (repeat constructor); refine .mv ?_; refine EL.callM1 rfl rfl rfl ent97 rfl hdi (by repeat constructor) ?_; refine .mv ?_; refine .ex ?_; refine .ex ?_; refine .ex ?_; refine .as_ ?_; refine .as_ ?_; refine .as_ ?_; refine .go ?_; (repeat constructor); refine .mv ?_; refine .nt ?_; refine .go ?_; (repeat constructor); refine ES.condT rfl ?_; refine .go ?_; (repeat constructor); refine .mv ?_; refine .mv ?_; refine EL.callM1 rfl rfl rfl ent75 rfl hff (by repeat constructor) ?_; refine .go ?_; repeat constructor
        refine EL.ofRV (RV.loadBA (RCl p x) rfl rfl rfl rfl (by repeat constructor) rfl) rfl rfl rfl (by intro c h; cases h) ?_
        refine .sa ?_; refine .go ?_; repeat constructor
        exact PX.ret rfl Tryz.results78 (.cons (.blkA rfl rfl rfl (by repeat constructor) rfl) .nil) (fun w hs => ⟨x, rfl, hs.ent (.i (by repeat constructor))⟩)
      | some y =>
        obtain ⟨lo, hi, a2⟩ := y
        have hl := iv_le hv
        rw [hv] at hdi hie hgo
        dsimp only at hie hgo
        rw [hie] at hdi
        refine .go ?_; (repeat constructor); refine .mv ?_; refine .nc ?_; refine .fa ?_; refine .lb ?_; refine EL.addN (n := 2) rfl rfl rfl rfl rfl (by omega) ?_; refine .nc ?_; refine .fa ?_
        (refine EL.storeB rfl rfl rfl rfl rfl rfl (by repeat constructor) (by simp) ?_; refine EL.blkEq (g := g) (by repeat constructor) (congrArg (fun a => Obj.cells a 127 (0, 0)) (rd_set1 _ _ _ _ _ _ _)) ?_)
        refine .go ?_; (repeat constructor); refine .as_ ?_; refine .go ?_; (repeat constructor); refine .mv ?_; refine EL.callM1 rfl rfl rfl ent97 rfl hdi (by repeat constructor) ?_; refine .mv ?_; refine .ex ?_; refine .ex ?_; refine .ex ?_; refine .as_ ?_; refine .as_ ?_; refine .as_ ?_; refine .go ?_; (repeat constructor); refine .mv ?_; refine .nt ?_; refine .go ?_; (repeat constructor); refine ES.condF rfl ?_
        obtain ⟨p1, p2⟩ := rep_pok (lo := lo) (hi := hi) hpok (by omega) (by omega) (by omega)
        have hpc1 := fun (w' : World) (hk : KidsRd w' w'.heap.size p.kids x.ad) => dpos_c p hpok x.ad x.cap w' hk
        have hpc2 := fun (b : Nat) (w' : World) (hk : KidsRd w' w'.heap.size (RE.rep lo hi p).kids (some ⟨b, 0, none⟩)) => dpos_c (.rep lo hi p) p1 (some ⟨b, 0, none⟩) 1 w' hk
        have hgr := dgrown_c g t ⟨a2, 0, pl, gr, sh, sz⟩ ((posR (.rep lo hi p) : Int) - posR p) a hsh (by simp only; omega) (by simp only; omega)
        refine .go ?_; repeat constructor
        refine EL.ofRV (RV.loadBA (RCl p x) rfl rfl rfl rfl (by repeat constructor) rfl) rfl rfl rfl (by intro c h; cases h) ?_
        refine EL.callPw rfl rfl rfl ent70 rfl (fun w' hs => hpc1 w' (kids_of hs (by repeat constructor))) ?_; refine .as_ ?_; refine .go ?_; (repeat constructor); refine .mv ?_; refine .mv ?_
        refine EL.ofRV (RV.loadBA (RCl p x) rfl rfl rfl rfl (by repeat constructor) rfl) rfl rfl rfl (by intro c h; cases h) ?_
        (refine .b1 ?_; intro b57); refine EL.buildS (reCells (.rep lo hi p) (.slice (some ⟨b57, 0, none⟩) 1 1)).toArray rfl rfl rfl rfl rfl (by kernel_rfl) rfl ?_; refine .sa ?_; refine .go ?_; (repeat constructor); refine EL.imp (H' := RB g t (a2) 0 pl gr (CT sh sz) :: HA.blk g3 (.cells (RCl (.rep lo hi p) ⟨some ⟨b57, 0, none⟩, 1, b57 :: x.fp⟩).toArray 46) :: HA.forest (b57 :: x.fp) [.rep lo hi p] (RCl (.rep lo hi p) ⟨some ⟨b57, 0, none⟩, 1, b57 :: x.fp⟩) :: ZB g4 :: R) (fun w hs => ?_) ?_
        · have h1 := Sat.seal (ks := [p]) (.rep lo hi p) rfl (hs.ent (H' := HA.row (.slice (some ⟨b57, 0, none⟩) 1 1) 46 9 1 (RCl p x) :: HA.forest x.fp [p] (RCl p x) :: RB g t (a2) 0 pl gr (CT sh sz) :: HA.blk g3 (.cells (RCl (.rep lo hi p) ⟨some ⟨b57, 0, none⟩, 1, b57 :: x.fp⟩).toArray 46) :: ZB g4 :: R) (.i (by repeat constructor)))
          exact h1.ent (.i (by repeat constructor))
        refine .go ?_; (repeat constructor); refine .mv ?_
        refine EL.ofRV (RV.loadBA (RCl (.rep lo hi p) ⟨some ⟨b57, 0, none⟩, 1, b57 :: x.fp⟩) rfl rfl rfl rfl (by repeat constructor) rfl) rfl rfl rfl (by intro c h; cases h) ?_
        refine EL.callPw rfl rfl rfl ent70 rfl (fun w' hs => hpc2 b57 w' (kids_of (fp := b57 :: x.fp) (cap := 1) hs (by repeat constructor))) ?_; refine .mv ?_; refine EL.sub_ ((posR (.rep lo hi p) : Int) - posR p) rfl rfl rfl rfl (wrap_i64 _ (by omega) (by omega)) ?_; refine .mv ?_; refine EL.callM1 rfl rfl rfl ent94 rfl hgr (by repeat constructor) ?_; refine .go ?_; repeat constructor
        exact .ly (σ := RpSt) ⟨.rep lo hi p, DR.grown ⟨a2, 0, pl, gr, sh, sz⟩ ((posR (.rep lo hi p) : Int) - posR p) a, ⟨some ⟨b57, 0, none⟩, 1, b57 :: x.fp⟩, k⟩ (RpI.step hsh hpok hpz hsz (by omega) (by omega) (by omega) (by omega) (by omega) hgo) (by rw [grown_at]; simp only; omega)
    · have hstop : dReps t m p ⟨a, 0, pl, gr, sh, sz⟩ = (p, ⟨a, 0, pl, gr, sh, sz⟩) := by
        cases m with
        | zero => rfl
        | succ m => rw [dReps, if_neg (by simp), if_neg hst2, if_neg (by rw [hiv]; simp)]
      rw [hstop] at hgo
      rw [← hgo]
      refine .go ?_; repeat constructor
      refine EL.ofRV (RV.loadBA (RCl p x) rfl rfl rfl rfl (by repeat constructor) rfl) rfl rfl rfl (by intro c h; cases h) ?_
      refine .sa ?_; refine .go ?_; repeat constructor
      exact PX.ret rfl Tryz.results78 (.cons (.blkA rfl rfl rfl (by repeat constructor) rfl) .nil) (fun w hs => ⟨x, rfl, hs.ent (.i (by repeat constructor))⟩)
theorem fail_closed (r : DR) (e : Int) (a : Nat) : (r.fail e a).closed = r.closed := (fail_keeps r e a).1
theorem esc_closed (t : List UInt8) (r : DR) : (dEsc t r).2.closed = r.closed := by
  unfold dEsc
  dsimp only
  split
  · exact fail_closed _ _ _
  split
  · rw [grown_closed]; rfl
  split
  · rw [grown_closed]
    split
    · rfl
    · rw [fail_closed]; rfl
  split
  · rw [grown_closed, fail_closed]; rfl
  · rw [grown_closed]; rfl
theorem leaf_closed (t : List UInt8) (r : DR) (f : Bool) : (dLeaf t r f).2.closed = r.closed := by
  unfold dLeaf
  dsimp only
  split
  · exact fail_closed _ _ _
  split
  · exact esc_closed t r
  split
  · split
    · exact fail_closed _ _ _
    · rw [grown_closed]; rfl
  split
  · rfl
  split
  · rfl
  split
  · rw [grown_closed]; rfl
  · rw [grown_closed]; rfl
theorem reps_closed (t : List UInt8) : ∀ (n : Nat) (p : RE) (r : DR), (dReps t n p r).2.closed = r.closed
  | 0, p, r => rfl
  | n + 1, p, r => by
    rw [dReps]
    split
    · rfl
    split
    · rw [reps_closed t n, grown_closed]; rfl
    split
    · split
      · rw [fail_closed]; rfl
      · rw [reps_closed t n, grown_closed]; rfl
    · rfl
theorem full_closed (t : List UInt8) (y : RE × DR) : (dFull t y).2.closed = y.2.closed := by
  unfold dFull
  split
  · rfl
  · exact reps_closed t _ _ _
theorem row_closed (t : List UInt8) : ∀ (n : Nat) (in_ : Bool) (op : Nat) (ks : List RE) (r : DR), (dRow t n in_ op ks r).2.closed.length = r.closed.length
  | 0, _, _, _, _ => rfl
  | n + 1, in_, op, ks, r => by
    rw [dRow_step]
    split
    · rfl
    split
    · split
      · rw [fail_closed]
      · rfl
    split
    · show (if in_ = true then r else r.fail 10 r.at_).closed.length = _
      split
      · rfl
      · rw [fail_closed]
    · rw [row_closed t n, full_closed]
      unfold dPart
      split
      · split
        · rw [fail_closed]
        · rw [List.length_set, row_closed t n]
      · rw [leaf_closed]
theorem part_closed (t : List UInt8) (n : Nat) (r : DR) (f : Bool) : (dPart t n r f).2.closed.length = r.closed.length := by
  unfold dPart
  split
  · split
    · rw [fail_closed]
    · rw [List.length_set, row_closed t n]
  · rw [leaf_closed]
theorem dgroup_c (g : Nat) (t : List UInt8) (r : DR) (n : Nat) (first : Bool) (hr : DOk9 t r) (ht : t.length ≤ 1073741824) (hop : see2 t r.at_ 92 40 = true)
    (hrow : r.groups ≠ 9 → TM 47 #[Pv g 0, .bool true, Iv (r.at_ : Nat)] g t { r with groups := r.groups + 1, at_ := r.at_ + 2 } [] (dRow t n true r.at_ [] { r with groups := r.groups + 1, at_ := r.at_ + 2 })) :
    TM 91 #[Pv g 0] g t r [] (dPart t n r first) := by
  intro w0 B R w h
  have hdp : dPart t n r first = if r.groups = 9 then (.cat [], r.fail 4 r.at_)
    else (.group (r.groups + 1) (dRow t n true r.at_ [] { r with groups := r.groups + 1, at_ := r.at_ + 2 }).1, { (dRow t n true r.at_ [] { r with groups := r.groups + 1, at_ := r.at_ + 2 }).2 with closed := (dRow t n true r.at_ [] { r with groups := r.groups + 1, at_ := r.at_ + 2 }).2.closed.set (r.groups + 1) true }) := by unfold dPart; rw [if_pos hop]
  have hcl := row_closed t n true r.at_ [] { r with groups := r.groups + 1, at_ := r.at_ + 2 }
  have hat := ((see2_iff ..).1 hop).1
  rw [hdp]
  obtain ⟨a, e0, pl, gr, sh, sz⟩ := r
  obtain ⟨⟨hsh, hlo, hhi, _⟩, hg9⟩ := hr
  dsimp only at hsh hlo hhi hg9 hrow hcl hat ⊢
  replace h : Sat w0 B (RB g t a e0 pl gr (CT sh sz) :: R) w := h
  have hff := dfail_r g t ⟨a, e0, pl, gr, sh, sz⟩ 4 a
  refine calls_of_ES TB Tryz.func91 rfl _ Tryz.ntmps91 rfl h ?_; refine .go ?_; (repeat constructor); (refine .al ?_; intro g2); refine .go ?_; (repeat constructor); refine .mv ?_; refine .nc ?_; refine .fa ?_; refine .lb ?_; refine .as_ ?_; refine .go ?_; (repeat constructor); refine .mv ?_; refine .nc ?_; refine .fa ?_; refine .lb ?_; refine .ei ?_; refine .go ?_; repeat constructor
  refine ES.condD rfl (fun h9 => ?_) (fun h9 => ?_)
  · rw [if_pos (show gr = 9 by omega)]
    refine .go ?_; (repeat constructor); refine .mv ?_; refine .mv ?_; refine EL.callM1 rfl rfl rfl ent75 rfl hff (by repeat constructor) ?_; refine .go ?_; (repeat constructor); refine EL.buildZ rfl rfl rfl rfl rfl ?_; refine .sa ?_; refine .go ?_; repeat constructor
    exact PX.ret rfl Tryz.results91 (.cons (.blkA rfl rfl rfl (by repeat constructor) rfl) .nil) (fun w hs => ⟨p00, rfl, (leafOwn (.cat []) rfl hs).ent (.i (by repeat constructor))⟩)
  have hg8 : gr ≠ 9 := by omega
  rw [if_neg hg8]
  replace hrow := hrow hg8
  rw [hsh] at hcl
  generalize dRow t n true a [] ⟨a + 2, e0, pl, gr + 1, sh, sz⟩ = y at hrow hcl ⊢
  obtain ⟨q, ⟨a2, e2, pl2, gr2, sh2, sz2⟩⟩ := y
  dsimp only at hcl ⊢
  refine .go ?_; (repeat constructor); refine .mv ?_; refine .nc ?_; refine .fa ?_; refine .lb ?_; refine .a1 ?_; refine .nc ?_; refine .fa ?_
  (refine EL.storeB rfl rfl rfl rfl rfl rfl (by repeat constructor) (by simp) ?_; refine EL.blkEq (g := g) (by repeat constructor) (congrArg (fun a => Obj.cells a 127 (0, 0)) (rd_set4 _ _ _ _ _ _ _)) ?_)
  refine .go ?_; (repeat constructor); refine .mv ?_; refine .nc ?_; refine .fa ?_; refine .lb ?_; refine .as_ ?_; refine .go ?_; (repeat constructor); refine .mv ?_; refine .nc ?_; refine .fa ?_; refine .lb ?_; refine EL.addN (n := 2) rfl rfl rfl rfl rfl (by omega) ?_; refine .nc ?_; refine .fa ?_
  (refine EL.storeB rfl rfl rfl rfl rfl rfl (by repeat constructor) (by simp) ?_; refine EL.blkEq (g := g) (by repeat constructor) (congrArg (fun a => Obj.cells a 127 (0, 0)) (rd_set1 _ _ _ _ _ _ _)) ?_)
  refine .go ?_; (repeat constructor); refine .mv ?_; refine .mv ?_; (refine EL.callM rfl rfl rfl ent47 rfl hrow (by repeat constructor) ?_; intro x); (refine .al ?_; intro g5); refine .sa ?_; refine .go ?_; (repeat constructor); refine EL.imp (H' := HA.blk g5 (.cells (RCl q x).toArray 46) :: RB g t a2 e2 pl2 gr2 (CT sh2 sz2) :: HA.forest x.fp [q] (RCl q x) :: ZB g2 :: R) (fun w hs => hs.ent (.i (by repeat constructor))) ?_; refine .go ?_; (repeat constructor); refine .mv ?_; refine .mv ?_; refine .nc ?_; refine .fa ?_; refine EL.indexAddrA (i := gr + 1) rfl rfl rfl rfl rfl rfl rfl (by omega) ?_
  (refine EL.storeB rfl rfl rfl rfl rfl rfl (by repeat constructor) (by rw [rd_len _ _ _ _ _ _ _ hcl]; show 0 + 5 + (gr + 1) * 1 < 16; omega) ?_; refine EL.blkEq (g := g) (by repeat constructor) (congrArg (fun a => Obj.cells a 127 (0, 0)) (rd_shut_set t a2 e2 pl2 gr2 (gr + 1) _ sh2 sz2 true (by omega) (by show 0 + 5 + (gr + 1) * 1 = 5 + (gr + 1); omega))) ?_)
  refine .go ?_; (repeat constructor); refine .mv ?_
  refine EL.ofRV (RV.loadBA (RCl q x) rfl rfl rfl rfl (by repeat constructor) rfl) rfl rfl rfl (by intro c h; cases h) ?_
  (refine .b1 ?_; intro b47); refine EL.buildS (reCells (.group (gr + 1) q) (.slice (some ⟨b47, 0, none⟩) 1 1)).toArray rfl rfl rfl rfl rfl (by kernel_rfl) rfl ?_; refine .sa ?_; refine .go ?_; repeat constructor
  refine PX.ret rfl Tryz.results91 (.cons (.blkA rfl rfl rfl (by repeat constructor) rfl) .nil) (fun w hs => ⟨⟨some ⟨b47, 0, none⟩, 1, b47 :: x.fp⟩, rfl, ?_⟩)
  have h1 := Sat.seal (ks := [q]) (.group (gr + 1) q) rfl (hs.ent (H' := HA.row (.slice (some ⟨b47, 0, none⟩) 1 1) 46 9 1 (RCl q x) :: HA.forest x.fp [q] (RCl q x) :: RB g t a2 e2 pl2 gr2 (CT (sh2.set (gr + 1) true) sz2) :: R) (.i (by repeat constructor)))
  exact h1.ent (.i (by repeat constructor))
structure RowSt where
  ks : List RE
  r : DR
  kad : Option Addr
  kcap : Nat
  kcs : List Value
  fp : List Nat
  m : Nat
  bg : Bool
structure RowI (t : List UInt8) (in_ : Bool) (op N : Nat) (fin : RE × DR) (z : RowSt) : Prop where
  shut : z.r.closed.length = 10
  len : z.ks.length ≤ 65537
  fuel : z.m ≤ N
  ok : z.r.e = 0 → DOk9 t z.r ∧ z.ks.length ≤ z.r.at_ ∧ t.length < z.m + z.r.at_
  go : dRow t z.m in_ op z.ks z.r = fin
abbrev RowC (t : List UInt8) (n : Nat) : Prop := ∀ (g : Nat) (r : DR) (in_ : Bool) (op : Nat), r.e = 0 → DOk9 t r → t.length < n + r.at_ → TM 47 #[Pv g 0, .bool in_, Iv (op : Nat)] g t r [] (dRow t n in_ op [] r)
abbrev CKB (g : Nat) (ks : List RE) (kad : Option Addr) (kcap : Nat) : HA := HA.blk g (.cells (reCells (.cat ks) (.slice kad ks.length kcap)).toArray 46)
theorem sealRow {w0 w : World} {B : Nat} {R H : List HA} {kad : Option Addr} {kcap : Nat} {ks : List RE} {kcs : List Value} {fp : List Nat} (h : Sat w0 B H w) (he : Ent H (KR kad ks.length kcap kcs :: HA.forest fp ks kcs :: R)) :
    Sat w0 B (HA.forest ((Value.slice kad ks.length kcap).ownBlock.toList ++ fp) [.cat ks] (RCl (.cat ks) ⟨kad, kcap, (Value.slice kad ks.length kcap).ownBlock.toList ++ fp⟩) :: R) w := Sat.seal (.cat ks) rfl (h.ent he)
theorem anch_kind (p : RE) : isAnch p = decide (p.kind = 2 ∨ p.kind = 3) := by cases p <;> rfl
theorem nil_len (ks : List RE) : decide (ks = []) = decide ((ks.length : Int) = 0) := by cases ks <;> simp <;> omega
theorem drow_N (t : List UInt8) (ht : t.length ≤ 65536) : ∀ N n, n < N → RowC t n
  | 0, n, h => by omega
  | N + 1, n, hN => by
    intro g r in_ op he0 hok hfu w0 B R w h
    replace h : Sat w0 B (DRB g t r :: R) w := h
    have hin : ∀ in2 op2 ks (r2 : DR), r2.e = 0 → DOk9 t r2 → t.length < n + r2.at_ → (dRow t n in2 op2 ks r2).2.e = 0 → RowOk t ks r2 (dRow t n in2 op2 ks r2) := row_ok ht n
    obtain ⟨fin, hfin⟩ : ∃ fin, fin = dRow t n in_ op [] r := ⟨_, rfl⟩
    rw [← hfin]
    refine calls_of_ES TB Tryz.func47 rfl _ Tryz.ntmps47 rfl h ?_; refine .go ?_; (repeat constructor); (refine .al ?_; intro g6); refine .go ?_; (repeat constructor); refine EL.buildS #[_, .int .u64 0, .int .u64 0, .int .u64 0, .int .u64 0, .int .i64 0, .int .i64 0, .int .i64 0, .slice none 0 0] rfl rfl rfl rfl rfl rfl rfl ?_; (refine .al ?_; intro g7); refine .sa ?_; refine .go ?_; (repeat constructor); refine .as_ ?_; refine .go ?_; (repeat constructor); refine ES.imp (H' := DRB g t r :: CKB g7 [] none 0 :: KR none 0 0 [] :: HA.forest [] [] [] :: ZB g6 :: R) (fun w hs => ?_) ?_
    · have h1 := Sat.forest0 (hs.nilRow 46 9) [] [] (fun _ _ => .nil)
      exact h1.ent (.i (by repeat constructor))
    refine ES.loop (σ := RowSt) (fun z => RowI t in_ op n fin z) (fun z => [(0, Pv g 0), (1, .bool in_), (2, Iv (op : Nat)), (6, Pv g6 0), (7, Pv g7 0), (8, .bool z.bg)])
      (fun z => DRB g t z.r :: CKB g7 z.ks z.kad z.kcap :: KR z.kad z.ks.length z.kcap z.kcs :: HA.forest z.fp z.ks z.kcs :: ZB g6 :: R) (fun z => if z.r.e = 0 then t.length + 2 - z.r.at_ else 0) ⟨[], r, none, 0, [], [], n, true⟩ ⟨hok.shut, by simp, Nat.le_refl _, fun _ => ⟨hok, by simp, hfu⟩, hfin.symm⟩ ⟨rfl, rfl, rfl, rfl, rfl, rfl, trivial⟩ (.i (by repeat constructor)) ?_
    clear hfin hfu hok he0 h r
    rintro ⟨ks, ⟨a, e0, pl, gr, sh, sz⟩, kad, kcap, kcs, fp, m, bg⟩ ⟨hsh, hkl, hmn, hok, hgo⟩
    dsimp only at hsh hkl hmn hok hgo ⊢
    refine ES.imp (H' := RB g t a e0 pl gr (CT sh sz) :: CKB g7 ks kad kcap :: KR kad ks.length kcap kcs :: HA.forest fp ks kcs :: ZB g6 :: R) (fun w hs => hs) ?_; refine .go ?_; (repeat constructor); refine .mv ?_; refine .nc ?_; refine .fa ?_; refine .lb ?_; refine .ei ?_; refine .go ?_; repeat constructor
    refine ES.condD rfl (fun he => ?_) (fun hne => ?_)
    rotate_left
    · rw [row_bad _ _ _ _ _ (show (⟨a, e0, pl, gr, sh, sz⟩ : DR).e ≠ 0 from hne)] at hgo
      rw [← hgo]
      refine .go ?_; (repeat constructor); refine .lg ?_; refine .sa ?_; refine .go ?_; repeat constructor
      exact PX.ret rfl Tryz.results47 (.cons (.blkA rfl rfl rfl (by repeat constructor) rfl) .nil) (fun w hs => ⟨⟨kad, kcap, (Value.slice kad ks.length kcap).ownBlock.toList ++ fp⟩, rfl, (sealRow (R := RB g t a e0 pl gr (CT sh sz) :: R) hs (.i (by repeat constructor))).ent (.i (by repeat constructor))⟩)
    have he : e0 = 0 := he
    subst he
    obtain ⟨hok9, hka, hfu⟩ := hok rfl
    have hat : a ≤ t.length := hok9.at_
    (try dsimp only at hka hfu)
    obtain ⟨k, rfl⟩ : ∃ k, m = k + 1 := ⟨m - 1, by omega⟩
    rw [dRow_step, if_neg (by simp)] at hgo
    (try dsimp only at hgo)
    refine .g0 ?_; repeat constructor
    refine ES.draw (X := Unit) (fun _ => [(0, Pv g 0), (1, .bool in_), (2, Iv (op : Nat)), (6, Pv g6 0), (7, Pv g7 0), (8, .bool bg), (25, .bool (decide ((a : Int) = (t.length : Int))))]) (fun _ => RB g t a 0 pl gr (CT sh sz) :: CKB g7 ks kad kcap :: KR kad ks.length kcap kcs :: HA.forest fp ks kcs :: ZB g6 :: R) (RB g t a 0 pl gr (CT sh sz) :: CKB g7 ks kad kcap :: KR kad ks.length kcap kcs :: HA.forest fp ks kcs :: ZB g6 :: R) mixed (.i (by repeat constructor)) ?_ (fun _ => ?_)
    · refine .tk 0 rfl (RV.move rfl) ?_; refine .tk 1 rfl (RV.nilCheck rfl) ?_; refine .tk 2 rfl (RV.fieldAddr rfl rfl rfl rfl rfl rfl) ?_; refine .tk 3 rfl (RV.loadB rfl rfl rfl (by repeat constructor) rfl) ?_; refine .tk 4 rfl (RV.move rfl) ?_; refine .tk 5 rfl (RV.nilCheck rfl) ?_; refine .tk 6 rfl (RV.fieldAddr rfl rfl rfl rfl rfl rfl) ?_; refine .tk 7 rfl (RV.loadB rfl rfl rfl (by repeat constructor) rfl) ?_; refine .tk 8 rfl (RV.lenS rfl rfl rfl) ?_; refine .tk 9 rfl (RV.eqlI rfl rfl) ?_; refine .dn ?_
      exact .cy ()
    refine .go ?_; repeat constructor
    refine ES.condD rfl (fun hend => ?_) (fun hend => ?_)
    · rw [if_pos (by omega)] at hgo
      refine .go ?_; (repeat constructor); refine .mv ?_; refine .go ?_; repeat constructor
      cases in_ with
      | true =>
        rw [if_pos rfl] at hgo
        rw [← hgo]
        refine ES.condT rfl ?_; refine .go ?_; (repeat constructor); refine .mv ?_; refine .mv ?_; refine EL.callM1 rfl rfl rfl ent75 rfl (dfail_r g t ⟨a, 0, pl, gr, sh, sz⟩ 10 op) (by repeat constructor) ?_; refine .go ?_; (repeat constructor); refine .lg ?_; refine .sa ?_; refine .go ?_; repeat constructor
        exact PX.ret rfl Tryz.results47 (.cons (.blkA rfl rfl rfl (by repeat constructor) rfl) .nil) (fun w hs => ⟨⟨kad, kcap, (Value.slice kad ks.length kcap).ownBlock.toList ++ fp⟩, rfl, (sealRow (R := DRB g t (DR.fail ⟨a, 0, pl, gr, sh, sz⟩ 10 op) :: R) hs (.i (by repeat constructor))).ent (.i (by repeat constructor))⟩)
      | false =>
        rw [if_neg (by simp)] at hgo
        rw [← hgo]
        refine ES.condF rfl ?_; refine .go ?_; (repeat constructor); refine .lg ?_; refine .sa ?_; refine .go ?_; repeat constructor
        exact PX.ret rfl Tryz.results47 (.cons (.blkA rfl rfl rfl (by repeat constructor) rfl) .nil) (fun w hs => ⟨⟨kad, kcap, (Value.slice kad ks.length kcap).ownBlock.toList ++ fp⟩, rfl, (sealRow (R := RB g t a 0 pl gr (CT sh sz) :: R) hs (.i (by repeat constructor))).ent (.i (by repeat constructor))⟩)
    rw [if_neg (by omega)] at hgo
    have hlt : a < t.length := by omega
    have hs2 := dsee_c g t a 0 pl gr (CT sh sz) [92, 41] (by omega) (by omega) (by simp)
    rw [see2_is] at hs2
    refine .go ?_; (repeat constructor); refine .mv ?_; refine EL.callM1 rfl rfl rfl ent76 rfl hs2 (by repeat constructor) ?_; refine .go ?_; repeat constructor
    refine ES.cond rfl (fun hcl => ?_) (fun hcl => ?_)
    · rw [if_pos hcl] at hgo
      refine .go ?_; (repeat constructor); refine .mv ?_; refine .nt ?_; refine .go ?_; repeat constructor
      cases in_ with
      | true =>
        rw [if_pos rfl] at hgo
        rw [← hgo]
        refine ES.condF rfl ?_; refine .go ?_; (repeat constructor); refine .mv ?_; refine .nc ?_; refine .fa ?_; refine .lb ?_; refine EL.addN (n := 2) rfl rfl rfl rfl rfl (by omega) ?_; refine .nc ?_; refine .fa ?_
        (refine EL.storeB rfl rfl rfl rfl rfl rfl (by repeat constructor) (by simp) ?_; refine EL.blkEq (g := g) (by repeat constructor) (congrArg (fun a => Obj.cells a 127 (0, 0)) (rd_set1 _ _ _ _ _ _ _)) ?_)
        refine .go ?_; (repeat constructor); refine .lg ?_; refine .sa ?_; refine .go ?_; repeat constructor
        exact PX.ret rfl Tryz.results47 (.cons (.blkA rfl rfl rfl (by repeat constructor) rfl) .nil) (fun w hs => ⟨⟨kad, kcap, (Value.slice kad ks.length kcap).ownBlock.toList ++ fp⟩, rfl, (sealRow (R := RB g t (a + 2) 0 pl gr (CT sh sz) :: R) hs (.i (by repeat constructor))).ent (.i (by repeat constructor))⟩)
      | false =>
        rw [if_neg (by simp)] at hgo
        rw [← hgo]
        refine ES.condT rfl ?_; refine .go ?_; (repeat constructor); refine .mv ?_; refine .mv ?_; refine .nc ?_; refine .fa ?_; refine .lb ?_; refine EL.callM1 rfl rfl rfl ent75 rfl (dfail_r g t ⟨a, 0, pl, gr, sh, sz⟩ 10 a) (by repeat constructor) ?_; refine .go ?_; (repeat constructor); refine EL.imp (H' := RB g t a 10 a gr (CT sh sz) :: CKB g7 ks kad kcap :: KR kad ks.length kcap kcs :: HA.forest fp ks kcs :: ZB g6 :: R) (fun w hs => hs.ent (.i (by repeat constructor))) ?_; refine .go ?_; (repeat constructor); refine .mv ?_; refine .nc ?_; refine .fa ?_; refine .lb ?_; refine EL.addN (n := 2) rfl rfl rfl rfl rfl (by omega) ?_; refine .nc ?_; refine .fa ?_
        (refine EL.storeB rfl rfl rfl rfl rfl rfl (by repeat constructor) (by simp) ?_; refine EL.blkEq (g := g) (by repeat constructor) (congrArg (fun a => Obj.cells a 127 (0, 0)) (rd_set1 _ _ _ _ _ _ _)) ?_)
        refine .go ?_; (repeat constructor); refine .lg ?_; refine .sa ?_; refine .go ?_; repeat constructor
        exact PX.ret rfl Tryz.results47 (.cons (.blkA rfl rfl rfl (by repeat constructor) rfl) .nil) (fun w hs => ⟨⟨kad, kcap, (Value.slice kad ks.length kcap).ownBlock.toList ++ fp⟩, rfl, (sealRow (R := RB g t (a + 2) 10 a gr (CT sh sz) :: R) hs (.i (by repeat constructor))).ent (.i (by repeat constructor))⟩)
    rw [if_neg (by rw [hcl]; simp), nil_len] at hgo
    generalize hfst : decide ((ks.length : Int) = 0) = first at hgo
    have hgrp : see2 t a 92 40 = true → TM 91 #[Pv g 0] g t ⟨a, 0, pl, gr, sh, sz⟩ [] (dPart t k ⟨a, 0, pl, gr, sh, sz⟩ first) := fun hop =>
      dgroup_c g t ⟨a, 0, pl, gr, sh, sz⟩ k first hok9 (by omega) hop (fun h9 => drow_N t ht N k (by omega) g ⟨a + 2, 0, pl, gr + 1, sh, sz⟩ true a rfl ⟨⟨hsh, hok9.lo, hok9.hi, ((see2_iff ..).1 hop).1⟩, by have := hok9.groups; simp only at h9 this ⊢; omega⟩ (by simp only; omega))
    have hpc := dpart_c g t ⟨a, 0, pl, gr, sh, sz⟩ k first bg hok9.toDOk (by omega) hlt hgrp
    have hpo : (dPart t k ⟨a, 0, pl, gr, sh, sz⟩ first).2.e = 0 → PartOk t ⟨a, 0, pl, gr, sh, sz⟩ (dPart t k ⟨a, 0, pl, gr, sh, sz⟩ first) := fun he => part_ok (row_ok ht k) first rfl hok9 hlt hfu ht he
    have hpl := part_closed t k ⟨a, 0, pl, gr, sh, sz⟩ first
    have hpl : (dPart t k ⟨a, 0, pl, gr, sh, sz⟩ first).2.closed.length = 10 := hpl.trans hsh
    generalize dPart t k ⟨a, 0, pl, gr, sh, sz⟩ first = y at hgo hpc hpo hpl
    refine .go ?_; (repeat constructor); refine .mv ?_; refine .fa ?_; refine .lb ?_; refine .lL ?_; refine .ei ?_; refine .mv ?_
    (refine EL.rew (d := 53) (v' := .bool first) rfl (congrArg Value.bool hfst) ?_; refine EL.callM rfl rfl rfl ent77 rfl hpc (by repeat constructor) ?_; intro x)
    (refine .al ?_; intro g9); refine .sa ?_; refine .go ?_; repeat constructor
    refine EL.cutX (X := Unit) (fun _ => [(0, Pv g 0), (1, .bool in_), (2, Iv (op : Nat)), (6, Pv g6 0), (7, Pv g7 0), (8, .bool bg), (9, Pv g9 0), (63, .bool (!isAnch y.1))]) (fun _ => HA.blk g9 (.cells (RCl y.1 x).toArray 46) :: DRB g t y.2 :: HA.forest x.fp [y.1] (RCl y.1 x) :: CKB g7 ks kad kcap :: KR kad ks.length kcap kcs :: HA.forest fp ks kcs :: ZB g6 :: R) ?_ (fun _ => ?_)
    · have hkk : ∀ n : Nat, (((y.1.kind : Nat) : Int) = (n : Int)) ↔ y.1.kind = n := fun n => by omega
      refine .go ?_; (repeat constructor); refine .fa ?_; refine .lb ?_; refine .ni ?_; refine .mv ?_
      first | refine EL.splitD (d := 59) rfl (fun hp59 => ?_) (fun hp59 => ?_) | refine EL.splitN (d := 59) rfl (fun hp59 => ?_) (fun hp59 => ?_) | refine EL.splitB (d := 59) rfl (fun hp59 => ?_) (fun hp59 => ?_)
      · refine .fa ?_; refine .lb ?_; refine .ni ?_; refine .pt ?_
        exact .dx () ⟨rfl, rfl, rfl, rfl, rfl, rfl, rfl, getA rfl (congrArg Value.bool (by rw [anch_kind, Bool.eq_iff_iff]; simp only [decide_eq_true_eq, Bool.not_eq_true', decide_eq_false_iff_not, Bool.false_eq_true, false_iff, not_or] at *; omega)), trivial⟩
      · refine .ps ?_; refine .ps ?_; refine .ps ?_; refine .pf ?_
        exact .dx () ⟨rfl, rfl, rfl, rfl, rfl, rfl, rfl, getA rfl (congrArg Value.bool (by rw [anch_kind, Bool.eq_iff_iff]; simp only [decide_eq_true_eq, Bool.not_eq_true', decide_eq_false_iff_not, Bool.false_eq_true, false_iff, not_or] at *; omega)), trivial⟩
    obtain ⟨z, hz⟩ : ∃ z, z = dFull t y := ⟨_, rfl⟩
    have hzo : z.2.e = 0 → PartOk t ⟨a, 0, pl, gr, sh, sz⟩ z := fun he => by
      have hy : y.2.e = 0 := by
        by_cases hx : y.2.e = 0
        · exact hx
        · rw [hz, full_bad hx] at he; exact absurd he hx
      rw [hz] at he ⊢
      exact full_ok hok9.lo hy (hpo hy) he
    have hzl : z.2.closed.length = 10 := by rw [hz, full_closed]; exact hpl
    rw [← hz] at hgo
    refine ES.cutC (X := PX0 × Bool) (fun q => [(0, Pv g 0), (1, .bool in_), (2, Iv (op : Nat)), (6, Pv g6 0), (7, Pv g7 0), (8, .bool q.2), (9, Pv g9 0)]) (fun q => HA.blk g9 (.cells (RCl z.1 q.1).toArray 46) :: DRB g t z.2 :: HA.forest q.1.fp [z.1] (RCl z.1 q.1) :: CKB g7 ks kad kcap :: KR kad ks.length kcap kcs :: HA.forest fp ks kcs :: ZB g6 :: R) ?_ (fun q => ?_)
    · refine ES.cond rfl (fun hrp => ?_) (fun hno => ?_)
      · have hz2 : z = dReps t t.length y.1 y.2 := by rw [hz]; unfold dFull; rw [if_neg (by rw [Bool.not_eq_true'] at hrp; rw [hrp]; simp)]
        have hrc : TM 78 #[Pv g 0, .agg (RCl y.1 x).toArray] g t y.2 [HA.forest x.fp [y.1] (RCl y.1 x)] (dReps t t.length y.1 y.2) := dreps_c g t y.2 y.1 x t.length (by omega) ?hI
        case hI => exact ⟨hpl, fun hx => ⟨(hpo hx).ok.at_, by show t.length ≤ t.length + y.2.at_; omega⟩, fun hx => ⟨(hpo hx).pok, by have h1 := (hpo hx).size; have h2 := hok9.lo; simp only at h1 h2; show (posR y.1 : Int) ≤ y.2.size; omega, (hpo hx).ok.hi⟩, rfl⟩
        rw [← hz2] at hrc
        refine .go ?_; (repeat constructor); refine .mv ?_
        refine EL.ofRV (RV.loadBA (RCl y.1 x) rfl rfl rfl rfl (by repeat constructor) rfl) rfl rfl rfl (by intro c h; cases h) ?_
        (refine EL.callM rfl rfl rfl ent78 rfl hrc (by repeat constructor) ?_; intro x2); refine .sa ?_; refine .go ?_; (repeat constructor); refine .as_ ?_; refine .go ?_; repeat constructor
        exact .cy (x2, false)
      · have hz2 : z = y := by rw [hz]; unfold dFull; rw [if_pos (by simpa using hno)]
        rw [hz2]
        refine .go ?_; repeat constructor
        exact .cy (x, bg)
    obtain ⟨x2, bg2⟩ := q
    have hlen : (ks ++ [z.1]).length = ks.length + 1 := by simp
    refine .go ?_; (repeat constructor); refine .fa ?_; refine .lb ?_
    refine EL.ofRV (RV.loadBA (RCl z.1 x2) rfl rfl rfl rfl (by repeat constructor) rfl) rfl rfl rfl (by intro c h; cases h) ?_
    (refine .b1 ?_; intro b70)
    (refine EL.append1 rfl rfl rfl rfl rfl rfl rfl rfl rfl (by repeat constructor) (by repeat constructor) (by first | (intro u hu; simp [Value.cells] at hu; subst hu; rfl) | exact all1 rfl) (by rfl) (by unfold maxLen; omega) (by first | omega | (show 1 * _ ≤ _; omega) | (show 8 * _ ≤ _; omega) | (show 16 * _ ≤ _; omega) | (show 24 * _ ≤ _; omega) | (show _ * 1 ≤ _; omega) | (show _ * 8 ≤ _; omega) | (show _ * 16 ≤ _; omega) | (show _ * 24 ≤ _; omega) | exact Nat.le_trans (Nat.mul_le_mul_right _ (show _ ≤ 1073741824 by omega)) (by decide)) ?_; intro a71 c71)
    refine .fa ?_; refine .sb ?_
    skip
    refine EL.imp (H' := DRB g t z.2 :: CKB g7 (ks ++ [z.1]) (some ⟨a71, 0, none⟩) c71 :: KR (some ⟨a71, 0, none⟩) (ks ++ [z.1]).length c71 (kcs ++ RCl z.1 x2) :: HA.forest (fp ++ x2.fp) (ks ++ [z.1]) (kcs ++ RCl z.1 x2) :: ZB g6 :: R) (fun w hs => ?_) ?_
    · have h1 := Sat.forestApp (hs.ent (H' := HA.forest fp ks kcs :: HA.forest x2.fp [z.1] (RCl z.1 x2) :: DRB g t z.2 :: HA.blk g7 (.cells (reCells (.cat ks) (.slice (some ⟨a71, 0, none⟩) (ks.length + 1) c71)).toArray 46) :: KR (some ⟨a71, 0, none⟩) (ks.length + 1) c71 (kcs ++ RCl z.1 x2) :: ZB g6 :: R) (.i (by repeat constructor)))
      show Sat _ _ (DRB g t z.2 :: HA.blk g7 (.cells (reCells (.cat (ks ++ [z.1])) (.slice (some ⟨a71, 0, none⟩) (ks ++ [z.1]).length c71)).toArray 46) :: HA.row (.slice (some ⟨a71, 0, none⟩) (ks ++ [z.1]).length c71) 46 9 (ks ++ [z.1]).length (kcs ++ RCl z.1 x2) :: HA.forest (fp ++ x2.fp) (ks ++ [z.1]) (kcs ++ RCl z.1 x2) :: ZB g6 :: R) w
      rw [hlen]
      exact h1.ent (.i (by repeat constructor))
    refine .go ?_; repeat constructor
    refine .ly (σ := RowSt) ⟨ks ++ [z.1], z.2, some ⟨a71, 0, none⟩, c71, kcs ++ RCl z.1 x2, fp ++ x2.fp, k, bg2⟩ ⟨hzl, by simp only; omega, by simp only; omega, fun hx => ⟨(hzo hx).ok, by have := (hzo hx).at_; simp only at this ⊢; omega, by have := (hzo hx).at_; simp only at this ⊢; omega⟩, hgo⟩ ?_
    simp only
    split
    · rename_i hx
      have h1 := (hzo hx).at_
      have h2 := (hzo hx).ok.at_
      simp only at h1 h2
      rw [if_pos trivial]
      omega
    · rw [if_pos trivial]; omega
theorem drow_c (t : List UInt8) (ht : t.length ≤ 65536) (n : Nat) : RowC t n := drow_N t ht (n + 1) n (by omega)
theorem ddoc_c (t : List UInt8) (ht0 : t.length ≤ 4611686018427387904) (w : World) :
    Pure Tryz.prog 28 #[Sv t] (fun x : PX0 => .tuple #[.agg (RCl (docM t).tree x).toArray, Iv (docM t).e, Iv ((docM t).at_ : Nat)])
      (fun x => [HA.forest x.fp [(docM t).tree] (RCl (docM t).tree x)]) w := by
  have hd : docM t = if 512 < t.length then ⟨.cat [], 2, 0⟩ else if (dRow t (t.length + 1) false 0 [] dr0).2.e ≠ 0 then ⟨.cat [], (dRow t (t.length + 1) false 0 [] dr0).2.e, (dRow t (t.length + 1) false 0 [] dr0).2.place⟩ else ⟨(dRow t (t.length + 1) false 0 [] dr0).1, 0, 0⟩ := rfl
  refine calls_of_ES TB Tryz.func28 rfl _ Tryz.ntmps28 rfl (Sat.start w) ?_; refine .go ?_; (repeat constructor); (refine .al ?_; intro g2); refine .as_ ?_; refine .as_ ?_; refine .go ?_; (repeat constructor); refine .mv ?_; refine .lS ?_; refine .gt_ ?_; refine .go ?_; repeat constructor
  refine ES.condD rfl (fun hlong => ?_) (fun hshort => ?_)
  · rw [if_pos (by omega)] at hd
    rw [hd]
    refine .go ?_; (repeat constructor); refine EL.buildZ rfl rfl rfl rfl rfl ?_; refine .sa ?_; refine .as_ ?_; refine .as_ ?_; refine .go ?_; repeat constructor
    exact PX.ret rfl Tryz.results28 (.cons (.blkA rfl rfl rfl (by repeat constructor) rfl) (.cons (.tmp rfl) (.cons (.tmp rfl) .nil))) (fun w hs => ⟨p00, rfl, (leafOwn (.cat []) rfl hs).ent (.i (by repeat constructor))⟩)
  rw [if_neg (by omega)] at hd
  have hrow := fun g => drow_c t (by omega) (t.length + 1) g dr0 false 0 rfl ⟨⟨rfl, by decide, by decide, Nat.zero_le _⟩, by decide⟩ (by show t.length < t.length + 1 + 0; omega)
  generalize dRow t (t.length + 1) false 0 [] dr0 = y at hd hrow
  obtain ⟨q, ⟨a2, e2, pl2, gr2, sh2, sz2⟩⟩ := y
  dsimp only at hd
  refine .go ?_; (repeat constructor); refine .mv ?_; refine EL.buildS (rdC t 0 0 0 0 (CT (List.replicate 10 false) 0)).toArray rfl rfl rfl rfl rfl (by kernel_rfl) rfl ?_; (refine .bx ?_; intro g13); refine .as_ ?_; refine .go ?_; (repeat constructor); refine .mv ?_; (refine EL.callM rfl rfl rfl ent47 rfl (hrow g13) (by repeat constructor) ?_; intro x); (refine .al ?_; intro g6); refine .sa ?_; refine .go ?_; (repeat constructor); refine EL.imp (H' := HA.blk g6 (.cells (RCl q x).toArray 46) :: RB g13 t a2 e2 pl2 gr2 (CT sh2 sz2) :: HA.forest x.fp [q] (RCl q x) :: ZB g2 :: []) (fun w hs => hs.ent (.i (by repeat constructor))) ?_; refine .go ?_; (repeat constructor); refine .mv ?_; refine .nc ?_; refine .fa ?_; refine .lb ?_; refine .ni ?_; refine .go ?_; repeat constructor
  refine ES.condN rfl (fun hne => ?_) (fun he => ?_)
  · have hne : e2 ≠ 0 := hne
    rw [if_pos hne] at hd
    rw [hd]
    refine .g0 ?_; repeat constructor
    refine ES.draw (X := Unit) (fun _ => [(2, Pv g2 0), (3, Iv e2), (4, Iv (pl2 : Nat))]) (fun _ => ZB g2 :: []) (RB g13 t a2 e2 pl2 gr2 (CT sh2 sz2) :: []) mixed (.i (by repeat constructor)) ?_ (fun _ => ?_)
    · refine .tk 1 rfl (RV.move rfl) ?_; refine .tk 2 rfl (RV.nilCheck rfl) ?_; refine .tk 3 rfl (RV.fieldAddr rfl rfl rfl rfl rfl rfl) ?_; refine .tk 4 rfl (RV.loadB rfl rfl rfl (by repeat constructor) rfl) ?_; refine .tk 5 rfl (RV.move rfl) ?_; refine .tk 6 rfl (RV.nilCheck rfl) ?_; refine .tk 7 rfl (RV.fieldAddr rfl rfl rfl rfl rfl rfl) ?_; refine .tk 8 rfl (RV.loadB rfl rfl rfl (by repeat constructor) rfl) ?_; refine .ld 0 ?_; refine EL.buildZ rfl rfl rfl rfl rfl ?_; refine .nx ?_; refine .ld 9 ?_; refine .sa ?_; refine .nx ?_; refine .tk 10 rfl (RV.assign rfl) ?_; refine .tk 11 rfl (RV.assign rfl) ?_; refine .dn ?_
      exact .cy ()
    refine .go ?_; repeat constructor
    exact PX.ret rfl Tryz.results28 (.cons (.blkA rfl rfl rfl (by repeat constructor) rfl) (.cons (.tmp rfl) (.cons (.tmp rfl) .nil))) (fun w hs => ⟨p00, rfl, (leafOwn (.cat []) rfl hs).ent (.i (by repeat constructor))⟩)
  · have he : e2 = 0 := he
    rw [if_neg (by rw [he]; simp)] at hd
    rw [hd]
    refine .go ?_; repeat constructor
    refine EL.ofRV (RV.loadBA (RCl q x) rfl rfl rfl rfl (by repeat constructor) rfl) rfl rfl rfl (by intro c h; cases h) ?_
    refine .sa ?_; refine .as_ ?_; refine .as_ ?_; refine .go ?_; repeat constructor
    exact PX.ret rfl Tryz.results28 (.cons (.blkA rfl rfl rfl (by repeat constructor) rfl) (.cons (.tmp rfl) (.cons (.tmp rfl) .nil))) (fun w hs => ⟨x, rfl, hs.ent (.i (by repeat constructor))⟩)
end Go.Proofs.YthcbjbkheodejaaGreat
namespace Go.Proofs.YthcbjbkheodejaaGreat
open Go Go.RowKit Sl
set_option maxRecDepth 100000
set_option maxHeartbeats 8000000
attribute [local irreducible] ES EL PX wps
mutual
def hasK (k : Nat) : RE → Bool
  | .cat ks => decide (0 = k) || hasKL k ks
  | .byte _ => decide (1 = k)
  | .bol => decide (2 = k)
  | .eol => decide (3 = k)
  | .group _ r => decide (4 = k) || hasK k r
  | .rep _ _ r => decide (5 = k) || hasK k r
  | .back _ => decide (6 = k)
def hasKL (k : Nat) : List RE → Bool
  | [] => false
  | r :: ks => hasK k r || hasKL k ks
end
theorem hasKL_any (k : Nat) : ∀ ks : List RE, hasKL k ks = ks.any (hasK k)
  | [] => rfl
  | r :: ks => by rw [hasKL, List.any_cons, hasKL_any k ks]
theorem hasK_eq (k : Nat) (r : RE) : hasK k r = (decide (r.kind = k) || r.kids.any (hasK k)) := by
  cases r <;> simp only [hasK, RE.kind, RE.kids, hasKL_any, List.any_cons, List.any_nil, Bool.or_false] <;> first | done | rfl | (congr 1)
mutual
def grpN : RE → Nat
  | .cat ks => grpNL ks
  | .group _ k => 1 + grpN k
  | .rep _ _ k => grpN k
  | _ => 0
def grpNL : List RE → Nat
  | [] => 0
  | k :: ks => grpN k + grpNL ks
end
theorem grpN_eq (r : RE) : grpN r = (if r.kind = 4 then 1 else 0) + grpNL r.kids := by
  cases r <;> simp [grpN, RE.kind, RE.kids, grpNL]
theorem w64_add (a b : Int) : w64 (w64 a + b) = w64 (a + b) := by
  unfold w64 IntKind.wrap
  simp only [IntKind.bits, IntKind.signed, Bool.true_and, decide_eq_true_eq, ge_iff_le]
  split <;> split <;> split <;> omega
theorem w64_add' (a b : Int) : w64 (a + w64 b) = w64 (a + b) := by rw [Int.add_comm, w64_add, Int.add_comm]
theorem grp_take (ks : List RE) (i : Nat) (h : i < ks.length) : grpNL (ks.take (i + 1)) = grpNL (ks.take i) + grpN ks[i] := by
  have hs : ∀ l : List RE, grpNL l = (l.map grpN).sum := fun l => by
    induction l with
    | nil => rfl
    | cons k l ih => rw [grpNL, ih, List.map_cons, List.sum_cons]
  rw [hs, hs, List.take_succ_eq_append_getElem h, List.map_append, List.sum_append]
  simp
theorem any_take {α : Type _} (p : α → Bool) (l : List α) (i : Nat) (k : α) (hi : l[i]? = some k) : (l.take (i + 1)).any p = ((l.take i).any p || p k) := by
  have hlt : i < l.length := (List.getElem?_eq_some_iff.1 hi).1
  rw [List.take_succ_eq_append_getElem hlt, (List.getElem?_eq_some_iff.1 hi).2]
  simp
theorem any_true {α : Type _} (p : α → Bool) (l : List α) (i : Nat) (k : α) (hi : l[i]? = some k) (h : p k = true) : l.any p = true := List.any_eq_true.2 ⟨k, List.mem_of_getElem? hi, h⟩
theorem dhas_n (n : Nat) : ∀ r : RE, r.sz ≤ n → r.fine → ∀ (k : Nat) (ad : Option Addr) (cap : Nat) (w : World), KidsRd w w.heap.size r.kids ad →
    Pure Tryz.prog 29 #[.agg (reCells r (.slice ad r.kids.length cap)).toArray, Iv (k : Nat)] (fun _ : Unit => .bool (hasK k r)) (fun _ => []) w := by
  induction n with
  | zero => intro r hr; exact absurd (sz_pos r) (by omega)
  | succ n ih =>
    intro r hsz hfine kk ad cap w hkids
    have hkl := fine_len hfine
    have heq := hasK_eq kk r
    refine calls_of_ES TB Tryz.func29 rfl _ Tryz.ntmps29 rfl (Sat.start w) ?_; refine .go ?_; (repeat constructor); (refine .bx ?_; intro g2); refine .as_ ?_; refine .go ?_; (repeat constructor); refine .fa ?_; refine .lb ?_; refine .mv ?_; refine .ei ?_; refine .go ?_; repeat constructor
    refine ES.condD rfl (fun h1 => ?_) (fun h1 => ?_)
    · have h1 : ((r.kind : Nat) : Int) = (kk : Nat) := h1
      rw [heq, decide_eq_true (show r.kind = kk by omega), Bool.true_or]
      refine .go ?_; (repeat constructor); refine .as_ ?_; refine .go ?_; repeat constructor
      exact PX.ret rfl Tryz.results29 (.cons (.tmp rfl) .nil) (fun w hs => ⟨(), rfl, hs.ent (.nil _)⟩)
    have h1 : ¬ ((r.kind : Nat) : Int) = (kk : Nat) := h1
    rw [decide_eq_false (show ¬ r.kind = kk by omega), Bool.false_or] at heq
    refine .go ?_; (repeat constructor); refine .as_ ?_; refine .go ?_; repeat constructor
    refine ES.loop (σ := Nat) (fun i => i ≤ r.kids.length ∧ (r.kids.take i).any (hasK kk) = false) (fun i => [(1, Iv (kk : Nat)), (2, Pv g2 0), (4, .bool false), (5, Iv (i : Nat))])
      (fun i => HA.blk g2 (.cells (reCells r (.slice ad r.kids.length cap)).toArray 46) :: []) (fun i => r.kids.length - i) 0 ⟨Nat.zero_le _, rfl⟩ ⟨rfl, rfl, rfl, rfl, trivial⟩ (.i (by repeat constructor)) ?_
    rintro i ⟨hi, hall⟩
    dsimp only at hi hall ⊢
    refine .go ?_; (repeat constructor); refine .mv ?_; refine .fa ?_; refine .lb ?_; refine .lL ?_; refine .ls ?_; refine .go ?_; repeat constructor
    refine ES.condD rfl (fun hlt => ?_) (fun hge => ?_)
    · have hlt' : i < r.kids.length := by omega
      obtain ⟨k, hki⟩ : ∃ k, r.kids[i]? = some k := ⟨_, List.getElem?_eq_getElem hlt'⟩
      have hmem := List.mem_of_getElem? hki
      have hks := kids_lt hmem
      obtain ⟨kg, ko, rfl, hkn⟩ := hkids i k hki
      obtain ⟨kad, kcap, hkrd, hkk⟩ := hkn.kids
      have hkrd2 : Rd w w.heap.size (some ⟨kg, ko + i * 9, none⟩) (reCells k (.slice kad k.kids.length kcap)) := hkrd.rd
      have hrec := ih k (by omega) (fine_kid hfine hmem) kk kad kcap
      refine .go ?_; (repeat constructor); refine .fa ?_; refine .lb ?_; refine .mv ?_; refine EL.indexAddrL rfl rfl rfl rfl rfl rfl rfl (by omega) ?_
      refine EL.loadOldA (j := 0) (vs := reCells k (.slice kad k.kids.length kcap)) rfl rfl rfl rfl rfl (by simp [reCells]) rfl hkrd2 (fun i u hi => by rw [Nat.zero_add]; exact hi) ?_
      refine .mv ?_
      refine EL.callPw rfl rfl rfl ent29 rfl (fun w' hs => hrec w' (fun i' k' hi' => by obtain ⟨g', o', e1, e2⟩ := hkk (by intro e; rw [e] at hi'; simp at hi'); exact ⟨g', o', e1, NodeRd.sat (e2 i' k' hi') hs⟩)) ?_
      refine .go ?_; repeat constructor
      refine ES.cond rfl (fun ht => ?_) (fun hf => ?_)
      · rw [heq, any_true _ _ _ _ hki ht]
        refine .go ?_; (repeat constructor); refine .as_ ?_; refine .go ?_; repeat constructor
        exact PX.ret rfl Tryz.results29 (.cons (.tmp rfl) .nil) (fun w hs => ⟨(), rfl, hs.ent (.nil _)⟩)
      · refine .go ?_; (repeat constructor); refine .mv ?_; refine .a1 ?_; refine .as_ ?_; refine .go ?_; repeat constructor
        exact .ly (i + 1) ⟨hlt', by rw [any_take _ _ _ _ hki, hall, hf]; rfl⟩ (by omega)
    · rw [heq, show r.kids.any (hasK kk) = false by rw [List.take_of_length_le (by omega)] at hall; exact hall]
      refine .go ?_; (repeat constructor); refine .as_ ?_; refine .go ?_; repeat constructor
      exact PX.ret rfl Tryz.results29 (.cons (.tmp rfl) .nil) (fun w hs => ⟨(), rfl, hs.ent (.nil _)⟩)
theorem dhas_c (r : RE) (hf : r.fine) (k : Nat) (ad : Option Addr) (cap : Nat) (w : World) (h : KidsRd w w.heap.size r.kids ad) : Pure Tryz.prog 29 #[.agg (reCells r (.slice ad r.kids.length cap)).toArray, Iv (k : Nat)] (fun _ : Unit => .bool (hasK k r)) (fun _ => []) w := dhas_n r.sz r (Nat.le_refl _) hf k ad cap w h
theorem dgrps_n (n : Nat) : ∀ r : RE, r.sz ≤ n → r.fine → ∀ (ad : Option Addr) (cap : Nat) (w : World), KidsRd w w.heap.size r.kids ad →
    Pure Tryz.prog 30 #[.agg (reCells r (.slice ad r.kids.length cap)).toArray] (fun _ : Unit => Iv (w64 (grpN r : Nat))) (fun _ => []) w := by
  induction n with
  | zero => intro r hr; exact absurd (sz_pos r) (by omega)
  | succ n ih =>
    intro r hsz hfine ad cap w hkids
    have hkl := fine_len hfine
    have heq := grpN_eq r
    refine calls_of_ES TB Tryz.func30 rfl _ Tryz.ntmps30 rfl (Sat.start w) ?_; refine .go ?_; (repeat constructor); (refine .bx ?_; intro g1); refine .as_ ?_; refine .go ?_; (repeat constructor); refine .as_ ?_; refine .go ?_; (repeat constructor); refine .fa ?_; refine .lb ?_; refine .ei ?_; refine .go ?_; repeat constructor
    obtain ⟨c, hc⟩ : ∃ c : Nat, c = if r.kind = 4 then 1 else 0 := ⟨_, rfl⟩
    refine ES.cutC (X := Unit) (fun _ => [(1, Pv g1 0), (2, Iv 0), (3, Iv (c : Nat))]) (fun _ => HA.blk g1 (.cells (reCells r (.slice ad r.kids.length cap)).toArray 46) :: []) ?_ (fun _ => ?_)
    · refine ES.condD rfl (fun h4 => ?_) (fun h4 => ?_)
      · have h4 : ((r.kind : Nat) : Int) = 4 := h4
        rw [if_pos (by omega)] at hc
        rw [hc]
        refine .go ?_; (repeat constructor); refine .as_ ?_; refine .go ?_; repeat constructor
        exact .cy ()
      · have h4 : ¬ ((r.kind : Nat) : Int) = 4 := h4
        rw [if_neg (by omega)] at hc
        rw [hc]
        refine .go ?_; repeat constructor
        exact .cy ()
    rw [← hc] at heq
    have hc1 : c ≤ 1 := by rw [hc]; split <;> omega
    refine .go ?_; (repeat constructor); refine .as_ ?_; refine .go ?_; repeat constructor
    refine ES.loop (σ := Nat) (fun i => i ≤ r.kids.length) (fun i => [(1, Pv g1 0), (2, Iv 0), (3, Iv (w64 ((c + grpNL (r.kids.take i) : Nat) : Int))), (4, Iv (i : Nat))])
      (fun i => HA.blk g1 (.cells (reCells r (.slice ad r.kids.length cap)).toArray 46) :: []) (fun i => r.kids.length - i) 0 (Nat.zero_le _) ⟨rfl, rfl, getA rfl (congrArg Iv (by rw [List.take_zero, grpNL, Nat.add_zero]; exact (wrap_i64 _ (by omega) (by omega)).symm)), rfl, trivial⟩ (.i (by repeat constructor)) ?_
    intro i hi
    dsimp only at hi ⊢
    refine .go ?_; (repeat constructor); refine .mv ?_; refine .fa ?_; refine .lb ?_; refine .lL ?_; refine .ls ?_; refine .go ?_; repeat constructor
    refine ES.condD rfl (fun hlt => ?_) (fun hge => ?_)
    · have hlt' : i < r.kids.length := by omega
      obtain ⟨k, hki⟩ : ∃ k, r.kids[i]? = some k := ⟨_, List.getElem?_eq_getElem hlt'⟩
      have hmem := List.mem_of_getElem? hki
      have hks := kids_lt hmem
      have htk := grp_take r.kids i hlt'
      rw [show r.kids[i] = k from (List.getElem?_eq_some_iff.1 hki).2] at htk
      obtain ⟨kg, ko, rfl, hkn⟩ := hkids i k hki
      obtain ⟨kad, kcap, hkrd, hkk⟩ := hkn.kids
      have hkrd2 : Rd w w.heap.size (some ⟨kg, ko + i * 9, none⟩) (reCells k (.slice kad k.kids.length kcap)) := hkrd.rd
      have hrec := ih k (by omega) (fine_kid hfine hmem) kad kcap
      have hsum : w64 (w64 ((c + grpNL (r.kids.take i) : Nat) : Int) + w64 (grpN k : Nat)) = w64 ((c + grpNL (r.kids.take (i + 1)) : Nat) : Int) := by
        rw [w64_add, w64_add', htk]
        congr 1
        omega
      refine .go ?_; (repeat constructor); refine .mv ?_; refine .fa ?_; refine .lb ?_; refine .mv ?_; refine EL.indexAddrL rfl rfl rfl rfl rfl rfl rfl (by omega) ?_
      refine EL.loadOldA (j := 0) (vs := reCells k (.slice kad k.kids.length kcap)) rfl rfl rfl rfl rfl (by simp [reCells]) rfl hkrd2 (fun i u hi => by rw [Nat.zero_add]; exact hi) ?_
      refine EL.callPw rfl rfl rfl ent30 rfl (fun w' hs => hrec w' (fun i' k' hi' => by obtain ⟨g', o', e1, e2⟩ := hkk (by intro e; rw [e] at hi'; simp at hi'); exact ⟨g', o', e1, NodeRd.sat (e2 i' k' hi') hs⟩)) ?_
      refine EL.add (w64 ((c + grpNL (r.kids.take (i + 1)) : Nat) : Int)) rfl rfl rfl rfl hsum ?_; refine .as_ ?_; refine .go ?_; (repeat constructor); refine .go ?_; (repeat constructor); refine .mv ?_; refine .a1 ?_; refine .as_ ?_; refine .go ?_; repeat constructor
      exact .ly (i + 1) (by omega) (by omega)
    · obtain rfl : i = r.kids.length := by omega
      rw [List.take_length, heq]
      refine .go ?_; (repeat constructor); refine .mv ?_; refine .as_ ?_; refine .go ?_; repeat constructor
      exact PX.ret rfl Tryz.results30 (.cons (.tmp rfl) .nil) (fun w hs => ⟨(), rfl, hs.ent (.nil _)⟩)
theorem dgrps_c (r : RE) (hf : r.fine) (ad : Option Addr) (cap : Nat) (w : World) (h : KidsRd w w.heap.size r.kids ad) : Pure Tryz.prog 30 #[.agg (reCells r (.slice ad r.kids.length cap)).toArray] (fun _ : Unit => Iv (w64 (grpN r : Nat))) (fun _ => []) w := dgrps_n r.sz r (Nat.le_refl _) hf ad cap w h
theorem ddoc_p (t : List UInt8) (ht0 : t.length ≤ 4611686018427387904) (w : World) :
    Pure Tryz.prog 28 #[Sv t] (fun x : PX0 => .tuple #[.agg (RCl (parseM t).tree x).toArray, Iv (parseM t).e, Iv ((parseM t).at_ : Nat)]) (fun x => [HA.forest x.fp [(parseM t).tree] (RCl (parseM t).tree x)]) w := by
  rw [← doc_is]; exact ddoc_c t ht0 w
end Go.Proofs.YthcbjbkheodejaaGreat
namespace Go.Proofs.YthcbjbkheodejaaGreat
open Go Go.RowKit Sl
set_option maxRecDepth 100000
set_option maxHeartbeats 8000000
attribute [local irreducible] ES EL PX wps
theorem dlst_n (n : Nat) : ∀ r : RE, r.sz ≤ n → r.fine → ∀ (ad : Option Addr) (cap : Nat) (w : World), KidsRd w w.heap.size r.kids ad →
    Pure Tryz.prog 71 #[.agg (reCells r (.slice ad r.kids.length cap)).toArray] (fun x : Int => Iv x) (fun _ => []) w := by
  induction n with
  | zero => intro r hr; exact absurd (sz_pos r) (by omega)
  | succ n ih =>
    intro r hsz hfine ad cap w hkids
    have hkl := fine_len hfine
    refine calls_of_ES TB Tryz.func71 rfl _ Tryz.ntmps71 rfl (Sat.start w) ?_; refine .go ?_; (repeat constructor); (refine .bx ?_; intro g1); refine .as_ ?_; refine .go ?_; (repeat constructor); refine .as_ ?_; refine .go ?_; (repeat constructor); refine .as_ ?_; refine .go ?_; repeat constructor
    refine ES.loop (σ := Nat × Int) (fun z => z.1 ≤ r.kids.length) (fun z => [(1, Pv g1 0), (2, Iv 0), (3, Iv z.2), (4, Iv (z.1 : Nat))])
      (fun _ => HA.blk g1 (.cells (reCells r (.slice ad r.kids.length cap)).toArray 46) :: []) (fun z => r.kids.length - z.1) (0, 0) (Nat.zero_le _) ⟨rfl, rfl, rfl, rfl, trivial⟩ (.i (by repeat constructor)) ?_
    rintro ⟨i, v⟩ hi
    dsimp only at hi ⊢
    refine .go ?_; (repeat constructor); refine .mv ?_; refine .fa ?_; refine .lb ?_; refine .lL ?_; refine .ls ?_; refine .go ?_; repeat constructor
    refine ES.condD rfl (fun hlt => ?_) (fun hge => ?_)
    · have hlt' : i < r.kids.length := by omega
      obtain ⟨k, hki⟩ : ∃ k, r.kids[i]? = some k := ⟨_, List.getElem?_eq_getElem hlt'⟩
      have hmem := List.mem_of_getElem? hki
      have hks := kids_lt hmem
      obtain ⟨kg, ko, rfl, hkn⟩ := hkids i k hki
      obtain ⟨kad, kcap, hkrd, hkk⟩ := hkn.kids
      have hkrd2 : Rd w w.heap.size (some ⟨kg, ko + i * 9, none⟩) (reCells k (.slice kad k.kids.length kcap)) := hkrd.rd
      have hrec := ih k (by omega) (fine_kid hfine hmem) kad kcap
      refine .go ?_; (repeat constructor); refine .mv ?_; refine .fa ?_; refine .lb ?_; refine .mv ?_; refine EL.indexAddrL rfl rfl rfl rfl rfl rfl rfl (by omega) ?_
      refine EL.loadOldA (j := 0) (vs := reCells k (.slice kad k.kids.length kcap)) rfl rfl rfl rfl rfl (by simp [reCells]) rfl hkrd2 (fun i u hi => by rw [Nat.zero_add]; exact hi) ?_
      (refine EL.callXw rfl rfl rfl ent71 rfl (fun w' hs => hrec w' (fun i' k' hi' => by obtain ⟨g', o', e1, e2⟩ := hkk (by intro e; rw [e] at hi'; simp at hi'); exact ⟨g', o', e1, NodeRd.sat (e2 i' k' hi') hs⟩)) ?_; intro x)
      refine EL.add (w64 (v + x)) rfl rfl rfl rfl rfl ?_; refine .as_ ?_; refine .go ?_; (repeat constructor); refine .go ?_; (repeat constructor); refine .mv ?_; refine .a1 ?_; refine .as_ ?_; refine .go ?_; repeat constructor
      exact .ly (i + 1, w64 (v + x)) (by simp only; omega) (by simp only; omega)
    · refine .go ?_; (repeat constructor); refine .fa ?_; refine .lb ?_; refine .go ?_; (repeat constructor); refine .go ?_; (repeat constructor); refine .ei ?_; refine .as_ ?_; refine .go ?_; repeat constructor
      refine ES.condD rfl (fun h1 => ?_) (fun h1 => ?_)
      · refine .go ?_; (repeat constructor); refine .as_ ?_; refine .go ?_; repeat constructor
        exact PX.ret rfl Tryz.results71 (.cons (.tmp rfl) .nil) (fun w hs => ⟨1, rfl, hs.ent (.nil _)⟩)
      refine .go ?_; (repeat constructor); refine .ei ?_; refine .as_ ?_; refine .go ?_; repeat constructor
      refine ES.condD rfl (fun h5 => ?_) (fun h5 => ?_)
      · refine .go ?_; (repeat constructor); refine .mv ?_; refine .fa ?_; refine .lb ?_; refine EL.mul (w64 (v * r.lo)) rfl rfl rfl rfl rfl ?_; refine .as_ ?_; refine .go ?_; repeat constructor
        exact PX.ret rfl Tryz.results71 (.cons (.tmp rfl) .nil) (fun w hs => ⟨w64 (v * r.lo), rfl, hs.ent (.nil _)⟩)
      · refine .go ?_; (repeat constructor); refine .mv ?_; refine .as_ ?_; refine .go ?_; repeat constructor
        exact PX.ret rfl Tryz.results71 (.cons (.tmp rfl) .nil) (fun w hs => ⟨v, rfl, hs.ent (.nil _)⟩)
theorem dmst_n (n : Nat) : ∀ r : RE, r.sz ≤ n → r.fine → ∀ (ad : Option Addr) (cap : Nat) (w : World), KidsRd w w.heap.size r.kids ad →
    Pure Tryz.prog 72 #[.agg (reCells r (.slice ad r.kids.length cap)).toArray] (fun x : Int => Iv x) (fun _ => []) w := by
  induction n with
  | zero => intro r hr; exact absurd (sz_pos r) (by omega)
  | succ n ih =>
    intro r hsz hfine ad cap w hkids
    have hkl := fine_len hfine
    refine calls_of_ES TB Tryz.func72 rfl _ Tryz.ntmps72 rfl (Sat.start w) ?_; refine .go ?_; (repeat constructor); (refine .bx ?_; intro g1); refine .as_ ?_; refine .go ?_; (repeat constructor); refine .fa ?_; refine .lb ?_; refine .go ?_; (repeat constructor); refine .go ?_; (repeat constructor); refine .ei ?_; refine .as_ ?_; refine .go ?_; repeat constructor
    refine ES.condD rfl (fun h1 => ?_) (fun h1 => ?_)
    · refine .go ?_; (repeat constructor); refine .as_ ?_; refine .go ?_; repeat constructor
      exact PX.ret rfl Tryz.results72 (.cons (.tmp rfl) .nil) (fun w hs => ⟨1, rfl, hs.ent (.nil _)⟩)
    refine .go ?_; (repeat constructor); refine .ei ?_; refine .as_ ?_; refine .go ?_; repeat constructor
    refine ES.condD rfl (fun h6 => ?_) (fun h6 => ?_)
    · refine .go ?_; (repeat constructor); refine .as_ ?_; refine .go ?_; repeat constructor
      exact PX.ret rfl Tryz.results72 (.cons (.tmp rfl) .nil) (fun w hs => ⟨-1, rfl, hs.ent (.nil _)⟩)
    refine .go ?_; (repeat constructor); refine .ei ?_; refine .as_ ?_; refine .go ?_; repeat constructor
    refine ES.condD rfl (fun h5 => ?_) (fun h5 => ?_)
    · have h5 : ((r.kind : Nat) : Int) = 5 := h5
      obtain ⟨k, hk⟩ := rep_of (show r.kind = 5 by omega)
      have hk1 : r.kids = [k] := by rw [hk]; rfl
      have hki : r.kids[0]? = some k := by rw [hk1]; rfl
      have hl1 : 0 < r.kids.length := by rw [hk1]; simp
      have hmem := List.mem_of_getElem? hki
      have hks := kids_lt hmem
      obtain ⟨kg, ko, rfl, hkn⟩ := hkids 0 k hki
      obtain ⟨kad, kcap, hkrd, hkk⟩ := hkn.kids
      have hkrd2 : Rd w w.heap.size (some ⟨kg, ko + 0 * 9, none⟩) (reCells k (.slice kad k.kids.length kcap)) := hkrd.rd
      have hrec := ih k (by omega) (fine_kid hfine hmem) kad kcap
      refine .go ?_; (repeat constructor); refine .fa ?_; refine .lb ?_; refine EL.indexAddrL (i := 0) rfl rfl rfl rfl rfl rfl rfl hl1 ?_
      refine EL.loadOldA (off := ko + 0 * 9) (j := 0) (vs := reCells k (.slice kad k.kids.length kcap)) rfl rfl rfl rfl rfl (by simp [reCells]) rfl hkrd2 (fun i u hi => by rw [Nat.zero_add]; exact hi) ?_
      (refine EL.callXw rfl rfl rfl ent72 rfl (fun w' hs => hrec w' (fun i' k' hi' => by obtain ⟨g', o', e1, e2⟩ := hkk (by intro e; rw [e] at hi'; simp at hi'); exact ⟨g', o', e1, NodeRd.sat (e2 i' k' hi') hs⟩)) ?_; intro x)
      refine .as_ ?_; refine .go ?_; repeat constructor
      refine EL.cutX (X := Unit) (fun _ => [(1, Pv g1 0), (3, Iv x), (20, .bool (decide (x = 0 ∨ r.hi = 0)))]) (fun _ => HA.blk g1 (.cells (reCells r (.slice (some ⟨kg, ko, none⟩) r.kids.length cap)).toArray 46) :: []) ?_ (fun _ => ?_)
      · refine .go ?_; (repeat constructor); refine .mv ?_; refine .ei ?_; refine .mv ?_
        first | refine EL.splitD (d := 23) rfl (fun hp23 => ?_) (fun hp23 => ?_) | refine EL.splitN (d := 23) rfl (fun hp23 => ?_) (fun hp23 => ?_) | refine EL.splitB (d := 23) rfl (fun hp23 => ?_) (fun hp23 => ?_)
        · refine .ps ?_; refine .ps ?_; refine .ps ?_; refine .pt ?_; refine .as_ ?_
          exact .dx () ⟨rfl, rfl, getA rfl (congrArg Value.bool (by rw [Bool.eq_iff_iff]; simp only [decide_eq_true_eq, true_iff, Bool.false_eq_true, false_iff]; omega)), trivial⟩
        · refine .fa ?_; refine .lb ?_; refine .ei ?_; refine .pf ?_; refine .as_ ?_
          exact .dx () ⟨rfl, rfl, getA rfl (congrArg Value.bool (by rw [Bool.eq_iff_iff]; simp only [decide_eq_true_eq, true_iff, Bool.false_eq_true, false_iff]; omega)), trivial⟩
      refine ES.condD rfl (fun h0 => ?_) (fun h0 => ?_)
      · refine .go ?_; (repeat constructor); refine .as_ ?_; refine .go ?_; repeat constructor
        exact PX.ret rfl Tryz.results72 (.cons (.tmp rfl) .nil) (fun w hs => ⟨0, rfl, hs.ent (.nil _)⟩)
      refine .go ?_; repeat constructor
      refine EL.cutX (X := Unit) (fun _ => [(1, Pv g1 0), (3, Iv x), (28, .bool (decide (x < 0 ∨ r.hi < 0)))]) (fun _ => HA.blk g1 (.cells (reCells r (.slice (some ⟨kg, ko, none⟩) r.kids.length cap)).toArray 46) :: []) ?_ (fun _ => ?_)
      · refine .go ?_; (repeat constructor); refine .mv ?_; refine .ls ?_; refine .mv ?_
        first | refine EL.splitD (d := 31) rfl (fun hp31 => ?_) (fun hp31 => ?_) | refine EL.splitN (d := 31) rfl (fun hp31 => ?_) (fun hp31 => ?_) | refine EL.splitB (d := 31) rfl (fun hp31 => ?_) (fun hp31 => ?_)
        · refine .ps ?_; refine .ps ?_; refine .ps ?_; refine .pt ?_; refine .as_ ?_
          exact .dx () ⟨rfl, rfl, getA rfl (congrArg Value.bool (by rw [Bool.eq_iff_iff]; simp only [decide_eq_true_eq, true_iff, Bool.false_eq_true, false_iff]; omega)), trivial⟩
        · refine .fa ?_; refine .lb ?_; refine .ls ?_; refine .pf ?_; refine .as_ ?_
          exact .dx () ⟨rfl, rfl, getA rfl (congrArg Value.bool (by rw [Bool.eq_iff_iff]; simp only [decide_eq_true_eq, true_iff, Bool.false_eq_true, false_iff]; omega)), trivial⟩
      refine ES.condD rfl (fun h0 => ?_) (fun h0 => ?_)
      · refine .go ?_; (repeat constructor); refine .as_ ?_; refine .go ?_; repeat constructor
        exact PX.ret rfl Tryz.results72 (.cons (.tmp rfl) .nil) (fun w hs => ⟨-1, rfl, hs.ent (.nil _)⟩)
      refine .go ?_; (repeat constructor); refine .mv ?_; refine .fa ?_; refine .lb ?_; refine EL.mul (w64 (x * r.hi)) rfl rfl rfl rfl rfl ?_; refine .as_ ?_; refine .go ?_; repeat constructor
      exact PX.ret rfl Tryz.results72 (.cons (.tmp rfl) .nil) (fun w hs => ⟨w64 (x * r.hi), rfl, hs.ent (.nil _)⟩)
    refine .go ?_; (repeat constructor); refine .as_ ?_; refine .go ?_; (repeat constructor); refine .as_ ?_; refine .go ?_; repeat constructor
    refine ES.loop (σ := Nat × Int) (fun z => z.1 ≤ r.kids.length) (fun z => [(1, Pv g1 0), (4, Iv z.2), (5, Iv (z.1 : Nat))])
      (fun _ => HA.blk g1 (.cells (reCells r (.slice ad r.kids.length cap)).toArray 46) :: []) (fun z => r.kids.length - z.1) (0, 0) (Nat.zero_le _) ⟨rfl, rfl, rfl, trivial⟩ (.i (by repeat constructor)) ?_
    rintro ⟨i, v⟩ hi
    dsimp only at hi ⊢
    refine .go ?_; (repeat constructor); refine .mv ?_; refine .fa ?_; refine .lb ?_; refine .lL ?_; refine .ls ?_; refine .go ?_; repeat constructor
    refine ES.condD rfl (fun hlt => ?_) (fun hge => ?_)
    · have hlt' : i < r.kids.length := by omega
      obtain ⟨k, hki⟩ : ∃ k, r.kids[i]? = some k := ⟨_, List.getElem?_eq_getElem hlt'⟩
      have hmem := List.mem_of_getElem? hki
      have hks := kids_lt hmem
      obtain ⟨kg, ko, rfl, hkn⟩ := hkids i k hki
      obtain ⟨kad, kcap, hkrd, hkk⟩ := hkn.kids
      have hkrd2 : Rd w w.heap.size (some ⟨kg, ko + i * 9, none⟩) (reCells k (.slice kad k.kids.length kcap)) := hkrd.rd
      have hrec := ih k (by omega) (fine_kid hfine hmem) kad kcap
      refine .go ?_; (repeat constructor); refine .fa ?_; refine .lb ?_; refine .mv ?_; refine EL.indexAddrL rfl rfl rfl rfl rfl rfl rfl (by omega) ?_
      refine EL.loadOldA (j := 0) (vs := reCells k (.slice kad k.kids.length kcap)) rfl rfl rfl rfl rfl (by simp [reCells]) rfl hkrd2 (fun i u hi => by rw [Nat.zero_add]; exact hi) ?_
      (refine EL.callXw rfl rfl rfl ent72 rfl (fun w' hs => hrec w' (fun i' k' hi' => by obtain ⟨g', o', e1, e2⟩ := hkk (by intro e; rw [e] at hi'; simp at hi'); exact ⟨g', o', e1, NodeRd.sat (e2 i' k' hi') hs⟩)) ?_; intro x)
      refine .as_ ?_; refine .go ?_; (repeat constructor); refine .mv ?_; refine .ls ?_; refine .go ?_; repeat constructor
      refine ES.condD rfl (fun h0 => ?_) (fun h0 => ?_)
      · refine .go ?_; (repeat constructor); refine .as_ ?_; refine .go ?_; repeat constructor
        exact PX.ret rfl Tryz.results72 (.cons (.tmp rfl) .nil) (fun w hs => ⟨-1, rfl, hs.ent (.nil _)⟩)
      refine .go ?_; (repeat constructor); refine .mv ?_; refine .mv ?_; refine EL.add (w64 (v + x)) rfl rfl rfl rfl rfl ?_; refine .as_ ?_; refine .go ?_; (repeat constructor); refine .mv ?_; refine .a1 ?_; refine .as_ ?_; refine .go ?_; repeat constructor
      exact .ly (i + 1, w64 (v + x)) (by simp only; omega) (by simp only; omega)
    · refine .go ?_; (repeat constructor); refine .mv ?_; refine .as_ ?_; refine .go ?_; repeat constructor
      exact PX.ret rfl Tryz.results72 (.cons (.tmp rfl) .nil) (fun w hs => ⟨v, rfl, hs.ent (.nil _)⟩)
def ofC (r : RE) (x : Int × Int) : List Value := [Iv (posR r : Nat), Iv (w64 (grpN r : Nat)), Iv x.1, Iv x.2, .bool (hasK 6 r), .bool (hasK 2 r), .bool (hasK 3 r)]
theorem dof_c (r : RE) (hf : r.fine) (hp : r.pok) (ad : Option Addr) (cap : Nat) (w : World) (hk : KidsRd w w.heap.size r.kids ad) :
    Pure Tryz.prog 45 #[.agg (reCells r (.slice ad r.kids.length cap)).toArray] (fun x : Int × Int => .agg (ofC r x).toArray) (fun _ => []) w := by
  have kr : ∀ {w' : World} {B : Nat} {H : List HA}, Sat w w.heap.size H w' → KidsRd w' w'.heap.size r.kids ad := fun hs i k hi => by
    obtain ⟨g, o, e1, e2⟩ := hk i k hi
    exact ⟨g, o, e1, NodeRd.sat e2 hs⟩
  refine calls_of_ES TB Tryz.func45 rfl _ Tryz.ntmps45 rfl (Sat.start w) ?_; refine .go ?_; (repeat constructor); (refine .bx ?_; intro g1); (refine .al ?_; intro g2); refine .go ?_; repeat constructor
  refine ES.draw (X := Int × Int) (fun x => [(2, Pv g2 0)]) (fun x => HA.blk g2 (.cells (ofC r x).toArray 66) :: []) (HA.blk g1 (.cells (reCells r (.slice ad r.kids.length cap)).toArray 46) :: []) mixed (.i (by repeat constructor)) ?_ (fun x => ?_)
  · refine .tk 0 rfl (RV.loadAggB rfl rfl rfl (by repeat constructor) rfl) ?_; refine .tk 2 rfl (RV.loadAggB rfl rfl rfl (by repeat constructor) rfl) ?_; refine .tk 4 rfl (RV.loadAggB rfl rfl rfl (by repeat constructor) rfl) ?_; refine .tk 6 rfl (RV.loadAggB rfl rfl rfl (by repeat constructor) rfl) ?_; refine .tk 8 rfl (RV.loadAggB rfl rfl rfl (by repeat constructor) rfl) ?_; refine .tk 10 rfl (RV.loadAggB rfl rfl rfl (by repeat constructor) rfl) ?_; refine .tk 12 rfl (RV.loadAggB rfl rfl rfl (by repeat constructor) rfl) ?_; refine .ld 1 ?_
    (refine EL.callPw rfl rfl rfl ent70 rfl (fun w' hs => dpos_c r hp ad cap w' (kr (B := 0) hs)) ?_)
    refine .nx ?_; refine .ld 3 ?_
    (refine EL.callPw rfl rfl rfl ent30 rfl (fun w' hs => dgrps_c r hf ad cap w' (kr (B := 0) hs)) ?_)
    refine .nx ?_; refine .ld 5 ?_; (refine EL.callXw rfl rfl rfl ent71 rfl (fun w' hs => dlst_n r.sz r (Nat.le_refl _) hf ad cap w' (kr (B := 0) hs)) ?_; intro x1); refine .nx ?_; refine .ld 7 ?_; (refine EL.callXw rfl rfl rfl ent72 rfl (fun w' hs => dmst_n r.sz r (Nat.le_refl _) hf ad cap w' (kr (B := 0) hs)) ?_; intro x2); refine .nx ?_; refine .ld 9 ?_
    (refine EL.callPw rfl rfl rfl ent29 rfl (fun w' hs => dhas_c r hf 6 ad cap w' (kr (B := 0) hs)) ?_)
    refine .nx ?_; refine .ld 11 ?_
    (refine EL.callPw rfl rfl rfl ent29 rfl (fun w' hs => dhas_c r hf 2 ad cap w' (kr (B := 0) hs)) ?_)
    refine .nx ?_; refine .ld 13 ?_
    (refine EL.callPw rfl rfl rfl ent29 rfl (fun w' hs => dhas_c r hf 3 ad cap w' (kr (B := 0) hs)) ?_)
    refine .nx ?_; refine .tk 14 rfl (RV.buildS (ofC r (x1, x2)).toArray rfl rfl rfl rfl (by kernel_rfl)) ?_; refine ED.last 15 rfl (by decide +kernel) (by decide +kernel) (by decide +kernel) ?_; refine .sa ?_; refine EL.endQ ?_
    exact .cy (x1, x2)
  refine .go ?_; repeat constructor
  exact PX.ret rfl Tryz.results45 (.cons (.blkA rfl rfl rfl (by repeat constructor) rfl) .nil) (fun w hs => ⟨x, rfl, hs.ent (.nil _)⟩)
end Go.Proofs.YthcbjbkheodejaaGreat
